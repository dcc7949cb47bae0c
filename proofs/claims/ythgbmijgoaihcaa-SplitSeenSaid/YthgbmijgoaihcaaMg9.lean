/-
  cmp.Less at numbers of 64 bits; slices.BinarySearch; slices.Sorted out of slices.Sort.
-/
import Derived.Test.YthgbmijgoaihcaaMg8
import Derived.Deep.QuietTactic
import Derived.BigQuiet
namespace Go.Proofs.Ythgbmijgoaihcaa
open Go.RowKit Go.Shelf
set_option linter.unusedVariables false

theorem isNaN1_any (x : Int) (w : World) : Calls Try.prog 64 #[.int .u64 x] w fun e w' => e = .returned (.bool false) ∧ w = w' := by
  go_enter Try.func64, Try.ntmps64
  go_wp2
  go_ret
  exact ⟨rfl, rfl⟩
theorem isNaN2_any (x : Int) (w : World) : Calls Try.prog 59 #[.int .u64 x] w fun e w' => e = .returned (.bool false) ∧ w = w' := by
  go_enter Try.func59, Try.ntmps59
  go_wp2
  go_ret
  exact ⟨rfl, rfl⟩
theorem less_any (x y : Int) (w : World) : Calls Try.prog 58 #[.int .u64 x, .int .u64 y] w fun e w' => e = .returned (.bool (decide (x < y))) ∧ w = w' := by
  go_enter Try.func58, Try.ntmps58
  go_wp2_with (first
    | ((with_reducible refine (isNaN1_any _ _).mono ?_); rintro _ w1 ⟨rfl, rfl⟩))
  go_ret
  exact ⟨rfl, rfl⟩

/-- What slices.BinarySearch tells. -/
def Found (l : List Nat) (t : Nat) (e : Ending) : Prop := ∃ (k : Nat) (f : Bool), e = .returned (.tuple #[.int .i64 (k : Nat), .bool f]) ∧ k ≤ l.length ∧ (∀ i, i < k → l.getD i 0 < t) ∧ (∀ i, k ≤ i → i < l.length → t ≤ l.getD i 0)
set_option maxRecDepth 100000 in
set_option maxHeartbeats 1600000 in
theorem search_any (a : Option Addr) (cap : Nat) (l : List Nat) (t : Nat) (w : World) (hl : l.length ≤ 17592186044400) (hb : U64s w a l) (hsort : l.Pairwise (· ≤ ·)) :
    Calls Try.prog 47 #[.slice a l.length cap, .int .u64 (t : Nat)] w fun e w' => Found l t e ∧ Below w.heap.size w w' := by
  go_enter Try.func47, Try.ntmps47
  go_wp2
  go_loopw [7, 8] (fun iv jv wr => ∃ i j : Nat, i ≤ j ∧ j ≤ l.length ∧ iv = .int .i64 i ∧ jv = .int .i64 j ∧ Hid ((∀ k, k < i → l.getD k 0 < t) ∧ (∀ k, j ≤ k → k < l.length → t ≤ l.getD k 0)) ∧ Below w.heap.size w wr) (fun iv jv _ => (intOf jv).toNat - (intOf iv).toNat)
  case atStart => exact ⟨0, l.length, by omega, by omega, rfl, rfl, Lib.hid ⟨fun k hk => absurd hk (by omega), fun k h1 h2 => absurd h1 (by omega)⟩, Below.refl _ _⟩
  case round =>
    obtain ⟨i, j, hij, hj, rfl, rfl, HH, hwr⟩ := hrel
    by_cases hlt : i < j
    · have hin : (i : Int) < (j : Int) := by omega
      obtain ⟨q, hq, hq1, hq2⟩ : ∃ q : Nat, ((i : Int) + (j : Int)) / 2 = (q : Int) ∧ i ≤ q ∧ q < j := ⟨(i + j) / 2, by omega, by omega, by omega⟩
      have hql : q < l.length := by omega
      have hq3 : (q : Int) < (l.length : Int) := by omega
      have hq4 : (0 : Int) ≤ (q : Int) := by omega
      obtain ⟨b, off, rfl, hc⟩ := (hb.below hwr) q hql
      have hx : Hid (l.getD q 0 = l[q]) := Lib.hid (by simp [List.getD_eq_getElem?_getD, hql])
      have HP : Hid ((∀ k, k ≤ q → l.getD k 0 ≤ l.getD q 0) ∧ ∀ k, q ≤ k → k < l.length → l.getD q 0 ≤ l.getD k 0) := Lib.hid (by
        have hp := List.pairwise_iff_getElem.1 hsort
        constructor
        · intro k hk
          by_cases e : k = q
          · rw [e]; exact Nat.le_refl _
          · have := hp k q (by omega) hql (by omega)
            simpa [List.getD_eq_getElem?_getD, hql, show k < l.length by omega] using this
        · intro k hk hk2
          by_cases e : k = q
          · rw [e]; exact Nat.le_refl _
          · have := hp q k hql hk2 (by omega)
            simpa [List.getD_eq_getElem?_getD, hql, hk2] using this)
      rw [hx.out] at HP
      generalize l[q] = x at *
      by_cases hxt : x < t
      · have d1 : decide ((x : Int) < (t : Int)) = true := by simp; omega
        go_wp2_with (first
          | ((with_reducible refine (less_any _ _ _).mono ?_); rintro _ w1 ⟨rfl, rfl⟩))
        exact ⟨⟨q + 1, j, by omega, by omega, by go_num, rfl, Lib.hid ⟨fun k hk => Nat.lt_of_le_of_lt (HP.out.1 k (by omega)) hxt, HH.out.2⟩, hwr⟩, by simp [intOf]; omega⟩
      · have d1 : decide ((x : Int) < (t : Int)) = false := by simp; omega
        go_wp2_with (first
          | ((with_reducible refine (less_any _ _ _).mono ?_); rintro _ w1 ⟨rfl, rfl⟩))
        exact ⟨⟨i, q, by omega, by omega, rfl, rfl, Lib.hid ⟨HH.out.1, fun k h1 h2 => Nat.le_trans (Nat.le_of_not_lt hxt) (HP.out.2 k h1 h2)⟩, hwr⟩, by simp [intOf]; omega⟩
    · obtain rfl : i = j := by omega
      have hin : ¬ (i : Int) < (i : Int) := by omega
      by_cases hil : i < l.length
      · have h1 : decide ((i : Int) < (l.length : Int)) = true := by simp; omega
        have h2 : (i : Int) < (l.length : Int) := by omega
        have hq4 : (0 : Int) ≤ (i : Int) := by omega
        obtain ⟨b, off, rfl, hc⟩ := (hb.below hwr) i hil
        generalize l[i] = x at *
        by_cases hxt : x = t
        · have d1 : ((x : Int) == (t : Int)) = true := by simp; omega
          clear hxt
          go_wp2_with (first
            | ((with_reducible refine (isNaN2_any _ _).mono ?_); rintro _ w1 ⟨rfl, rfl⟩))
          go_ret2
          exact ⟨⟨i, _, rfl, by omega, HH.out⟩, hwr⟩
        · have d1 : ((x : Int) == (t : Int)) = false := by simp; omega
          clear hxt
          go_wp2_with (first
            | ((with_reducible refine (isNaN2_any _ _).mono ?_); rintro _ w1 ⟨rfl, rfl⟩))
          go_ret2
          exact ⟨⟨i, _, rfl, by omega, HH.out⟩, hwr⟩
      · have h1 : decide ((i : Int) < (l.length : Int)) = false := by simp; omega
        go_wp2
        go_ret2
        exact ⟨⟨i, _, rfl, by omega, HH.out⟩, hwr⟩

/-- What slices.Sort does. -/
def Sorts : Prop := ∀ (ms : List Nat) (v : Value) (w : World) (base : Nat), ms.length ≤ 500 → (∀ m ∈ ms, m < 18446744073709551616) → base ≤ w.heap.size → w.ownsRow base 31 1 v ms.length (u64Cells ms) →
  Calls Try.prog 56 #[v] w fun e w' => e = .returned (.tuple #[]) ∧ ∃ ss : List Nat, ss.Perm ms ∧ ss.Pairwise (· ≤ ·) ∧ w'.ownsRow base 31 1 v ms.length (u64Cells ss) ∧ Below base w w'

theorem sorted_any (HS : Sorts) (Bs : Nat) (a : Option Addr) (cap : Nat) (ms : List Nat) (hlen : ms.length ≤ 500) (hm : ∀ m ∈ ms, m < 18446744073709551616) (w : World) (hBs : Bs < w.heap.size)
    (hc : w.cell? ⟨Bs, 0, none⟩ = some (.slice a ms.length cap)) (hI : U64s w a ms) :
    Calls Try.prog 43 #[.func (.func 57) #[] #[.pointer (some ⟨Bs, 0, none⟩)]] w fun e W' => ∃ (v : Value) (ss : List Nat), e = .returned v ∧ ss.Perm ms ∧ ss.Pairwise (· ≤ ·) ∧ W'.ownsRow w.heap.size 31 1 v ms.length (u64Cells ss) ∧ Below w.heap.size w W' := by
  have HC := Lib.hid (collect_any Bs a cap ms (by omega) w hBs hc hI)
  have HS' := Lib.hid HS
  have HM := Lib.hid hm
  clear hc hI HS hm
  go_enter Try.func43, Try.ntmps43
  go_wp2_with (first
    | ((with_reducible refine HC.out.mono ?_); rintro _ w1 ⟨v, rfl, ho, hb⟩)
    | (go_at_call 56; refine (HS'.out ms _ _ _ hlen HM.out (hb.size) ho).mono ?_; rintro _ w2 ⟨rfl, ss, h1, h2, h3, h4⟩))
  go_ret
  exact ⟨_, ss, rfl, h1, h2, h3, hb.trans h4⟩
end Go.Proofs.Ythgbmijgoaihcaa

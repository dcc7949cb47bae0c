/-
  merge.Keep: where a key's entries end (slices.IndexFunc at the closure).
-/
import Derived.Test.YthgbmijgoaihcaaMg9
import Derived.Test.YthgbmijgoaihcaaMg10
namespace Go.Proofs.Ythgbmijgoaihcaa
open Go.RowKit
set_option linter.unusedVariables false

set_option maxRecDepth 100000 in
set_option maxHeartbeats 800000 in
theorem keep1_any (Bx : Nat) (a : Option Addr) (c : Nat) (rest : List Ent) (y : Ent) (w : World) (hpos : 0 < rest.length) (hc : w.cell? ⟨Bx, 0, none⟩ = some (.slice a rest.length c)) (hE : Ents w a rest) :
    Calls Try.prog 46 #[.agg (entCells y).toArray, .pointer (some ⟨Bx, 0, none⟩)] w fun e w' => e = .returned (.bool (!(sameU y (rest.getD 0 default)))) ∧ Below w.heap.size w w' := by
  obtain ⟨b, off, rfl, ⟨c0, _⟩, _⟩ := hE 0 hpos
  rw [Nat.zero_mul, Nat.add_zero] at c0
  have hx : Hid (sameU y (rest.getD 0 default) = (y.user.toList == (rest[0]'hpos).user.toList)) := Lib.hid (by simp [sameU, List.getD_eq_getElem?_getD, hpos])
  rw [hx.out]
  generalize (rest[0]'hpos).user = u at *
  have hin : (0 : Int) < (rest.length : Int) := by omega
  have hB : Bx < w.heap.size := cell_lt hc
  have hbb : b < w.heap.size := cell_lt c0
  have hn1 : ¬ Bx = w.heap.size := by omega
  have hn2 : ¬ b = w.heap.size := by omega
  have hc' : (w.alloc (.cells (entCells y).toArray 33)).cell? ⟨Bx, 0, none⟩ = some (.slice (some ⟨b, off, none⟩) rest.length c) := cell_later2 ((Below.refl _ _).alloc (Nat.le_refl _) _) hc
  have c0' : (w.alloc (.cells (entCells y).toArray 33)).cell? ⟨b, off, none⟩ = some (.string u) := cell_later2 ((Below.refl _ _).alloc (Nat.le_refl _) _) c0
  have HBB : Hid (∀ nq, Below w.heap.size w ((w.alloc (.cells (entCells y).toArray 33)).drewN nq)) := Lib.hid (fun nq => below_drewN ((Below.refl _ _).alloc (Nat.le_refl _) _) _)
  unfold entCells at *
  clear hE hx c0 hc
  cases hu : (y.user.toList == u.toList) with
  | true =>
    have d1 : (y.user.toList != u.toList) = false := by simp [bne, hu]
    go_enter Try.func46, Try.ntmps46
    go_wp2
    go_quiet (fail)
    go_wp2
    go_ret
    exact ⟨rfl, HBB.out _⟩
  | false =>
    have d1 : (y.user.toList != u.toList) = true := by simp [bne, hu]
    go_enter Try.func46, Try.ntmps46
    go_wp2
    go_quiet (fail)
    go_wp2
    go_ret
    exact ⟨rfl, HBB.out _⟩

/-- What IndexFunc tells: the first entry of another key. -/
def Other (rest : List Ent) (e : Ending) : Prop := ∃ i : Int, e = .returned (.int .i64 i) ∧ ((i = -1 ∧ ∀ j, j < rest.length → (rest.getD j default).user.toList = (rest.getD 0 default).user.toList) ∨
  ∃ n : Nat, i = n ∧ 0 < n ∧ n < rest.length ∧ (∀ j, j < n → (rest.getD j default).user.toList = (rest.getD 0 default).user.toList) ∧ sameU (rest.getD n default) (rest.getD 0 default) = false)

set_option maxRecDepth 100000 in
set_option maxHeartbeats 800000 in
theorem other_any (Bx : Nat) (a : Option Addr) (c : Nat) (rest : List Ent) (w : World) (hpos : 0 < rest.length) (hl : rest.length ≤ maxLen) (hc : w.cell? ⟨Bx, 0, none⟩ = some (.slice a rest.length c)) (hE : Ents w a rest) :
    Calls Try.prog 45 #[.slice a rest.length c, .func (.func 46) #[] #[.pointer (some ⟨Bx, 0, none⟩)]] w fun e w' => Other rest e ∧ Below w.heap.size w w' := by
  unfold maxLen at hl
  have HC := Lib.hid hc
  have HE := Lib.hid hE
  clear hc hE
  go_enter Try.func45, Try.ntmps45
  go_wp2
  go_loopw [8] (fun i wr => ∃ k : Nat, k ≤ rest.length ∧ i = .int .i64 k ∧ Hid (∀ j, j < k → (rest.getD j default).user.toList = (rest.getD 0 default).user.toList) ∧ Below w.heap.size w wr) (fun i _ => rest.length - (intOf i).toNat)
  case atStart => exact ⟨0, by omega, rfl, Lib.hid (fun j hj => absurd hj (by omega)), Below.refl _ _⟩
  case round =>
    obtain ⟨k, hk, rfl, HH, hwr⟩ := hrel
    by_cases hlt : k < rest.length
    · have HK := Lib.hid (fun y => keep1_any Bx a c rest y wr hpos (cell_later2 hwr HC.out) (HE.out.below hwr))
      obtain ⟨b, off, rfl, ⟨c0, c1, c2, c3⟩, _⟩ := (HE.out.below hwr) k hlt
      have hin : (k : Int) < (rest.length : Int) := by omega
      have h0 : (0 : Int) ≤ (k : Int) := by omega
      have hg : Hid (rest.getD k default = rest[k]) := Lib.hid (by simp [List.getD_eq_getElem?_getD, hlt])
      cases hs : sameU (rest[k]'hlt) (rest.getD 0 default) with
      | true =>
        have HN : Hid (∀ j, j < k + 1 → (rest.getD j default).user.toList = (rest.getD 0 default).user.toList) := Lib.hid (by
          intro j hj
          by_cases e : j = k
          · rw [e, hg.out]; simpa [sameU] using hs
          · exact HH.out j (by omega))
        have HK' := Lib.hid (HK.out rest[k])
        rw [hs] at HK'
        unfold entCells at HK'
        clear HK hg hs
        generalize rest[k] = y at *
        go_wp2_with (first
          | ((with_reducible refine HK'.out.mono ?_); rintro _ w1 ⟨rfl, hb1⟩))
        exact ⟨⟨k + 1, by omega, by go_num, HN, hwr.trans (hb1.mono hwr.size)⟩, by simp [intOf]; omega⟩
      | false =>
        have hk0 : Hid (0 < k) := Lib.hid (by
          rcases Nat.eq_zero_or_pos k with e | e
          · exfalso
            rw [← hg.out, e] at hs
            simp [sameU] at hs
          · exact e)
        have HN : Hid (sameU (rest.getD k default) (rest.getD 0 default) = false) := Lib.hid (by rw [hg.out]; exact hs)
        have HK' := Lib.hid (HK.out rest[k])
        rw [hs] at HK'
        unfold entCells at HK'
        clear HK hg hs
        generalize rest[k] = y at *
        go_wp2_with (first
          | ((with_reducible refine HK'.out.mono ?_); rintro _ w1 ⟨rfl, hb1⟩))
        go_ret
        exact ⟨⟨k, rfl, Or.inr ⟨k, rfl, hk0.out, hlt, HH.out, HN.out⟩⟩, hwr.trans (hb1.mono hwr.size)⟩
    · obtain rfl : k = rest.length := by omega
      have hin : ¬ (rest.length : Int) < (rest.length : Int) := by omega
      go_wp2
      go_ret
      exact ⟨⟨-1, rfl, Or.inl ⟨rfl, HH.out⟩⟩, hwr⟩
end Go.Proofs.Ythgbmijgoaihcaa

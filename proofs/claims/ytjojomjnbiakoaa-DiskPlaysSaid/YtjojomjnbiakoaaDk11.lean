/-
  The first acts of a law: 'few'.
-/
import Derived.Test.YtjojomjnbiakoaaDk10
namespace Go.Proofs.Ytjojomjnbiakoaa
open Go.RowKit Go.Maps
set_option linter.unusedVariables false
def bsum (l : List ActM) : Nat := (l.map fun a => a.b.length).sum
theorem bsum_snoc (l : List ActM) (i : Nat) (h : i < l.length) : bsum (l.take (i + 1)) = bsum (l.take i) + l[i].b.length := by
  unfold bsum
  rw [List.take_succ_eq_append_getElem h, List.map_append, List.sum_append_nat]
  simp
theorem infoAct : (Try.prog.info? 30).isSome = true := by kernel_rfl
set_option maxRecDepth 100000 in
set_option maxHeartbeats 1600000 in
theorem few_any (a : Option Addr) (cap : Nat) (l : List ActM) (w : World) (hl : l.length ≤ cap) (hm : cap ≤ maxLen) (hb : Acts w a l) :
    Calls Try.prog 10 #[.slice a l.length cap] w fun e w' => ∃ k, e = .returned (.slice a k cap) ∧ k ≤ l.length ∧ k ≤ 100 ∧ bsum (l.take k) ≤ 20000 ∧ Below w.heap.size w w' := by
  have hl1 : l.length ≤ 9223372036854775807 := by unfold maxLen at hm; omega
  have HB := Lib.hid hb
  obtain ⟨n, hn⟩ : ∃ n, l.length = n := ⟨_, rfl⟩
  have HN := Lib.hid hn
  rw [hn] at hl hl1 ⊢
  clear hb hn
  obtain ⟨i0, hi0⟩ : ∃ i0, Try.prog.info? 30 = some i0 := Option.isSome_iff_exists.1 infoAct
  have HCUT := Lib.hid (fun (x : Option Addr) (ln c p : Nat) (hp : p ≤ c) (w : World) => run_cut_to (P := Try.prog) Try.underlying22 hi0 x ln c p .i64 hp w)
  clear hi0
  go_enter Try.func10, Try.ntmps10
  go_wp2_with fail
  go_loopw [3, 7] (fun lv iv wr => ∃ k left : Nat, k ≤ n ∧ k ≤ 100 ∧ iv = .int .i64 k ∧ lv = .int .i64 left ∧ Hid (left + bsum (l.take k) = 20000) ∧ Hid (Below w.heap.size w wr)) (fun _ iv _ => n - (intOf iv).toNat)
  case atStart => exact ⟨0, 20000, by omega, by omega, rfl, rfl, Lib.hid (by simp [bsum]), Lib.hid (Below.refl _ _)⟩
  case round =>
    obtain ⟨k, left, hk, hk100, rfl, rfl, HS, HW⟩ := hrel
    have hleft : left ≤ 20000 := by have := HS.out; omega
    by_cases hlt : k < n
    · have hlt' : k < l.length := by have := HN.out; omega
      have hink : (k : Int) < (n : Int) := by omega
      have hk0 : (0 : Int) ≤ (k : Int) := by omega
      have hcut := HCUT.out a n cap k (by omega)
      have hkc : k ≤ cap := by omega
      have HR : Hid (k ≤ n ∧ k ≤ 100 ∧ bsum (l.take k) ≤ 20000) := Lib.hid ⟨by omega, hk100, by have := HS.out; omega⟩
      by_cases h100 : k < 100
      · have d1 : ¬ (100 : Int) ≤ (k : Int) := by omega
        obtain ⟨b, off, xb, cb, xk, ck, rfl, hin, _, _, _, hc3, _, _⟩ := HB.out k hlt'
        have hc := cell_up HW.out hc3
        have hbl := hin.ok.b
        unfold maxLen at hbl
        have HSN := Lib.hid (bsum_snoc l k hlt')
        clear hc3 hin
        generalize l[k] = y at *
        generalize y.b.length = m at *
        by_cases hgt : left < m
        · have d2 : (left : Int) < (m : Int) := by omega
          go_wp2
          go_ret
          exact ⟨k, rfl, HR.out.1, HR.out.2.1, HR.out.2.2, HW.out⟩
        · have d2 : ¬ (left : Int) < (m : Int) := by omega
          clear hcut
          go_wp2
          exact ⟨⟨k + 1, left - m, by omega, by omega, by go_num, by go_num, Lib.hid (by have := HS.out; have := HSN.out; omega), HW⟩, by simp [intOf]; omega⟩
      · have d1 : (100 : Int) ≤ (k : Int) := by omega
        go_wp2
        go_ret
        exact ⟨k, rfl, HR.out.1, HR.out.2.1, HR.out.2.2, HW.out⟩
    · obtain rfl : k = n := by omega
      have i3 : ¬ (k : Int) < (k : Int) := by omega
      go_wp2
      go_ret
      exact ⟨k, rfl, Nat.le_refl _, hk100, by have := HS.out; omega, HW.out⟩
end Go.Proofs.Ytjojomjnbiakoaa

/-
  The program's Split, whole.
-/
import Derived.Test.YthgbmijgoaihcaaSplit4
namespace Go.Proofs.Ythgbmijgoaihcaa
open Go.RowKit
set_option linter.unusedVariables false

theorem inv_start (m : Int) (w w2 : World) (hb : Below (w.alloc (.cells #[.int .i64 m] 3)).heap.size (w.alloc (.cells #[.int .i64 m] 3)) w2) :
    Inv w2.heap.size (w2.heap.size + 1) w.heap.size (w2.heap.size + 2) m ((w2.alloc (.cells #[.slice none 0 0] 25)).alloc (.cells #[.int .i64 0] 3)) ([], [], 0) ∧
      Below w.heap.size w ((w2.alloc (.cells #[.slice none 0 0] 25)).alloc (.cells #[.int .i64 0] 3)) ∧ w.heap.size < w2.heap.size := by
  have hs := hb.size
  have hs1 : (w.alloc (.cells #[.int .i64 m] 3)).heap.size = w.heap.size + 1 := by simp
  have hm0 : (w.alloc (.cells #[.int .i64 m] 3)).heap[w.heap.size]? = some (.cells #[.int .i64 m] 3 (0, 0)) := heap_at w _
  have hlt : w.heap.size < w2.heap.size := by omega
  have hm2 : w2.heap[w.heap.size]? = some (.cells #[.int .i64 m] 3 (0, 0)) := by rw [hb.block _ (by omega)]; exact hm0
  refine ⟨⟨hlt, by omega, by omega, by simp, _, 0, ⟨?_, ?_, ?_⟩, Or.inl ⟨rfl, rfl, rfl, rfl⟩⟩, ?_, hlt⟩
  · rw [Below.heap_alloc _ _ _ (by simp)]; exact heap_at w2 _
  · have := heap_at (w2.alloc (.cells #[.slice none 0 0] 25)) (.cells #[.int .i64 0] 3)
    simpa using this
  · rw [Below.heap_alloc _ _ _ (by simp; omega), Below.heap_alloc _ _ _ hlt]; exact hm2
  · exact (((((Below.refl w.heap.size w).alloc (Nat.le_refl _) _).trans (hb.mono (by omega))).alloc (by omega) _).alloc (by simp; omega) _)

set_option maxRecDepth 100000 in
set_option maxHeartbeats 1600000 in
theorem split_any (a : Option Addr) (cap : Nat) (l : List Ent) (m : Int) (w : World) (hl : l.length < 1000000) (hcap : l.length ≤ cap) (hcm : cap ≤ maxLen) (hc : count l ≤ 1000000000000) (hm : -9223372036854775808 ≤ m ∧ m ≤ 9223372036854775807) (hb : Ents w a l) :
    Calls Try.prog 17 #[.slice a l.length cap, .int .i64 m] w fun e w' => ∃ v K, e = .returned v ∧ Outs 22 w' w.heap.size K v (ssplit m l) ∧ Below w.heap.size w w' := by
  have hlm : l.length ≤ maxLen := by unfold maxLen; omega
  have HS := Lib.hid (show ssplit m l = if rises l then (if (sfold m (groups l)).2.1 = [] then (sfold m (groups l)).1 else (sfold m (groups l)).1 ++ [(sfold m (groups l)).2.1]) else [] from rfl)
  have HB := Lib.hid hb
  clear hb
  go_enter Try.func17, Try.ntmps17
  by_cases hr : rises l = true
  case neg =>
    have hrf : rises l = false := by simpa using hr
    have hss : ssplit m l = [] := by rw [HS.out]; simp [hrf]
    clear HS hr
    go_wp2_with ((with_reducible refine (rises_any a cap l _ hlm (HB.out.below ((Below.refl _ _).alloc (Nat.le_refl _) _))).mono ?_); rintro _ w1 ⟨rfl, hb1⟩)
    go_ret
    refine ⟨_, w.heap.size, rfl, ?_, ((Below.refl _ _).alloc (Nat.le_refl _) _).trans (hb1.mono (by simp))⟩
    rw [hss]
    exact Outs.nil _ _ _ _ (Nat.le_trans (by simp) hb1.size)
  have hss : Hid (ssplit m l = if (sfold m (groups l)).2.1 = [] then (sfold m (groups l)).1 else (sfold m (groups l)).1 ++ [(sfold m (groups l)).2.1]) := Lib.hid (by rw [HS.out]; simp [hr])
  clear HS
  have HR := Lib.hid hr
  clear hr
  go_wp2_with (first
    | ((with_reducible refine (rises_any a cap l _ hlm (HB.out.below ((Below.refl _ _).alloc (Nat.le_refl _) _))).mono ?_); rintro _ w2 ⟨rfl, hb2⟩; have hrt := HR.out; obtain ⟨hi2, hw2, hlt2⟩ := inv_start m w w2 hb2; have HI2 := Lib.hid hi2; have HW2 := Lib.hid hw2; clear hb2 hi2 hw2)
    | (go_at_call 38; refine (keys_any w2.heap.size (w2.heap.size + 1) w.heap.size (w2.heap.size + 2) m _ w a cap l hl hcap hcm hc hm HB.out HW2.out (Nat.le_refl _) HI2.out).mono ?_; rintro _ w6 ⟨rfl, hi6, hb6⟩; obtain ⟨_, _, _, _, v, r, ht6, hp6⟩ := hi6; obtain ⟨g1, _, _, _, _⟩ := ht6.cells; have HP6 := Lib.hid hp6; clear hp6))
  go_ret
  have hfin : Below w.heap.size w w6 := HW2.out.trans (hb6.mono (Nat.le_of_lt hlt2))
  rcases HP6.out with ⟨q1, q2, q3, rfl⟩ | ⟨q1, q2, K, q3, q4⟩
  · refine ⟨_, w.heap.size, rfl, ?_, hfin⟩
    rw [hss.out, if_pos q1, q2]
    exact Outs.nil _ _ _ _ hfin.size
  · obtain ⟨vals, hv⟩ := q4.toOuts
    refine ⟨_, w6.heap.size, rfl, ?_, hfin⟩
    rw [hss.out, if_neg q1]
    exact hv.outs.base (by omega)
end Go.Proofs.Ythgbmijgoaihcaa

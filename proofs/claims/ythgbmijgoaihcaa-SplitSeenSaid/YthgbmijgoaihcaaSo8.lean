/-
  The sort of numbers of 64 bits: the pattern's breaking.
-/
import Derived.Test.YthgbmijgoaihcaaSo6
import Derived.Test.YthgbmijgoaihcaaSo7
import Derived.Sort.LotD1
namespace Go.Proofs.Ythgbmijgoaihcaa
open Go.RowKit Go.Sort
set_option linter.unusedVariables false

theorem But.more {g B : Nat} {w a b : World} (h : But g w a) (k : But B a b) (hB : w.heap.size ≤ B) : But g w b :=
  ⟨k.os.trans h.os, k.tape.trans h.tape, k.output.trans h.output, Nat.le_trans h.size k.size, fun i h1 h2 => (k.block i (Nat.lt_of_lt_of_le h1 h.size) (by omega)).trans (h.block i h1 h2)⟩
theorem BoxU.other {w : World} {B x : Nat} (h : BoxU w B x) {a : Addr} (ha : B ≠ a.block) (v : Value) : BoxU (w.setCell a v) B x := (Below.heap_setCell _ _ _ _ ha).trans h

/-- Permuted on [a, b), and laid out. -/
structure PU (g off S n a b : Nat) (w : World) (d : Array Nat) (d' : Array Nat) (w' : World) : Prop where
  sz : d'.size = n
  row : RowU w' g off S d'
  but : But g w w'
  perm : PermIn a b d d'
def AnyPU (g off S n a b : Nat) (w : World) (d : Array Nat) (w' : World) : Prop := ∃ d', PU g off S n a b w d d' w'

set_option maxRecDepth 100000 in
set_option maxHeartbeats 3200000 in
theorem break_any (g off S cap n a b : Nat) (d : Array Nat) (hn : d.size = n) (w : World) (hR : RowU w g off S d) (hab : a + 12 < b) (hb : b ≤ n) (hsz : n ≤ 500) :
    Calls Try.prog 67 #[.slice (some ⟨g, off, none⟩) n cap, .int .i64 a, .int .i64 b] w fun e w' => e = .returned (.tuple #[]) ∧ AnyPU g off S n a b w d w' := by
  obtain ⟨B, HBs⟩ : ∃ B, Hid (w.heap.size = B) := ⟨_, Lib.hid rfl⟩
  have hgB : g < B := by have := hR.lt; rw [HBs.out] at this; exact this
  have hne : g ≠ B := by omega
  obtain ⟨l, e_l, H_l⟩ : ∃ l : Nat, (b : Int) - (a : Int) = (l : Int) ∧ Hid (b - a = l) := ⟨b - a, by omega, Lib.hid rfl⟩
  have hl12 : 12 < l := by have := H_l.out; omega
  have hln : l ≤ n := by have := H_l.out; omega
  obtain ⟨w1, HW1⟩ : ∃ w1, Hid (w.alloc (.cells #[.int .u64 (l : Nat)] 93) = w1) := ⟨_, Lib.hid rfl⟩
  have HP1 : Hid (PU g off S n a b w d d w1) := Lib.hid ⟨hn, by rw [← HW1.out]; exact hR.alloc _, by rw [← HW1.out]; exact (But.refl _ _).alloc _, permIn_refl d a b⟩
  have HB1 : Hid (BoxU w1 B l) := Lib.hid (by rw [← HW1.out, ← HBs.out]; exact heap_at _ _)
  have HNP := Lib.hid (fun w' => npow_any l (by omega) (by omega) w')
  obtain ⟨q, e_q, e_q2, H_q⟩ : ∃ q : Nat, (l : Int) / 4 = (q : Int) ∧ (l : Int).tdiv 4 = (q : Int) ∧ Hid (l / 4 = q) := ⟨l / 4, by omega, by rw [Int.tdiv_eq_ediv_of_nonneg (by omega)]; omega, Lib.hid rfl⟩
  have hql : q ≤ l := by have := H_q.out; omega
  obtain ⟨j, e_j, H_j⟩ : ∃ j : Nat, (a : Int) + (q : Int) * 2 = (j : Int) ∧ Hid (a + q * 2 = j) := ⟨a + q * 2, by omega, Lib.hid rfl⟩
  obtain ⟨j0, e_j0, H_j0⟩ : ∃ j0 : Nat, (j : Int) - 1 = (j0 : Int) ∧ Hid (j0 + 1 = j) := ⟨a + q * 2 - 1, by have := H_q.out; omega, Lib.hid (by have := H_q.out; have := H_j.out; omega)⟩
  have HIJ : Hid (a ≤ j0 ∧ j + 1 < b) := Lib.hid (by have := H_q.out; have := H_j.out; have := H_j0.out; have := H_l.out; omega)
  have hjn : j ≤ 1000 := by have := HIJ.out; omega
  have h8 : (8 : Int) ≤ (l : Int) := by omega
  clear hn hR
  go_enter Try.func67, Try.ntmps67
  go_wp2_with fail
  rw [HBs.out, HW1.out]
  refine (HNP.out w1).mono ?_
  rintro _ w2 ⟨⟨m, rfl, hm1, hm2, hm3⟩, rfl⟩
  obtain ⟨m1, e_m1, hm4⟩ : ∃ m1 : Nat, (m : Int) - 1 = (m1 : Int) ∧ m1 + 1 = m := ⟨m - 1, by omega, by omega⟩
  go_wp2
  go_loopw [9] (fun vi wr => ∃ (k x : Nat) (dk : Array Nat), vi = .int .i64 k ∧ j0 ≤ k ∧ k ≤ j + 2 ∧ Hid (PU g off S n a b w d dk wr ∧ BoxU wr B x ∧ x < 18446744073709551616)) (fun vi _ => j + 2 - (intOf vi).toNat)
  case atStart => exact ⟨j0, l, d, rfl, Nat.le_refl _, by have := H_j0.out; omega, Lib.hid ⟨HP1.out, HB1.out, by omega⟩⟩
  case round =>
    obtain ⟨k, x, dk, rfl, hk1, hk2, HK⟩ := hrel
    by_cases hkj : k ≤ j + 1
    · have hkI : (k : Int) ≤ (j : Int) + 1 := by omega
      have HNX := Lib.hid (next_any B x HK.out.2.2 wr HK.out.2.1)
      go_wp2_with fail
      refine HNX.out.mono ?_
      rintro _ w4 ⟨⟨y, hy, rfl⟩, ⟨z, hz, hbz⟩, hu⟩
      have HBZ : Hid (BoxU w4 B z ∧ z < 18446744073709551616) := Lib.hid ⟨hbz, hz⟩
      have HP4 : Hid (PU g off S n a b w d dk w4) := Lib.hid ⟨HK.out.1.sz, HK.out.1.row.but hu hne, HK.out.1.but.more hu (Nat.le_of_eq HBs.out), HK.out.1.perm⟩
      obtain ⟨o, ho1, e_o⟩ : ∃ o : Nat, o ≤ m1 ∧ bits BinOp.and IntKind.u64 (y : Int) (m1 : Int) = (o : Int) := ⟨y &&& m1, Nat.and_le_right, u64_and_nat y m1 hy (by omega)⟩
      have HMM : Hid (m1 < 2 * l) := Lib.hid (by omega)
      have ho2 : o ≤ 1000 := by omega
      clear hbz hz hu hy HNX
      obtain ⟨r, HRR⟩ : ∃ r : Nat, Hid (r = if l ≤ o then o - l else o) := ⟨_, Lib.hid rfl⟩
      have hrl : r < l := by have h1 := HRR.out; have h2 := HMM.out; split at h1 <;> omega
      go_upto_if 43 with (fail)
      go_cut [10] (fun s wx => s = .int .i64 (r : Nat) ∧ w4 = wx)
      case first =>
        by_cases hol : l ≤ o
        · have hoI : (l : Int) ≤ (o : Int) := by omega
          have hr2 : (o : Int) - (l : Int) = (r : Int) := by have h1 := HRR.out; rw [if_pos hol] at h1; omega
          go_wp2
          go_meet
          case rel => exact ⟨rfl, rfl⟩
        · have hoI : ¬ (l : Int) ≤ (o : Int) := by omega
          have hr2 : Hid (r = o) := Lib.hid (by have h1 := HRR.out; rw [if_neg hol] at h1; exact h1)
          go_wp2
          go_meet
          case rel => exact ⟨by rw [hr2.out], rfl⟩
      case rest =>
        obtain ⟨rfl, rfl⟩ := hcut
        obtain ⟨ar, e_ar, W_ar, H_ar⟩ : ∃ ar : Nat, (a : Int) + (r : Int) = (ar : Int) ∧ IntKind.i64.wrap (ar : Int) = (ar : Int) ∧ Hid (a + r = ar) := ⟨a + r, by omega, IntWalk.i64_in _ (by omega), Lib.hid rfl⟩
        have har : ar < b := by have := H_ar.out; have := H_l.out; omega
        have har2 : a ≤ ar := by have := H_ar.out; omega
        have hkb : k < b ∧ a ≤ k := by have := HIJ.out; omega
        have r1 := HP4.out.row.cell k (by rw [HP4.out.sz]; omega)
        have r2 := HP4.out.row.cell ar (by rw [HP4.out.sz]; omega)
        have f1 := HP4.out.row.free (off + k)
        have f2 := HP4.out.row.free (off + ar)
        have t3 : (0 : Int) ≤ (k : Int) := by omega
        have t4 : (k : Int) < (n : Int) := by omega
        have t5 : (0 : Int) ≤ (ar : Int) := by omega
        have t6 : (ar : Int) < (n : Int) := by omega
        obtain ⟨u, hu⟩ : ∃ u, dk[k]! = u := ⟨_, rfl⟩
        obtain ⟨v, hv⟩ : ∃ v, dk[ar]! = v := ⟨_, rfl⟩
        rw [hu] at r1
        rw [hv] at r2
        obtain ⟨v3, hv3⟩ : ∃ v3, (w4.setCell ⟨g, off + k, none⟩ (.int .u64 (v : Nat))).cell? ⟨g, off + ar, none⟩ = some v3 := ⟨_, (HP4.out.row.set k v (by rw [HP4.out.sz]; omega)).cell ar (by rw [Array.size_setIfInBounds, HP4.out.sz]; omega)⟩
        have HX := Lib.hid hu
        have HY := Lib.hid hv
        clear hu hv
        go_wp2
        go_region
        all_goals
          go_wp2
          exact ⟨⟨k + 1, z, swp dk k ar, by go_num, by omega, by omega, Lib.hid ⟨⟨by rw [size_swp]; exact HP4.out.sz, (HP4.out.row.drewN 1).swap k ar (by rw [HP4.out.sz]; omega) (by rw [HP4.out.sz]; omega) HY.out.symm HX.out.symm, ((HP4.out.but.drewN 1).setCell _ _).setCell _ _, permIn_trans _ _ _ a b HP4.out.perm (swp_permIn dk a b k ar hkb.2 hkb.1 har2 har (by rw [HP4.out.sz]; exact hb))⟩, BoxU.other (BoxU.other (w := w4.drewN 1) HBZ.out.1 (Ne.symm hne) _) (Ne.symm hne) _, HBZ.out.2⟩⟩, by simp [intOf] <;> omega⟩
    · have hkI : ¬ (k : Int) ≤ (j : Int) + 1 := by omega
      go_wp2
      go_end0
      exact ⟨rfl, dk, HK.out.1⟩
end Go.Proofs.Ythgbmijgoaihcaa

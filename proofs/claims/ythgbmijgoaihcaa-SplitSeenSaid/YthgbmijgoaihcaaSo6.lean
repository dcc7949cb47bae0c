/-
  The sort of numbers of 64 bits: the pivot (where it lies, no more).
-/
import Derived.Test.YthgbmijgoaihcaaSo5
import Derived.OneCell
namespace Go.Proofs.Ythgbmijgoaihcaa
open Go.RowKit Go.Sort
set_option linter.unusedVariables false

/-- A number's box. -/
def BoxI (w : World) (B : Nat) (v : Int) : Prop := w.heap[B]? = some (.cells #[.int .i64 v] 3 (0, 0))
theorem BoxI.cell {w : World} {B : Nat} {v : Int} (h : BoxI w B v) : w.cell? ⟨B, 0, none⟩ = some (.int .i64 v) := cell_of_one h
theorem BoxI.free {w : World} {B : Nat} {v : Int} (h : BoxI w B v) : w.frozen? ⟨B, 0, none⟩ = false := free_of_one h
theorem BoxI.set {w : World} {B : Nat} {v : Int} (h : BoxI w B v) (u : Int) : BoxI (w.setCell ⟨B, 0, none⟩ (.int .i64 u)) B u := one_setCell h
theorem RowU.but {w w' : World} {g off S B : Nat} {d : Array Nat} (h : RowU w g off S d) (hb : But B w w') (hne : g ≠ B) : RowU w' g off S d := by
  obtain ⟨cur, h1, h2⟩ := h
  exact ⟨cur, (hb.block g (heap_lt h1) hne).trans h1, h2⟩
theorem But.setOther {B : Nat} {a w : World} (h : But B a w) (o : Nat) (v : Value) : But B a (w.setCell ⟨B, o, none⟩ v) := h.setCell o v
theorem BoxI.drewN {w : World} {B : Nat} {v : Int} (h : BoxI w B v) (k : Nat) : BoxI (w.drewN k) B v := h

/-- Two places, in some order. -/
def Two (lo hi : Nat) (e : Ending) : Prop := ∃ x y : Nat, e = .returned (.tuple #[.int .i64 (x : Nat), .int .i64 (y : Nat)]) ∧ lo ≤ x ∧ x < hi ∧ lo ≤ y ∧ y < hi
def One (lo hi : Nat) (e : Ending) : Prop := ∃ x : Nat, e = .returned (.int .i64 (x : Nat)) ∧ lo ≤ x ∧ x < hi
def AnyBox (w : World) (B : Nat) : Prop := ∃ v, BoxI w B v

set_option maxRecDepth 100000 in
set_option maxHeartbeats 1600000 in
theorem order2_any (g off S cap n a b B lo hi : Nat) (v : Int) (d : Array Nat) (hn : d.size = n) (w : World) (hR : RowU w g off S d) (hB : BoxI w B v) (hne : g ≠ B) (ha : lo ≤ a ∧ a < hi) (hb : lo ≤ b ∧ b < hi) (hh : hi ≤ n) (hsz : n ≤ 17592186044400) :
    Calls Try.prog 80 #[.slice (some ⟨g, off, none⟩) n cap, .int .i64 a, .int .i64 b, .pointer (some ⟨B, 0, none⟩)] w fun e w' => Two lo hi e ∧ AnyBox w' B ∧ But B w w' := by
  have r1 := hR.cell a (by omega)
  have r2 := hR.cell b (by omega)
  have c := hB.cell
  have f := hB.free
  have t3 : (0 : Int) ≤ (a : Int) := by omega
  have t4 : (a : Int) < (n : Int) := by omega
  have t5 : (0 : Int) ≤ (b : Int) := by omega
  have t6 : (b : Int) < (n : Int) := by omega
  have HB := Lib.hid hB
  clear hB hR hn
  generalize d[a]! = x at *
  generalize d[b]! = y at *
  cases hl : decide (y < x) with
  | true =>
    have hl2 : decide ((y : Int) < (x : Int)) = true := by simpa using hl
    have hl3 : (y : Int) < (x : Int) := of_decide_eq_true hl2
    have hl4 : y < x := of_decide_eq_true hl
    go_enter Try.func80, Try.ntmps80
    go_wp2
    go_quiet (first | (go_at_call 58; exact Calls.quiet_of_same (less_same _ _ _)))
    go_wp2
    go_ret2
    exact ⟨⟨b, a, rfl, hb.1, hb.2, ha.1, ha.2⟩, ⟨_, (HB.out.drewN _).set _⟩, ((But.refl _ _).drewN _).setCell _ _⟩
  | false =>
    have hl2 : decide ((y : Int) < (x : Int)) = false := by simpa using hl
    have hl3 : ¬ (y : Int) < (x : Int) := of_decide_eq_false hl2
    have hl4 : ¬ y < x := of_decide_eq_false hl
    go_enter Try.func80, Try.ntmps80
    go_wp2
    go_quiet (first | (go_at_call 58; exact Calls.quiet_of_same (less_same _ _ _)))
    go_wp2
    go_ret2
    exact ⟨⟨a, b, rfl, ha.1, ha.2, hb.1, hb.2⟩, ⟨_, HB.out.drewN _⟩, (But.refl _ _).drewN _⟩

set_option maxRecDepth 100000 in
set_option maxHeartbeats 1600000 in
theorem median_any (g off S cap n a b c B lo hi : Nat) (v : Int) (d : Array Nat) (hn : d.size = n) (w : World) (hR : RowU w g off S d) (hB : BoxI w B v) (hne : g ≠ B) (ha : lo ≤ a ∧ a < hi) (hb : lo ≤ b ∧ b < hi) (hc : lo ≤ c ∧ c < hi) (hh : hi ≤ n) (hsz : n ≤ 17592186044400) :
    Calls Try.prog 79 #[.slice (some ⟨g, off, none⟩) n cap, .int .i64 a, .int .i64 b, .int .i64 c, .pointer (some ⟨B, 0, none⟩)] w fun e w' => One lo hi e ∧ AnyBox w' B ∧ But B w w' := by
  have HO := Lib.hid (fun (a b : Nat) (w' : World) (ha : lo ≤ a ∧ a < hi) (hb : lo ≤ b ∧ b < hi) (hbx : AnyBox w' B) (hbut : But B w w') => show Calls Try.prog 80 #[.slice (some ⟨g, off, none⟩) n cap, .int .i64 a, .int .i64 b, .pointer (some ⟨B, 0, none⟩)] w' fun e w'' => Two lo hi e ∧ AnyBox w'' B ∧ But B w' w'' by
    obtain ⟨v', hv⟩ := hbx
    exact order2_any g off S cap n a b B lo hi v' d hn w' (hR.but hbut hne) hv hne ha hb hh hsz)
  have HB := Lib.hid hB
  clear hB hR hn
  go_enter Try.func79, Try.ntmps79
  go_wp2_with fail
  refine (HO.out a b w ha hb ⟨v, HB.out⟩ (But.refl _ _)).mono ?_
  rintro _ w1 ⟨⟨x1, y1, rfl, h1, h2, h3, h4⟩, hb1, hbut1⟩
  have HB1 := Lib.hid hb1
  have HU1 := Lib.hid hbut1
  clear hb1 hbut1
  go_wp2_with fail
  refine (HO.out y1 c w1 ⟨h3, h4⟩ hc HB1.out HU1.out).mono ?_
  rintro _ w2 ⟨⟨x2, y2, rfl, k1, k2, k3, k4⟩, hb2, hbut2⟩
  have HB2 := Lib.hid hb2
  have HU2 := Lib.hid (HU1.out.trans hbut2)
  clear hb2 hbut2
  go_wp2_with fail
  refine (HO.out x1 x2 w2 ⟨h1, h2⟩ ⟨k1, k2⟩ HB2.out HU2.out).mono ?_
  rintro _ w3 ⟨⟨x3, y3, rfl, l1, l2, l3, l4⟩, hb3, hbut3⟩
  go_wp2
  go_ret
  exact ⟨⟨y3, rfl, l3, l4⟩, hb3, HU2.out.trans hbut3⟩

set_option maxRecDepth 100000 in
set_option maxHeartbeats 1600000 in
theorem medadj_any (g off S cap n a B lo hi : Nat) (v : Int) (d : Array Nat) (hn : d.size = n) (w : World) (hR : RowU w g off S d) (hB : BoxI w B v) (hne : g ≠ B) (ha : lo + 1 ≤ a ∧ a + 1 < hi) (hh : hi ≤ n) (hsz : n ≤ 17592186044400) :
    Calls Try.prog 78 #[.slice (some ⟨g, off, none⟩) n cap, .int .i64 a, .pointer (some ⟨B, 0, none⟩)] w fun e w' => One lo hi e ∧ AnyBox w' B ∧ But B w w' := by
  obtain ⟨q, rfl⟩ : ∃ q, a = q + 1 := ⟨a - 1, by omega⟩
  obtain ⟨r, e_r, H_r⟩ : ∃ r : Nat, (q : Int) + 1 = (r : Int) ∧ Hid (q + 1 = r) := ⟨q + 1, by omega, Lib.hid rfl⟩
  obtain ⟨s, e_s, H_s⟩ : ∃ s : Nat, (r : Int) + 1 = (s : Int) ∧ Hid (q + 2 = s) := ⟨q + 2, by omega, Lib.hid rfl⟩
  have e_q : (r : Int) - 1 = (q : Int) := by omega
  have HM := Lib.hid (median_any g off S cap n q r s B lo hi v d hn w hR hB hne (by have := H_r.out; omega) (by have := H_r.out; omega) (by have := H_s.out; omega) hh hsz)
  rw [H_r.out]
  clear hB hR hn
  go_enter Try.func78, Try.ntmps78
  go_wp2_with fail
  refine HM.out.mono ?_
  rintro _ w1 ⟨⟨x1, rfl, h1, h2⟩, hb1, hbut1⟩
  go_wp2
  go_ret
  exact ⟨⟨x1, rfl, h1, h2⟩, hb1, hbut1⟩

/-- A pivot within the part, and a hint. -/
def Piv (a b : Nat) (e : Ending) : Prop := ∃ (x : Nat) (h : Int), e = .returned (.tuple #[.int .i64 (x : Nat), .int .i64 h]) ∧ a ≤ x ∧ x < b ∧ (h = 0 ∨ h = 1 ∨ h = 2)
set_option maxRecDepth 100000 in
set_option maxHeartbeats 3200000 in
theorem choose_any (g off S cap n a b : Nat) (d : Array Nat) (hn : d.size = n) (w : World) (hR : RowU w g off S d) (hab : a + 12 < b) (hb : b ≤ n) (hsz : n ≤ 17592186044400) :
    Calls Try.prog 68 #[.slice (some ⟨g, off, none⟩) n cap, .int .i64 a, .int .i64 b] w fun e w' => Piv a b e ∧ RowU w' g off S d ∧ But g w w' := by
  obtain ⟨B, HBs⟩ : ∃ B, Hid (w.heap.size = B) := ⟨_, Lib.hid rfl⟩
  have hgB : g < B := by have := hR.lt; rw [HBs.out] at this; exact this
  have hne : g ≠ B := by omega
  obtain ⟨w1, HW1⟩ : ∃ w1, Hid (w.alloc (.cells #[.int .i64 0] 3) = w1) := ⟨_, Lib.hid rfl⟩
  have HR1 : Hid (RowU w1 g off S d) := Lib.hid (by rw [← HW1.out]; exact hR.alloc _)
  have HB1 : Hid (BoxI w1 B 0) := Lib.hid (by rw [← HW1.out, ← HBs.out]; exact heap_at _ _)
  have hfin : Hid (∀ w', But B w1 w' → RowU w' g off S d ∧ But g w w') := Lib.hid (fun w' hb => by
    refine ⟨HR1.out.but hb hne, ?_⟩
    have h0 : w1.heap.size = B + 1 := by rw [← HW1.out, ← HBs.out]; simp
    refine ⟨hb.os.trans (by rw [← HW1.out]; rfl), hb.tape.trans (by rw [← HW1.out]; rfl), hb.output.trans (by rw [← HW1.out]; rfl), by have := hb.size; rw [HBs.out]; omega, fun k h1 h2 => ?_⟩
    rw [HBs.out] at h1
    rw [hb.block k (by omega) (by omega), ← HW1.out, Below.heap_alloc _ _ _ (by rw [HBs.out]; exact h1)])
  have HA := Lib.hid (fun (x : Nat) (w' : World) (hx : a + 1 ≤ x ∧ x + 1 < b) (hbx : AnyBox w' B) (hbut : But B w1 w') => show Calls Try.prog 78 #[.slice (some ⟨g, off, none⟩) n cap, .int .i64 x, .pointer (some ⟨B, 0, none⟩)] w' fun e w'' => One a b e ∧ AnyBox w'' B ∧ But B w' w'' by
    obtain ⟨v', hv⟩ := hbx
    exact medadj_any g off S cap n x B a b v' d hn w' (HR1.out.but hbut hne) hv hne hx hb hsz)
  have HM := Lib.hid (fun (x y z : Nat) (w' : World) (hx : a ≤ x ∧ x < b) (hy : a ≤ y ∧ y < b) (hz : a ≤ z ∧ z < b) (hbx : AnyBox w' B) (hbut : But B w1 w') => show Calls Try.prog 79 #[.slice (some ⟨g, off, none⟩) n cap, .int .i64 x, .int .i64 y, .int .i64 z, .pointer (some ⟨B, 0, none⟩)] w' fun e w'' => One a b e ∧ AnyBox w'' B ∧ But B w' w'' by
    obtain ⟨v', hv⟩ := hbx
    exact median_any g off S cap n x y z B a b v' d hn w' (HR1.out.but hbut hne) hv hne hx hy hz hb hsz)
  obtain ⟨l, e_l, H_l⟩ : ∃ l : Nat, (b : Int) - (a : Int) = (l : Int) ∧ Hid (b - a = l) := ⟨b - a, by omega, Lib.hid rfl⟩
  have hl12 : 12 < l := by have := H_l.out; omega
  obtain ⟨q, e_q, e_q2, H_q⟩ : ∃ q : Nat, (l : Int) / 4 = (q : Int) ∧ (l : Int).tdiv 4 = (q : Int) ∧ Hid (l / 4 = q) := ⟨l / 4, by omega, by rw [Int.tdiv_eq_ediv_of_nonneg (by omega)]; omega, Lib.hid rfl⟩
  obtain ⟨i, e_i, H_i⟩ : ∃ i : Nat, (a : Int) + (q : Int) = (i : Int) ∧ Hid (a + q = i) := ⟨a + q, by omega, Lib.hid rfl⟩
  obtain ⟨j, e_j, H_j⟩ : ∃ j : Nat, (a : Int) + (q : Int) * 2 = (j : Int) ∧ Hid (a + q * 2 = j) := ⟨a + q * 2, by omega, Lib.hid rfl⟩
  obtain ⟨k, e_k, H_k⟩ : ∃ k : Nat, (a : Int) + (q : Int) * 3 = (k : Int) ∧ Hid (a + q * 3 = k) := ⟨a + q * 3, by omega, Lib.hid rfl⟩
  have hql : q ≤ l := by have := H_q.out; omega
  have hln : l ≤ n := by have := H_l.out; omega
  have h8 : (8 : Int) ≤ (l : Int) := by omega
  have HIJ : Hid ((a + 1 ≤ i ∧ i + 1 < b) ∧ (a + 1 ≤ j ∧ j + 1 < b) ∧ (a + 1 ≤ k ∧ k + 1 < b)) := Lib.hid (by
    have := H_q.out; have := H_i.out; have := H_j.out; have := H_k.out; have := H_l.out; omega)
  clear hn hR
  by_cases h50 : 50 ≤ l
  · have h50I : (50 : Int) ≤ (l : Int) := by omega
    go_enter Try.func68, Try.ntmps68
    go_wp2_with fail
    rw [HBs.out, HW1.out]
    refine (HA.out i w1 HIJ.out.1 ⟨0, HB1.out⟩ (But.refl _ _)).mono ?_
    rintro _ w2 ⟨⟨i2, rfl, m1, m2⟩, hb2, hu2⟩
    have HB2 := Lib.hid hb2
    have HU2 := Lib.hid hu2
    clear hb2 hu2
    go_wp2_with fail
    refine (HA.out j w2 HIJ.out.2.1 HB2.out HU2.out).mono ?_
    rintro _ w3 ⟨⟨j2, rfl, m3, m4⟩, hb3, hu3⟩
    have HB3 := Lib.hid hb3
    have HU3 := Lib.hid (HU2.out.trans hu3)
    clear hb3 hu3
    go_wp2_with fail
    refine (HA.out k w3 HIJ.out.2.2 HB3.out HU3.out).mono ?_
    rintro _ w4 ⟨⟨k2, rfl, m5, m6⟩, hb4, hu4⟩
    have HB4 := Lib.hid hb4
    have HU4 := Lib.hid (HU3.out.trans hu4)
    clear hb4 hu4
    go_wp2_with fail
    refine (HM.out i2 j2 k2 w4 ⟨m1, m2⟩ ⟨m3, m4⟩ ⟨m5, m6⟩ HB4.out HU4.out).mono ?_
    rintro _ w5 ⟨⟨p, rfl, m7, m8⟩, ⟨u, hb5⟩, hu5⟩
    have HF := Lib.hid (hfin.out _ (HU4.out.trans hu5))
    have c := hb5.cell
    clear hb5 hu5
    by_cases hu0 : u = 0
    · have z1 : (u == 0) = true := by simp [hu0]
      clear hu0
      go_wp2
      go_ret2
      exact ⟨⟨p, 1, rfl, m7, m8, Or.inr (Or.inl rfl)⟩, HF.out⟩
    · have z1 : (u == 0) = false := by simp [hu0]
      by_cases hu1 : u = 12
      · have z2 : (u == 12) = true := by simp [hu1]
        clear hu1 hu0
        go_wp2
        go_ret2
        exact ⟨⟨p, 2, rfl, m7, m8, Or.inr (Or.inr rfl)⟩, HF.out⟩
      · have z2 : (u == 12) = false := by simp [hu1]
        clear hu1 hu0
        go_wp2
        go_ret2
        exact ⟨⟨p, 0, rfl, m7, m8, Or.inl rfl⟩, HF.out⟩
  · have h50I : ¬ (50 : Int) ≤ (l : Int) := by omega
    go_enter Try.func68, Try.ntmps68
    go_wp2_with fail
    rw [HBs.out, HW1.out]
    refine (HM.out i j k w1 ⟨by have := HIJ.out; omega, by have := HIJ.out; omega⟩ ⟨by have := HIJ.out; omega, by have := HIJ.out; omega⟩ ⟨by have := HIJ.out; omega, by have := HIJ.out; omega⟩ ⟨0, HB1.out⟩ (But.refl _ _)).mono ?_
    rintro _ w5 ⟨⟨p, rfl, m7, m8⟩, ⟨u, hb5⟩, hu5⟩
    have HF := Lib.hid (hfin.out _ hu5)
    have c := hb5.cell
    clear hb5 hu5
    by_cases hu0 : u = 0
    · have z1 : (u == 0) = true := by simp [hu0]
      clear hu0
      go_wp2
      go_ret2
      exact ⟨⟨p, 1, rfl, m7, m8, Or.inr (Or.inl rfl)⟩, HF.out⟩
    · have z1 : (u == 0) = false := by simp [hu0]
      by_cases hu1 : u = 12
      · have z2 : (u == 12) = true := by simp [hu1]
        clear hu1 hu0
        go_wp2
        go_ret2
        exact ⟨⟨p, 2, rfl, m7, m8, Or.inr (Or.inr rfl)⟩, HF.out⟩
      · have z2 : (u == 12) = false := by simp [hu1]
        clear hu1 hu0
        go_wp2
        go_ret2
        exact ⟨⟨p, 0, rfl, m7, m8, Or.inl rfl⟩, HF.out⟩
end Go.Proofs.Ythgbmijgoaihcaa

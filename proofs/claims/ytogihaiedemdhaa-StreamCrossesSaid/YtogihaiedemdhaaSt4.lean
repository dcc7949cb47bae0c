/-
  The reference's quarter.
-/
import Derived.Test.YtogihaiedemdhaaSt3
import Derived.Deep.RegionWith
import Derived.Deep.DeepCutAuto
import Derived.Deep.MidRow
namespace Go.Proofs.Ytogihaiedemdhaa
open Go.RowKit
set_option linter.unusedVariables false

theorem getD_get (y : List Nat) (i : Nat) (h : i < y.length) : y[i] = y.getD i 0 := by simp [List.getD_eq_getElem?_getD, h]
theorem BlkW.cellD {T : TypeId} {w : World} {g : Nat} {l : List Nat} (h : BlkW T w g l) (i : Nat) (hi : i < l.length) : w.cell? ⟨g, i, none⟩ = some (.int .u32 (l.getD i 0 : Nat)) := by
  rw [h.cell i hi, getD_get l i hi]
theorem getD_lt32 (y : List Nat) (i : Nat) (h : ∀ x ∈ y, x < 4294967296) : y.getD i 0 < 4294967296 := by
  rcases Nat.lt_or_ge i y.length with h1 | h1
  · rw [← getD_get y i h1]; exact h _ (List.getElem_mem _)
  · simp [List.getD_eq_getElem?_getD, List.getElem?_eq_none h1]

theorem heap_setCells (g : Nat) (t : TypeId) : ∀ (vs pre post : List Value) (w : World), w.heap[g]? = some (.cells (pre ++ post).toArray t (0, 0)) → post.length = vs.length → (w.setCells g pre.length vs).heap[g]? = some (.cells (pre ++ vs).toArray t (0, 0)) := by
  intro vs
  induction vs with
  | nil =>
    intro pre post w h hl
    have : post = [] := List.eq_nil_of_length_eq_zero hl
    subst this
    exact h
  | cons v r ih =>
    intro pre post w h hl
    cases post with
    | nil => simp at hl
    | cons p ps =>
      have h1 := heap_setCell_same w g pre.length _ t v h
      have h2 : (pre ++ p :: ps).toArray.setIfInBounds pre.length v = ((pre ++ [v]) ++ ps).toArray := by simp
      rw [h2] at h1
      have h3 := ih (pre ++ [v]) ps _ h1 (by simpa using hl)
      simpa [World.setCells] using h3
theorem heap_setCells_far (g : Nat) : ∀ (vs : List Value) (o : Nat) (w : World) (k : Nat), k ≠ g → (w.setCells g o vs).heap[k]? = w.heap[k]? := by
  intro vs
  induction vs with
  | nil => intros; rfl
  | cons v r ih => intro o w k hk; rw [World.setCells, ih _ _ _ hk, Below.heap_setCell _ _ _ _ hk]
theorem below_setCells {B g : Nat} {a : World} (hb : B ≤ g) : ∀ (vs : List Value) (o : Nat) (w : World), Below B a w → Below B a (w.setCells g o vs) := by
  intro vs
  induction vs with
  | nil => intro o w h; exact h
  | cons v r ih => intro o w h; exact ih _ _ (h.setCell hb _)
theorem BlkW.put {T : TypeId} {w : World} {g : Nat} {l m : List Nat} (h : BlkW T w g l) (hl : l.length = m.length) : BlkW T (w.setCells g 0 (cellsW m)) g m := by
  have := heap_setCells g T (cellsW m) [] (cellsW l) w h (by rw [cellsW_length, cellsW_length, hl])
  exact this
theorem BlkW.there {T : TypeId} {w : World} {g : Nat} {l : List Nat} (h : BlkW T w g l) : w.there g 0 l.length := by
  intro j hj
  rw [Nat.zero_add, h.cell j hj, h.free j]
  exact ⟨rfl, rfl⟩
theorem info16 : (Try.prog.info? 43).map (·.size) = some 16 := by kernel_rfl
theorem cellsW_all (l : List Nat) : (cellsW l).toArray.all (·.oneCell') = true := all_oneCell_toArray (cellsW_one l)

/-- What the walk through a quarter holds: the words, the room for the result, the rest as it was. -/
def QS (w0 : World) (y : List Nat) (wx : World) : Prop := BlkW 43 wx w0.heap.size y ∧ (∃ z, BlkW 43 wx (w0.heap.size + 1) z ∧ z.length = 16) ∧ Below w0.heap.size w0 wx ∧ y.length = 16 ∧ ∀ x ∈ y, x < 4294967296
theorem QS.read {w0 wx : World} {y : List Nat} (h : QS w0 y wx) (i j : Nat) (hi : i < 16) (hj : j < 16) : wx.cell? ⟨w0.heap.size, i, none⟩ = some (.int .u32 (y.getD i 0 : Nat)) ∧ wx.cell? ⟨w0.heap.size, j, none⟩ = some (.int .u32 (y.getD j 0 : Nat)) ∧ wx.frozen? ⟨w0.heap.size, i, none⟩ = false ∧ y.getD i 0 < 4294967296 ∧ y.getD j 0 < 4294967296 :=
  ⟨h.1.cellD i (by rw [h.2.2.2.1]; exact hi), h.1.cellD j (by rw [h.2.2.2.1]; exact hj), h.1.free i, getD_lt32 y i h.2.2.2.2, getD_lt32 y j h.2.2.2.2⟩
theorem QS.drewN {w0 wx : World} {y : List Nat} (h : QS w0 y wx) (n : Nat) : QS w0 y (wx.drewN n) := ⟨h.1, h.2.1, below_drewN h.2.2.1 n, h.2.2.2⟩
theorem QS.set {w0 wx : World} {y : List Nat} (h : QS w0 y wx) (i s : Nat) (hs : s < 4294967296) : QS w0 (y.set i s) (wx.setCell ⟨w0.heap.size, i, none⟩ (.int .u32 (s : Nat))) := by
  obtain ⟨h1, ⟨z, h2, h3⟩, h4, h5, h6⟩ := h
  refine ⟨h1.set i s, ⟨z, h2.keep (Below.heap_setCell _ _ _ _ (by show w0.heap.size + 1 ≠ w0.heap.size; omega)), h3⟩, h4.setCell (Nat.le_refl _) _, by simpa using h5, fun x hx => ?_⟩
  rcases List.mem_or_eq_of_mem_set hx with h | h
  · exact h6 x h
  · rw [h]; exact hs
theorem QS.step {w0 wx : World} {y : List Nat} (h : QS w0 y wx) (i s : Nat) (hs : s < 4294967296) : QS w0 (y.set i s) (wx.setCell ⟨w0.heap.size, i, none⟩ (.int .u32 (s : Nat))).drew := (h.set i s hs).drewN 1

set_option maxRecDepth 100000 in
set_option maxHeartbeats 3200000 in
theorem quarter_any (y : List Nat) (a b c d : Nat) (w : World) (hy : y.length = 16) (hlt : ∀ x ∈ y, x < 4294967296) (ha : a < 16) (hb : b < 16) (hc : c < 16) (hd : d < 16) :
    Calls Try.prog 27 #[.agg (cellsW y).toArray, .int .i64 a, .int .i64 b, .int .i64 c, .int .i64 d] w fun e w' => e = .returned (.agg (cellsW (qseq y a b c d)).toArray) ∧ Below w.heap.size w w' := by
  have ia : (a : Int) < 16 := by omega
  have ib : (b : Int) < 16 := by omega
  have ic : (c : Int) < 16 := by omega
  have id' : (d : Int) < 16 := by omega
  have hyl := Lib.hid (And.intro hy hlt)
  clear hy hlt
  go_enter Try.func27, Try.ntmps27
  go_wp2
  obtain ⟨wc, hwc, hQ0⟩ : ∃ wc, ((w.alloc (Obj.cells (cellsW y).toArray 43)).alloc (Obj.cells #[Value.int IntKind.u32 0, Value.int IntKind.u32 0, Value.int IntKind.u32 0, Value.int IntKind.u32 0, Value.int IntKind.u32 0, Value.int IntKind.u32 0, Value.int IntKind.u32 0, Value.int IntKind.u32 0, Value.int IntKind.u32 0, Value.int IntKind.u32 0, Value.int IntKind.u32 0, Value.int IntKind.u32 0, Value.int IntKind.u32 0, Value.int IntKind.u32 0, Value.int IntKind.u32 0, Value.int IntKind.u32 0] 43)) = wc ∧ Hid (QS w y wc) :=
    ⟨_, rfl, Lib.hid ⟨heap_keep (heap_at w _), ⟨List.replicate 16 0, heap_at' (by simp), by simp⟩, ((Below.refl _ _).alloc (Nat.le_refl _) _).alloc (by simp) _, hyl.out.1, hyl.out.2⟩⟩
  rw [hwc]
  clear hwc
  go_upto_region 1 with (fail)
  go_cut [] (fun wx => Hid (QS w (qadd y a b) wx))
  case first =>
    obtain ⟨g1, g2, f1, l1, l2⟩ := hQ0.out.read a b ha hb
    have HY : Hid (qadd y a b = y.set a (add32 (y.getD a 0) (y.getD b 0))) := Lib.hid rfl
    generalize y.getD a 0 = vI at *
    generalize y.getD b 0 = vJ at *
    obtain ⟨s, p1, p2, q1, r1⟩ := sum_nat vI vJ
    go_still_tail 9, (by kernel_rfl)
    change wpList _ _ _ _ _ wc.drew
    go_wp2
    go_meet
    case rel => exact Lib.hid (by rw [HY.out, r1.out]; exact hQ0.out.step a s q1)
  case rest =>
  have hQ1 := hcut
  clear hcut
  obtain ⟨y1, hy1⟩ : ∃ z, qadd y a b = z := ⟨_, rfl⟩
  rw [hy1] at hQ1
  have HE1 := Lib.hid hy1
  clear hy1
  go_upto_region 2 with (fail)
  go_cut [] (fun wx => Hid (QS w (qrot y1 d a 16) wx))
  case first =>
    obtain ⟨g1, g2, f1, l1, l2⟩ := hQ1.out.read d a hd ha
    have HY : Hid (qrot y1 d a 16 = y1.set d (rot (y1.getD d 0 ^^^ y1.getD a 0) 16)) := Lib.hid rfl
    generalize y1.getD d 0 = vI at *
    generalize y1.getD a 0 = vJ at *
    obtain ⟨x, p1, q1, r1⟩ := xor_nat vI vJ l1 l2
    have lx := rot16_lt x q1
    have C := fun w => turn16_any x x w rfl q1
    obtain ⟨s, hs⟩ : ∃ s, rot x 16 = s := ⟨_, rfl⟩
    rw [hs] at C lx
    have HC := Lib.hid C
    have HS := Lib.hid hs
    clear C hs
    go_region_with ((with_reducible refine (HC.out _).mono ?_); rintro _ _ ⟨rfl, nt, rfl⟩)
    all_goals (go_wp2; go_meet)
    all_goals exact Lib.hid (by rw [HY.out, r1.out, HS.out]; exact (hQ1.out.drewN (1 + nt)).set d s lx)
  case rest =>
  have hQ2 := hcut
  clear hcut
  obtain ⟨y2, hy2⟩ : ∃ z, qrot y1 d a 16 = z := ⟨_, rfl⟩
  rw [hy2] at hQ2
  have HE2 := Lib.hid hy2
  clear hy2
  go_upto_region 3 with (fail)
  go_cut [] (fun wx => Hid (QS w (qadd y2 c d) wx))
  case first =>
    obtain ⟨g1, g2, f1, l1, l2⟩ := hQ2.out.read c d hc hd
    have HY : Hid (qadd y2 c d = y2.set c (add32 (y2.getD c 0) (y2.getD d 0))) := Lib.hid rfl
    generalize y2.getD c 0 = vI at *
    generalize y2.getD d 0 = vJ at *
    obtain ⟨s, p1, p2, q1, r1⟩ := sum_nat vI vJ
    go_still_tail 9, (by kernel_rfl)
    change wpList _ _ _ _ _ wc.drew
    go_wp2
    go_meet
    case rel => exact Lib.hid (by rw [HY.out, r1.out]; exact hQ2.out.step c s q1)
  case rest =>
  have hQ3 := hcut
  clear hcut
  obtain ⟨y3, hy3⟩ : ∃ z, qadd y2 c d = z := ⟨_, rfl⟩
  rw [hy3] at hQ3
  have HE3 := Lib.hid hy3
  clear hy3
  go_upto_region 4 with (fail)
  go_cut [] (fun wx => Hid (QS w (qrot y3 b c 12) wx))
  case first =>
    obtain ⟨g1, g2, f1, l1, l2⟩ := hQ3.out.read b c hb hc
    have HY : Hid (qrot y3 b c 12 = y3.set b (rot (y3.getD b 0 ^^^ y3.getD c 0) 12)) := Lib.hid rfl
    generalize y3.getD b 0 = vI at *
    generalize y3.getD c 0 = vJ at *
    obtain ⟨x, p1, q1, r1⟩ := xor_nat vI vJ l1 l2
    have lx := rot12_lt x q1
    have C := fun w => turn12_any x x w rfl q1
    obtain ⟨s, hs⟩ : ∃ s, rot x 12 = s := ⟨_, rfl⟩
    rw [hs] at C lx
    have HC := Lib.hid C
    have HS := Lib.hid hs
    clear C hs
    go_region_with ((with_reducible refine (HC.out _).mono ?_); rintro _ _ ⟨rfl, nt, rfl⟩)
    all_goals (go_wp2; go_meet)
    all_goals exact Lib.hid (by rw [HY.out, r1.out, HS.out]; exact (hQ3.out.drewN (1 + nt)).set b s lx)
  case rest =>
  have hQ4 := hcut
  clear hcut
  obtain ⟨y4, hy4⟩ : ∃ z, qrot y3 b c 12 = z := ⟨_, rfl⟩
  rw [hy4] at hQ4
  have HE4 := Lib.hid hy4
  clear hy4
  go_upto_region 5 with (fail)
  go_cut [] (fun wx => Hid (QS w (qadd y4 a b) wx))
  case first =>
    obtain ⟨g1, g2, f1, l1, l2⟩ := hQ4.out.read a b ha hb
    have HY : Hid (qadd y4 a b = y4.set a (add32 (y4.getD a 0) (y4.getD b 0))) := Lib.hid rfl
    generalize y4.getD a 0 = vI at *
    generalize y4.getD b 0 = vJ at *
    obtain ⟨s, p1, p2, q1, r1⟩ := sum_nat vI vJ
    go_still_tail 9, (by kernel_rfl)
    change wpList _ _ _ _ _ wc.drew
    go_wp2
    go_meet
    case rel => exact Lib.hid (by rw [HY.out, r1.out]; exact hQ4.out.step a s q1)
  case rest =>
  have hQ5 := hcut
  clear hcut
  obtain ⟨y5, hy5⟩ : ∃ z, qadd y4 a b = z := ⟨_, rfl⟩
  rw [hy5] at hQ5
  have HE5 := Lib.hid hy5
  clear hy5
  go_upto_region 6 with (fail)
  go_cut [] (fun wx => Hid (QS w (qrot y5 d a 8) wx))
  case first =>
    obtain ⟨g1, g2, f1, l1, l2⟩ := hQ5.out.read d a hd ha
    have HY : Hid (qrot y5 d a 8 = y5.set d (rot (y5.getD d 0 ^^^ y5.getD a 0) 8)) := Lib.hid rfl
    generalize y5.getD d 0 = vI at *
    generalize y5.getD a 0 = vJ at *
    obtain ⟨x, p1, q1, r1⟩ := xor_nat vI vJ l1 l2
    have lx := rot8_lt x q1
    have C := fun w => turn8_any x x w rfl q1
    obtain ⟨s, hs⟩ : ∃ s, rot x 8 = s := ⟨_, rfl⟩
    rw [hs] at C lx
    have HC := Lib.hid C
    have HS := Lib.hid hs
    clear C hs
    go_region_with ((with_reducible refine (HC.out _).mono ?_); rintro _ _ ⟨rfl, nt, rfl⟩)
    all_goals (go_wp2; go_meet)
    all_goals exact Lib.hid (by rw [HY.out, r1.out, HS.out]; exact (hQ5.out.drewN (1 + nt)).set d s lx)
  case rest =>
  have hQ6 := hcut
  clear hcut
  obtain ⟨y6, hy6⟩ : ∃ z, qrot y5 d a 8 = z := ⟨_, rfl⟩
  rw [hy6] at hQ6
  have HE6 := Lib.hid hy6
  clear hy6
  go_upto_region 7 with (fail)
  go_cut [] (fun wx => Hid (QS w (qadd y6 c d) wx))
  case first =>
    obtain ⟨g1, g2, f1, l1, l2⟩ := hQ6.out.read c d hc hd
    have HY : Hid (qadd y6 c d = y6.set c (add32 (y6.getD c 0) (y6.getD d 0))) := Lib.hid rfl
    generalize y6.getD c 0 = vI at *
    generalize y6.getD d 0 = vJ at *
    obtain ⟨s, p1, p2, q1, r1⟩ := sum_nat vI vJ
    go_still_tail 9, (by kernel_rfl)
    change wpList _ _ _ _ _ wc.drew
    go_wp2
    go_meet
    case rel => exact Lib.hid (by rw [HY.out, r1.out]; exact hQ6.out.step c s q1)
  case rest =>
  have hQ7 := hcut
  clear hcut
  obtain ⟨y7, hy7⟩ : ∃ z, qadd y6 c d = z := ⟨_, rfl⟩
  rw [hy7] at hQ7
  have HE7 := Lib.hid hy7
  clear hy7
  go_upto_region 8 with (fail)
  go_cut [] (fun wx => Hid (QS w (qrot y7 b c 7) wx))
  case first =>
    obtain ⟨g1, g2, f1, l1, l2⟩ := hQ7.out.read b c hb hc
    have HY : Hid (qrot y7 b c 7 = y7.set b (rot (y7.getD b 0 ^^^ y7.getD c 0) 7)) := Lib.hid rfl
    generalize y7.getD b 0 = vI at *
    generalize y7.getD c 0 = vJ at *
    obtain ⟨x, p1, q1, r1⟩ := xor_nat vI vJ l1 l2
    have lx := rot7_lt x q1
    have C := fun w => turn7_any x x w rfl q1
    obtain ⟨s, hs⟩ : ∃ s, rot x 7 = s := ⟨_, rfl⟩
    rw [hs] at C lx
    have HC := Lib.hid C
    have HS := Lib.hid hs
    clear C hs
    go_region_with ((with_reducible refine (HC.out _).mono ?_); rintro _ _ ⟨rfl, nt, rfl⟩)
    all_goals (go_wp2; go_meet)
    all_goals exact Lib.hid (by rw [HY.out, r1.out, HS.out]; exact (hQ7.out.drewN (1 + nt)).set b s lx)
  case rest =>
  have hQ8 := hcut
  clear hcut
  have hB8 := hQ8.out.1
  obtain ⟨z, hZ, hz16⟩ := hQ8.out.2.1
  have hbw := hQ8.out.2.2.1
  have hl8 := hQ8.out.2.2.2.1
  obtain ⟨y8, hy8⟩ : ∃ z, qrot y7 b c 7 = z := ⟨_, rfl⟩
  rw [hy8] at hB8 hl8
  have HB8 := Lib.hid hB8
  have HZ8 := Lib.hid hZ
  have HSZ : Hid (some 16 = some (cellsW y8).toArray.size) := Lib.hid (by simp [cellsW_length, hl8])
  have HSE : Hid (qseq y a b c d = y8) := Lib.hid (by unfold qseq; rw [HE1.out, HE2.out, HE3.out, HE4.out, HE5.out, HE6.out, HE7.out, hy8])
  have HTH : Hid (wc.there (w.heap.size + 1) 0 (cellsW y8).toArray.size) := Lib.hid (by have := hZ.there; rw [hz16] at this; simpa [cellsW_length, hl8] using this)
  have HZL : Hid (z.length = y8.length) := Lib.hid (by rw [hz16, hl8])
  clear hB8 hZ hQ8 hl8 hy8 hz16
  go_wp2_with (first
    | (refine wpList_load_row rfl 43 _ rfl w.heap.size (by rfl) 43 (cellsW y8).toArray (0, 0) _ HB8.out Try.underlying43 rfl (info16.trans HSZ.out) ?_)
    | (refine wpList_store_mid rfl 43 _ _ rfl (w.heap.size + 1) 0 (cellsW y8).toArray (by rfl) (by rfl) HTH.out (info16.trans HSZ.out) (cellsW_all y8) ?_))
  refine bodyPost_ret (results_cell_row rfl _ _ (w.heap.size + 1) 43 (cellsW y8).toArray (0, 0) _ (by rfl) (HZ8.out.put HZL.out) Try.underlying43 rfl (info16.trans HSZ.out)) rfl ?_
  exact ⟨by rw [HSE.out], below_setCells (by omega) _ _ _ hbw⟩
end Go.Proofs.Ytogihaiedemdhaa

/-
  The reference's disk: drop, set.
-/
import Derived.Test.YtjojomjnbiakoaaRd2
namespace Go.Proofs.Ytjojomjnbiakoaa
open Go.RowKit Go.Maps
set_option linter.unusedVariables false
theorem cutF_to (x : Option Addr) (ln c k : Nat) (h : k ≤ c) (w : World) : (Instr.slice 70 (.slice x ln c) none (some (.int .i64 (k : Nat))) none).run Try.prog w = .ok (.slice x k c) w := by
  obtain ⟨i0, hi0, hz0, hz1, hz2⟩ := info_parts infoF
  exact run_cut_to Try.underlying70 hi0 x ln c k .i64 h w
theorem cutF_from (x : Option Addr) (ln c k : Nat) (h : k ≤ ln) (w : World) : (Instr.slice 70 (.slice x ln c) (some (.int .i64 (k : Nat))) none none).run Try.prog w = .ok (.slice (cutFrom x c k 3) (ln - k) (c - k)) w := by
  obtain ⟨i0, hi0, hz0, hz1, hz2⟩ := info_parts infoF
  have := run_cut_from (P := Try.prog) Try.underlying70 hi0 x ln c k .i64 h w
  rw [hz1] at this
  exact this
theorem lkup_some_rank {A : DM} (hs : SortedF A.fs) {k : Key} (h : (lkup A.fs k).isSome = true) : rank A.fs k < A.fs.length := by
  apply Classical.byContradiction
  intro hn
  rw [lkup_rank_none k A.fs hs (fun hh => absurd hh hn)] at h
  cases h
theorem ownF_lit (w : World) : OwnF (w.alloc (.cells #[] 75)) w.heap.size (.slice (some ⟨w.heap.size, 0, none⟩) 0 0) [] :=
  World.ownsRow_lit (base := w.heap.size) (e := 75) (size := 3) w #[] 0 (Nat.le_refl _) (by unfold maxLen; omega) rfl
theorem RB.put {w w' : World} {bw : Nat} {x y : Option Addr} {c d n : Nat} {A B : DM} (h : RB w bw x c A) (hc : refCells (.slice x A.fs.length c) B = refCells (.slice x A.fs.length c) A) (hok : B.Ok) (hn : n = B.fs.length) (hle : n ≤ d) (hcap : d ≤ maxLen) (hf : Fls w y B.fs) (hz : y = none → d = 0) (hns : NoStr w bw)
    (hw : w' = w.setCell ⟨bw, 0, none⟩ (.slice y n d)) : (RefSt w' bw B ∧ RB w' bw y d B) ∧ Upd (· = bw) w w' := by
  subst hw
  have hu : Upd (· = bw) w (w.setCell ⟨bw, 0, none⟩ (.slice y n d)) := Upd.setCell (S := (· = bw)) _ _ _ rfl
  subst hn
  have hb : (w.setCell ⟨bw, 0, none⟩ (.slice y B.fs.length d)).heap[bw]? = some (.cells (refCells (.slice y B.fs.length d) B) 72 (0, 0)) := by
    rw [heap_setCell_same _ _ _ _ _ _ h.box]
    simp [refCells] at hc ⊢
    simp [hc]
  have hf' := hf.upd hu (fun b e => by subst e; exact hns)
  exact ⟨⟨RefSt.set hok hle hcap hf' hz hb, ⟨hb, hle, hcap, hf', hz⟩⟩, hu⟩
/-- The list lies in a block that is new since w. -/
def RFresh (w w' : World) (bw : Nat) (B : DM) : Prop := ∃ x c, RB w' bw x c B ∧ ∀ y, x = some y → w.heap.size ≤ y.block
set_option maxRecDepth 100000 in
set_option maxHeartbeats 800000 in
theorem rdrop_any (bw : Nat) (A : DM) (k : Key) (w : World) (hn : A.fs.length ≤ 1000000) (hk : (lkup A.fs k).isSome = true) (h : RefSt w bw A) :
    Calls Try.prog 52 #[.pointer (some ⟨bw, 0, none⟩), .int .i64 (rank A.fs k : Nat)] w fun e w' => e = .returned (.tuple #[]) ∧ (RefSt w' bw { A with fs := delF A.fs k } ∧ RFresh w w' bw { A with fs := delF A.fs k }) ∧ Upd (· = bw) w w' := by
  have HDR := Lib.hid (del_rank k A.fs h.ok.sorted hk)
  have hlt := lkup_some_rank h.ok.sorted hk
  have HOK := Lib.hid (h.ok.delF k)
  obtain ⟨x, c, hrb⟩ := h.open
  have HR := Lib.hid h
  obtain ⟨R, hR⟩ : ∃ R, rank A.fs k = R := ⟨_, rfl⟩
  rw [hR] at HDR hlt ⊢
  have HOWN := Lib.hid (ownF_lit w)
  have HBA : Hid (Below w.heap.size w (w.alloc (.cells #[] 75))) := Lib.hid ((Below.refl _ _).alloc (Nat.le_refl _) _)
  have HRB := Lib.hid hrb
  have HRBA := Lib.hid (hrb.later HBA.out)
  have c0 := hrb.cells.1.1
  have c0A := HRBA.out.cells.1.1
  obtain ⟨R2, hR2, hR2i⟩ : ∃ R2 : Nat, R + 1 = R2 ∧ (R : Int) + 1 = (R2 : Int) := ⟨R + 1, rfl, by omega⟩
  rw [hR2] at HDR
  obtain ⟨l1, hl1⟩ : ∃ l1, A.fs.take R = l1 := ⟨_, rfl⟩
  obtain ⟨l2, hl2⟩ : ∃ l2, A.fs.drop R2 = l2 := ⟨_, rfl⟩
  have HT1 : Hid (Fls (w.alloc (.cells #[] 75)) x l1) := Lib.hid (by rw [← hl1]; exact HRBA.out.fls.take R)
  have HT2 : Hid (∀ w', RB w' bw x c A → Fls w' (cutFrom x c R2 3) l2) := Lib.hid (fun w' hh => by rw [← hl2]; exact hh.fls.drop hh.le R2)
  rw [hl1, hl2] at HDR
  obtain ⟨n, hnn⟩ : ∃ n, A.fs.length = n := ⟨_, rfl⟩
  have HLN := Lib.hid hnn
  rw [hnn] at hn hlt c0 c0A
  have hle := hrb.le
  have hcap := hrb.cap
  rw [hnn] at hle
  have hcut := cutF_to x n c R (by omega)
  have hcut2 := cutF_from x n c R2 (by omega)
  obtain ⟨xd, hxd⟩ : ∃ xd, cutFrom x c R2 3 = xd := ⟨_, rfl⟩
  rw [hxd] at hcut2 HT2
  clear hxd
  have HL1 : Hid (l1.length = R) := Lib.hid (by rw [← hl1, List.length_take]; omega)
  have HL2 : Hid (n - R2 = l2.length) := Lib.hid (by rw [← hl2, List.length_drop]; omega)
  have hl1b : R ≤ 1000000 := by omega
  clear h hk hrb hR hnn hl1 hl2 hR2
  unfold maxLen at hcap
  go_enter Try.func52, Try.ntmps52
  go_wp2_with (first
    | (at_builtin; refine app_fs _ rfl _ _ rfl (K := w.heap.size) rfl HOWN.out (m := l1) HL1.out.symm rfl HT1.out (by simp) (by rw [HL1.out]; omega) (by simp) ?_; intro v2 w2 how2 hb2; rw [List.nil_append] at how2; obtain ⟨z, cz, rfl, q1, q2, q3, q4, q5⟩ := how2.read; rw [HL1.out] at how2 ⊢; have HB2 := Lib.hid (HBA.out.trans hb2); have HRB2 := Lib.hid (HRB.out.later HB2.out); have c02 := HRB2.out.cells.1.1; rw [HLN.out] at c02; have HO2 := Lib.hid how2; clear how2 hb2 q1 q2 q3 q4 q5 c0 c0A)
    | (at_builtin; refine app_fs _ rfl _ _ rfl (K := w.heap.size) rfl HO2.out (m := l2) HL2.out rfl (HT2.out _ HRB2.out) (by rw [HL1.out]; omega) (by rw [← HL2.out]; omega) HB2.out.size ?_; intro v3 w3 how3 hb3; obtain ⟨z3, cz3, rfl, q1, q2, q3, q4, q5⟩ := how3.read; have HRB3 := Lib.hid (HRB.out.later (HB2.out.trans hb3)); have c03 := HRB3.out.cells.1.1; have f03 := HRB3.out.cells.2 0; rw [HLN.out] at c03; have HB3 := Lib.hid (HB2.out.trans hb3); have HQ := Lib.hid (And.intro q1 (And.intro q2 (And.intro q3 (And.intro q4 q5)))); clear q1 q2 q3 q4 q5 hb3 c02; obtain ⟨m3, hm3⟩ : ∃ m3, (l1 ++ l2).length = m3 := ⟨_, rfl⟩; have HM3 := Lib.hid hm3; rw [hm3]; clear hm3 how3))
  go_end0
  have hq := HQ.out
  rw [← HDR.out] at hq HM3
  obtain ⟨q1, q2, q3, q4, q5⟩ := hq
  rw [HM3.out] at q1
  obtain ⟨r1, r2⟩ := HRB3.out.put (B := { A with fs := delF A.fs k }) rfl HOK.out HM3.out.symm q1 q2 q3 q5 (HR.out.later HB3.out).noStr rfl
  exact ⟨rfl, ⟨r1.1, ⟨z3, cz3, r1.2, fun y e => (q4 y e).1⟩⟩, (Upd.of_below HB3.out).trans r2⟩
theorem fbox_cells {w : World} {B : Nat} {p : Key × FM} {T : TypeId} {fr : Nat × Nat} {nm bs : ByteArray} {vs : Int} (h : w.heap[B]? = some (.cells #[.string nm, .string bs, .int .i64 vs] T fr)) :
    w.cell? ⟨B, 0, none⟩ = some (.string nm) ∧ w.cell? ⟨B, 1, none⟩ = some (.string bs) ∧ w.cell? ⟨B, 2, none⟩ = some (.int .i64 vs) := by
  refine ⟨?_, ?_, ?_⟩ <;> (simp only [World.cell?, h]; rfl)
set_option maxRecDepth 100000 in
set_option maxHeartbeats 1600000 in
theorem rset_any (bw : Nat) (A : DM) (nm bs : ByteArray) (vs : Int) (f : FM) (w : World) (hbs : bs = ofK f.b) (hvs : vs = (f.s : Nat)) (hs : nm.size ≤ maxLen) (hn : A.fs.length ≤ 1000000) (hok : DM.Ok { A with fs := putF A.fs (keyB nm) f }) (h : RefSt w bw A) :
    Calls Try.prog 50 #[.pointer (some ⟨bw, 0, none⟩), .agg #[.string nm, .string bs, .int .i64 vs]] w fun e w' => e = .returned (.tuple #[]) ∧ RefSt w' bw { A with fs := putF A.fs (keyB nm) f } ∧ Upd (· = bw) w w' := by
  have HPR := Lib.hid (put_rank (keyB nm) f A.fs h.ok.sorted)
  have HLT := Lib.hid (fun hh => lkup_some_rank (k := keyB nm) h.ok.sorted hh)
  have HOK := Lib.hid hok
  have hrl := rank_le (keyB nm) A.fs
  have HBA : Hid (Below w.heap.size w (w.alloc (.cells #[.string nm, .string bs, .int .i64 vs] 75))) := Lib.hid ((Below.refl _ _).alloc (Nat.le_refl _) _)
  have hbox : (w.alloc (.cells #[.string nm, .string bs, .int .i64 vs] 75)).heap[w.heap.size]? = some (.cells #[.string nm, .string bs, .int .i64 vs] 75 (0, 0)) := heap_at _ _
  have HAT := Lib.hid (rat_any bw A nm (w.alloc (.cells #[.string nm, .string bs, .int .i64 vs] 75)) hs hn (h.later HBA.out))
  obtain ⟨wX, hwX⟩ : ∃ wX, w.alloc (.cells #[.string nm, .string bs, .int .i64 vs] 75) = wX := ⟨_, rfl⟩
  have HWX := Lib.hid hwX
  rw [hwX] at HBA HAT hbox
  have HBOX := Lib.hid hbox
  obtain ⟨B, hB⟩ : ∃ B, w.heap.size = B := ⟨_, rfl⟩
  have HBB := Lib.hid hB
  rw [hB] at HBOX
  obtain ⟨x, c, hrb⟩ := h.open
  have HR := Lib.hid h
  have HRB := Lib.hid hrb
  obtain ⟨R, hR⟩ : ∃ R, rank A.fs (keyB nm) = R := ⟨_, rfl⟩
  rw [hR] at HPR HLT HAT hrl
  obtain ⟨is, his⟩ : ∃ is, (lkup A.fs (keyB nm)).isSome = is := ⟨_, rfl⟩
  rw [his] at HPR HLT HAT
  obtain ⟨n, hnn⟩ : ∃ n, A.fs.length = n := ⟨_, rfl⟩
  have HLN := Lib.hid hnn
  rw [hnn] at hn hrl HLT
  have hle := hrb.le
  have hcap := hrb.cap
  rw [hnn] at hle
  obtain ⟨R2, hR2⟩ : ∃ R2, (if is = true then R + 1 else R) = R2 := ⟨_, rfl⟩
  have HR2 := Lib.hid hR2
  have hr2n : R2 ≤ n := by
    have := HLT.out
    subst hR2
    split
    · rename_i e; have := this e; omega
    · exact hrl
  obtain ⟨l1, hl1⟩ : ∃ l1, A.fs.take R = l1 := ⟨_, rfl⟩
  obtain ⟨l2, hl2⟩ : ∃ l2, A.fs.drop R2 = l2 := ⟨_, rfl⟩
  have HT1 : Hid (∀ w', RB w' bw x c A → Fls w' x l1) := Lib.hid (fun w' hh => by rw [← hl1]; exact hh.fls.take R)
  have HT2 : Hid (∀ w', RB w' bw x c A → Fls w' (cutFrom x c R2 3) l2) := Lib.hid (fun w' hh => by rw [← hl2]; exact hh.fls.drop hh.le R2)
  rw [hR2, hl1, hl2] at HPR
  have hcut := cutF_to x n c R (by omega)
  have hcut2 := cutF_from x n c R2 (by omega)
  obtain ⟨xd, hxd⟩ : ∃ xd, cutFrom x c R2 3 = xd := ⟨_, rfl⟩
  rw [hxd] at hcut2 HT2
  clear hxd
  have HL1 : Hid (l1.length = R) := Lib.hid (by rw [← hl1, List.length_take]; omega)
  have HL2 : Hid (n - R2 = l2.length) := Lib.hid (by rw [← hl2, List.length_drop]; omega)
  have HKN : Hid (#[.string nm, .string bs, .int .i64 vs] = (fCells (keyB nm, f)).toArray) := Lib.hid (by simp [fCells, ofK_keyB, hbs, hvs])
  clear h hrb hR hnn his hwX hbox hB hok hbs hvs hR2 hl1 hl2
  unfold maxLen at hcap
  have hcX := fbox_cells (p := (keyB nm, f)) HBOX.out
  go_enter Try.func50, Try.ntmps50
  go_wp2_with fail
  rw [HWX.out, HBB.out]
  obtain ⟨k0, k1, k2⟩ := hcX
  go_wp2_with fail
  refine HAT.out.mono ?_
  rintro _ w1 ⟨rfl, hb1⟩
  have HB1 : Hid (Below w.heap.size w w1) := Lib.hid (HBA.out.trans (hb1.mono HBA.out.size))
  have HBOX1 := Lib.hid (heap_below HBOX.out hb1)
  have HOWN := Lib.hid (ownF_lit w1)
  have HBL : Hid (Below w1.heap.size w1 (w1.alloc (.cells #[] 75))) := Lib.hid ((Below.refl _ _).alloc (Nat.le_refl _) _)
  have HRB1 := Lib.hid (HRB.out.later HB1.out)
  have HRBL := Lib.hid (HRB1.out.later HBL.out)
  have c0 := HRBL.out.cells.1.1
  have c00 := HRB1.out.cells.1.1
  rw [HLN.out] at c0 c00
  clear hb1 k0 k1 k2
  cases is with
  | true =>
    have hR2i : (R : Int) + 1 = (R2 : Int) := by have : R + 1 = R2 := HR2.out; omega
    go_wp2_with (first
      | (at_builtin; refine app_fs _ rfl _ _ rfl (K := w1.heap.size) rfl HOWN.out (m := l1) HL1.out.symm rfl (HT1.out _ HRBL.out) (by simp) (by rw [HL1.out]; omega) (by simp) ?_; intro v2 w2 how2 hb2; rw [List.nil_append] at how2; obtain ⟨z, cz, rfl, q1, q2, q3, q4, q5⟩ := how2.read; rw [HL1.out] at how2 ⊢; have HB2 : Hid (Below w1.heap.size w1 w2) := Lib.hid (HBL.out.trans hb2); have HRB2 := Lib.hid (HRB1.out.later HB2.out); have HBOX2 := Lib.hid (heap_below HBOX1.out HB2.out); obtain ⟨k0, k1, k2⟩ := fbox_cells (p := (keyB nm, f)) HBOX2.out; have HO2 : Hid (OwnF (w2.alloc (.cells #[.string nm, .string bs, .int .i64 vs] 75)) w1.heap.size (.slice z R cz) l1) := Lib.hid (World.ownsRow.alloc how2 _); have HP2 : Hid ((w2.alloc (.cells #[.string nm, .string bs, .int .i64 vs] 75)).heap[w2.heap.size]? = some (.cells (fCells (keyB nm, f)).toArray 75 (0, 0))) := Lib.hid (by rw [← HKN.out]; exact heap_at _ _); have hK2 : w1.heap.size ≤ (w2.alloc (.cells #[.string nm, .string bs, .int .i64 vs] 75)).heap.size := (by have := HB2.out.size; simp; omega); have HB2A : Hid (Below w1.heap.size w1 (w2.alloc (.cells #[.string nm, .string bs, .int .i64 vs] 75))) := Lib.hid (HB2.out.alloc HB2.out.size _); clear how2 hb2 q1 q2 q3 q4 q5 c0 c00)
      | (at_builtin; refine app_f _ rfl _ _ rfl (K := w1.heap.size) rfl HO2.out rfl HP2.out (by rw [HL1.out]; omega) hK2 ?_; intro v3 w3 how3 hb3; obtain ⟨z3, cz3, rfl, q1, q2, q3, q4, q5⟩ := how3.read; have HL3 : Hid ((l1 ++ [(keyB nm, f)]).length = R + 1) := Lib.hid (by simp [HL1.out]); rw [HL3.out] at how3 ⊢; have HO3 := Lib.hid how3; have HB3 : Hid (Below w1.heap.size w1 w3) := Lib.hid (HB2A.out.trans hb3); have HRB3 := Lib.hid (HRB1.out.later HB3.out); have c03 := HRB3.out.cells.1.1; rw [HLN.out] at c03; clear how3 hb3 q1 q2 q3 q4 q5 k0 k1 k2)
      | (at_builtin; refine app_fs _ rfl _ _ rfl (K := w1.heap.size) rfl HO3.out (m := l2) HL2.out rfl (HT2.out _ HRB3.out) (by rw [HL3.out]; omega) (by rw [← HL2.out]; omega) HB3.out.size ?_; intro v4 w4 how4 hb4; obtain ⟨z4, cz4, rfl, q1, q2, q3, q4, q5⟩ := how4.read; have HB4 := Lib.hid (HB3.out.trans hb4); have HRB4 := Lib.hid (HRB1.out.later HB4.out); have c04 := HRB4.out.cells.1.1; have f04 := HRB4.out.cells.2 0; rw [HLN.out] at c04; have HQ := Lib.hid (And.intro q1 (And.intro q2 (And.intro q3 (And.intro q4 q5)))); clear q1 q2 q3 q4 q5 hb4 c03; obtain ⟨m4, hm4⟩ : ∃ m4, (l1 ++ [(keyB nm, f)] ++ l2).length = m4 := ⟨_, rfl⟩; have HM4 := Lib.hid hm4; rw [hm4]; clear hm4 how4))
    go_end0
    have hq := HQ.out
    have e0 : l1 ++ [(keyB nm, f)] ++ l2 = putF A.fs (keyB nm) f := by rw [HPR.out]; simp
    rw [e0] at hq HM4
    obtain ⟨q1, q2, q3, q4, q5⟩ := hq
    rw [HM4.out] at q1
    have hb := HB1.out.trans (HB4.out.mono HB1.out.size)
    obtain ⟨r1, r2⟩ := HRB4.out.put (B := { A with fs := putF A.fs (keyB nm) f }) rfl HOK.out HM4.out.symm q1 q2 q3 q5 (HR.out.later hb).noStr rfl
    exact ⟨rfl, r1.1, (Upd.of_below hb).trans r2⟩
  | false =>
    have hRR : R = R2 := HR2.out
    subst hRR
    go_wp2_with (first
      | (at_builtin; refine app_fs _ rfl _ _ rfl (K := w1.heap.size) rfl HOWN.out (m := l1) HL1.out.symm rfl (HT1.out _ HRBL.out) (by simp) (by rw [HL1.out]; omega) (by simp) ?_; intro v2 w2 how2 hb2; rw [List.nil_append] at how2; obtain ⟨z, cz, rfl, q1, q2, q3, q4, q5⟩ := how2.read; rw [HL1.out] at how2 ⊢; have HB2 : Hid (Below w1.heap.size w1 w2) := Lib.hid (HBL.out.trans hb2); have HRB2 := Lib.hid (HRB1.out.later HB2.out); have HBOX2 := Lib.hid (heap_below HBOX1.out HB2.out); obtain ⟨k0, k1, k2⟩ := fbox_cells (p := (keyB nm, f)) HBOX2.out; have HO2 : Hid (OwnF (w2.alloc (.cells #[.string nm, .string bs, .int .i64 vs] 75)) w1.heap.size (.slice z R cz) l1) := Lib.hid (World.ownsRow.alloc how2 _); have HP2 : Hid ((w2.alloc (.cells #[.string nm, .string bs, .int .i64 vs] 75)).heap[w2.heap.size]? = some (.cells (fCells (keyB nm, f)).toArray 75 (0, 0))) := Lib.hid (by rw [← HKN.out]; exact heap_at _ _); have hK2 : w1.heap.size ≤ (w2.alloc (.cells #[.string nm, .string bs, .int .i64 vs] 75)).heap.size := (by have := HB2.out.size; simp; omega); have HB2A : Hid (Below w1.heap.size w1 (w2.alloc (.cells #[.string nm, .string bs, .int .i64 vs] 75))) := Lib.hid (HB2.out.alloc HB2.out.size _); clear how2 hb2 q1 q2 q3 q4 q5 c0 c00)
      | (at_builtin; refine app_f _ rfl _ _ rfl (K := w1.heap.size) rfl HO2.out rfl HP2.out (by rw [HL1.out]; omega) hK2 ?_; intro v3 w3 how3 hb3; obtain ⟨z3, cz3, rfl, q1, q2, q3, q4, q5⟩ := how3.read; have HL3 : Hid ((l1 ++ [(keyB nm, f)]).length = R + 1) := Lib.hid (by simp [HL1.out]); rw [HL3.out] at how3 ⊢; have HO3 := Lib.hid how3; have HB3 : Hid (Below w1.heap.size w1 w3) := Lib.hid (HB2A.out.trans hb3); have HRB3 := Lib.hid (HRB1.out.later HB3.out); have c03 := HRB3.out.cells.1.1; rw [HLN.out] at c03; clear how3 hb3 q1 q2 q3 q4 q5 k0 k1 k2)
      | (at_builtin; refine app_fs _ rfl _ _ rfl (K := w1.heap.size) rfl HO3.out (m := l2) HL2.out rfl (HT2.out _ HRB3.out) (by rw [HL3.out]; omega) (by rw [← HL2.out]; omega) HB3.out.size ?_; intro v4 w4 how4 hb4; obtain ⟨z4, cz4, rfl, q1, q2, q3, q4, q5⟩ := how4.read; have HB4 := Lib.hid (HB3.out.trans hb4); have HRB4 := Lib.hid (HRB1.out.later HB4.out); have c04 := HRB4.out.cells.1.1; have f04 := HRB4.out.cells.2 0; rw [HLN.out] at c04; have HQ := Lib.hid (And.intro q1 (And.intro q2 (And.intro q3 (And.intro q4 q5)))); clear q1 q2 q3 q4 q5 hb4 c03; obtain ⟨m4, hm4⟩ : ∃ m4, (l1 ++ [(keyB nm, f)] ++ l2).length = m4 := ⟨_, rfl⟩; have HM4 := Lib.hid hm4; rw [hm4]; clear hm4 how4))
    go_end0
    have hq := HQ.out
    have e0 : l1 ++ [(keyB nm, f)] ++ l2 = putF A.fs (keyB nm) f := by rw [HPR.out]; simp
    rw [e0] at hq HM4
    obtain ⟨q1, q2, q3, q4, q5⟩ := hq
    rw [HM4.out] at q1
    have hb := HB1.out.trans (HB4.out.mono HB1.out.size)
    obtain ⟨r1, r2⟩ := HRB4.out.put (B := { A with fs := putF A.fs (keyB nm) f }) rfl HOK.out HM4.out.symm q1 q2 q3 q5 (HR.out.later hb).noStr rfl
    exact ⟨rfl, r1.1, (Upd.of_below hb).trans r2⟩
end Go.Proofs.Ytjojomjnbiakoaa

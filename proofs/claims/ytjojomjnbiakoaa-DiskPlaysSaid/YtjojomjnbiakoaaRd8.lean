/-
  The reference's disk: Crash.
-/
import Derived.Test.YtjojomjnbiakoaaRd7
namespace Go.Proofs.Ytjojomjnbiakoaa
open Go.RowKit Go.Maps
set_option linter.unusedVariables false
theorem fsCells_set (l : List (Key × FM)) (i j : Nat) (h : i < l.length) (hj : j < 3) (v : Value) (p : Key × FM) (hp : ((fCells l[i]).set j v) = fCells p) : (fsCells l).set (i * 3 + j) v = fsCells (l.set i p) := by
  induction l generalizing i with
  | nil => simp at h
  | cons e l ih =>
    cases i with
    | zero =>
      simp only [fsCells, List.flatMap_cons, List.set_cons_zero, List.getElem_cons_zero, Nat.zero_mul, Nat.zero_add] at hp ⊢
      rw [List.set_append_left _ _ (by simp [fCells]; omega), hp]
    | succ i =>
      have h' : i < l.length := by simpa using h
      have := ih i h' (by simpa using hp)
      simp only [fsCells, List.flatMap_cons, List.set_cons_succ] at this ⊢
      rw [List.set_append_right _ _ (by simp [fCells]; omega), ← this]
      congr 1
      congr 1
      simp [fCells]; omega
theorem OwnF.storeS {w : World} {K g n c : Nat} {l : List (Key × FM)} (h : OwnF w K (.slice (some ⟨g, 0, none⟩) n c) l) (i : Nat) (hi : i < l.length) (s : Nat) :
    OwnF (w.setCell ⟨g, i * 3 + 2, none⟩ (.int .i64 (s : Nat))) K (.slice (some ⟨g, 0, none⟩) n c) (l.set i (l[i].1, ⟨l[i].2.b, s⟩)) := by
  have hn : n = l.length := by
    obtain ⟨x, c', e, _⟩ := h.read
    cases e; rfl
  subst hn
  have h1 := (World.ownsRow.stored h (i * 3 + 2) (.int .i64 (s : Nat))).1
  rw [fsCells_set l i 2 hi (by omega) _ (l[i].1, ⟨l[i].2.b, s⟩) rfl] at h1
  show World.ownsRow _ _ _ _ _ (l.set i _).length _
  rw [List.length_set]
  exact h1
theorem OwnF.storeB {w : World} {K g n c : Nat} {l : List (Key × FM)} (h : OwnF w K (.slice (some ⟨g, 0, none⟩) n c) l) (i : Nat) (hi : i < l.length) (b : List UInt8) :
    OwnF (w.setCell ⟨g, i * 3 + 1, none⟩ (.string (ofK b))) K (.slice (some ⟨g, 0, none⟩) n c) (l.set i (l[i].1, ⟨b, l[i].2.s⟩)) := by
  have hn : n = l.length := by
    obtain ⟨x, c', e, _⟩ := h.read
    cases e; rfl
  subst hn
  have h1 := (World.ownsRow.stored h (i * 3 + 1) (.string (ofK b))).1
  rw [fsCells_set l i 1 hi (by omega) _ (l[i].1, ⟨b, l[i].2.s⟩) rfl] at h1
  show World.ownsRow _ _ _ _ _ (l.set i _).length _
  rw [List.length_set]
  exact h1
theorem crashTo_get (keep : List Int) (fs : List (Key × FM)) (i : Nat) (h : i < fs.length) (h2 : i < (crashTo keep fs i).length) : (crashTo keep fs i)[i] = fs[i] := by
  have e : (crashTo keep fs i)[i]? = fs[i]? := by
    unfold crashTo
    rw [List.getElem?_append_right (by rw [List.length_take, crashF_len]; omega), List.length_take, crashF_len, Nat.min_eq_left (by omega), Nat.sub_self, List.getElem?_drop]
    rfl
  rw [List.getElem?_eq_getElem h2, List.getElem?_eq_getElem h] at e
  exact Option.some.inj e
theorem crashTo_set (keep : List Int) (fs : List (Key × FM)) (i : Nat) (h : i < fs.length) : (crashTo keep fs i).set i (fs[i].1, crash1 keep[i]? fs[i].2) = crashTo keep fs (i + 1) := by
  rw [crashTo_succ keep fs i h, crashTo_at keep fs i h]
  rw [List.set_append_right _ _ (by rw [List.length_take, crashF_len]; omega)]
  congr 1
  have : i - (List.take i (crashF keep fs)).length = 0 := by rw [List.length_take, crashF_len]; omega
  rw [this]
  rfl
theorem cut_str (b : List UInt8) (n : Nat) (h : n ≤ b.length) (w : World) : (Instr.slice 9 (.string (ofK b)) none (some (.int .i64 (n : Nat))) none).run Try.prog w = .ok (.string (ofK (b.take n))) w := by
  have hsz : (ofK b).size = b.length := ofK_size b
  have he : (ofK b).extract 0 n = ofK (b.take n) := by
    apply ByteArray.ext
    simp [ofK]
  simp [Instr.slice, run_underlying Try.underlying9, Instr.sliceBounds, Instr.sliceBound, asIntOf, hsz, h, he]
theorem OwnF.later {w w' : World} {K : Nat} {v : Value} {l : List (Key × FM)} (h : OwnF w K v l) (hb : Below w.heap.size w w') : OwnF w' K v l := by
  have hlt := World.ownsRow.lt h
  obtain ⟨h1, h2⟩ := (show World.ownsRow w K 75 3 v l.length (fsCells l) from h)
  refine ⟨h1, ?_⟩
  rcases h2 with h2 | ⟨g, cap, cur, hv', hg, hh, r⟩
  · exact Or.inl h2
  · exact Or.inr ⟨g, cap, cur, hv', hg, by rw [hb.block g (hlt g (by rw [hv']; rfl)).2]; exact hh, r⟩
theorem OwnF.cellsAt {w : World} {K g n c : Nat} {l : List (Key × FM)} (h : OwnF w K (.slice (some ⟨g, 0, none⟩) n c) l) (i : Nat) (hi : i < l.length) :
    w.cell? ⟨g, i * 3, none⟩ = some (.string (ofK l[i].1)) ∧ w.cell? ⟨g, i * 3 + 1, none⟩ = some (.string (ofK l[i].2.b)) ∧ w.cell? ⟨g, i * 3 + 2, none⟩ = some (.int .i64 (l[i].2.s : Nat)) ∧ (∀ j, w.frozen? ⟨g, j, none⟩ = false) := by
  obtain ⟨x, c', e, _, _, hf, _⟩ := h.read
  cases e
  obtain ⟨b, off, e2, k0, k1, k2⟩ := hf i hi
  cases e2
  rw [Nat.zero_add] at k0 k1 k2
  exact ⟨k0, k1, k2, fun j => World.ownsRow.frozenAt h j⟩
set_option maxRecDepth 100000 in
set_option maxHeartbeats 1600000 in
theorem rcrash_any (bw : Nat) (A : DM) (xk : Option Addr) (ck : Nat) (keep : List Int) (w : World) (hn : A.fs.length ≤ 1000000) (hT : tot A.fs ≤ 1099511627776) (hkl : keep.length ≤ maxLen) (hk : Ints w xk keep) (h : RefSt w bw A) :
    Calls Try.prog 41 #[.pointer (some ⟨bw, 0, none⟩), .slice xk keep.length ck] w fun e w' => e = .returned (.tuple #[]) ∧ RefSt w' bw (A.crash keep) ∧ Upd (· = bw) w w' := by
  have HOC := Lib.hid (h.ok.crash keep)
  have HTL : Hid (∀ (i : Nat) (hi : i < A.fs.length), A.fs[i].2.s ≤ A.fs[i].2.b.length ∧ A.fs[i].2.b.length ≤ 1099511627776) := Lib.hid (fun i hi => by
    have hm := List.getElem_mem hi
    exact ⟨h.ok.safe _ hm, Nat.le_trans (old_le (mem_lkup h.ok.sorted hm)) hT⟩)
  have HK := Lib.hid hk
  have HR := Lib.hid h
  obtain ⟨x, c, hrb⟩ := h.open
  have HRB := Lib.hid hrb
  have HOWN := Lib.hid (ownF_lit w)
  have HBA : Hid (Below w.heap.size w (w.alloc (.cells #[] 75))) := Lib.hid ((Below.refl _ _).alloc (Nat.le_refl _) _)
  have HRBA := Lib.hid (hrb.later HBA.out)
  have c0 := hrb.cells.1.1
  have c0A := HRBA.out.cells.1.1
  have HFS : Hid (Fls (w.alloc (.cells #[] 75)) x A.fs) := Lib.hid HRBA.out.fls
  obtain ⟨kn, hkn⟩ : ∃ kn, keep.length = kn := ⟨_, rfl⟩
  have HKN := Lib.hid hkn
  rw [hkn] at hkl ⊢
  obtain ⟨n, hnn⟩ : ∃ n, A.fs.length = n := ⟨_, rfl⟩
  have HN := Lib.hid hnn
  rw [hnn] at hn c0 c0A
  unfold maxLen at hkl
  clear hk h hrb hkn hnn
  go_enter Try.func41, Try.ntmps41
  go_wp2_with (at_builtin; refine app_fs _ rfl _ _ rfl (K := w.heap.size) rfl HOWN.out (m := A.fs) HN.out.symm rfl HFS.out (by simp) (by rw [HN.out]; omega) (by simp) ?_; intro v2 w2 how2 hb2; rw [List.nil_append] at how2; obtain ⟨z, cz, rfl, q1, q2, q3, q4, q5⟩ := how2.read; rw [HN.out] at how2 ⊢; have HO2 := Lib.hid how2; have HB2 := Lib.hid (HBA.out.trans hb2); clear how2 hb2 q1 q2 q3 q4 q5 c0 c0A)
  go_loopw [5] (fun iv wr => ∃ i : Nat, i ≤ n ∧ iv = .int .i64 i ∧ Hid (OwnF wr w.heap.size (.slice z n cz) (crashTo keep A.fs i)) ∧ Hid (Below w.heap.size w wr)) (fun iv _ => n - (intOf iv).toNat)
  case atStart => exact ⟨0, by omega, rfl, Lib.hid (by rw [crashTo_zero]; exact HO2.out), HB2⟩
  case round =>
    obtain ⟨i, hi, rfl, HO, HW⟩ := hrel
    obtain ⟨wA, rfl⟩ : ∃ wA, wA = wr := ⟨_, rfl⟩
    by_cases hlt : i < n
    · have hil : i < A.fs.length := by rw [HN.out]; exact hlt
      have hlc : i < (crashTo keep A.fs i).length := by rw [crashTo_len]; exact hil
      have hin : (i : Int) < (n : Int) := by omega
      have hi0 : (0 : Int) ≤ (i : Int) := by omega
      obtain ⟨g, cap, hsh⟩ := owns_shape HO.out (by rw [crashTo_len]; omega)
      simp only [Value.slice.injEq] at hsh
      obtain ⟨rfl, hcl, rfl⟩ := hsh
      clear hcl
      obtain ⟨k0, k1, k2, kf⟩ := HO.out.cellsAt i hlc
      rw [crashTo_get keep A.fs i hil hlc] at k0 k1 k2
      have hK : w.heap.size ≤ g := (HO.out.lt g rfl).1
      obtain ⟨t1, t2⟩ := HTL.out i hil
      have HMS := Lib.hid (crashTo_set keep A.fs i hil)
      have HGE := Lib.hid (crashTo_get keep A.fs i hil hlc)
      generalize A.fs[i] = p at *
      obtain ⟨pk, fm⟩ := p
      simp only at k0 k1 k2 t1 t2
      have hml := more_le keep[i]? fm t1
      obtain ⟨mm, hmm⟩ : ∃ mm, more keep[i]? fm = mm := ⟨_, rfl⟩
      have HMM := Lib.hid hmm
      rw [hmm] at hml
      obtain ⟨ns, hns, hnsi⟩ : ∃ ns : Nat, fm.s + mm = ns ∧ (fm.s : Int) + (mm : Int) = (ns : Int) := ⟨_, rfl, by omega⟩
      rw [hns] at hml
      have HC1 : Hid (crash1 keep[i]? fm = ⟨fm.b.take ns, ns⟩) := Lib.hid (by unfold crash1; rw [hmm, hns])
      have hcs := cut_str fm.b ns hml
      have hsz : ((ofK fm.b).size : Int) = (fm.b.length : Int) := by rw [ofK_size]
      have HFO1 := Lib.hid (HO.out.storeS i hlc ns)
      obtain ⟨sb, hsb⟩ : ∃ sb, ofK fm.b = sb := ⟨_, rfl⟩
      have HSB := Lib.hid hsb
      rw [hsb] at k1 hcs hsz
      have HB1 : Hid (Below w.heap.size w (wA.setCell ⟨g, i * 3 + 2, none⟩ (.int .i64 (ns : Nat)))) := Lib.hid (bset HW.out g _ _ hK)
      have kf1 := kf (i * 3 + 1)
      have kf2 := kf (i * 3 + 2)
      by_cases hik : i < keep.length
      · have hik' : (i : Int) < (kn : Int) := by have := HKN.out; omega
        obtain ⟨bk, ok, rfl, hck, hkz⟩ := (HK.out.upd (S := fun _ => False) (Upd.of_below HW.out) (fun _ _ q => q)) i hik
        have HMV : Hid (max 0 (min keep[i] ((fm.b.length : Int) - (fm.s : Int))) = (mm : Int)) := Lib.hid (by
          have := HMM.out
          simp only [more, List.getElem?_eq_getElem hik] at this
          omega)
        generalize keep[i] = kz at *
        have hmv := HMV.out
        clear hmm hns hsb kf
        go_upto_region 6 with (fail)
        go_cut [6] (fun mv wx => mv = .int .i64 (mm : Nat) ∧ Hid (Below wA.heap.size wA wx))
        case first =>
          go_region
          go_wp2
          go_meet
          case rel => exact ⟨rfl, Lib.hid (Below.refl _ _).drew⟩
        case rest =>
          obtain ⟨rfl, HX⟩ := hcut
          clear k0 k1 k2 kf1 kf2 hck hmv hkz HFO1 HB1
          have HOW := Lib.hid (HO.out.later HX.out)
          have HWW : Hid (Below w.heap.size w wc) := Lib.hid (HW.out.trans (HX.out.mono HW.out.size))
          obtain ⟨k0, k1, k2, kf⟩ := HOW.out.cellsAt i hlc
          rw [HGE.out] at k0 k1 k2
          simp only at k0 k1 k2
          rw [HSB.out] at k1
          have kf2 := kf (i * 3 + 2)
          have HO7 := Lib.hid (HOW.out.storeS i hlc ns)
          have HB7 : Hid (Below w.heap.size w (wc.setCell ⟨g, i * 3 + 2, none⟩ (.int .i64 (ns : Nat)))) := Lib.hid (bset HWW.out g _ _ hK)
          rw [HGE.out] at HO7
          simp only at HO7
          clear kf
          go_upto_region 8 with (fail)
          obtain ⟨w7, hw7⟩ : ∃ w7, wc.setCell ⟨g, i * 3 + 2, none⟩ (.int .i64 (ns : Nat)) = w7 := ⟨_, rfl⟩
          rw [hw7] at HO7 HB7 ⊢
          clear k0 k1 k2 kf2 hw7
          obtain ⟨k0, k1, k2, kf⟩ := HO7.out.cellsAt i (by rw [List.length_set]; exact hlc)
          simp only [List.getElem_set_self] at k0 k1 k2
          rw [HSB.out] at k1
          have kf1 := kf (i * 3 + 1)
          have HO8 := Lib.hid (World.ownsRow.drew (HO7.out.storeB i (by rw [List.length_set]; exact hlc) (fm.b.take ns)))
          clear kf k0
          go_still_tail 13, (by kernel_rfl)
          change wpList _ _ _ _ _ w7.drew
          go_wp2
          refine ⟨⟨i + 1, by omega, by go_num, Lib.hid ?_, Lib.hid (bset HB7.out.drew g _ _ hK)⟩, by simp [intOf]; omega⟩
          have h8 := World.ownsRow.drew (HO7.out)
          have h9 := OwnF.storeB (show OwnF w7.drew w.heap.size (.slice (some ⟨g, 0, none⟩) n cz) _ from h8) i (by rw [List.length_set]; exact hlc) (fm.b.take ns)
          simp only [List.getElem_set_self, List.set_set] at h9
          rw [← HMS.out, HC1.out]
          exact h9
      · have hik' : ¬ (i : Int) < (kn : Int) := by have := HKN.out; omega
        obtain rfl : mm = 0 := by rw [← hmm]; simp [more, List.getElem?_eq_none (Nat.le_of_not_lt hik)]
        have hnsi : (fm.s : Int) = (ns : Int) := by omega
        clear k0 k1 k2 kf1 kf2 HFO1 HB1 hmm hns hsb kf
        have HOW := HO
        have HWW := HW
        obtain ⟨k0, k1, k2, kf⟩ := HOW.out.cellsAt i hlc
        rw [HGE.out] at k0 k1 k2
        simp only at k0 k1 k2
        rw [HSB.out] at k1
        have kf2 := kf (i * 3 + 2)
        have HO7 := Lib.hid (HOW.out.storeS i hlc ns)
        have HB7 : Hid (Below w.heap.size w (wA.setCell ⟨g, i * 3 + 2, none⟩ (.int .i64 (ns : Nat)))) := Lib.hid (bset HWW.out g _ _ hK)
        rw [HGE.out] at HO7
        simp only at HO7
        clear kf
        go_upto_region 8 with (fail)
        obtain ⟨w7, hw7⟩ : ∃ w7, wA.setCell ⟨g, i * 3 + 2, none⟩ (.int .i64 (ns : Nat)) = w7 := ⟨_, rfl⟩
        rw [hw7] at HO7 HB7 ⊢
        clear k0 k1 k2 kf2 hw7
        obtain ⟨k0, k1, k2, kf⟩ := HO7.out.cellsAt i (by rw [List.length_set]; exact hlc)
        simp only [List.getElem_set_self] at k0 k1 k2
        rw [HSB.out] at k1
        have kf1 := kf (i * 3 + 1)
        have HO8 := Lib.hid (World.ownsRow.drew (HO7.out.storeB i (by rw [List.length_set]; exact hlc) (fm.b.take ns)))
        clear kf k0
        go_still_tail 13, (by kernel_rfl)
        change wpList _ _ _ _ _ w7.drew
        go_wp2
        refine ⟨⟨i + 1, by omega, by go_num, Lib.hid ?_, Lib.hid (bset HB7.out.drew g _ _ hK)⟩, by simp [intOf]; omega⟩
        have h8 := World.ownsRow.drew (HO7.out)
        have h9 := OwnF.storeB (show OwnF w7.drew w.heap.size (.slice (some ⟨g, 0, none⟩) n cz) _ from h8) i (by rw [List.length_set]; exact hlc) (fm.b.take ns)
        simp only [List.getElem_set_self, List.set_set] at h9
        rw [← HMS.out, HC1.out]
        exact h9
    · obtain rfl : i = n := by omega
      have i3 : ¬ (i : Int) < (i : Int) := by omega
      have HE : Hid (crashTo keep A.fs i = crashF keep A.fs) := Lib.hid (by rw [← HN.out]; exact crashTo_all keep A.fs)
      rw [HE.out] at HO
      have HRW := Lib.hid (HRB.out.later HW.out)
      obtain ⟨⟨c0, c1, c2, c3, c4⟩, hf⟩ := HRW.out.cells
      have f0 := hf 0
      have f2 := hf 2
      have f3 := hf 3
      have hlk : i = (crashF keep A.fs).length := by rw [crashF_len, HN.out]
      have HLK := Lib.hid hlk
      clear hf hlk
      go_wp2
      go_end0
      have hu : Upd (· = bw) wA (((wA.setCell ⟨bw, 0, none⟩ (.slice z i cz)).setCell ⟨bw, 2, none⟩ (.bool false)).setCell ⟨bw, 3, none⟩ (.int .i64 (-1))) := ((Upd.setCell (S := (· = bw)) _ _ _ rfl).trans (Upd.setCell (S := (· = bw)) _ _ _ rfl)).trans (Upd.setCell (S := (· = bw)) _ _ _ rfl)
      obtain ⟨z', cz', e', q1, q2, q3, q4, q5⟩ := HO.out.read
      simp only [Value.slice.injEq] at e'
      obtain ⟨rfl, _, rfl⟩ := e'
      refine ⟨rfl, RefSt.set HOC.out (x := z) (c := cz) q1 q2 (q3.upd hu (fun b e => by subst e; exact (HR.out.later HW.out).noStr)) q5 ?_, (Upd.of_below HW.out).trans hu⟩
      rw [heap_setCell_same _ _ _ _ _ _ (heap_setCell_same _ _ _ _ _ _ (heap_setCell_same _ _ _ _ _ _ HRW.out.box))]
      have e2 : (A.crash keep).fs.length = i := HLK.out.symm
      rw [e2]
      simp [refCells, DM.crash]
end Go.Proofs.Ytjojomjnbiakoaa

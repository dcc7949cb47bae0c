/-
  The reference's disk: Rename.
-/
import Derived.Test.YtjojomjnbiakoaaRd6
namespace Go.Proofs.Ytjojomjnbiakoaa
open Go.RowKit Go.Maps
set_option linter.unusedVariables false
theorem rdr1 {A : DM} {s t : ByteArray} (h : (goodB s && goodB t) = false) : A.ready (keyB s) true [keyB t] = (A, 1) := by
  unfold DM.ready
  rw [if_neg]
  intro e
  simp only [List.all_cons, List.all_nil, Bool.and_true] at e
  rw [show (good (keyB s) && good (keyB t)) = false from h] at e
  cases e
theorem rdrg {s t : ByteArray} (h : (goodB s && goodB t) = true) : (good (keyB s) && [keyB t].all good) = true := by
  simp only [List.all_cons, List.all_nil, Bool.and_true]
  exact h
theorem rdr2 {A : DM} {s t : ByteArray} (h : (goodB s && goodB t) = true) (hd : A.blow.dead = true) : A.ready (keyB s) true [keyB t] = (A.blow, 140) := by
  unfold DM.ready
  rw [if_pos (rdrg h), if_pos hd]
theorem rdr3 {A : DM} {s t : ByteArray} (h : (goodB s && goodB t) = true) (hd : A.blow.dead = false) (hi : (lkup A.blow.fs (keyB s)).isSome = false) : A.ready (keyB s) true [keyB t] = (A.blow, 2) := by
  unfold DM.ready
  rw [if_pos (rdrg h), if_neg (by rw [hd]; simp), if_pos (by
    cases hh : lkup A.blow.fs (keyB s) with
    | none => rfl
    | some f => rw [hh] at hi; cases hi)]
theorem rdr4 {A : DM} {s t : ByteArray} (h : (goodB s && goodB t) = true) (hd : A.blow.dead = false) (hi : (lkup A.blow.fs (keyB s)).isSome = true) : A.ready (keyB s) true [keyB t] = (A.blow, 0) := by
  unfold DM.ready
  rw [if_pos (rdrg h), if_neg (by rw [hd]; simp), if_neg (by
    cases hh : lkup A.blow.fs (keyB s) with
    | none => rw [hh] at hi; cases hi
    | some f => simp)]
theorem Upd.setNew {S : Nat → Prop} {w w' : World} (h : Upd S w w') (b o : Nat) (v : Value) (hb : w.heap.size ≤ b) : Upd S w (w'.setCell ⟨b, o, none⟩ v) :=
  ⟨h.os, h.tape, h.output, by simpa using h.size, fun k hk hs => (Below.heap_setCell _ _ _ _ (by show k ≠ b; omega)).trans (h.block k hk hs)⟩
theorem RFresh.at {w w3 w4 : World} {bw Bx : Nat} {C : DM} (h : RFresh w w3 bw C) (ho : C.Ok) (hu : Upd (· = Bx) w3 w4) (hB : Bx < w.heap.size) (hne : bw ≠ Bx) : RefSt w4 bw C := by
  obtain ⟨x, c, hr, hf⟩ := h
  refine ⟨⟨x, c, hu.heap hne hr.box, hr.le, hr.cap, fun i hi => ?_, hr.nil⟩, ho⟩
  obtain ⟨b, off, e, h0, h1, h2⟩ := hr.fls i hi
  have hb : ¬ b = Bx := by have := hf _ e; show ¬ b = Bx; intro q; subst q; exact absurd hB (by simpa using this)
  exact ⟨b, off, e, hu.cell hb h0, hu.cell hb h1, hu.cell hb h2⟩
set_option maxRecDepth 100000 in
set_option maxHeartbeats 1600000 in
theorem rrename_any (bw : Nat) (A : DM) (s t : ByteArray) (N T : Nat) (w : World) (hs : s.size ≤ maxLen) (ht : t.size ≤ maxLen) (hN : N ≤ 1000000) (hL : A.Lim N T) (h : RefSt w bw A) :
    Calls Try.prog 38 #[.pointer (some ⟨bw, 0, none⟩), .string s, .string t] w fun e w' => e = .returned (.int .i64 (A.rename (keyB s) (keyB t)).2) ∧ RefSt w' bw (A.rename (keyB s) (keyB t)).1 ∧ Upd (· = bw) w w' := by
  have HR := Lib.hid h
  have HG := Lib.hid (fun w => rgood_any s w hs)
  have HGT := Lib.hid (fun w => rgood_any t w ht)
  have HOF := Lib.hid (roff_any bw A w h)
  have HOK := Lib.hid h.ok.blow
  have HL := Lib.hid hL.blow
  clear h hL
  cases hg : goodB s with
  | false =>
    have HE : Hid (A.rename (keyB s) (keyB t) = (A, 1)) := Lib.hid (by unfold DM.rename; simp [rdr1 (s := s) (t := t) (by rw [hg]; rfl)])
    rw [hg] at HG
    rw [HE.out]
    clear hg HE
    go_enter Try.func38, Try.ntmps38
    go_wp2_with fail
    refine (HG.out _).mono ?_
    rintro _ w ⟨rfl, rfl⟩
    go_wp2
    go_ret
    exact ⟨rfl, HR.out, Upd.refl _ _⟩
  | true =>
    cases hgt : goodB t with
    | false =>
      have HE : Hid (A.rename (keyB s) (keyB t) = (A, 1)) := Lib.hid (by unfold DM.rename; simp [rdr1 (s := s) (t := t) (by rw [hg, hgt]; rfl)])
      rw [hg] at HG
      rw [hgt] at HGT
      rw [HE.out]
      clear hg hgt HE
      go_enter Try.func38, Try.ntmps38
      go_wp2_with fail
      refine (HG.out _).mono ?_
      rintro _ w ⟨rfl, rfl⟩
      go_wp2_with fail
      refine (HGT.out _).mono ?_
      rintro _ w ⟨rfl, rfl⟩
      go_wp2
      go_ret
      exact ⟨rfl, HR.out, Upd.refl _ _⟩
    | true =>
      have hgg : (goodB s && goodB t) = true := by rw [hg, hgt]; rfl
      have HGK := Lib.hid (goodK hgt)
      rw [hg] at HG
      rw [hgt] at HGT
      clear hg hgt
      cases hd : A.blow.dead with
      | true =>
        have HE : Hid (A.rename (keyB s) (keyB t) = (A.blow, 140)) := Lib.hid (by unfold DM.rename; simp [rdr2 hgg hd])
        rw [HE.out]
        rw [hd] at HOF
        clear hgg hd HE
        go_enter Try.func38, Try.ntmps38
        go_wp2_with fail
        refine (HG.out _).mono ?_
        rintro _ w ⟨rfl, rfl⟩
        go_wp2_with fail
        refine (HGT.out _).mono ?_
        rintro _ w ⟨rfl, rfl⟩
        go_wp2_with fail
        refine HOF.out.mono ?_
        rintro _ w1 ⟨rfl, hr1, hu1⟩
        have HH := Lib.hid (And.intro hr1 hu1)
        clear hr1 hu1
        go_wp2
        go_ret
        exact ⟨rfl, HH.out.1, HH.out.2⟩
      | false =>
        cases hi : (lkup A.blow.fs (keyB s)).isSome with
        | false =>
          have HE : Hid (A.rename (keyB s) (keyB t) = (A.blow, 2)) := Lib.hid (by unfold DM.rename; simp [rdr3 hgg hd hi])
          rw [HE.out]
          rw [hd] at HOF
          have HI := Lib.hid hi
          clear hgg hd HE hi
          generalize A.blow = B at *
          go_enter Try.func38, Try.ntmps38
          go_wp2_with fail
          refine (HG.out _).mono ?_
          rintro _ w ⟨rfl, rfl⟩
          go_wp2_with fail
          refine (HGT.out _).mono ?_
          rintro _ w ⟨rfl, rfl⟩
          go_wp2_with fail
          refine HOF.out.mono ?_
          rintro _ w1 ⟨rfl, hr1, hu1⟩
          have HR1 := Lib.hid hr1
          have HU1 := Lib.hid hu1
          clear hr1 hu1
          go_wp2_with fail
          refine (rat_any bw B s w1 hs (by have := HL.out.len; omega) HR1.out).mono ?_
          rw [HI.out]
          rintro _ w2 ⟨rfl, hb2⟩
          have HH := Lib.hid (And.intro (HR1.out.later hb2) (HU1.out.trans (Upd.of_below hb2)))
          clear hb2
          go_wp2
          go_ret
          exact ⟨rfl, HH.out.1, HH.out.2⟩
        | true =>
          obtain ⟨f, hf⟩ : ∃ f, A.blow.get (keyB s) = f := ⟨_, rfl⟩
          have HFG := Lib.hid hf
          have HE : Hid (A.rename (keyB s) (keyB t) = (DM.did { A.blow with fs := putF (delF A.blow.fs (keyB s)) (keyB t) f }, 0)) := Lib.hid (by unfold DM.rename; simp [rdr4 hgg hd hi, hf])
          rw [HE.out]
          rw [hd] at HOF
          have HI := Lib.hid hi
          clear hgg hd HE hi hf
          generalize A.blow = B at *
          go_enter Try.func38, Try.ntmps38
          go_wp2_with fail
          refine (HG.out _).mono ?_
          rintro _ w ⟨rfl, rfl⟩
          go_wp2_with fail
          refine (HGT.out _).mono ?_
          rintro _ w ⟨rfl, rfl⟩
          go_wp2_with fail
          refine HOF.out.mono ?_
          rintro _ w1 ⟨rfl, hr1, hu1⟩
          have HR1 := Lib.hid hr1
          have HU1 := Lib.hid hu1
          clear hr1 hu1
          go_wp2_with fail
          refine (rat_any bw B s w1 hs (by have := HL.out.len; omega) HR1.out).mono ?_
          rw [HI.out]
          rintro _ w2 ⟨rfl, hb2⟩
          have HR2 := Lib.hid (HR1.out.later hb2)
          have HU2 : Hid (Upd (· = bw) w w2) := Lib.hid (HU1.out.trans (Upd.of_below hb2))
          obtain ⟨x, c, hrb⟩ := HR2.out.open
          have c0 := hrb.cells.1.1
          obtain ⟨b, off, rfl, hlt, k0, k1, k2⟩ := hrb.at HOK.out.sorted HI.out
          have hlen := HL.out.len
          have HDK : Hid (DM.Ok { B with fs := delF B.fs (keyB s) }) := Lib.hid (HOK.out.delF _)
          have HPK : Hid (DM.Ok { B with fs := putF (delF B.fs (keyB s)) (keyB t) f }) := Lib.hid (HDK.out.putF HGK.out (by have := HOK.out.get (keyB s); rw [HFG.out] at this; exact this))
          rw [HFG.out] at k1 k2
          obtain ⟨fb, hfb⟩ : ∃ fb, ofK f.b = fb := ⟨_, rfl⟩
          have HFB := Lib.hid hfb
          rw [hfb] at k1
          obtain ⟨wB, hwB⟩ : ∃ wB, w2.alloc (.cells #[.string s, .string fb, .int .i64 (f.s : Nat)] 75) = wB := ⟨_, rfl⟩
          have HWB := Lib.hid hwB
          obtain ⟨Bx, hBx⟩ : ∃ Bx, w2.heap.size = Bx := ⟨_, rfl⟩
          have HBXN := Lib.hid hBx
          have HBA : Hid (Below w2.heap.size w2 wB) := Lib.hid (by rw [← hwB]; exact (Below.refl _ _).alloc (Nat.le_refl _) _)
          have HBX : Hid (wB.heap[Bx]? = some (.cells #[.string s, .string fb, .int .i64 (f.s : Nat)] 75 (0, 0))) := Lib.hid (by rw [← hwB, ← hBx]; exact heap_at _ _)
          have HDP := Lib.hid (rdrop_any bw B (keyB s) wB (by omega) HI.out (HR2.out.later HBA.out))
          obtain ⟨R, hR⟩ : ∃ R, rank B.fs (keyB s) = R := ⟨_, rfl⟩
          obtain ⟨n, hnn⟩ : ∃ n, B.fs.length = n := ⟨_, rfl⟩
          have HLN := Lib.hid hnn
          have HDL : Hid ((delF B.fs (keyB s)).length ≤ n) := Lib.hid (by rw [← hnn]; exact List.length_filter_le _ _)
          rw [hR] at k0 k1 k2 hlt HDP ⊢
          rw [hnn] at hlt c0 hlen
          have h1 : (R : Int) < (n : Int) := by omega
          have h0 : (0 : Int) ≤ (R : Int) := by omega
          clear hb2 hrb hfb hR hnn hwB hBx
          go_wp2_with fail
          rw [HWB.out, HBXN.out]
          refine HDP.out.mono ?_
          rintro _ w3 ⟨rfl, ⟨_, hf3⟩, hu3⟩
          have HF3 := Lib.hid hf3
          have HNB : Hid (bw ≠ Bx) := Lib.hid (by have := HR2.out.lt; have := HBXN.out; omega)
          have HBX3 : Hid (w3.heap[Bx]? = some (.cells #[.string s, .string fb, .int .i64 (f.s : Nat)] 75 (0, 0))) := Lib.hid (hu3.heap (fun e => HNB.out e.symm) HBX.out)
          have HBS : Hid (Bx < wB.heap.size) := Lib.hid (heap_lt HBX.out)
          have HU3 : Hid (Upd (· = bw) w2 w3) := Lib.hid ((Upd.of_below HBA.out).trans hu3)
          obtain ⟨⟨z0, z1, z2⟩, zf⟩ := box_cells HBX3.out
          have zf0 := zf 0
          clear hf3 hu3 c0 k0 k1 k2 zf
          go_wp2_with fail
          have HU4 : Hid (Upd (· = bw) w2 (w3.setCell ⟨Bx, 0, none⟩ (.string t))) := Lib.hid (HU3.out.setNew Bx _ _ (by have := HBXN.out; omega))
          refine (rset_any bw { B with fs := delF B.fs (keyB s) } _ _ _ f _ HFB.out.symm rfl ht (by have := HDL.out; show (delF B.fs (keyB s)).length ≤ _; omega) HPK.out (HF3.out.at HDK.out (Upd.setCell (S := (· = Bx)) _ _ _ rfl) HBS.out HNB.out)).mono ?_
          rintro _ w6 ⟨rfl, hr6, hu6⟩
          have HU6 : Hid (Upd (· = bw) w w6) := Lib.hid ((HU2.out.trans HU4.out).trans hu6)
          have HDN := Lib.hid (rdone_any bw _ w6 (by have := HL.out.done; show B.done ≤ _; omega) hr6)
          clear hr6 hu6 z0 z1 z2 zf0
          go_wp2_with fail
          refine HDN.out.mono ?_
          rintro _ w7 ⟨rfl, hr7, hu7⟩
          have HH := Lib.hid (And.intro hr7 (HU6.out.trans hu7))
          clear hr7 hu7
          go_wp2
          go_ret
          exact ⟨rfl, HH.out.1, HH.out.2⟩
end Go.Proofs.Ytjojomjnbiakoaa

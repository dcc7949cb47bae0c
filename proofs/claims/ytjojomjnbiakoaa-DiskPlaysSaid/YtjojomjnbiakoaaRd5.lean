/-
  The reference's disk: Sync, Append, Put, Cut, Rename.
-/
import Derived.Test.YtjojomjnbiakoaaRd4
namespace Go.Proofs.Ytjojomjnbiakoaa
open Go.RowKit Go.Maps
set_option linter.unusedVariables false
theorem Upd.of_new {w w' : World} {S : Nat → Prop} (h : Below w.heap.size w w') : Upd S w w' := Upd.of_below h
/-- The local file. -/
theorem box3 (w : World) (a b c : Value) : (w.alloc (.cells #[a, b, c] 75)).heap[w.heap.size]? = some (.cells #[a, b, c] 75 (0, 0)) := heap_at _ _
set_option maxRecDepth 100000 in
set_option maxHeartbeats 800000 in
theorem rsync_any (bw : Nat) (A : DM) (s : ByteArray) (N T : Nat) (w : World) (hs : s.size ≤ maxLen) (hN : N ≤ 1000000) (hL : A.Lim N T) (h : RefSt w bw A) :
    Calls Try.prog 37 #[.pointer (some ⟨bw, 0, none⟩), .string s] w fun e w' => e = .returned (.int .i64 (A.sync (keyB s)).2) ∧ RefSt w' bw (A.sync (keyB s)).1 ∧ Upd (· = bw) w w' := by
  have HR := Lib.hid h
  have HG := Lib.hid (rgood_any s w hs)
  have HOF := Lib.hid (roff_any bw A w h)
  have HOK := Lib.hid h.ok.blow
  have HL := Lib.hid hL.blow
  clear h hL
  cases hg : goodB s with
  | false =>
    have HE : Hid (A.sync (keyB s) = (A, 1)) := Lib.hid (by unfold DM.sync; simp [rdy1 hg])
    rw [hg] at HG
    rw [HE.out]
    clear hg HE
    go_enter Try.func37, Try.ntmps37
    go_wp2_with fail
    refine HG.out.mono ?_
    rintro _ w ⟨rfl, rfl⟩
    go_wp2
    go_ret
    exact ⟨rfl, HR.out, Upd.refl _ _⟩
  | true =>
    rw [hg] at HG
    cases hd : A.blow.dead with
    | true =>
      have HE : Hid (A.sync (keyB s) = (A.blow, 140)) := Lib.hid (by unfold DM.sync; simp [rdy2 hg hd])
      rw [HE.out]
      rw [hd] at HOF
      clear hg hd HE
      go_enter Try.func37, Try.ntmps37
      go_wp2_with fail
      refine HG.out.mono ?_
      rintro _ w ⟨rfl, rfl⟩
      go_wp2_with fail
      refine HOF.out.mono ?_
      rintro _ w1 ⟨rfl, hr1, hu1⟩
      have HH := Lib.hid (And.intro hr1 hu1)
      clear hr1 hu1
      go_wp2
      go_ret
      exact ⟨rfl, HH.out.1, HH.out.2⟩
    | false =>
      cases hi : (lkup A.blow.fs (keyB s)).isSome with
      | false =>
        have HE : Hid (A.sync (keyB s) = (A.blow, 2)) := Lib.hid (by unfold DM.sync; simp [rdy3 hg hd hi])
        rw [HE.out]
        rw [hd] at HOF
        have HI := Lib.hid hi
        clear hg hd HE hi
        generalize A.blow = B at *
        go_enter Try.func37, Try.ntmps37
        go_wp2_with fail
        refine HG.out.mono ?_
        rintro _ w ⟨rfl, rfl⟩
        go_wp2_with fail
        refine HOF.out.mono ?_
        rintro _ w1 ⟨rfl, hr1, hu1⟩
        have HR1 := Lib.hid hr1
        have HU1 := Lib.hid hu1
        clear hr1 hu1
        go_wp2_with fail
        refine (rat_any bw B s w1 hs (by have := HL.out.len; omega) HR1.out).mono ?_
        rw [HI.out]
        rintro _ w2 ⟨rfl, hb2⟩
        have HH := Lib.hid (And.intro (HR1.out.later hb2) (HU1.out.trans (Upd.of_below hb2)))
        clear hb2
        go_wp2
        go_ret
        exact ⟨rfl, HH.out.1, HH.out.2⟩
      | true =>
        have HE : Hid (A.sync (keyB s) = (DM.did { A.blow with fs := putF A.blow.fs (keyB s) ⟨(A.blow.get (keyB s)).b, (A.blow.get (keyB s)).b.length⟩ }, 0)) := Lib.hid (by unfold DM.sync; simp [rdy4 hg hd hi])
        obtain ⟨f, hf⟩ : ∃ f, A.blow.get (keyB s) = f := ⟨_, rfl⟩
        have HFG := Lib.hid hf
        rw [HE.out, hf]
        rw [hd] at HOF
        have HI := Lib.hid hi
        have HGK := Lib.hid (goodK hg)
        clear hg hd HE hi hf
        generalize A.blow = B at *
        go_enter Try.func37, Try.ntmps37
        go_wp2_with fail
        refine HG.out.mono ?_
        rintro _ w ⟨rfl, rfl⟩
        go_wp2_with fail
        refine HOF.out.mono ?_
        rintro _ w1 ⟨rfl, hr1, hu1⟩
        have HR1 := Lib.hid hr1
        have HU1 := Lib.hid hu1
        clear hr1 hu1
        go_wp2_with fail
        refine (rat_any bw B s w1 hs (by have := HL.out.len; omega) HR1.out).mono ?_
        rw [HI.out]
        rintro _ w2 ⟨rfl, hb2⟩
        have HR2 := Lib.hid (HR1.out.later hb2)
        have HU2 : Hid (Upd (· = bw) w w2) := Lib.hid (HU1.out.trans (Upd.of_below hb2))
        obtain ⟨x, c, hrb⟩ := HR2.out.open
        have c0 := hrb.cells.1.1
        obtain ⟨b, off, rfl, hlt, k0, k1, k2⟩ := hrb.at HOK.out.sorted HI.out
        have hlen := HL.out.len
        have HPK : Hid (DM.Ok { B with fs := putF B.fs (keyB s) ⟨f.b, f.b.length⟩ }) := Lib.hid (HOK.out.putF HGK.out (Nat.le_refl _))
        rw [HFG.out] at k1 k2
        obtain ⟨fb, hfb⟩ : ∃ fb, ofK f.b = fb := ⟨_, rfl⟩
        have HFB := Lib.hid hfb
        have hsz : fb.size = f.b.length := by rw [← hfb]; exact ofK_size _
        rw [hfb] at k1
        obtain ⟨R, hR⟩ : ∃ R, rank B.fs (keyB s) = R := ⟨_, rfl⟩
        obtain ⟨n, hnn⟩ : ∃ n, B.fs.length = n := ⟨_, rfl⟩
        have HLN := Lib.hid hnn
        rw [hR] at k0 k1 k2 hlt ⊢
        rw [hnn] at hlt c0 hlen
        have h1 : (R : Int) < (n : Int) := by omega
        have h0 : (0 : Int) ≤ (R : Int) := by omega
        have HSZ := Lib.hid hsz
        clear hb2 hrb hfb hR hnn hsz
        go_wp2_with fail
        refine (rset_any bw B _ _ _ ⟨f.b, f.b.length⟩ _ HFB.out.symm (by rw [HSZ.out]) hs (by rw [HLN.out]; omega) HPK.out (HR2.out.later (abel w2 _))).mono ?_
        rintro _ w3 ⟨rfl, hr3, hu3⟩
        have HU3 : Hid (Upd (· = bw) w w3) := Lib.hid ((HU2.out.trans (Upd.alloc w2 _)).trans hu3)
        have HDN := Lib.hid (rdone_any bw _ w3 (by have := HL.out.done; show B.done ≤ _; omega) hr3)
        clear hr3 hu3 c0 k0 k1 k2
        go_wp2_with fail
        refine HDN.out.mono ?_
        rintro _ w4 ⟨rfl, hr4, hu4⟩
        have HH := Lib.hid (And.intro hr4 (HU3.out.trans hu4))
        clear hr4 hu4
        go_wp2
        go_ret
        exact ⟨rfl, HH.out.1, HH.out.2⟩
set_option maxRecDepth 100000 in
set_option maxHeartbeats 800000 in
theorem rput_any (bw : Nat) (A : DM) (s bs : ByteArray) (b : List UInt8) (w : World) (hbs : bs = ofK b) (hs : s.size ≤ maxLen) (hn : A.fs.length ≤ 1000000) (h : RefSt w bw A) :
    Calls Try.prog 42 #[.pointer (some ⟨bw, 0, none⟩), .string s, .string bs] w fun e w' => e = .returned (.tuple #[]) ∧ RefSt w' bw (A.put (keyB s) b) ∧ Upd (· = bw) w w' := by
  have HR := Lib.hid h
  have HG := Lib.hid (rgood_any s w hs)
  have HBS := Lib.hid hbs
  have hsz : bs.size = b.length := by rw [hbs]; exact ofK_size _
  have HSZ := Lib.hid hsz
  clear hbs hsz
  cases hg : goodB s with
  | false =>
    have HE : Hid (A.put (keyB s) b = A) := Lib.hid (by unfold DM.put; rw [if_neg (by rw [goodK hg]; simp)])
    rw [hg] at HG
    rw [HE.out]
    clear hg HE h
    go_enter Try.func42, Try.ntmps42
    go_wp2_with fail
    refine HG.out.mono ?_
    rintro _ w ⟨rfl, rfl⟩
    go_wp2
    go_end0
    exact ⟨rfl, HR.out, Upd.refl _ _⟩
  | true =>
    have HE : Hid (A.put (keyB s) b = { A with fs := putF A.fs (keyB s) ⟨b, b.length⟩ }) := Lib.hid (by unfold DM.put; rw [if_pos (goodK hg)])
    have HPK : Hid (DM.Ok { A with fs := putF A.fs (keyB s) ⟨b, b.length⟩ }) := Lib.hid (h.ok.putF (goodK hg) (Nat.le_refl _))
    rw [hg] at HG
    rw [HE.out]
    clear hg HE h
    go_enter Try.func42, Try.ntmps42
    go_wp2_with fail
    refine HG.out.mono ?_
    rintro _ w ⟨rfl, rfl⟩
    go_wp2_with fail
    refine (rset_any bw A _ _ _ ⟨b, b.length⟩ _ HBS.out (by rw [HSZ.out]) hs hn HPK.out HR.out).mono ?_
    rintro _ w3 ⟨rfl, hr3, hu3⟩
    have HH := Lib.hid (And.intro hr3 hu3)
    clear hr3 hu3
    go_wp2
    go_end0
    exact ⟨rfl, HH.out.1, HH.out.2⟩
set_option maxRecDepth 100000 in
set_option maxHeartbeats 400000 in
theorem rcut_any (bw : Nat) (A : DM) (n : Int) (w : World) (hn : -9223372036854775808 ≤ n ∧ n ≤ 9223372036854775807) (h : RefSt w bw A) :
    Calls Try.prog 40 #[.pointer (some ⟨bw, 0, none⟩), .int .i64 n] w fun e w' => e = .returned (.tuple #[]) ∧ RefSt w' bw (A.cut n) ∧ Upd (· = bw) w w' := by
  obtain ⟨x, c, hrb⟩ := h.open
  obtain ⟨⟨c0, c1, c2, c3, c4⟩, hf⟩ := hrb.cells
  have f3 := hf 3
  have HR := Lib.hid h
  have HRB := Lib.hid hrb
  have HNS := Lib.hid h.noStr
  have HOK := Lib.hid (h.ok.cut n hn.2)
  clear hf hrb h
  cases hd : A.dead with
  | true =>
    have HE : Hid (A.cut n = A) := Lib.hid (by unfold DM.cut; rw [if_pos hd])
    rw [HE.out]
    rw [hd] at c2
    clear hd HE HOK
    go_enter Try.func40, Try.ntmps40
    go_wp2
    go_end0
    exact ⟨rfl, HR.out, Upd.refl _ _⟩
  | false =>
    have HE : Hid (A.cut n = { A with fuse := max n (-1) }) := Lib.hid (by unfold DM.cut; rw [if_neg (by rw [hd]; simp)])
    rw [HE.out] at HOK ⊢
    rw [hd] at c2
    have HD := Lib.hid hd
    clear hd HE
    go_enter Try.func40, Try.ntmps40
    go_wp2
    go_end0
    have hu : Upd (· = bw) w (w.setCell ⟨bw, 3, none⟩ (.int .i64 (max n (-1)))) := Upd.setCell (S := (· = bw)) _ _ _ rfl
    refine ⟨rfl, RefSt.set HOK.out HRB.out.le HRB.out.cap (HRB.out.fls.upd hu (fun b e => by subst e; exact HNS.out)) HRB.out.nil ?_, hu⟩
    rw [heap_setCell_same _ _ _ _ _ _ HRB.out.box]
    simp [refCells]
end Go.Proofs.Ytjojomjnbiakoaa

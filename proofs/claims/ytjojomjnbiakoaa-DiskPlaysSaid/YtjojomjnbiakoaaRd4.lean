/-
  The reference's disk: Read, Delete, Sync, Rename, Append, Put, Cut.
-/
import Derived.Test.YtjojomjnbiakoaaRd3
namespace Go.Proofs.Ytjojomjnbiakoaa
open Go.RowKit Go.Maps
set_option linter.unusedVariables false
theorem ofK_append (a b : List UInt8) : ofK a ++ ofK b = ofK (a ++ b) := by
  apply ByteArray.ext
  simp [ofK, ByteArray.data_append]
theorem get_rank {A : DM} (hs : SortedF A.fs) {k : Key} (h : (lkup A.fs k).isSome = true) : ∃ hr : rank A.fs k < A.fs.length, A.fs[rank A.fs k].2 = A.get k ∧ A.fs[rank A.fs k].1 = k := by
  have hr := lkup_some_rank hs h
  refine ⟨hr, ?_⟩
  have e : A.fs[rank A.fs k].1 = k := by
    apply Classical.byContradiction
    intro hn
    rw [lkup_rank_none k A.fs hs (fun _ => hn)] at h
    cases h
  refine ⟨?_, e⟩
  unfold DM.get
  rw [lkup_rank_some k A.fs hs hr e]
  rfl
theorem get_none {A : DM} {k : Key} (h : (lkup A.fs k).isSome = false) : A.get k = default := by
  unfold DM.get
  cases hh : lkup A.fs k with
  | none => rfl
  | some f => rw [hh] at h; cases h
theorem goodK {s : ByteArray} {g : Bool} (h : goodB s = g) : good (keyB s) = g := h
theorem abel (w : World) (o : Obj) : Below w.heap.size w (w.alloc o) := (Below.refl _ _).alloc (Nat.le_refl _) _
theorem rdy1 {A : DM} {s : ByteArray} {t : Bool} (h : goodB s = false) : A.ready (keyB s) t [] = (A, 1) := by
  unfold DM.ready
  rw [if_neg (by rw [show good (keyB s) = false from h]; simp)]
theorem rdy2 {A : DM} {s : ByteArray} {t : Bool} (h : goodB s = true) (hd : A.blow.dead = true) : A.ready (keyB s) t [] = (A.blow, 140) := by
  unfold DM.ready
  rw [if_pos (by rw [show good (keyB s) = true from h]; simp), if_pos hd]
theorem rdy3 {A : DM} {s : ByteArray} (h : goodB s = true) (hd : A.blow.dead = false) (hi : (lkup A.blow.fs (keyB s)).isSome = false) : A.ready (keyB s) true [] = (A.blow, 2) := by
  unfold DM.ready
  rw [if_pos (by rw [show good (keyB s) = true from h]; simp), if_neg (by rw [hd]; simp), if_pos (by
    cases hh : lkup A.blow.fs (keyB s) with
    | none => rfl
    | some f => rw [hh] at hi; cases hi)]
theorem rdy4 {A : DM} {s : ByteArray} (h : goodB s = true) (hd : A.blow.dead = false) (hi : (lkup A.blow.fs (keyB s)).isSome = true) : A.ready (keyB s) true [] = (A.blow, 0) := by
  unfold DM.ready
  rw [if_pos (by rw [show good (keyB s) = true from h]; simp), if_neg (by rw [hd]; simp), if_neg (by
    cases hh : lkup A.blow.fs (keyB s) with
    | none => rw [hh] at hi; cases hi
    | some f => simp)]
theorem rdy5 {A : DM} {s : ByteArray} (h : goodB s = true) (hd : A.blow.dead = false) : A.ready (keyB s) false [] = (A.blow, 0) := by
  unfold DM.ready
  rw [if_pos (by rw [show good (keyB s) = true from h]; simp), if_neg (by rw [hd]; simp), if_neg (by simp)]
/-- The file that stands at a name's place. -/
theorem RB.at {w : World} {bw : Nat} {x : Option Addr} {c : Nat} {A : DM} (h : RB w bw x c A) (hs : SortedF A.fs) {s : ByteArray} (hi : (lkup A.fs (keyB s)).isSome = true) :
    ∃ b off, x = some ⟨b, off, none⟩ ∧ rank A.fs (keyB s) < A.fs.length ∧ w.cell? ⟨b, off + rank A.fs (keyB s) * 3, none⟩ = some (.string s) ∧ w.cell? ⟨b, off + rank A.fs (keyB s) * 3 + 1, none⟩ = some (.string (ofK (A.get (keyB s)).b)) ∧ w.cell? ⟨b, off + rank A.fs (keyB s) * 3 + 2, none⟩ = some (.int .i64 ((A.get (keyB s)).s : Nat)) := by
  obtain ⟨hr, e1, e2⟩ := get_rank hs hi
  obtain ⟨b, off, e, k0, k1, k2⟩ := h.fls _ hr
  rw [e2, ofK_keyB] at k0
  rw [e1] at k1 k2
  exact ⟨b, off, e, hr, k0, k1, k2⟩
set_option maxRecDepth 100000 in
set_option maxHeartbeats 800000 in
theorem rread_any (bw : Nat) (A : DM) (s : ByteArray) (w : World) (hs : s.size ≤ maxLen) (hn : A.fs.length ≤ 1000000) (h : RefSt w bw A) :
    Calls Try.prog 26 #[.pointer (some ⟨bw, 0, none⟩), .string s] w fun e w' => e = .returned (.tuple #[.string (ofK (A.read (keyB s)).1), .int .i64 (A.read (keyB s)).2]) ∧ Below w.heap.size w w' := by
  have HAT := Lib.hid (rat_any bw A s w hs hn h)
  have HG := Lib.hid (rgood_any s w hs)
  obtain ⟨x, c, hrb⟩ := h.open
  have HRB := Lib.hid hrb
  obtain ⟨⟨_, _, c2, _, _⟩, _⟩ := hrb.cells
  have HSO := Lib.hid h.ok.sorted
  clear h hrb
  cases hg : goodB s with
  | false =>
    have HE : Hid (A.read (keyB s) = ([], 1)) := Lib.hid (by unfold DM.read; rw [if_neg (by rw [goodK hg]; simp)])
    rw [hg] at HG
    rw [HE.out]
    clear hg HE
    go_enter Try.func26, Try.ntmps26
    go_wp2_with fail
    refine HG.out.mono ?_
    rintro _ w ⟨rfl, rfl⟩
    go_wp2
    go_ret2
    exact ⟨rfl, Below.refl _ _⟩
  | true =>
    have HGD := Lib.hid (goodK hg)
    rw [hg] at HG
    clear hg
    cases hd : A.dead with
    | true =>
      have HE : Hid (A.read (keyB s) = ([], 140)) := Lib.hid (by unfold DM.read; rw [if_pos HGD.out, if_pos hd])
      rw [HE.out]
      rw [hd] at c2
      clear hd HE
      go_enter Try.func26, Try.ntmps26
      go_wp2_with fail
      refine HG.out.mono ?_
      rintro _ w ⟨rfl, rfl⟩
      go_wp2
      go_ret2
      exact ⟨rfl, Below.refl _ _⟩
    | false =>
      cases hi : (lkup A.fs (keyB s)).isSome with
      | false =>
        have HE : Hid (A.read (keyB s) = ([], 2)) := Lib.hid (by
          unfold DM.read; rw [if_pos HGD.out, if_neg (by rw [hd]; simp)]
          cases hh : lkup A.fs (keyB s) with
          | none => rfl
          | some f => rw [hh] at hi; cases hi)
        rw [HE.out]
        rw [hd] at c2
        rw [hi] at HAT
        clear hd hi HE
        go_enter Try.func26, Try.ntmps26
        go_wp2_with fail
        refine HG.out.mono ?_
        rintro _ w ⟨rfl, rfl⟩
        go_wp2_with fail
        refine HAT.out.mono ?_
        rintro _ w1 ⟨rfl, hb1⟩
        have HB1 := Lib.hid hb1
        clear hb1
        go_wp2
        go_ret2
        exact ⟨rfl, HB1.out⟩
      | true =>
        have HE : Hid (A.read (keyB s) = ((A.get (keyB s)).b, 0)) := Lib.hid (by
          unfold DM.read DM.get; rw [if_pos HGD.out, if_neg (by rw [hd]; simp)]
          cases hh : lkup A.fs (keyB s) with
          | none => rw [hh] at hi; cases hi
          | some f => rfl)
        obtain ⟨b, off, rfl, hlt, _⟩ := HRB.out.at HSO.out hi
        have HCE : Hid (∀ w', Below w.heap.size w w' → _) := Lib.hid (fun w' hb => (HRB.out.later hb).at HSO.out (s := s) hi)
        rw [HE.out]
        rw [hd] at c2
        rw [hi] at HAT
        obtain ⟨R, hR⟩ : ∃ R, rank A.fs (keyB s) = R := ⟨_, rfl⟩
        obtain ⟨n, hnn⟩ : ∃ n, A.fs.length = n := ⟨_, rfl⟩
        have HLN := Lib.hid hnn
        rw [hR] at HAT hlt HCE
        rw [hnn] at hlt hn
        clear hd hi HE hR hnn
        have h1 : (R : Int) < (n : Int) := by omega
        have h0 : (0 : Int) ≤ (R : Int) := by omega
        go_enter Try.func26, Try.ntmps26
        go_wp2_with fail
        refine HG.out.mono ?_
        rintro _ w ⟨rfl, rfl⟩
        go_wp2_with fail
        refine HAT.out.mono ?_
        rintro _ w1 ⟨rfl, hb1⟩
        obtain ⟨b', off', e', _, k0, k1, k2⟩ := HCE.out w1 hb1
        cases e'
        have HB1 := Lib.hid hb1
        have c0 := (HRB.out.later hb1).cells.1.1
        rw [HLN.out] at c0
        clear hb1 k0 k2
        go_wp2
        go_ret2
        exact ⟨rfl, HB1.out⟩
set_option maxRecDepth 100000 in
set_option maxHeartbeats 800000 in
theorem rdelete_any (bw : Nat) (A : DM) (s : ByteArray) (N T : Nat) (w : World) (hs : s.size ≤ maxLen) (hN : N ≤ 1000000) (hL : A.Lim N T) (h : RefSt w bw A) :
    Calls Try.prog 39 #[.pointer (some ⟨bw, 0, none⟩), .string s] w fun e w' => e = .returned (.int .i64 (A.delete (keyB s)).2) ∧ RefSt w' bw (A.delete (keyB s)).1 ∧ Upd (· = bw) w w' := by
  have HR := Lib.hid h
  have HG := Lib.hid (rgood_any s w hs)
  have HOF := Lib.hid (roff_any bw A w h)
  have HOK := Lib.hid h.ok.blow
  have HL := Lib.hid hL.blow
  clear h hL
  cases hg : goodB s with
  | false =>
    have HE : Hid (A.delete (keyB s) = (A, 1)) := Lib.hid (by unfold DM.delete; simp [rdy1 hg])
    rw [hg] at HG
    rw [HE.out]
    clear hg HE
    go_enter Try.func39, Try.ntmps39
    go_wp2_with fail
    refine HG.out.mono ?_
    rintro _ w ⟨rfl, rfl⟩
    go_wp2
    go_ret
    exact ⟨rfl, HR.out, Upd.refl _ _⟩
  | true =>
    rw [hg] at HG
    cases hd : A.blow.dead with
    | true =>
      have HE : Hid (A.delete (keyB s) = (A.blow, 140)) := Lib.hid (by unfold DM.delete; simp [rdy2 hg hd])
      rw [HE.out]
      rw [hd] at HOF
      clear hg hd HE
      go_enter Try.func39, Try.ntmps39
      go_wp2_with fail
      refine HG.out.mono ?_
      rintro _ w ⟨rfl, rfl⟩
      go_wp2_with fail
      refine HOF.out.mono ?_
      rintro _ w1 ⟨rfl, hr1, hu1⟩
      have HH := Lib.hid (And.intro hr1 hu1)
      clear hr1 hu1
      go_wp2
      go_ret
      exact ⟨rfl, HH.out.1, HH.out.2⟩
    | false =>
      cases hi : (lkup A.blow.fs (keyB s)).isSome with
      | false =>
        have HE : Hid (A.delete (keyB s) = (A.blow, 2)) := Lib.hid (by unfold DM.delete; simp [rdy3 hg hd hi])
        rw [HE.out]
        rw [hd] at HOF
        have HI := Lib.hid hi
        clear hg hd HE hi
        generalize A.blow = B at *
        go_enter Try.func39, Try.ntmps39
        go_wp2_with fail
        refine HG.out.mono ?_
        rintro _ w ⟨rfl, rfl⟩
        go_wp2_with fail
        refine HOF.out.mono ?_
        rintro _ w1 ⟨rfl, hr1, hu1⟩
        have HR1 := Lib.hid hr1
        have HU1 := Lib.hid hu1
        clear hr1 hu1
        go_wp2_with fail
        refine (rat_any bw B s w1 hs (by have := HL.out.len; omega) HR1.out).mono ?_
        rw [HI.out]
        rintro _ w2 ⟨rfl, hb2⟩
        have HH := Lib.hid (And.intro (HR1.out.later hb2) (HU1.out.trans (Upd.of_below hb2)))
        clear hb2
        go_wp2
        go_ret
        exact ⟨rfl, HH.out.1, HH.out.2⟩
      | true =>
        have HE : Hid (A.delete (keyB s) = (DM.did { A.blow with fs := delF A.blow.fs (keyB s) }, 0)) := Lib.hid (by unfold DM.delete; simp [rdy4 hg hd hi])
        rw [HE.out]
        rw [hd] at HOF
        have HI := Lib.hid hi
        clear hg hd HE hi
        generalize A.blow = B at *
        go_enter Try.func39, Try.ntmps39
        go_wp2_with fail
        refine HG.out.mono ?_
        rintro _ w ⟨rfl, rfl⟩
        go_wp2_with fail
        refine HOF.out.mono ?_
        rintro _ w1 ⟨rfl, hr1, hu1⟩
        have HR1 := Lib.hid hr1
        have HU1 := Lib.hid hu1
        clear hr1 hu1
        go_wp2_with fail
        refine (rat_any bw B s w1 hs (by have := HL.out.len; omega) HR1.out).mono ?_
        rw [HI.out]
        rintro _ w2 ⟨rfl, hb2⟩
        have HR2 := Lib.hid (HR1.out.later hb2)
        have HU2 : Hid (Upd (· = bw) w w2) := Lib.hid (HU1.out.trans (Upd.of_below hb2))
        clear hb2
        go_wp2_with fail
        refine (rdrop_any bw B (keyB s) w2 (by have := HL.out.len; omega) HI.out HR2.out).mono ?_
        rintro _ w3 ⟨rfl, hr3, hu3⟩
        have HU3 := Lib.hid (HU2.out.trans hu3)
        have HDN := Lib.hid (rdone_any bw _ w3 (by have := HL.out.done; show B.done ≤ _; omega) hr3.1)
        clear hr3 hu3
        go_wp2_with fail
        refine HDN.out.mono ?_
        rintro _ w4 ⟨rfl, hr4, hu4⟩
        have HH := Lib.hid (And.intro hr4 (HU3.out.trans hu4))
        clear hr4 hu4
        go_wp2
        go_ret
        exact ⟨rfl, HH.out.1, HH.out.2⟩
end Go.Proofs.Ytjojomjnbiakoaa

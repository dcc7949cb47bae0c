/-
  The disk's small functions: good, did, ready.
-/
import Derived.Test.YtjojomjnbiakoaaDk2
namespace Go.Proofs.Ytjojomjnbiakoaa
open Go.RowKit
set_option linter.unusedVariables false

def Strs (w : World) (a : Option Addr) (ss : List ByteArray) : Prop := ∀ i (h : i < ss.length), ∃ b off, a = some ⟨b, off, none⟩ ∧ w.cell? ⟨b, off + i, none⟩ = some (.string ss[i]) ∧ ss[i].size ≤ maxLen
theorem Strs.below {w w' : World} {a : Option Addr} {ss : List ByteArray} (h : Strs w a ss) (hb : Below w.heap.size w w') : Strs w' a ss := by
  intro i hi
  obtain ⟨b, off, e, hc, q⟩ := h i hi
  exact ⟨b, off, e, by rw [hb.cell (p := ⟨b, off + i, none⟩) (cell_lt hc)]; exact hc, q⟩
theorem strs_nil (w : World) (a : Option Addr) : Strs w a [] := fun i h => by simp at h
theorem strs_one {w : World} {B : Nat} {s : ByteArray} {T : TypeId} {fr : Nat × Nat} (hb : w.heap[B]? = some (.cells #[.string s] T fr)) (hs : s.size ≤ maxLen) : Strs w (some ⟨B, 0, none⟩) [s] := by
  intro i hi
  obtain rfl : i = 0 := by simpa using hi
  exact ⟨B, 0, rfl, by simp [World.cell?, hb], hs⟩
def goodB (s : ByteArray) : Bool := good (keyB s)
theorem toL (s : ByteArray) : s.toList = s.data.toList := ByteArray.toList_eq s
theorem goodB_no0 {s : ByteArray} (h : s.toList = []) : goodB s = false := by
  rw [toL] at h
  unfold goodB keyB good
  rw [h]; rfl
theorem goodB_long {s : ByteArray} (h : 100 < s.size) : goodB s = false := by
  unfold goodB keyB good
  rw [Array.length_toList]
  have : ¬ s.data.size ≤ 100 := by show ¬ s.size ≤ 100; omega
  rw [decide_eq_false this, Bool.and_false]
theorem goodB_yes {s : ByteArray} (h : s.toList ≠ []) (h2 : s.size ≤ 100) : goodB s = true := by
  rw [toL] at h
  unfold goodB keyB good
  rw [Array.length_toList]
  have : s.data.size ≤ 100 := h2
  have h1 : s.data.toList.isEmpty = false := by
    cases hh : s.data.toList with
    | nil => exact absurd hh h
    | cons x t => rfl
  rw [h1, decide_eq_true this]
  rfl
theorem goodB_size {s : ByteArray} (h : goodB s = true) : s.size ≤ 100 := by
  rcases Nat.lt_or_ge 100 s.size with q | q
  · rw [goodB_long q] at h; cases h
  · exact q

set_option maxRecDepth 100000 in
set_option maxHeartbeats 800000 in
theorem good_any (a : Option Addr) (cap : Nat) (ss : List ByteArray) (w : World) (hl : ss.length ≤ maxLen) (hb : Strs w a ss) :
    Calls Try.prog 29 #[.slice a ss.length cap] w fun e w' => e = .returned (.bool (ss.all goodB)) ∧ Below w.heap.size w w' := by
  unfold maxLen at hl
  go_enter Try.func29, Try.ntmps29
  go_wp2
  go_loopw [7] (fun i wr => ∃ k : Nat, k ≤ ss.length ∧ i = .int .i64 k ∧ Hid ((ss.take k).all goodB = true) ∧ Below w.heap.size w wr) (fun i _ => ss.length - (intOf i).toNat)
  case atStart => exact ⟨0, by omega, rfl, Lib.hid (by simp), Below.refl _ _⟩
  case round =>
    obtain ⟨k, hk, rfl, HA, hwr⟩ := hrel
    by_cases hlt : k < ss.length
    · obtain ⟨b, off, rfl, hc, hs⟩ := (hb.below hwr) k hlt
      have HS : Hid ((ss.take (k + 1)).all goodB = ((ss.take k).all goodB && goodB ss[k])) := Lib.hid (by rw [List.take_succ_eq_append_getElem hlt, List.all_append, List.all_cons, List.all_nil, Bool.and_true])
      have HF : Hid (goodB ss[k] = false → ss.all goodB = false) := Lib.hid (fun h => by
        rw [List.all_eq_false]
        exact ⟨ss[k], List.getElem_mem hlt, by simp [h]⟩)
      have hin : (k : Int) < (ss.length : Int) := by omega
      have h0 : (0 : Int) ≤ (k : Int) := by omega
      generalize ss[k] = s at *
      unfold maxLen at hs
      by_cases q1 : s.toList = []
      · have q2 : s.toList.isEmpty = true := by rw [q1]; rfl
        have HE : Hid (ss.all goodB = false) := Lib.hid (HF.out (goodB_no0 q1))
        clear HF HS
        go_wp2
        go_ret
        exact ⟨by rw [HE.out]; rfl, hwr⟩
      · have q2 : s.toList.isEmpty = false := by simp [q1]
        by_cases q3 : 100 < s.size
        · have q4 : (100 : Int) < (s.size : Int) := by omega
          have HE : Hid (ss.all goodB = false) := Lib.hid (HF.out (goodB_long q3))
          clear HF HS
          go_wp2
          go_ret
          exact ⟨by rw [HE.out]; rfl, hwr⟩
        · have q4 : ¬ (100 : Int) < (s.size : Int) := by omega
          have HG : Hid (goodB s = true) := Lib.hid (goodB_yes q1 (by omega))
          clear HF q3
          go_wp2
          exact ⟨⟨k + 1, by omega, by go_num, Lib.hid (by rw [HS.out, HA.out, HG.out]; rfl), hwr⟩, by simp [intOf]; omega⟩
    · obtain rfl : k = ss.length := by omega
      have hall := HA.out
      rw [List.take_length] at hall
      have HE := Lib.hid hall
      clear hall
      go_wp2
      go_ret
      exact ⟨by rw [HE.out]; rfl, hwr⟩

set_option maxRecDepth 100000 in
set_option maxHeartbeats 800000 in
theorem did_any (bd bm : Nat) (A : DM) (w : World) (hd : A.done ≤ 1000000000) (h : DiskSt w bd bm A) :
    Calls Try.prog 34 #[.pointer (some ⟨bd, 0, none⟩)] w fun e w' => e = .returned (.int .i64 0) ∧ DiskSt w' bd bm A.did ∧ Upd (· = bd) w w' := by
  obtain ⟨⟨c0, c1, c2, c3, c4⟩, hf⟩ := h.cells
  have f3 := hf 3
  have f4 := hf 4
  have hfu := h.ok.fuse
  have HB := Lib.hid h.box
  have HOK := Lib.hid h.ok.did
  have HH := Lib.hid h
  clear h hf
  by_cases hp : 0 < A.fuse
  · go_enter Try.func34, Try.ntmps34
    go_wp2
    go_ret
    have hu : Upd (· = bd) w ((w.setCell ⟨bd, 4, none⟩ (.int .i64 ((A.done : Int) + 1))).setCell ⟨bd, 3, none⟩ (.int .i64 (A.fuse - 1))) := (Upd.setCell (S := (· = bd)) _ _ _ rfl).trans (Upd.setCell (S := (· = bd)) _ _ _ rfl)
    refine ⟨rfl, HH.out.set rfl HOK.out hu ?_, hu⟩
    rw [heap_setCell_same _ _ _ _ _ _ (heap_setCell_same _ _ _ _ _ _ HB.out)]
    simp [diskCells, DM.did, hp]
  · go_enter Try.func34, Try.ntmps34
    go_wp2
    go_ret
    have hu : Upd (· = bd) w (w.setCell ⟨bd, 4, none⟩ (.int .i64 ((A.done : Int) + 1))) := Upd.setCell (S := (· = bd)) _ _ _ rfl
    refine ⟨rfl, HH.out.set rfl HOK.out hu ?_, hu⟩
    rw [heap_setCell_same _ _ _ _ _ _ HB.out]
    have hif : (if 0 < A.fuse then A.fuse - 1 else A.fuse) = A.fuse := if_neg (by omega)
    simp [diskCells, DM.did, hif]

/-- The fuse burns down. -/
theorem DiskSt.blown {w : World} {bd bm : Nat} {A : DM} (h : DiskSt w bd bm A) (hz : A.fuse = 0) : DiskSt ((w.setCell ⟨bd, 2, none⟩ (.bool true)).setCell ⟨bd, 3, none⟩ (.int .i64 (-1))) bd bm A.blow := by
  refine h.set (blow_fs A) h.ok.blow ((Upd.setCell (S := (· = bd)) _ _ _ rfl).trans (Upd.setCell (S := (· = bd)) _ _ _ rfl)) ?_
  rw [heap_setCell_same _ _ _ _ _ _ (heap_setCell_same _ _ _ _ _ _ h.box)]
  simp [diskCells, DM.blow, hz]

def readyB (A : DM) (s : ByteArray) (there : Bool) (ls : List ByteArray) : DM × Int := A.ready (keyB s) there (ls.map keyB)
theorem all_goodB (ls : List ByteArray) : (ls.map keyB).all good = ls.all goodB := by rw [List.all_map]; rfl
set_option maxRecDepth 100000 in
set_option maxHeartbeats 1600000 in
theorem ready_any (bd bm : Nat) (A : DM) (s : ByteArray) (there : Bool) (al : Option Addr) (cl : Nat) (ls : List ByteArray) (w : World) (hs : s.size ≤ maxLen) (hll : ls.length ≤ maxLen) (hl : Strs w al ls) (h : DiskSt w bd bm A) :
    Calls Try.prog 33 #[.pointer (some ⟨bd, 0, none⟩), .string s, .bool there, .slice al ls.length cl] w fun e w' => e = .returned (.int .i64 (readyB A s there ls).2) ∧ DiskSt w' bd bm (readyB A s there ls).1 ∧ Upd (· = bd) w w' := by
  have HG := Lib.hid (fun (w' : World) B T fr hb => good_any (some ⟨B, 0, none⟩) 1 [s] w' (by unfold maxLen; simp) (strs_one (T := T) (fr := fr) hb hs))
  have HL := Lib.hid (fun (w' : World) hb => good_any al cl ls w' hll hb)
  have HLS := Lib.hid hl
  have HH := Lib.hid h
  have hbd := heap_lt h.box
  clear h hl
  obtain ⟨g1, hg1⟩ : ∃ g, [s].all goodB = g := ⟨_, rfl⟩
  obtain ⟨g2, hg2⟩ : ∃ g, ls.all goodB = g := ⟨_, rfl⟩
  have HR1 : Hid ((g1 && g2) = false → readyB A s there ls = (A, 1)) := Lib.hid (fun e => by
    unfold readyB DM.ready
    rw [all_goodB, if_neg]
    have : good (keyB s) = g1 := by rw [← hg1]; simp [goodB]
    rw [this, hg2, e]; simp)
  have HR2 : Hid ((g1 && g2) = true → readyB A s there ls = if A.blow.dead = true then (A.blow, 140) else if (there && (lkup A.fs (keyB s)).isNone) = true then (A.blow, 2) else (A.blow, 0)) := Lib.hid (fun e => by
    unfold readyB DM.ready
    have : good (keyB s) = g1 := by rw [← hg1]; simp [goodB]
    rw [all_goodB, if_pos (by rw [this, hg2]; exact e), blow_fs])
  rw [hg1] at HG
  rw [hg2] at HL
  clear hg1 hg2
  generalize readyB A s there ls = R at *
  go_enter Try.func33, Try.ntmps33
  go_wp2_with fail
  refine (HG.out _ w.heap.size 9 (0, 0) (heap_at' rfl)).mono ?_
  rintro _ w1 ⟨rfl, hb1⟩
  have HB1 : Hid (Below w.heap.size w w1) := Lib.hid (((Below.refl w.heap.size w).alloc (Nat.le_refl _) (.cells #[.string s] 9)).trans (hb1.mono (by simp)))
  clear hb1
  cases g1 with
  | false =>
    have HE := Lib.hid (HR1.out rfl)
    clear HR1 HR2
    go_wp2
    go_ret
    exact ⟨by rw [HE.out]; rfl, by rw [HE.out]; exact HH.out.later HB1.out, Upd.of_below HB1.out⟩
  | true =>
    go_wp2_with fail
    refine (HL.out w1 (HLS.out.below HB1.out)).mono ?_
    rintro _ w2 ⟨rfl, hb2⟩
    have HB2 := Lib.hid (HB1.out.trans (hb2.mono HB1.out.size))
    clear hb2
    cases g2 with
    | false =>
      have HE := Lib.hid (HR1.out rfl)
      clear HR1 HR2
      go_wp2
      go_ret
      exact ⟨by rw [HE.out]; rfl, by rw [HE.out]; exact HH.out.later HB2.out, Upd.of_below HB2.out⟩
    | true =>
      have HE := Lib.hid (HR2.out rfl)
      have HS2 := Lib.hid (HH.out.later HB2.out)
      clear HR1 HR2
      obtain ⟨⟨c0, c1, c2, c3, c4⟩, hf⟩ := HS2.out.cells
      have f2 := hf 2
      have f3 := hf 3
      clear hf
      by_cases hz : A.fuse = 0
      · have hz1 : (A.fuse == 0) = true := by simp [hz]
        have HB := Lib.hid (HS2.out.blown hz)
        have HD : Hid (A.blow.dead = true) := Lib.hid (by simp [DM.blow, hz])
        have HZ := Lib.hid hz
        clear hz
        go_wp2
        go_ret
        exact ⟨by rw [HE.out, if_pos HD.out]; rfl, by rw [HE.out, if_pos HD.out]; exact HB.out, (Upd.of_below HB2.out).trans ((Upd.setCell (S := (· = bd)) _ _ _ rfl).trans (Upd.setCell (S := (· = bd)) _ _ _ rfl))⟩
      · have hz1 : (A.fuse == 0) = false := by simp [hz]
        have HBL : Hid (A.blow = A) := Lib.hid (by simp [DM.blow, hz])
        rw [HBL.out] at HE
        have HZ := Lib.hid hz
        clear hz
        cases hd : A.dead with
        | true =>
          rw [hd] at HE
          go_wp2
          go_ret
          exact ⟨by rw [HE.out]; rfl, by rw [HE.out]; exact HS2.out, Upd.of_below HB2.out⟩
        | false =>
          rw [hd] at HE c2
          clear hd
          obtain ⟨is, his⟩ : ∃ b, (lkup A.fs (keyB s)).isSome = b := ⟨_, rfl⟩
          have HI : Hid ((lkup A.fs (keyB s)).isNone = !is) := Lib.hid (by rw [← his]; cases lkup A.fs (keyB s) <;> rfl)
          rw [HI.out] at HE
          have HIS := Lib.hid his
          clear his
          have HEND : Hid (∀ o, DiskSt (w2.alloc o) bd bm A ∧ Upd (· = bd) w (w2.alloc o)) := Lib.hid (fun o => ⟨HS2.out.later ((Below.refl _ _).alloc (Nat.le_refl _) _), (Upd.of_below HB2.out).trans (Upd.alloc _ _)⟩)
          cases is <;> cases there
          all_goals
            go_wp2_with (at_lookup; refine look_disk_ok _ rfl _ _ rfl rfl HS2.out.map s rfl hs ?_; intro f hf; rw [HIS.out]; clear hf)
            go_ret
            exact ⟨by rw [HE.out]; rfl, by rw [HE.out]; exact (HEND.out _).1, (HEND.out _).2⟩
end Go.Proofs.Ytjojomjnbiakoaa

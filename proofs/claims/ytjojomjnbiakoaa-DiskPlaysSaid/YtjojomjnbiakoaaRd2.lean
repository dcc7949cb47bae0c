/-
  The reference's disk: New, Good, at, Size, off, done, drop, set.
-/
import Derived.Test.YtjojomjnbiakoaaRd1
namespace Go.Proofs.Ytjojomjnbiakoaa
open Go.RowKit Go.Maps
set_option linter.unusedVariables false
set_option maxRecDepth 100000 in
set_option maxHeartbeats 400000 in
theorem rgood_any (s : ByteArray) (w : World) (hs : s.size ≤ maxLen) : Calls Try.prog 44 #[.string s] w fun e w' => e = .returned (.bool (goodB s)) ∧ w' = w := by
  unfold maxLen at hs
  have HG0 : Hid (s.size = 0 → goodB s = false) := Lib.hid (fun h => goodB_no0 (by
    have : s.toList.length = 0 := by rw [toL, Array.length_toList]; exact h
    exact List.eq_nil_of_length_eq_zero this))
  have HG1 : Hid (100 < s.size → goodB s = false) := Lib.hid goodB_long
  have HG2 : Hid (s.size ≠ 0 → s.size ≤ 100 → goodB s = true) := Lib.hid (fun h => goodB_yes (by
    intro e
    apply h
    have : s.toList.length = 0 := by rw [e]; rfl
    rw [toL, Array.length_toList] at this
    exact this))
  by_cases h0 : s.size = 0
  · have d1 : ¬ (1 : Int) ≤ (s.size : Int) := by omega
    have HE := Lib.hid (HG0.out h0)
    clear h0 HG0 HG1 HG2
    go_enter Try.func44, Try.ntmps44
    go_wp2
    go_ret
    exact ⟨by rw [HE.out]; rfl, rfl⟩
  · have d1 : (1 : Int) ≤ (s.size : Int) := by omega
    by_cases h1 : 100 < s.size
    · have d2 : ¬ (s.size : Int) ≤ 100 := by omega
      have HE := Lib.hid (HG1.out h1)
      clear h0 h1 HG0 HG1 HG2
      go_enter Try.func44, Try.ntmps44
      go_wp2
      go_ret
      exact ⟨by rw [HE.out]; rfl, rfl⟩
    · have d2 : (s.size : Int) ≤ 100 := by omega
      have HE := Lib.hid (HG2.out h0 (by omega))
      clear h0 h1 HG0 HG1 HG2
      go_enter Try.func44, Try.ntmps44
      go_wp2
      go_ret
      exact ⟨by rw [HE.out]; rfl, rfl⟩
set_option maxRecDepth 100000 in
set_option maxHeartbeats 400000 in
theorem rnew_any (room : Int) (w : World) (hr : room ≤ 9223372036854775807) (hr2 : -9223372036854775808 ≤ room) : Calls Try.prog 22 #[.int .i64 room] w fun e w' => ∃ bw, e = .returned (.pointer (some ⟨bw, 0, none⟩)) ∧ RefSt w' bw ⟨[], room.toNat, false, -1, 0⟩ ∧ w.heap.size ≤ bw ∧ Below w.heap.size w w' := by
  obtain ⟨r, hmx, HR⟩ : ∃ r : Nat, (max (0 : Int) room) = (r : Int) ∧ Hid (room.toNat = r) := ⟨room.toNat, by omega, Lib.hid rfl⟩
  have hr' : r ≤ 9223372036854775807 := by omega
  rw [HR.out]
  have HB : Hid (Below w.heap.size w (w.alloc (.cells #[.slice none 0 0, .int .i64 (r : Nat), .bool false, .int .i64 (-1), .int .i64 0] 72))) := Lib.hid ((Below.refl _ _).alloc (Nat.le_refl _) _)
  have hif : (if (0 : Int) ≤ room then room else 0) = (r : Int) := by split <;> omega
  have hif2 : (if room ≤ (0 : Int) then 0 else room) = (r : Int) := by split <;> omega
  have hif3 : (if (0 : Int) < room then room else 0) = (r : Int) := by split <;> omega
  have hif4 : (if room < (0 : Int) then 0 else room) = (r : Int) := by split <;> omega
  go_enter Try.func22, Try.ntmps22
  go_wp2
  go_ret
  exact ⟨w.heap.size, rfl, ⟨⟨none, 0, heap_at _ _, Nat.le_refl _, by unfold maxLen; omega, fls_nil _ _, fun _ => rfl⟩, ⟨List.Pairwise.nil, (fun p hp => by cases hp), (fun p hp => by cases hp), hr', (by show (-1 : Int) ≤ -1 ∧ (-1 : Int) ≤ _; decide)⟩⟩, Nat.le_refl _, HB.out⟩
theorem rank_room {A : DM} {k : Key} : rank A.fs k ≤ A.fs.length := rank_le k A.fs
set_option maxRecDepth 100000 in
set_option maxHeartbeats 800000 in
theorem rat_any (bw : Nat) (A : DM) (s : ByteArray) (w : World) (hs : s.size ≤ maxLen) (hn : A.fs.length ≤ 1000000) (h : RefSt w bw A) :
    Calls Try.prog 45 #[.pointer (some ⟨bw, 0, none⟩), .string s] w fun e w' => e = .returned (.tuple #[.int .i64 (rank A.fs (keyB s) : Nat), .bool (lkup A.fs (keyB s)).isSome]) ∧ Below w.heap.size w w' := by
  obtain ⟨x, c, hrb⟩ := h.open
  have hso := h.ok.sorted
  have HRB := Lib.hid hrb
  have HRL := Lib.hid (rank_lt (keyB s) A.fs)
  have HRA := Lib.hid (rank_at (keyB s) A.fs)
  have HN := Lib.hid (lkup_rank_none (keyB s) A.fs hso)
  have HSO := Lib.hid hso
  have HS := Lib.hid (lkup_rank_some (keyB s) A.fs hso)
  have hrl := rank_le (keyB s) A.fs
  have HKS : Hid (keyB s = s.toList) := Lib.hid (toL s).symm
  obtain ⟨n, hnn⟩ : ∃ n, A.fs.length = n := ⟨_, rfl⟩
  have HLN := Lib.hid hnn
  obtain ⟨R, hR⟩ : ∃ R, rank A.fs (keyB s) = R := ⟨_, rfl⟩
  have HR := Lib.hid hR
  rw [hR] at hrl
  rw [hnn] at hrl hn
  obtain ⟨is, his⟩ : ∃ is, (lkup A.fs (keyB s)).isSome = is := ⟨_, rfl⟩
  have HIS := Lib.hid his
  clear hso hnn hR h hrb
  rw [HR.out, his]
  clear his
  go_enter Try.func45, Try.ntmps45
  go_wp2
  go_loopw [6] (fun iv wr => ∃ i : Nat, i ≤ R ∧ iv = .int .i64 i ∧ Hid (Below w.heap.size w wr)) (fun iv _ => R - (intOf iv).toNat)
  case atStart => exact ⟨0, by omega, rfl, Lib.hid (Below.refl _ _)⟩
  case round =>
    obtain ⟨i, hi, rfl, HW⟩ := hrel
    have hrb := HRB.out.later HW.out
    obtain ⟨⟨c0, c1, c2, c3, c4⟩, _⟩ := hrb.cells
    rw [HLN.out] at c0
    have hfl := hrb.fls
    clear hrb c1 c2 c3 c4
    by_cases hin : i < n
    · have hil : i < A.fs.length := by rw [HLN.out]; exact hin
      have hin' : (i : Int) < (n : Int) := by omega
      have hi0 : (0 : Int) ≤ (i : Int) := by omega
      obtain ⟨b, off, rfl, k0, k1, k2⟩ := hfl i hil
      clear hfl k1 k2
      by_cases hir : i < R
      · have hlt := HRL.out i hil (by rw [HR.out]; exact hir)
        generalize A.fs[i].1 = k at *
        have d1 : Op.bytesLess (ofK k).toList s.toList = true := by rw [ofK_toL, bytesLess_eq, ← HKS.out]; simpa using hlt
        clear hlt
        go_wp2
        exact ⟨⟨i + 1, by omega, by go_num, HW⟩, by simp [intOf]; omega⟩
      · obtain rfl : i = R := by omega
        have hnl : ¬ A.fs[i].1 < keyB s := by
          have := HRA.out (by rw [HR.out]; exact hil)
          simpa only [HR.out] using this
        have HEQ : Hid ((lkup A.fs (keyB s)).isSome = decide (A.fs[i].1 = keyB s)) := Lib.hid (by
          by_cases e : A.fs[i].1 = keyB s
          · rw [HS.out (by rw [HR.out]; exact hil) (by simpa only [HR.out] using e)]; simp [e]
          · rw [HN.out (by intro hh; simpa only [HR.out] using e)]; simp [e])
        generalize A.fs[i].1 = k at *
        have d1 : Op.bytesLess (ofK k).toList s.toList = false := by rw [ofK_toL, bytesLess_eq, ← HKS.out]; simpa using hnl
        have d2 : ((ofK k).toList == s.toList) = decide (k = keyB s) := by rw [ofK_toL, ← HKS.out]; by_cases e : k = keyB s <;> simp [e]
        have d3 : decide ((i : Int) < (n : Int)) = true := by simpa using hin'
        rw [HIS.out] at HEQ
        clear hnl
        generalize decide (k = keyB s) = D at *
        go_wp2
        go_quiet (fail)
        go_wp2
        go_ret2
        exact ⟨by rw [HEQ.out]; rfl, below_drewN HW.out _⟩
    · have hiR : i = R := by omega
      subst hiR
      have d1 : ¬ (i : Int) < (n : Int) := by omega
      have d3 : decide ((i : Int) < (n : Int)) = false := by simpa using d1
      have HEQ : Hid ((lkup A.fs (keyB s)).isSome = false) := Lib.hid (by
        rw [HN.out (by intro hh; rw [HR.out, HLN.out] at hh; omega)]; rfl)
      rw [HIS.out] at HEQ
      go_wp2
      go_quiet (fail)
      go_wp2
      go_ret2
      exact ⟨by rw [HEQ.out]; rfl, below_drewN HW.out _⟩
set_option maxRecDepth 100000 in
set_option maxHeartbeats 400000 in
theorem rsize_any (bw : Nat) (A : DM) (w : World) (hn : A.fs.length ≤ 1000000) (ht : tot A.fs ≤ 1099511627776) (h : RefSt w bw A) :
    Calls Try.prog 43 #[.pointer (some ⟨bw, 0, none⟩)] w fun e w' => e = .returned (.int .i64 (tot A.fs : Nat)) ∧ Below w.heap.size w w' := by
  obtain ⟨x, c, hrb⟩ := h.open
  have HRB := Lib.hid hrb
  have HT1 : Hid (∀ i, (h : i < A.fs.length) → tot (A.fs.take (i + 1)) = tot (A.fs.take i) + (A.fs[i].2.b.length)) := Lib.hid (fun i hi => by
    unfold tot
    rw [List.take_succ_eq_append_getElem hi, List.map_append, List.sum_append_nat]
    simp)
  have HT2 : Hid (∀ i, tot (A.fs.take i) ≤ tot A.fs) := Lib.hid (fun i => by
    have h2 : tot A.fs = tot (A.fs.take i) + tot (A.fs.drop i) := by
      conv => lhs; rw [← List.take_append_drop i A.fs]
      unfold tot
      rw [List.map_append, List.sum_append_nat]
    omega)
  obtain ⟨n, hnn⟩ : ∃ n, A.fs.length = n := ⟨_, rfl⟩
  have HLN := Lib.hid hnn
  obtain ⟨T, hT⟩ : ∃ T, tot A.fs = T := ⟨_, rfl⟩
  have HT := Lib.hid hT
  rw [hT] at ht HT2
  rw [hnn] at hn
  clear hnn h hrb hT
  rw [HT.out]
  go_enter Try.func43, Try.ntmps43
  go_wp2
  go_loopw [3, 4] (fun nv iv wr => ∃ i : Nat, i ≤ n ∧ iv = .int .i64 i ∧ nv = .int .i64 (tot (A.fs.take i) : Nat) ∧ Hid (Below w.heap.size w wr)) (fun _ iv _ => n - (intOf iv).toNat)
  case atStart => exact ⟨0, by omega, rfl, by simp [tot], Lib.hid (Below.refl _ _)⟩
  case round =>
    obtain ⟨i, hi, rfl, rfl, HW⟩ := hrel
    have hrb := HRB.out.later HW.out
    obtain ⟨⟨c0, c1, c2, c3, c4⟩, _⟩ := hrb.cells
    rw [HLN.out] at c0
    have hfl := hrb.fls
    clear hrb c1 c2 c3 c4
    by_cases hin : i < n
    · have hil : i < A.fs.length := by rw [HLN.out]; exact hin
      have hin' : (i : Int) < (n : Int) := by omega
      have hi0 : (0 : Int) ≤ (i : Int) := by omega
      obtain ⟨b, off, rfl, k0, k1, k2⟩ := hfl i hil
      have H1 := Lib.hid (HT1.out i hil)
      have h2 := HT2.out (i + 1)
      rw [H1.out] at h2
      have hsz : (ofK A.fs[i].2.b).size = A.fs[i].2.b.length := ofK_size _
      clear hfl k0 k2
      generalize ofK A.fs[i].2.b = sb at *
      generalize A.fs[i].2.b.length = m at *
      generalize hq : tot (A.fs.take i) = q at *
      have HQ := Lib.hid hq
      clear hq
      have hsz' : (sb.size : Int) = (m : Int) := by omega
      go_wp2
      refine ⟨⟨i + 1, by omega, by go_num, ?_, HW⟩, by simp [intOf]; omega⟩
      rw [H1.out]
      go_num
    · obtain rfl : i = n := by omega
      have d1 : ¬ (i : Int) < (i : Int) := by omega
      have HE : Hid (tot (A.fs.take i) = T) := Lib.hid (by rw [← HLN.out, List.take_length, HT.out])
      go_wp2
      go_ret
      exact ⟨by rw [HE.out]; rfl, HW.out⟩
set_option maxRecDepth 100000 in
set_option maxHeartbeats 400000 in
theorem roff_any (bw : Nat) (A : DM) (w : World) (h : RefSt w bw A) :
    Calls Try.prog 49 #[.pointer (some ⟨bw, 0, none⟩)] w fun e w' => e = .returned (.bool A.blow.dead) ∧ RefSt w' bw A.blow ∧ Upd (· = bw) w w' := by
  obtain ⟨x, c, hrb⟩ := h.open
  obtain ⟨⟨c0, c1, c2, c3, c4⟩, hf⟩ := hrb.cells
  have f2 := hf 2
  have f3 := hf 3
  have HR := Lib.hid h
  have HRB := Lib.hid hrb
  have HOK := Lib.hid h.ok.blow
  have HNS := Lib.hid h.noStr
  clear hf hrb h
  by_cases hz : A.fuse = 0
  · have hz1 : (A.fuse == 0) = true := by simp [hz]
    have HD : Hid (A.blow = { A with dead := true, fuse := -1 }) := Lib.hid (by simp [DM.blow, hz])
    rw [HD.out]
    rw [HD.out] at HOK
    clear hz HD
    go_enter Try.func49, Try.ntmps49
    go_wp2
    go_ret
    have hu : Upd (· = bw) w ((w.setCell ⟨bw, 2, none⟩ (.bool true)).setCell ⟨bw, 3, none⟩ (.int .i64 (-1))) := (Upd.setCell (S := (· = bw)) _ _ _ rfl).trans (Upd.setCell (S := (· = bw)) _ _ _ rfl)
    refine ⟨rfl, RefSt.set HOK.out HRB.out.le HRB.out.cap (HRB.out.fls.upd hu (fun b e => by subst e; exact HNS.out)) HRB.out.nil ?_, hu⟩
    rw [heap_setCell_same _ _ _ _ _ _ (heap_setCell_same _ _ _ _ _ _ HRB.out.box)]
    simp [refCells]
  · have hz1 : (A.fuse == 0) = false := by simp [hz]
    have HD : Hid (A.blow = A) := Lib.hid (by simp [DM.blow, hz])
    rw [HD.out]
    clear hz HD HOK
    go_enter Try.func49, Try.ntmps49
    go_wp2
    go_ret
    exact ⟨rfl, HR.out, Upd.refl _ _⟩
set_option maxRecDepth 100000 in
set_option maxHeartbeats 400000 in
theorem rdone_any (bw : Nat) (A : DM) (w : World) (hd : A.done ≤ 1000000000) (h : RefSt w bw A) :
    Calls Try.prog 51 #[.pointer (some ⟨bw, 0, none⟩)] w fun e w' => e = .returned (.int .i64 0) ∧ RefSt w' bw A.did ∧ Upd (· = bw) w w' := by
  obtain ⟨x, c, hrb⟩ := h.open
  obtain ⟨⟨c0, c1, c2, c3, c4⟩, hf⟩ := hrb.cells
  have f3 := hf 3
  have f4 := hf 4
  have hfu := h.ok.fuse
  have HRB := Lib.hid hrb
  have HOK := Lib.hid h.ok.did
  have HNS := Lib.hid h.noStr
  clear hf hrb h
  by_cases hp : 0 < A.fuse
  · go_enter Try.func51, Try.ntmps51
    go_wp2
    go_ret
    have hu : Upd (· = bw) w ((w.setCell ⟨bw, 4, none⟩ (.int .i64 ((A.done : Int) + 1))).setCell ⟨bw, 3, none⟩ (.int .i64 (A.fuse - 1))) := (Upd.setCell (S := (· = bw)) _ _ _ rfl).trans (Upd.setCell (S := (· = bw)) _ _ _ rfl)
    refine ⟨rfl, RefSt.set HOK.out HRB.out.le HRB.out.cap (HRB.out.fls.upd hu (fun b e => by subst e; exact HNS.out)) HRB.out.nil ?_, hu⟩
    rw [heap_setCell_same _ _ _ _ _ _ (heap_setCell_same _ _ _ _ _ _ HRB.out.box)]
    simp [refCells, DM.did, hp]
  · go_enter Try.func51, Try.ntmps51
    go_wp2
    go_ret
    have hu : Upd (· = bw) w (w.setCell ⟨bw, 4, none⟩ (.int .i64 ((A.done : Int) + 1))) := Upd.setCell (S := (· = bw)) _ _ _ rfl
    refine ⟨rfl, RefSt.set HOK.out HRB.out.le HRB.out.cap (HRB.out.fls.upd hu (fun b e => by subst e; exact HNS.out)) HRB.out.nil ?_, hu⟩
    rw [heap_setCell_same _ _ _ _ _ _ HRB.out.box]
    have hif : (if 0 < A.fuse then A.fuse - 1 else A.fuse) = A.fuse := if_neg (by omega)
    simp [refCells, DM.did, hif]
end Go.Proofs.Ytjojomjnbiakoaa

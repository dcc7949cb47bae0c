/-
  The reference's groups of entries.
-/
import Derived.Test.YthgbmijgoaihcaaEnt3
import Derived.Test.YthgbmijgoaihcaaOwn
namespace Go.Proofs.Ythgbmijgoaihcaa
open Go.RowKit
set_option linter.unusedVariables false

theorem Try.infoE : (Try.prog.info? 33).map (fun i => (i.zero, i.size, i.bytes)) = some (some (.agg #[.string ByteArray.empty, .int .u64 0, .int .u8 0, .string ByteArray.empty]), 4, 48) := by kernel_rfl
theorem Try.infoEs : (Try.prog.info? 22).map (fun i => (i.zero, i.size, i.bytes)) = some (some (.slice none 0 0), 1, 24) := by kernel_rfl

def gstep (s : List (List Ent) × List Ent) (e : Ent) : List (List Ent) × List Ent :=
  match s.2 with
  | [] => (s.1, [e])
  | x :: _ => if x.user.toList = e.user.toList then (s.1, s.2 ++ [e]) else (s.1 ++ [s.2], [e])
def gfold (l : List Ent) : List (List Ent) × List Ent := l.foldl gstep ([], [])
def groups (l : List Ent) : List (List Ent) := if (gfold l).2 = [] then (gfold l).1 else (gfold l).1 ++ [(gfold l).2]

theorem gfold_take (l : List Ent) (k : Nat) (h : k < l.length) : gfold (l.take (k + 1)) = gstep (gfold (l.take k)) l[k] := by
  unfold gfold; rw [List.take_succ_eq_append_getElem h, List.foldl_append]; rfl
theorem gstep_len (s : List (List Ent) × List Ent) (e : Ent) (n : Nat) (h1 : s.1.length ≤ n) (h2 : s.2.length ≤ n) : (gstep s e).1.length ≤ n + 1 ∧ (gstep s e).2.length ≤ n + 1 := by
  unfold gstep
  split
  · simp; omega
  · split <;> simp <;> omega
theorem gfold_len (l : List Ent) (k : Nat) : (gfold (l.take k)).1.length ≤ k ∧ (gfold (l.take k)).2.length ≤ k := by
  induction k with
  | zero => simp [gfold]
  | succ k ih =>
    by_cases h : k < l.length
    · rw [gfold_take l k h]; exact gstep_len _ _ _ ih.1 ih.2
    · rw [List.take_of_length_le (by omega)] at ih ⊢; omega

set_option maxRecDepth 100000 in
set_option maxHeartbeats 1600000 in
theorem groups_any (a : Option Addr) (cap : Nat) (l : List Ent) (w : World) (hl : l.length ≤ 1000000) (hb : Ents w a l) :
    Calls Try.prog 41 #[.slice a l.length cap] w fun e w' => ∃ v K, e = .returned v ∧ Outs 22 w' w.heap.size K v (groups l) ∧ Below w.heap.size w w' := by
  go_enter Try.func41, Try.ntmps41
  go_wp2
  go_loopw [3, 4, 5] (fun vo vn i wr => ∃ k K : Nat, k ≤ l.length ∧ i = .int .i64 k ∧ w.heap.size ≤ K ∧ Outs 22 wr w.heap.size K vo (gfold (l.take k)).1 ∧ OwnE 33 wr K vn (gfold (l.take k)).2 ∧ Below w.heap.size w wr) (fun _ _ i _ => l.length - (intOf i).toNat)
  case atStart => exact ⟨0, w.heap.size, by omega, rfl, Nat.le_refl _, Outs.nil _ _ _ _ (Nat.le_refl _), OwnE.nil _ _ _, Below.refl _ _⟩
  case round =>
    obtain ⟨k, K, hk, rfl, hK, hout, hnow, hwr⟩ := hrel
    have hlen := gfold_len l k
    by_cases hlt : k < l.length
    · have hgs := gfold_take l k hlt
      have HGS := Lib.hid hgs
      clear hgs
      generalize hg : gfold (l.take k) = s at *
      obtain ⟨outs, now⟩ := s
      have HG := Lib.hid hg
      clear hg
      dsimp only at hout hnow hlen
      obtain ⟨y, c, rfl, hnc, hcm, hny, hno, hnn, hyo⟩ := hnow.read
      obtain ⟨b, off, rfl, ⟨c0, c1, c2, c3⟩, hok⟩ := (hb.below hwr) k hlt
      have hin : (k : Int) < (l.length : Int) := by omega
      have hnl : now.length ≤ 1000000000000 := by omega
      have hol : outs.length ≤ 1000000000000 := by omega
      cases now with
      | nil =>
        have hgs' : Hid (gfold (l.take (k + 1)) = (outs, [l[k]])) := HGS.out
        clear HGS
        generalize l[k] = x at *
        have d0 : decide (0 < ((([] : List Ent).length : Nat) : Int)) = false := by simp
        go_wp2
        go_quiet (fail)
        go_wp2_with (at_builtin; refine app_ent _ rfl _ _ 22 rfl Try.underlying22 Try.infoE rfl rfl (hnow.later ((below_drewN (Below.refl _ _) nq).alloc (Nat.le_refl _) _)) rfl (heap_at (wr.drewN nq) _) hok hnl (Nat.le_trans hout.1 (by simp)) ?_; intro v' w2 hown2 hb2 _)
        have hbk : Below K wr w2 := ((below_drewN (Below.refl _ _) nq).alloc hout.1 _).trans hb2
        refine ⟨⟨k + 1, K, by omega, by go_num, hK, ?_, ?_, hwr.trans (hbk.mono hK)⟩, by simp [intOf]; omega⟩
        · rw [hgs'.out]; exact hout.below hbk
        · rw [hgs'.out]; exact hown2
      | cons x0 t =>
        obtain ⟨yb, yo, rfl, ⟨e0, e1, e2, e3⟩, hok0⟩ := hny 0 (by simp)
        clear hok0
        have hgs' : Hid (gfold (l.take (k + 1)) = gstep (outs, x0 :: t) l[k]) := HGS.out
        clear HGS
        have HKx : Hid (∀ w', Below w.heap.size w w' → EntAt w' b (off + k * 4) l[k]) := fun w' h => (hb.below h).get k hlt
        generalize l[k] = x at *
        have d0 : decide (0 < (((x0 :: t).length : Nat) : Int)) = true := by simp
        have hz : (0 : Int) < (((x0 :: t).length : Nat) : Int) := by simp
        have hzn : 0 < (x0 :: t).length := by simp
        have d0n : decide (0 < (x0 :: t).length) = true := by simp
        have e0' : wr.cell? ⟨yb, yo, none⟩ = some (.string x0.user) := by simpa using e0
        by_cases hu : x0.user.toList = x.user.toList
        · have hg2 : Hid (gfold (l.take (k + 1)) = (outs, (x0 :: t) ++ [x])) := hgs'.out.trans (by unfold gstep; simp [hu])
          have d1 : (x0.user.toList == x.user.toList) = true := by simp [hu]
          clear hgs' hu e0 e1 e2 e3
          generalize hn : x0 :: t = now at *
          have HN := Lib.hid hn
          clear hn
          go_wp2
          go_quiet (fail)
          go_wp2_with (at_builtin; refine app_ent _ rfl _ _ 22 rfl Try.underlying22 Try.infoE rfl rfl (hnow.later ((below_drewN (Below.refl _ _) nq).alloc (Nat.le_refl _) _)) rfl (heap_at (wr.drewN nq) _) hok hnl (Nat.le_trans hout.1 (by simp)) ?_; intro v' w2 hown2 hb2 _)
          have hbk : Below K wr w2 := ((below_drewN (Below.refl _ _) nq).alloc hout.1 _).trans hb2
          refine ⟨⟨k + 1, K, by omega, by go_num, hK, ?_, ?_, hwr.trans (hbk.mono hK)⟩, by simp [intOf]; omega⟩
          · rw [hg2.out]; exact hout.below hbk
          · rw [hg2.out]; exact hown2
        · have hg2 : Hid (gfold (l.take (k + 1)) = (outs ++ [x0 :: t], [x])) := hgs'.out.trans (by unfold gstep; simp [hu])
          have d1 : (x0.user.toList == x.user.toList) = false := by simp [hu]
          clear hgs' hu e0 e1 e2 e3
          generalize hn : x0 :: t = now at *
          have HN := Lib.hid hn
          clear hn
          obtain ⟨xo, co, rfl, ho1, ho2, ho3⟩ := hout.read
          have hq : ∀ u : Addr, (some ⟨yb, yo, none⟩ : Option Addr) = some u → u.block < ((wr.drewN 0).alloc (.cells #[.slice (some ⟨yb, yo, none⟩) now.length c] 22)).heap.size ∧ (Value.slice xo outs.length co).ownBlock ≠ some u.block := by
            intro u hu
            obtain ⟨q1, q2⟩ := hno u.block (hyo u hu)
            refine ⟨Nat.lt_of_lt_of_le q2 (by simp [World.drewN]), fun hh => ?_⟩
            have := hout.2.1 _ hh
            omega
          have HQ := Lib.hid hq
          clear hq
          go_wp2
          go_quiet (fail)
          go_wp2_with (first
            | (at_builtin; refine app_list _ rfl _ _ 25 rfl Try.underlying25 Try.infoEs rfl rfl (hout.below ((below_drewN (Below.refl _ _) nq).alloc hout.1 _)) rfl (heap_at (wr.drewN nq) _) hnc hcm (hny.below ((below_drewN (Below.refl _ _) nq).alloc (Nat.le_refl _) _)) HQ.out hol hK ?_; intro v' w2 K2 hout2 hb2 hK2 hK3; have hbw := hwr.trans (((below_drewN (Below.refl _ _) nq).alloc hwr.size _).trans hb2); obtain ⟨f0, f1, f2, f3⟩ := HKx.out w2 hbw)
            | (at_builtin; refine app_ent _ rfl _ _ 22 rfl Try.underlying22 Try.infoE rfl rfl (OwnE.nil _ _ K2) rfl (heap_at w2 _) hok (Nat.zero_le _) (Nat.le_trans hout2.1 (by simp)) ?_; intro v3 w3 hown3 hb3 _))
          have hb23 : Below K2 w2 w3 := ((Below.refl _ _).alloc hout2.1 _).trans hb3
          refine ⟨⟨k + 1, K2, by omega, by go_num, Nat.le_trans hK hK2, ?_, ?_, hbw.trans (hb23.mono (Nat.le_trans hK hK2))⟩, by simp [intOf]; omega⟩
          · rw [hg2.out]; exact hout2.below hb23
          · rw [hg2.out]; exact hown3
    · obtain rfl : k = l.length := by omega
      rw [List.take_length] at *
      have HGR := Lib.hid (show groups l = if (gfold l).2 = [] then (gfold l).1 else (gfold l).1 ++ [(gfold l).2] from rfl)
      generalize hg : gfold l = s at *
      clear hg
      obtain ⟨outs, now⟩ := s
      dsimp only at hout hnow hlen HGR
      obtain ⟨y, c, rfl, hnc, hcm, hny, hno, hnn, hyo⟩ := hnow.read
      have hin : ¬ (l.length : Int) < (l.length : Int) := by omega
      have hol : outs.length ≤ 1000000000000 := by omega
      clear hb
      cases now with
      | nil =>
        have hgr : groups l = outs := HGR.out
        clear HGR
        have d0 : decide (0 < ((([] : List Ent).length : Nat) : Int)) = false := by simp
        go_wp2
        go_ret
        refine ⟨_, rfl, ⟨K, ?_⟩, hwr⟩
        exact hout
      | cons x0 t =>
        have hgr : Hid (groups l = outs ++ [x0 :: t]) := Lib.hid (by have := HGR.out; simpa using this)
        clear HGR
        have d0 : decide (0 < (((x0 :: t).length : Nat) : Int)) = true := by simp
        have hz : (0 : Int) < (((x0 :: t).length : Nat) : Int) := by simp
        have d0n : decide (0 < (x0 :: t).length) = true := by simp
        generalize hn : x0 :: t = now at *
        have HN := Lib.hid hn
        clear hn
        obtain ⟨xo, co, rfl, ho1, ho2, ho3⟩ := hout.read
        have hq : ∀ u : Addr, y = some u → u.block < ((wr).alloc (.cells #[.slice y now.length c] 22)).heap.size ∧ (Value.slice xo outs.length co).ownBlock ≠ some u.block := by
          intro u hu
          obtain ⟨q1, q2⟩ := hno u.block (hyo u hu)
          refine ⟨Nat.lt_of_lt_of_le q2 (by simp), fun hh => ?_⟩
          have := hout.2.1 _ hh
          omega
        have HQ := Lib.hid hq
        clear hq
        go_wp2_with (at_builtin; refine app_list _ rfl _ _ 25 rfl Try.underlying25 Try.infoEs rfl rfl (hout.below ((Below.refl _ _).alloc hout.1 _)) rfl (heap_at wr _) hnc hcm (hny.below ((Below.refl _ _).alloc (Nat.le_refl _) _)) HQ.out hol hK ?_; intro v' w2 K2 hout2 hb2 hK2 hK3; have hbw := hwr.trans (((Below.refl _ _).alloc hwr.size _).trans hb2))
        go_ret
        refine ⟨_, rfl, ⟨K2, ?_⟩, hbw⟩
        rw [hgr.out]
        exact hout2
end Go.Proofs.Ythgbmijgoaihcaa

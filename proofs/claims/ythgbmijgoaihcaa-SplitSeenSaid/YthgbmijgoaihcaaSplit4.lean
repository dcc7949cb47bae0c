/-
  The program's Split: the keys; the whole.
-/
import Derived.Test.YthgbmijgoaihcaaSplit3
namespace Go.Proofs.Ythgbmijgoaihcaa
open Go.RowKit
set_option linter.unusedVariables false

theorem gfold_from (l : List Ent) : ∀ (o : List (List Ent)) (n : List Ent), l.foldl gstep (o, n) = (o ++ (l.foldl gstep ([], n)).1, (l.foldl gstep ([], n)).2) := by
  induction l with
  | nil => intro o n; simp
  | cons e t ih =>
    intro o n
    rw [List.foldl_cons, List.foldl_cons]
    cases n with
    | nil => exact ih o [e]
    | cons x r =>
      by_cases h : x.user.toList = e.user.toList
      · have s1 : ∀ o, gstep (o, x :: r) e = (o, (x :: r) ++ [e]) := fun o => by unfold gstep; simp [h]
        rw [s1, s1]; exact ih o _
      · have s1 : ∀ o, gstep (o, x :: r) e = (o ++ [x :: r], [e]) := fun o => by unfold gstep; simp [h]
        rw [s1, s1, ih (o ++ [x :: r]) [e], ih ([] ++ [x :: r]) [e]]
        simp
theorem gfold_run (x : Ent) (g : List Ent) : ∀ (r : List Ent), (∀ y ∈ g, y.user.toList = x.user.toList) → g.foldl gstep ([], x :: r) = ([], x :: r ++ g) := by
  induction g with
  | nil => intro r _; simp
  | cons e t ih =>
    intro r h
    have he : x.user.toList = e.user.toList := (h e (by simp)).symm
    rw [List.foldl_cons]
    have : gstep ([], x :: r) e = ([], x :: (r ++ [e])) := by unfold gstep; simp [he]
    rw [this, ih _ (fun y hy => h y (by simp [hy]))]
    simp
theorem groups_run (x : Ent) (g rest : List Ent) (h : ∀ y ∈ g, y.user.toList = x.user.toList) (hr : ∀ e t, rest = e :: t → x.user.toList ≠ e.user.toList) : groups (x :: g ++ rest) = (x :: g) :: groups rest := by
  have h0 : gfold (x :: g ++ rest) = rest.foldl gstep ([], x :: g) := by
    unfold gfold
    rw [List.foldl_append, List.foldl_cons]
    have : gstep ([], []) x = ([], [x]) := rfl
    rw [this, gfold_run x g [] h]
    rfl
  cases rest with
  | nil =>
    unfold groups
    rw [h0]
    simp [gfold]
  | cons e t =>
    have h1 : gfold (x :: g ++ e :: t) = ((x :: g) :: (gfold (e :: t)).1, (gfold (e :: t)).2) := by
      rw [h0, List.foldl_cons]
      have : gstep ([], x :: g) e = ([x :: g], [e]) := by unfold gstep; simp [hr e t rfl]
      rw [this, gfold_from t [x :: g] [e]]
      unfold gfold
      rw [List.foldl_cons]
      rfl
    unfold groups
    rw [h1]
    dsimp only
    split <;> simp

theorem key_cut (rest : List Ent) (k : Nat) (h0 : 0 < k) (hk : k ≤ rest.length) (hs : ∀ j (h : j < rest.length), j < k → rest[j].user.toList = (rest[0]'(by omega)).user.toList) (he : ∀ (h : k < rest.length), (rest[0]'(by omega)).user.toList ≠ rest[k].user.toList) :
    groups rest = rest.take k :: groups (rest.drop k) := by
  cases rest with
  | nil => simp at hk; omega
  | cons x t =>
    obtain ⟨k', rfl⟩ : ∃ k', k = k' + 1 := ⟨k - 1, by omega⟩
    have e1 : x :: t = x :: t.take k' ++ t.drop k' := by simp
    have e2 : (x :: t).take (k' + 1) = x :: t.take k' := rfl
    have e3 : (x :: t).drop (k' + 1) = t.drop k' := rfl
    rw [e2, e3]
    conv => lhs; rw [e1]
    refine groups_run x _ _ ?_ ?_
    · intro y hy
      obtain ⟨i, hi, rfl⟩ := List.getElem_of_mem hy
      simp at hi
      have := hs (i + 1) (by simp; omega) (by omega)
      simpa using this
    · intro e t' ht
      have hlen : k' < t.length := by
        have : (t.drop k').length = (e :: t').length := by rw [ht]
        simp at this; omega
      have hd := List.drop_eq_getElem_cons hlen
      rw [ht] at hd
      cases hd
      have := he (by simp; omega)
      simpa using this

theorem sfold_snoc (m : Int) (gs : List (List Ent)) (g : List Ent) : sfold m (gs ++ [g]) = sstep m (sfold m gs) g := by unfold sfold; simp

theorem clo_any' (Bo Br Bm base : Nat) (m : Int) (w W0 : World) (s : List (List Ent) × List Ent × Nat) (yg : Option Addr) (cc k : Nat) (rest : List Ent) (hk : k ≤ rest.length) (h0 : 0 < k)
    (hi : Inv Bo Br Bm base m w s) (hm : -9223372036854775808 ≤ m ∧ m ≤ 9223372036854775807)
    (hE : Ents W0 yg rest) (hW : Below W0.heap.size W0 w) (hW0 : W0.heap.size ≤ Bm) (hgl : rest.length ≤ 1000000) (hgc : count rest ≤ 1000000000000) (hfl : s.1.length < 1000000) (hnl : s.2.1.length ≤ 1000000) :
    Calls Try.prog 39 #[.slice yg k cc, .pointer (some ⟨Bo, 0, none⟩), .pointer (some ⟨Br, 0, none⟩), .pointer (some ⟨Bm, 0, none⟩)] w fun e w' => e = .returned (.tuple #[]) ∧ Inv Bo Br Bm base m w' (sstep m s (rest.take k)) ∧ Below Bo w w' := by
  have hl : (rest.take k).length = k := by simp; omega
  have hc := count_take_le rest k
  have := clo_any Bo Br Bm base m w W0 s yg cc (rest.take k) hi hm (hE.take k) hW hW0 (fun e => by rw [e] at hl; simp at hl; omega) (by omega) (by omega) hfl hnl
  rw [hl] at this
  exact this

set_option maxRecDepth 100000 in
set_option maxHeartbeats 1600000 in
theorem keys_any (Bo Br Bm base : Nat) (m : Int) (w : World) (W0 : World) (a : Option Addr) (cap : Nat) (l : List Ent) (hl : l.length < 1000000) (hcap : l.length ≤ cap) (hcm : cap ≤ maxLen) (hc : count l ≤ 1000000000000) (hm : -9223372036854775808 ≤ m ∧ m ≤ 9223372036854775807)
    (hb : Ents W0 a l) (hW : Below W0.heap.size W0 w) (hW0 : W0.heap.size ≤ Bm) (hi : Inv Bo Br Bm base m w ([], [], 0)) :
    Calls Try.prog 38 #[.slice a l.length cap, .func (.func 39) #[] #[.pointer (some ⟨Bo, 0, none⟩), .pointer (some ⟨Br, 0, none⟩), .pointer (some ⟨Bm, 0, none⟩)]] w fun e w' => e = .returned (.tuple #[]) ∧ Inv Bo Br Bm base m w' (sfold m (groups l)) ∧ Below Bo w w' := by
  have hBo : Bo < w.heap.size := by obtain ⟨h1, h2, h3, h4, _⟩ := hi; omega
  have hBm : Bm < Bo := hi.1
  unfold maxLen at hcm
  have HF := Lib.hid (groups_facts m l)
  have HFL := Lib.hid (groups_flat l)
  have HI := Lib.hid hi
  clear hi
  obtain ⟨i0, hi0, hs0⟩ : ∃ i0, Try.prog.info? 33 = some i0 ∧ i0.size = 4 := by
    obtain ⟨i0, hi0, _, hz1, _⟩ := info_parts Try.infoE
    exact ⟨i0, hi0, hz1⟩
  have r1 := fun (a : Option Addr) (len cap k : Nat) (h : k ≤ len) (w : World) => run_cut_from Try.underlying22 hi0 a len cap k .i64 h w
  rw [hs0] at r1
  have R1 := Lib.hid r1
  clear r1
  go_enter Try.func38, Try.ntmps38
  go_wp2
  go_loopw [0] (fun v wr => ∃ (gs : List (List Ent)) (rest : List Ent) (x : Option Addr) (c : Nat), v = .slice x rest.length c ∧ rest.length ≤ c ∧ c ≤ 9223372036854775807 ∧ groups l = gs ++ groups rest ∧ Ents W0 x rest ∧ Inv Bo Br Bm base m wr (sfold m gs) ∧ Below Bo w wr) (fun v _ => match v with | .slice _ n _ => n | _ => 0)
  case atStart => exact ⟨[], l, a, cap, rfl, hcap, hcm, rfl, hb, HI.out, Below.refl _ _⟩
  case round =>
    obtain ⟨gs, rest, x, c, rfl, hrc, hcm2, hgs, hE, hinv, hwr⟩ := hrel
    have hW1 : Below W0.heap.size W0 wr := hW.trans (hwr.mono (by omega))
    have HIn := Lib.hid hinv
    have HE := Lib.hid hE
    have HGS := Lib.hid hgs
    clear hinv hgs
    by_cases hz : rest = []
    · have h0 : rest.length = 0 := by simp [hz]
      subst hz
      go_wp2
      go_end0
      refine ⟨rfl, ?_, hwr⟩
      have := HIn.out
      rw [HGS.out]
      simpa [groups, gfold] using this
    · have hpos : 0 < rest.length := List.length_pos_iff.2 hz
      have hE1 := hE.below hW1
      obtain ⟨b, off, rfl, ⟨c0, c1, c2, c3⟩, hok⟩ := hE1 0 hpos
      have HB : Hid (rest.length ≤ 1000000 ∧ count rest ≤ 1000000000000 ∧ (sfold m gs).1.length < 1000000 ∧ (sfold m gs).2.1.length ≤ 1000000) := Lib.hid (by
        have q1 := sfold_len m gs gs.length
        rw [List.take_length] at q1
        have q2 := HFL.out
        rw [HGS.out, List.flatten_append, groups_flat] at q2
        have q3 := congrArg List.length q2
        have q4 := congrArg count q2
        rw [List.length_append] at q3
        rw [count_append] at q4
        have q5 := HF.out.1
        rw [HGS.out, List.length_append] at q5
        omega)
      have hBow : Bo ≤ wr.heap.size := by have := hwr.size; omega
      go_wp2
      go_loopw [4] (fun kv w2 => ∃ k : Nat, 0 < k ∧ k ≤ rest.length ∧ kv = .int .i64 k ∧ Hid (∀ j (h : j < rest.length), j < k → rest[j].user.toList = (rest[0]'hpos).user.toList) ∧ Below wr.heap.size wr w2) (fun kv _ => rest.length - (intOf kv).toNat)
      case atStart =>
        refine ⟨1, by omega, by omega, rfl, Lib.hid ?_, Below.refl _ _⟩
        intro j h hj
        obtain rfl : j = 0 := by omega
        rfl
      case round =>
        obtain ⟨k, hk0, hk1, rfl, hs, hw2⟩ := hrel
        have hkc : (k : Int) ≤ (c : Int) := by omega
        have hkl : (k : Int) ≤ (rest.length : Int) := by omega
        have hz0 : (0 : Int) < (rest.length : Int) := by omega
        have r1 := fun w => R1.out (some ⟨b, off, none⟩) rest.length c k hk1 w
        by_cases hlt : k < rest.length
        · have hE2 := HE.out.below (hW1.trans (hw2.mono hW1.size))
          obtain ⟨e0, e1, e2, e3⟩ := hE2.get 0 hpos
          obtain ⟨f0, f1, f2, f3⟩ := hE2.get k hlt
          rw [Nat.zero_mul, Nat.add_zero] at e0
          have hin : (k : Int) < (rest.length : Int) := by omega
          clear hE2 e1 e2 e3 f1 f2 f3 c0 c1 c2 c3
          by_cases hu : rest[k].user.toList = rest[0].user.toList
          · have d1 : (rest[k].user.toList == rest[0].user.toList) = true := by simp [hu]
            have HN : Hid (∀ j (h : j < rest.length), j < k + 1 → rest[j].user.toList = (rest[0]'hpos).user.toList) := Lib.hid (by
              intro j h hj
              by_cases hjk : j < k
              · exact hs.out j h hjk
              · obtain rfl : j = k := by omega
                exact hu)
            clear hu
            generalize rest[k].user = uk at *
            generalize rest[0].user = u0 at *
            go_wp2
            go_quiet (fail)
            go_wp2
            exact ⟨⟨k + 1, by omega, by omega, by go_num, HN, below_drewN hw2 _⟩, by simp [intOf]; omega⟩
          · have d1 : (rest[k].user.toList == rest[0].user.toList) = false := by simp [hu]
            have HN : Hid (groups rest = rest.take k :: groups (rest.drop k)) := Lib.hid (key_cut rest k hk0 hk1 hs.out (fun _ e => hu e.symm))
            clear hu
            generalize rest[k].user = uk at *
            generalize rest[0].user = u0 at *
            go_wp2
            go_quiet (fail)
            go_wp2_with (go_at_call 39; refine (clo_any' Bo Br Bm base m (wr.drewN nq) W0 (sfold m gs) (some ⟨b, off, none⟩) c k rest hk1 hk0 (HIn.out.below (below_drewN hw2 nq)) hm HE.out (hW1.trans ((below_drewN hw2 nq).mono hW1.size)) hW0 HB.out.1 HB.out.2.1 HB.out.2.2.1 HB.out.2.2.2).mono ?_; rintro _ w3 ⟨rfl, hi3, hb3⟩; have HI3 := Lib.hid hi3; clear hi3)
            refine ⟨⟨gs ++ [rest.take k], rest.drop k, _, c - k, by rw [List.length_drop], by rw [List.length_drop]; omega, by omega, by rw [HGS.out, HN.out]; simp, HE.out.drop hrc k, ?_, hwr.trans (((below_drewN hw2 nq).mono hBow).trans hb3)⟩, by show rest.length - k < rest.length; omega⟩
            rw [sfold_snoc]
            exact HI3.out
        · have hke : k = rest.length := by omega
          have HN : Hid (groups rest = rest.take k :: groups (rest.drop k)) := Lib.hid (key_cut rest k hk0 hk1 hs.out (fun h => absurd h hlt))
          have hin : ¬ (k : Int) < (rest.length : Int) := by omega
          clear hke
          go_wp2
          go_quiet (fail)
          go_wp2_with (go_at_call 39; refine (clo_any' Bo Br Bm base m (wr.drewN nq) W0 (sfold m gs) (some ⟨b, off, none⟩) c k rest hk1 hk0 (HIn.out.below (below_drewN hw2 nq)) hm HE.out (hW1.trans ((below_drewN hw2 nq).mono hW1.size)) hW0 HB.out.1 HB.out.2.1 HB.out.2.2.1 HB.out.2.2.2).mono ?_; rintro _ w3 ⟨rfl, hi3, hb3⟩; have HI3 := Lib.hid hi3; clear hi3)
          refine ⟨⟨gs ++ [rest.take k], rest.drop k, _, c - k, by rw [List.length_drop], by rw [List.length_drop]; omega, by omega, by rw [HGS.out, HN.out]; simp, HE.out.drop hrc k, ?_, hwr.trans (((below_drewN hw2 nq).mono hBow).trans hb3)⟩, by show rest.length - k < rest.length; omega⟩
          rw [sfold_snoc]
          exact HI3.out
end Go.Proofs.Ythgbmijgoaihcaa

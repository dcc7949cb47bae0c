/-
  merge.Keep: the walk.
-/
import Derived.Test.YthgbmijgoaihcaaMg12
import Derived.Test.YthgbmijgoaihcaaMg1
import Derived.Test.YthgbmijgoaihcaaSplit1
namespace Go.Proofs.Ythgbmijgoaihcaa
open Go.RowKit
set_option linter.unusedVariables false

set_option maxRecDepth 100000 in
set_option maxHeartbeats 6400000 in
theorem keep_any (HS : Sorts) (a : Option Addr) (cap : Nat) (l : List Ent) (am : Option Addr) (capm : Nat) (ms : List Nat) (last : Bool) (w : World) (hl : l.length ≤ cap) (hm : cap ≤ maxLen) (hl2 : l.length ≤ 2932031007400) (hb : Ents w a l)
    (hlen : ms.length ≤ 500) (hms : ∀ m ∈ ms, m < 18446744073709551616) (hI : U64s w am ms) :
    Calls Try.prog 25 #[.slice a l.length cap, .slice am ms.length capm, .bool last] w fun e w' => ∃ v, e = .returned v ∧ OwnE 33 w' w.heap.size v (keepR ms last l) ∧ Below w.heap.size w w' := by
  have hle : l.length ≤ 9223372036854775807 := by omega
  obtain ⟨i0, hi0, hs0⟩ : ∃ i0, Try.prog.info? 33 = some i0 ∧ i0.size = 4 := by
    obtain ⟨i0, hi0, _, hz1, _⟩ := info_parts Try.infoE
    exact ⟨i0, hi0, hz1⟩
  have r1 := fun (a : Option Addr) (len cap k : Nat) (h : k ≤ len) (w : World) => run_cut_from Try.underlying22 hi0 a len cap k .i64 h w
  rw [hs0] at r1
  have R1 := Lib.hid r1
  have R2 := Lib.hid (fun (a : Option Addr) (len cap k : Nat) (h : k ≤ cap) (w : World) => run_cut_to Try.underlying22 hi0 a len cap k .i64 h w)
  clear r1
  have HM : Hid (∀ w' B, w'.heap[B]? = some (.cells #[.slice a l.length cap] 22 (0, 0)) → Below w.heap.size w w' → Calls Try.prog 42 #[.slice (some ⟨B, 0, none⟩) 1 1] w' fun e w'' => e = .returned (.bool (rises l)) ∧ Below w'.heap.size w' w'') := Lib.hid (fun w' B h hbel => by
    have := mrises_any (some ⟨B, 0, none⟩) 1 [l] w' (by unfold maxLen; simp) (fun i hi => by
      obtain rfl : i = 0 := by simpa using hi
      exact ⟨B, 0, a, cap, rfl, by rw [cell_of_row w' _ _ _ _ _ h]; rfl, hl, hm, hb.below hbel⟩)
    simpa using this)
  have HT : Hid (∀ w' Bs, w'.cell? ⟨Bs, 0, none⟩ = some (.slice am ms.length capm) → Below w.heap.size w w' → Calls Try.prog 43 #[.func (.func 57) #[] #[.pointer (some ⟨Bs, 0, none⟩)]] w' fun e W' => ∃ (v : Value) (ss : List Nat), e = .returned v ∧ ss.Perm ms ∧ ss.Pairwise (· ≤ ·) ∧ W'.ownsRow w'.heap.size 31 1 v ms.length (u64Cells ss) ∧ Below w'.heap.size w' W') :=
    Lib.hid (fun w' Bs h hbel => sorted_any HS Bs am capm ms hlen hms w' (cell_lt h) h (hI.below hbel))
  have HB := Lib.hid hb
  clear hb HS hI hms
  cases hr : rises l with
  | false =>
    rw [hr] at HM
    have hv : Hid (keepR ms last l = []) := Lib.hid (by unfold keepR; rw [hr]; rfl)
    go_enter Try.func25, Try.ntmps25
    go_wp2_with (first
      | ((with_reducible refine (HM.out _ _ (heap_at' (by simp)) (((Below.refl _ _).alloc (Nat.le_refl _) _).alloc (by simp) _)).mono ?_); rintro _ w1 ⟨rfl, hb1⟩))
    go_ret
    exact ⟨_, rfl, by rw [hv.out]; exact OwnE.nil _ _ _, (((Below.refl _ _).alloc (Nat.le_refl _) _).alloc (by simp) _).trans (hb1.mono (by simp; omega))⟩
  | true =>
    rw [hr] at HM
    have hv : Hid (keepR ms last l = kr ms last l l.length) := Lib.hid (by unfold keepR; rw [hr]; rfl)
    have HR := Lib.hid hr
    clear hr
    go_enter Try.func25, Try.ntmps25
    go_wp2_with (first
      | ((with_reducible refine (HM.out _ _ (heap_at' (by simp)) (((Below.refl _ _).alloc (Nat.le_refl _) _).alloc (by simp) _)).mono ?_); rintro _ w1 ⟨rfl, hb1⟩)
      | (go_at_call 44; refine (values_any _ _ _ _).mono ?_; rintro _ w2 ⟨rfl, rfl⟩)
      | (go_at_call 43; refine (HT.out _ _ (cell_of_one (t := 35) (heap_at _ _)) (((((Below.refl _ _).alloc (Nat.le_refl _) _).alloc (by simp) _).trans (hb1.mono (by simp; omega))).alloc (by have := hb1.size; simp at this; omega) _)).mono ?_; rintro _ w3 ⟨sv, ss, rfl, hp1, hp2, hso, hb3⟩))
    have HSL : Hid (ss.length = ms.length) := Lib.hid hp1.length_eq
    obtain ⟨sx, cx, rfl, hsU, hsb⟩ := ownU_read HSL.out.symm hso
    obtain ⟨N, HN⟩ : ∃ N, Hid (w3.heap.size = N) := ⟨_, Lib.hid rfl⟩
    have HPS := Lib.hid (And.intro hp1 hp2)
    have HKS : Hid (KS w w.heap.size N a l.length cap sx ss w3) := Lib.hid (by
      have z1 := hb1.size
      have z3 := hb3.size
      simp at z1 z3
      refine ⟨?_, hsU, ?_, ?_, ?_, Nat.le_of_eq HN.out.symm, rfl⟩
      · rw [hb3.block _ (by simp; omega), Below.heap_alloc _ _ _ (by omega), hb1.block _ (by simp; omega)]
        exact heap_keep (heap_at _ _)
      · intro y hy
        obtain ⟨q1, q2⟩ := hsb y hy
        simp at q1
        exact ⟨by rw [← HN.out]; exact q2, by omega⟩
      · exact (((((Below.refl _ _).alloc (Nat.le_refl _) _).alloc (by simp) _).trans (hb1.mono (by simp; omega))).alloc (by omega) _).trans (hb3.mono (by simp; omega))
      · rw [← HN.out]; omega)
    have hNw : N ≤ w3.heap.size := Nat.le_of_eq HN.out.symm
    clear hsU hsb hso hb1 hb3 HM HT hp1 hp2
    go_loopw [8] (fun ov wr => ∃ (p : Nat) (x : Option Addr) (m c : Nat), Hid (p + m = l.length ∧ (p = 0 ∨ m = 0 ∨ sameU (l.getD (p - 1) default) (l.getD p default) = false)) ∧ m ≤ c ∧ c ≤ 9223372036854775807 ∧ m ≤ 2932031007400 ∧ Hid (Ents w x (l.drop p)) ∧ Hid (KS w w.heap.size N x m c sx ss wr) ∧ Hid (OwnE 33 wr N ov (kr ms last l p))) (fun _ wr => match wr.cell? ⟨w.heap.size, 0, none⟩ with | some (.slice _ n _) => n | _ => 0)
    case atStart => exact ⟨0, a, l.length, cap, Lib.hid ⟨by omega, Or.inl rfl⟩, hl, by unfold maxLen at hm; omega, hl2, HB, HKS, Lib.hid (OwnE.nil _ _ _)⟩
    case round =>
      obtain ⟨p, x, m, c, hpm, hmc, hc63, hm29, HE, HKr, hown⟩ := hrel
      have hxr := HKr.out.cell
      by_cases hm1 : 0 < m
      · have hm0 : (0 : Int) < (m : Int) := by omega
        obtain ⟨rest, HRE⟩ : ∃ rest, Hid (l.drop p = rest) := ⟨_, Lib.hid rfl⟩
        rw [HRE.out] at HE
        have HRL : Hid (rest.length = m) := Lib.hid (by rw [← HRE.out, List.length_drop]; have := hpm.out.1; omega)
        have HO : Hid (Calls Try.prog 45 #[.slice x m c, .func (.func 46) #[] #[.pointer (some ⟨w.heap.size, 0, none⟩)]] wr fun e w' => Other rest e ∧ Below wr.heap.size wr w') := Lib.hid (by
          have := other_any w.heap.size x c rest wr (by rw [HRL.out]; exact hm1) (by rw [HRL.out]; unfold maxLen; omega) (by rw [HRL.out]; exact hxr) (HKr.out.ents HE.out)
          rw [HRL.out] at this
          exact this)
        go_wp2_with fail
        refine HO.out.mono ?_
        rintro _ w1 ⟨⟨i1, rfl, hi1⟩, hb4⟩
        have hks1 := HKr.out.later hb4
        have hx1 := hks1.cell
        have hE1 := Lib.hid (hks1.ents HE.out)
        rcases hi1 with ⟨rfl, hi1⟩ | ⟨n, rfl, hn0, hnm, hi1, hi2⟩
        · have HGRP : Hid (kr ms last l (p + m) = kr ms last l p ++ (if last = true then trimK (kp ms rest m) else kp ms rest m)) := Lib.hid (by
            have := kr_group ms last l HR.out p m (by rcases hpm.out.2 with h | h | h; exact Or.inl h; omega; exact Or.inr h) hm1 (by have := hpm.out.1; omega) (fun j hj => by
              have := hi1 j (by rw [HRL.out]; exact hj)
              rw [← HRE.out, getD_drop, getD_drop] at this
              simpa using this) (Or.inl (by have := hpm.out.1; omega))
            rw [HRE.out] at this
            exact this)
          have HBND : Hid (p + m = 0 ∨ m - m = 0 ∨ sameU (l.getD (p + m - 1) default) (l.getD (p + m) default) = false) := Lib.hid (Or.inr (Or.inl (Nat.sub_self m)))
          clear hi1
          have hn0 : 0 < m := hm1
          have hnm : m ≤ m := Nat.le_refl _
          have hn1 : (1 : Int) ≤ (m : Int) := by omega
          have hm0 : (0 : Int) < (m : Int) := by omega
          obtain ⟨bR, oR, rfl, hE0, hok0⟩ := hE1.out 0 (by rw [HRL.out]; exact hm1)
          rw [Nat.zero_mul, Nat.add_zero] at hE0
          obtain ⟨e0, e1, e2, e3⟩ := hE0
          have HLit := Lib.hid (OwnE.lit w1 (rest[0]'(by rw [HRL.out]; exact hm1)) w1.heap.size (Nat.le_refl _) hok0)
          have HK1 : Hid (kp ms rest 1 = [rest[0]'(by rw [HRL.out]; exact hm1)]) := Lib.hid (by
            have : 0 < rest.length := by rw [HRL.out]; exact hm1
            simp [kp, List.getD_eq_getElem?_getD, this])
          have hx0 := hks1.cell
          have HOU := Lib.hid (hown.out.later hb4)
          have HKS1 := Lib.hid hks1
          clear hks1 hE1 hok0
          generalize (rest[0]'(by rw [HRL.out]; exact hm1)) = x0 at *
          obtain ⟨N2, HN2⟩ : ∃ N2, Hid (w1.heap.size = N2) := ⟨_, Lib.hid rfl⟩
          have hNN2 : N ≤ N2 := by have := HKS1.out.le; rw [HN2.out] at this; exact this
          have HB9 : Hid (Below N2 w1 (w1.alloc (.cells (entCells x0).toArray 33))) := Lib.hid ((Below.refl _ _).alloc (Nat.le_of_eq HN2.out.symm) _)
          rw [HN2.out] at HLit
          unfold entCells at HLit HB9
          go_wp2
          go_loopw [10, 11] (fun kv jv w2 => ∃ j : Nat, 0 < j ∧ j ≤ m ∧ jv = .int .i64 j ∧ Hid (OwnE 33 w2 N2 kv (kp ms rest j)) ∧ Below N2 w1 w2) (fun _ jv _ => m - (intOf jv).toNat)
          case atStart => exact ⟨1, by omega, by omega, rfl, Lib.hid (by rw [HK1.out]; have := HLit.out; rw [HN2.out]; exact this), HB9.out⟩
          case round =>
            obtain ⟨j, hj0, hjn, rfl, hkept, hw2⟩ := hrel
            have hks2 := HKS1.out.step (hw2.mono hNN2)
            have hbx := hks2.cell
            have HK2 := Lib.hid hks2
            have hE2 := hks2.ents HE.out
            clear hks2
            have hN2w : N2 ≤ wr.heap.size := by have := hw2.size; rw [HN2.out] at this; exact this
            by_cases hjlt : j < m
            · obtain ⟨i, rfl⟩ : ∃ i, j = i + 1 := ⟨j - 1, by omega⟩
              have hjr : i + 1 < rest.length := by rw [HRL.out]; omega
              obtain ⟨_, _, ee, ⟨c0, c1, c2, c3⟩, hok⟩ := hE2 (i + 1) hjr
              cases ee
              obtain ⟨_, _, ee, ⟨g0, g1, g2, g3⟩, _⟩ := hE2 i (by omega)
              cases ee
              have HSR := Lib.hid (search_any sx cx ss (rest[i + 1]'hjr).seq wr (by rw [HSL.out]; omega) HK2.out.srt HPS.out.2)
              rw [HSL.out] at HSR
              have HKP : Hid (kp ms rest (i + 1 + 1) = kp ms rest (i + 1) ++ if seenB ms (rest[i + 1]'hjr).seq (rest[i]'(by omega)).seq = true then [rest[i + 1]'hjr] else []) := Lib.hid (by
                have h1 : i < rest.length := by omega
                conv => lhs; unfold kp
                simp [List.getD_eq_getElem?_getD, hjr, h1])
              have hlo : (kp ms rest (i + 1)).length + 1 ≤ 2932031007402 := by have := kp_len ms rest (i + 1); omega
              have hj1 : (i : Int) + 1 < (m : Int) := by omega
              have hj2 : (i : Int) + 1 < (m : Int) := by omega
              have hj3 : (0 : Int) ≤ (i : Int) + 1 := by omega
              have hj4 : (i : Int) < (m : Int) := by omega
              have hj5 : (0 : Int) ≤ (i : Int) := by omega
              clear hE2
              generalize (rest[i + 1]'hjr) = y at *
              generalize (rest[i]'(by omega)).seq = sp at *
              generalize kp ms rest (i + 1) = kl at *
              go_wp2_with (first
                | ((with_reducible refine HSR.out.mono ?_); rintro _ w4 ⟨⟨k, fb, rfl, hk1, hk2, hk3⟩, hb4⟩))
              have HKS4 := Lib.hid (HK2.out.later hb4)
              have hbx4 := cell_later2 hb4 hbx
              replace c0 := cell_later2 hb4 c0
              replace c1 := cell_later2 hb4 c1
              replace c2 := cell_later2 hb4 c2
              replace c3 := cell_later2 hb4 c3
              replace g1 := cell_later2 hb4 g1
              have HKE := Lib.hid (hkept.out.later hb4)
              have HB4 := Lib.hid (hw2.trans (hb4.mono hN2w))
              have hN4 : N2 ≤ w4.heap.size := Nat.le_trans hN2w hb4.size
              have HIT := Lib.hid ((hit_eq ss y.seq sp k HPS.out.2 hk2 hk3).trans (seenB_perm ms ss HPS.out.1 y.seq sp))
              have hkl2 := HSL.out
              by_cases hkl : k < ss.length
              · obtain ⟨bS, oS, rfl, hsc⟩ := HKS4.out.srt k hkl
                have d1 : (k : Int) < (ms.length : Int) := by omega
                have d0 : (0 : Int) ≤ (k : Int) := by omega
                have hg : Hid (ss.getD k 0 = ss[k]) := Lib.hid (by simp [List.getD_eq_getElem?_getD, hkl])
                rw [hg.out] at HIT
                clear hg hk2 hk3 hkl2 hbx hb4 HSR HK2 hkept
                have HKL := Lib.hid hkl
                generalize ss[k] = sk at *
                clear hkl
                by_cases hs : sk < sp
                · have d2 : decide ((sk : Int) < (sp : Int)) = true := by simp; omega
                  have HN : Hid (kp ms rest (i + 1 + 1) = kl ++ [y]) := Lib.hid (by rw [HKP.out, ← HIT.out]; simp [HKL.out, hs])
                  clear HKP HIT
                  go_quiet (fail)
                  go_wp2_with (at_builtin; refine app_ent2 _ rfl _ _ 22 rfl Try.underlying22 Try.infoE rfl rfl (HKE.out.later ((below_drewN (Below.refl w4.heap.size w4) nq).alloc (by simp [World.drewN]) _)) (e := y) rfl (heap_at' (by simp [World.drewN])) hok hlo (Nat.le_trans hN4 (by simp [World.drewN])) ?_; intro v' w5 hown5 hb5)
                  have hbe : Below N2 w1 w5 := HB4.out.trans ((((below_drewN (Below.refl w4.heap.size w4) nq).alloc (by simp [World.drewN]) _).mono hN4).trans hb5)
                  exact ⟨⟨i + 1 + 1, by omega, by omega, by go_num, Lib.hid (by rw [HN.out]; exact hown5), hbe⟩, by simp [intOf]; omega⟩
                · have d2 : decide ((sk : Int) < (sp : Int)) = false := by simp; omega
                  have HN : Hid (kp ms rest (i + 1 + 1) = kl) := Lib.hid (by rw [HKP.out, ← HIT.out]; simp [hs])
                  clear HKP HIT
                  go_quiet (fail)
                  go_wp2
                  have hbe : Below w4.heap.size w4 (w4.drewN nq) := below_drewN (Below.refl _ _) _
                  exact ⟨⟨i + 1 + 1, by omega, by omega, by go_num, Lib.hid (by rw [HN.out]; exact HKE.out.later hbe), HB4.out.trans (hbe.mono hN4)⟩, by simp [intOf]; omega⟩
              · have d1 : decide ((k : Int) < (ms.length : Int)) = false := by simp; omega
                have d1' : decide (k < ms.length) = false := by simp; omega
                have d1'' : ¬ k < ms.length := by omega
                have HN : Hid (kp ms rest (i + 1 + 1) = kl) := Lib.hid (by rw [HKP.out, ← HIT.out]; simp [hkl])
                clear HKP HIT hk2 hk3 hbx hb4 HSR HK2 hkept hkl hkl2
                go_quiet (fail)
                go_wp2
                have hbe : Below w4.heap.size w4 (w4.drewN nq) := below_drewN (Below.refl _ _) _
                exact ⟨⟨i + 1 + 1, by omega, by omega, by go_num, Lib.hid (by rw [HN.out]; exact HKE.out.later hbe), HB4.out.trans (hbe.mono hN4)⟩, by simp [intOf]; omega⟩
            · obtain rfl : m = j := by omega
              have hjx : ¬ (m : Int) < (m : Int) := by omega
              have HOUr := Lib.hid (HOU.out.below hw2 (fun g hg => by rw [← HN2.out]; exact (HOU.out.1.lt g hg).2))
              have HKPL := Lib.hid (kp_len ms rest m)
              obtain ⟨yk, ck, rfl, hck, hck2, hEk, _⟩ := hkept.out.read
              have HEk := Lib.hid hEk
              obtain ⟨kn, HKN⟩ : ∃ kn, Hid ((kp ms rest m).length = kn) := ⟨_, Lib.hid rfl⟩
              have hck3 : kn ≤ ck := by rw [← HKN.out]; exact hck
              have hck4 : ck ≤ 9223372036854775807 := by unfold maxLen at hck2; omega
              rw [HKN.out]
              obtain ⟨wA, rfl⟩ : ∃ wA, wA = wr := ⟨_, rfl⟩
              clear hkept hEk hck hck2 hE2
              go_wp2
              go_loopw [10] (fun kv wz => ∃ (kl : List Ent) (y : Option Addr) (kn c' : Nat), kv = .slice y kn c' ∧ Hid (kl.length = kn) ∧ kn ≤ c' ∧ c' ≤ 9223372036854775807 ∧ kn ≤ m ∧ Hid (Ents wA y kl) ∧ Hid ((if last = true then trimK kl else kl) = (if last = true then trimK (kp ms rest m) else kp ms rest m)) ∧ wz = wA) (fun kv _ => match kv with | .slice _ m _ => m | _ => 0)
              case atStart => exact ⟨_, yk, kn, ck, rfl, HKN, hck3, hck4, by rw [← HKN.out]; exact HKPL.out, HEk, Lib.hid rfl, rfl⟩
              case round =>
                obtain ⟨kl, yl, kn, c', rfl, hkn, hkc, hkc2, hkj, hEl, hT, rfl⟩ := hrel
                have hbx := HK2.out.cell
                obtain ⟨mr, HMR⟩ : ∃ mr, Hid (m - m = mr) := ⟨_, Lib.hid rfl⟩
                have hr5 := fun w => R1.out (some ⟨bR, oR, none⟩) m c m hnm w
                rw [HMR.out] at hr5 HBND
                have hjc : (m : Int) ≤ (c : Int) := by omega
                have hjm : (m : Int) ≤ (m : Int) := by omega
                cases last with
                | false =>
                  have HF : Hid (kl = kp ms rest m) := Lib.hid (by have := hT.out; simpa using this)
                  have HG2 : Hid (kr ms false l (p + m) = kr ms false l p ++ kl) := Lib.hid (by rw [HGRP.out, HF.out]; simp)
                  go_wp2_with (at_builtin; refine app_ents3 _ rfl _ _ 22 rfl Try.underlying22 Try.infoE rfl rfl HOUr.out hkn.out rfl hEl.out (by have h1 := kr_len ms false l p; have h2 := hkn.out; have h3 := hpm.out.1; omega) HK2.out.le ?_; intro v' w5 hown5 hb5; have HKS5 := Lib.hid (HK2.out.step hb5); have hbx5 := HKS5.out.cell; have hfx5 := HKS5.out.free; have HO5 := Lib.hid hown5; clear hown5)
                  have HKS6 := HKS5.out.store (cutFrom (some ⟨bR, oR, none⟩) c m 4) mr (c - m)
                  refine ⟨⟨p + m, cutFrom (some ⟨bR, oR, none⟩) c m 4, mr, c - m, Lib.hid ⟨by have := hpm.out.1; have := HMR.out; omega, HBND.out⟩, by have := HMR.out; omega, by omega, by have := HMR.out; omega, Lib.hid (by rw [← List.drop_drop, HRE.out]; exact HE.out.drop (by rw [HRL.out]; exact hmc) m), Lib.hid HKS6, Lib.hid ?_⟩, ?_⟩
                  · rw [HG2.out]
                    refine ⟨ownsRow_setCell_other HO5.out.1 (fun hh => ?_) _, HO5.out.2⟩
                    have h1 := (HO5.out.1.lt _ hh).1
                    have h2 := HK2.out.lt
                    simp at h1
                    omega
                  · rw [HKS6.cell, hxr]
                    have := HMR.out
                    show mr < m
                    omega
                | true =>
                  by_cases hk0 : kn = 0
                  · subst hk0
                    have HF : Hid (trimK kl = kl) := Lib.hid (by rw [List.eq_nil_of_length_eq_zero hkn.out]; rfl)
                    have HG2 : Hid (kr ms true l (p + m) = kr ms true l p ++ kl) := Lib.hid (by
                      have := hT.out
                      simp only [if_true] at this
                      rw [HGRP.out, if_pos rfl, ← this, HF.out])
                    go_wp2_with (at_builtin; refine app_ents3 _ rfl _ _ 22 rfl Try.underlying22 Try.infoE rfl rfl HOUr.out hkn.out rfl hEl.out (by have h1 := kr_len ms true l p; have h2 := hkn.out; have h3 := hpm.out.1; omega) HK2.out.le ?_; intro v' w5 hown5 hb5; have HKS5 := Lib.hid (HK2.out.step hb5); have hbx5 := HKS5.out.cell; have hfx5 := HKS5.out.free; have HO5 := Lib.hid hown5; clear hown5)
                    have HKS6 := HKS5.out.store (cutFrom (some ⟨bR, oR, none⟩) c m 4) mr (c - m)
                    refine ⟨⟨p + m, cutFrom (some ⟨bR, oR, none⟩) c m 4, mr, c - m, Lib.hid ⟨by have := hpm.out.1; have := HMR.out; omega, HBND.out⟩, by have := HMR.out; omega, by omega, by have := HMR.out; omega, Lib.hid (by rw [← List.drop_drop, HRE.out]; exact HE.out.drop (by rw [HRL.out]; exact hmc) m), Lib.hid HKS6, Lib.hid ?_⟩, ?_⟩
                    · rw [HG2.out]
                      refine ⟨ownsRow_setCell_other HO5.out.1 (fun hh => ?_) _, HO5.out.2⟩
                      have h1 := (HO5.out.1.lt _ hh).1
                      have h2 := HK2.out.lt
                      simp at h1
                      omega
                    · rw [HKS6.cell, hxr]
                      have := HMR.out
                      show mr < m
                      omega
                  · obtain ⟨q, rfl⟩ : ∃ q, kn = q + 1 := ⟨kn - 1, by omega⟩
                    have hql : q < kl.length := by rw [hkn.out]; omega
                    obtain ⟨bL, oL, rfl, ⟨_, _, l2, _⟩, _⟩ := hEl.out q hql
                    have HTS : Hid (trimK kl = if (kl[q]'hql).kind = 0 then trimK (kl.take q) else kl) := Lib.hid (by
                      have e : kl = kl.take q ++ [kl[q]'hql] := by
                        have h1 := List.take_succ_eq_append_getElem hql
                        rw [← h1, List.take_of_length_le (by rw [hkn.out]; exact Nat.le_refl _)]
                      conv => lhs; rw [e]
                      rw [trimK_snoc, ← e])
                    have q1 : (0 : Int) < (q : Int) + 1 := by omega
                    have q2 : (q : Int) < (q : Int) + 1 := by omega
                    have q3 : (0 : Int) ≤ (q : Int) := by omega
                    have q4 : (q : Int) ≤ (c' : Int) := by omega
                    have hr6 := fun w => R2.out (some ⟨bL, oL, none⟩) (q + 1) c' q (by omega) w
                    by_cases hkd : (kl[q]'hql).kind = 0
                    · have d1 : (((kl[q]'hql).kind : Int) == 0) = true := by simp; omega
                      rw [if_pos hkd] at HTS
                      have HT2 : Hid ((if true = true then trimK (kl.take q) else kl.take q) = (if true = true then trimK (kp ms rest m) else kp ms rest m)) := Lib.hid (by have := hT.out; simp only [if_true] at this ⊢; rw [← this, HTS.out])
                      clear hkd
                      generalize (kl[q]'hql).kind = kd at *
                      go_wp2
                      exact ⟨⟨kl.take q, some ⟨bL, oL, none⟩, q, c', rfl, Lib.hid (by simp; omega), by omega, hkc2, by omega, Lib.hid (hEl.out.take q), HT2, (by trivial)⟩, by show q < q + 1; omega⟩
                    · have d1 : (((kl[q]'hql).kind : Int) == 0) = false := by simp; omega
                      rw [if_neg hkd] at HTS
                      have HG2 : Hid (kr ms true l (p + m) = kr ms true l p ++ kl) := Lib.hid (by
                        have := hT.out
                        simp only [if_true] at this
                        rw [HGRP.out, if_pos rfl, ← this, HTS.out])
                      clear hkd HTS
                      generalize (kl[q]'hql).kind = kd at *
                      go_wp2_with (at_builtin; refine app_ents3 _ rfl _ _ 22 rfl Try.underlying22 Try.infoE rfl rfl HOUr.out hkn.out rfl hEl.out (by have h1 := kr_len ms true l p; have h2 := hkn.out; have h3 := hpm.out.1; omega) HK2.out.le ?_; intro v' w5 hown5 hb5; have HKS5 := Lib.hid (HK2.out.step hb5); have hbx5 := HKS5.out.cell; have hfx5 := HKS5.out.free; have HO5 := Lib.hid hown5; clear hown5)
                      have HKS6 := HKS5.out.store (cutFrom (some ⟨bR, oR, none⟩) c m 4) mr (c - m)
                      refine ⟨⟨p + m, cutFrom (some ⟨bR, oR, none⟩) c m 4, mr, c - m, Lib.hid ⟨by have := hpm.out.1; have := HMR.out; omega, HBND.out⟩, by have := HMR.out; omega, by omega, by have := HMR.out; omega, Lib.hid (by rw [← List.drop_drop, HRE.out]; exact HE.out.drop (by rw [HRL.out]; exact hmc) m), Lib.hid HKS6, Lib.hid ?_⟩, ?_⟩
                      · rw [HG2.out]
                        refine ⟨ownsRow_setCell_other HO5.out.1 (fun hh => ?_) _, HO5.out.2⟩
                        have h1 := (HO5.out.1.lt _ hh).1
                        have h2 := HK2.out.lt
                        simp at h1
                        omega
                      · rw [HKS6.cell, hxr]
                        have := HMR.out
                        show mr < m
                        omega
        · rw [HRL.out] at hnm
          have hi2' : sameU (l.getD (p + n) default) (l.getD p default) = false := by
            rw [← HRE.out, getD_drop, getD_drop] at hi2
            simpa using hi2
          have hi3 : ∀ j, j < n → (l.getD (p + j) default).user.toList = (l.getD p default).user.toList := fun j hj => by
            have := hi1 j hj
            rw [← HRE.out, getD_drop, getD_drop] at this
            simpa using this
          have HGRP : Hid (kr ms last l (p + n) = kr ms last l p ++ (if last = true then trimK (kp ms rest n) else kp ms rest n)) := Lib.hid (by
            have := kr_group ms last l HR.out p n (by rcases hpm.out.2 with h | h | h; exact Or.inl h; omega; exact Or.inr h) hn0 (by have := hpm.out.1; omega) hi3 (Or.inr hi2')
            rw [HRE.out] at this
            exact this)
          have HBND : Hid (p + n = 0 ∨ m - n = 0 ∨ sameU (l.getD (p + n - 1) default) (l.getD (p + n) default) = false) := Lib.hid (Or.inr (Or.inr (by
            have h1 := hi3 (n - 1) (by omega)
            rw [show p + n - 1 = p + (n - 1) by omega]
            unfold sameU at hi2' ⊢
            rw [h1]
            rw [Bool.eq_false_iff] at hi2' ⊢
            intro h
            exact hi2' (by rw [beq_iff_eq] at h ⊢; exact h.symm))))
          clear hi1 hi2 hi3 hi2'
          replace hnm : n ≤ m := Nat.le_of_lt hnm
          have hnn : ¬ (n : Int) < 0 := by omega
          have hn1 : (1 : Int) ≤ (n : Int) := by omega
          have hm0 : (0 : Int) < (m : Int) := by omega
          obtain ⟨bR, oR, rfl, hE0, hok0⟩ := hE1.out 0 (by rw [HRL.out]; exact hm1)
          rw [Nat.zero_mul, Nat.add_zero] at hE0
          obtain ⟨e0, e1, e2, e3⟩ := hE0
          have HLit := Lib.hid (OwnE.lit w1 (rest[0]'(by rw [HRL.out]; exact hm1)) w1.heap.size (Nat.le_refl _) hok0)
          have HK1 : Hid (kp ms rest 1 = [rest[0]'(by rw [HRL.out]; exact hm1)]) := Lib.hid (by
            have : 0 < rest.length := by rw [HRL.out]; exact hm1
            simp [kp, List.getD_eq_getElem?_getD, this])
          have hx0 := hks1.cell
          have HOU := Lib.hid (hown.out.later hb4)
          have HKS1 := Lib.hid hks1
          clear hks1 hE1 hok0
          generalize (rest[0]'(by rw [HRL.out]; exact hm1)) = x0 at *
          obtain ⟨N2, HN2⟩ : ∃ N2, Hid (w1.heap.size = N2) := ⟨_, Lib.hid rfl⟩
          have hNN2 : N ≤ N2 := by have := HKS1.out.le; rw [HN2.out] at this; exact this
          have HB9 : Hid (Below N2 w1 (w1.alloc (.cells (entCells x0).toArray 33))) := Lib.hid ((Below.refl _ _).alloc (Nat.le_of_eq HN2.out.symm) _)
          rw [HN2.out] at HLit
          unfold entCells at HLit HB9
          go_wp2
          go_loopw [10, 11] (fun kv jv w2 => ∃ j : Nat, 0 < j ∧ j ≤ n ∧ jv = .int .i64 j ∧ Hid (OwnE 33 w2 N2 kv (kp ms rest j)) ∧ Below N2 w1 w2) (fun _ jv _ => n - (intOf jv).toNat)
          case atStart => exact ⟨1, by omega, by omega, rfl, Lib.hid (by rw [HK1.out]; have := HLit.out; rw [HN2.out]; exact this), HB9.out⟩
          case round =>
            obtain ⟨j, hj0, hjn, rfl, hkept, hw2⟩ := hrel
            have hks2 := HKS1.out.step (hw2.mono hNN2)
            have hbx := hks2.cell
            have HK2 := Lib.hid hks2
            have hE2 := hks2.ents HE.out
            clear hks2
            have hN2w : N2 ≤ wr.heap.size := by have := hw2.size; rw [HN2.out] at this; exact this
            by_cases hjlt : j < n
            · obtain ⟨i, rfl⟩ : ∃ i, j = i + 1 := ⟨j - 1, by omega⟩
              have hjr : i + 1 < rest.length := by rw [HRL.out]; omega
              obtain ⟨_, _, ee, ⟨c0, c1, c2, c3⟩, hok⟩ := hE2 (i + 1) hjr
              cases ee
              obtain ⟨_, _, ee, ⟨g0, g1, g2, g3⟩, _⟩ := hE2 i (by omega)
              cases ee
              have HSR := Lib.hid (search_any sx cx ss (rest[i + 1]'hjr).seq wr (by rw [HSL.out]; omega) HK2.out.srt HPS.out.2)
              rw [HSL.out] at HSR
              have HKP : Hid (kp ms rest (i + 1 + 1) = kp ms rest (i + 1) ++ if seenB ms (rest[i + 1]'hjr).seq (rest[i]'(by omega)).seq = true then [rest[i + 1]'hjr] else []) := Lib.hid (by
                have h1 : i < rest.length := by omega
                conv => lhs; unfold kp
                simp [List.getD_eq_getElem?_getD, hjr, h1])
              have hlo : (kp ms rest (i + 1)).length + 1 ≤ 2932031007402 := by have := kp_len ms rest (i + 1); omega
              have hj1 : (i : Int) + 1 < (n : Int) := by omega
              have hj2 : (i : Int) + 1 < (m : Int) := by omega
              have hj3 : (0 : Int) ≤ (i : Int) + 1 := by omega
              have hj4 : (i : Int) < (m : Int) := by omega
              have hj5 : (0 : Int) ≤ (i : Int) := by omega
              clear hE2
              generalize (rest[i + 1]'hjr) = y at *
              generalize (rest[i]'(by omega)).seq = sp at *
              generalize kp ms rest (i + 1) = kl at *
              go_wp2_with (first
                | ((with_reducible refine HSR.out.mono ?_); rintro _ w4 ⟨⟨k, fb, rfl, hk1, hk2, hk3⟩, hb4⟩))
              have HKS4 := Lib.hid (HK2.out.later hb4)
              have hbx4 := cell_later2 hb4 hbx
              replace c0 := cell_later2 hb4 c0
              replace c1 := cell_later2 hb4 c1
              replace c2 := cell_later2 hb4 c2
              replace c3 := cell_later2 hb4 c3
              replace g1 := cell_later2 hb4 g1
              have HKE := Lib.hid (hkept.out.later hb4)
              have HB4 := Lib.hid (hw2.trans (hb4.mono hN2w))
              have hN4 : N2 ≤ w4.heap.size := Nat.le_trans hN2w hb4.size
              have HIT := Lib.hid ((hit_eq ss y.seq sp k HPS.out.2 hk2 hk3).trans (seenB_perm ms ss HPS.out.1 y.seq sp))
              have hkl2 := HSL.out
              by_cases hkl : k < ss.length
              · obtain ⟨bS, oS, rfl, hsc⟩ := HKS4.out.srt k hkl
                have d1 : (k : Int) < (ms.length : Int) := by omega
                have d0 : (0 : Int) ≤ (k : Int) := by omega
                have hg : Hid (ss.getD k 0 = ss[k]) := Lib.hid (by simp [List.getD_eq_getElem?_getD, hkl])
                rw [hg.out] at HIT
                clear hg hk2 hk3 hkl2 hbx hb4 HSR HK2 hkept
                have HKL := Lib.hid hkl
                generalize ss[k] = sk at *
                clear hkl
                by_cases hs : sk < sp
                · have d2 : decide ((sk : Int) < (sp : Int)) = true := by simp; omega
                  have HN : Hid (kp ms rest (i + 1 + 1) = kl ++ [y]) := Lib.hid (by rw [HKP.out, ← HIT.out]; simp [HKL.out, hs])
                  clear HKP HIT
                  go_quiet (fail)
                  go_wp2_with (at_builtin; refine app_ent2 _ rfl _ _ 22 rfl Try.underlying22 Try.infoE rfl rfl (HKE.out.later ((below_drewN (Below.refl w4.heap.size w4) nq).alloc (by simp [World.drewN]) _)) (e := y) rfl (heap_at' (by simp [World.drewN])) hok hlo (Nat.le_trans hN4 (by simp [World.drewN])) ?_; intro v' w5 hown5 hb5)
                  have hbe : Below N2 w1 w5 := HB4.out.trans ((((below_drewN (Below.refl w4.heap.size w4) nq).alloc (by simp [World.drewN]) _).mono hN4).trans hb5)
                  exact ⟨⟨i + 1 + 1, by omega, by omega, by go_num, Lib.hid (by rw [HN.out]; exact hown5), hbe⟩, by simp [intOf]; omega⟩
                · have d2 : decide ((sk : Int) < (sp : Int)) = false := by simp; omega
                  have HN : Hid (kp ms rest (i + 1 + 1) = kl) := Lib.hid (by rw [HKP.out, ← HIT.out]; simp [hs])
                  clear HKP HIT
                  go_quiet (fail)
                  go_wp2
                  have hbe : Below w4.heap.size w4 (w4.drewN nq) := below_drewN (Below.refl _ _) _
                  exact ⟨⟨i + 1 + 1, by omega, by omega, by go_num, Lib.hid (by rw [HN.out]; exact HKE.out.later hbe), HB4.out.trans (hbe.mono hN4)⟩, by simp [intOf]; omega⟩
              · have d1 : decide ((k : Int) < (ms.length : Int)) = false := by simp; omega
                have d1' : decide (k < ms.length) = false := by simp; omega
                have d1'' : ¬ k < ms.length := by omega
                have HN : Hid (kp ms rest (i + 1 + 1) = kl) := Lib.hid (by rw [HKP.out, ← HIT.out]; simp [hkl])
                clear HKP HIT hk2 hk3 hbx hb4 HSR HK2 hkept hkl hkl2
                go_quiet (fail)
                go_wp2
                have hbe : Below w4.heap.size w4 (w4.drewN nq) := below_drewN (Below.refl _ _) _
                exact ⟨⟨i + 1 + 1, by omega, by omega, by go_num, Lib.hid (by rw [HN.out]; exact HKE.out.later hbe), HB4.out.trans (hbe.mono hN4)⟩, by simp [intOf]; omega⟩
            · obtain rfl : n = j := by omega
              have hjx : ¬ (n : Int) < (n : Int) := by omega
              have HOUr := Lib.hid (HOU.out.below hw2 (fun g hg => by rw [← HN2.out]; exact (HOU.out.1.lt g hg).2))
              have HKPL := Lib.hid (kp_len ms rest n)
              obtain ⟨yk, ck, rfl, hck, hck2, hEk, _⟩ := hkept.out.read
              have HEk := Lib.hid hEk
              obtain ⟨kn, HKN⟩ : ∃ kn, Hid ((kp ms rest n).length = kn) := ⟨_, Lib.hid rfl⟩
              have hck3 : kn ≤ ck := by rw [← HKN.out]; exact hck
              have hck4 : ck ≤ 9223372036854775807 := by unfold maxLen at hck2; omega
              rw [HKN.out]
              obtain ⟨wA, rfl⟩ : ∃ wA, wA = wr := ⟨_, rfl⟩
              clear hkept hEk hck hck2 hE2
              go_wp2
              go_loopw [10] (fun kv wz => ∃ (kl : List Ent) (y : Option Addr) (kn c' : Nat), kv = .slice y kn c' ∧ Hid (kl.length = kn) ∧ kn ≤ c' ∧ c' ≤ 9223372036854775807 ∧ kn ≤ n ∧ Hid (Ents wA y kl) ∧ Hid ((if last = true then trimK kl else kl) = (if last = true then trimK (kp ms rest n) else kp ms rest n)) ∧ wz = wA) (fun kv _ => match kv with | .slice _ n _ => n | _ => 0)
              case atStart => exact ⟨_, yk, kn, ck, rfl, HKN, hck3, hck4, by rw [← HKN.out]; exact HKPL.out, HEk, Lib.hid rfl, rfl⟩
              case round =>
                obtain ⟨kl, yl, kn, c', rfl, hkn, hkc, hkc2, hkj, hEl, hT, rfl⟩ := hrel
                have hbx := HK2.out.cell
                obtain ⟨mr, HMR⟩ : ∃ mr, Hid (m - n = mr) := ⟨_, Lib.hid rfl⟩
                have hr5 := fun w => R1.out (some ⟨bR, oR, none⟩) m c n hnm w
                rw [HMR.out] at hr5 HBND
                have hjc : (n : Int) ≤ (c : Int) := by omega
                have hjm : (n : Int) ≤ (m : Int) := by omega
                cases last with
                | false =>
                  have HF : Hid (kl = kp ms rest n) := Lib.hid (by have := hT.out; simpa using this)
                  have HG2 : Hid (kr ms false l (p + n) = kr ms false l p ++ kl) := Lib.hid (by rw [HGRP.out, HF.out]; simp)
                  go_wp2_with (at_builtin; refine app_ents3 _ rfl _ _ 22 rfl Try.underlying22 Try.infoE rfl rfl HOUr.out hkn.out rfl hEl.out (by have h1 := kr_len ms false l p; have h2 := hkn.out; have h3 := hpm.out.1; omega) HK2.out.le ?_; intro v' w5 hown5 hb5; have HKS5 := Lib.hid (HK2.out.step hb5); have hbx5 := HKS5.out.cell; have hfx5 := HKS5.out.free; have HO5 := Lib.hid hown5; clear hown5)
                  have HKS6 := HKS5.out.store (cutFrom (some ⟨bR, oR, none⟩) c n 4) mr (c - n)
                  refine ⟨⟨p + n, cutFrom (some ⟨bR, oR, none⟩) c n 4, mr, c - n, Lib.hid ⟨by have := hpm.out.1; have := HMR.out; omega, HBND.out⟩, by have := HMR.out; omega, by omega, by have := HMR.out; omega, Lib.hid (by rw [← List.drop_drop, HRE.out]; exact HE.out.drop (by rw [HRL.out]; exact hmc) n), Lib.hid HKS6, Lib.hid ?_⟩, ?_⟩
                  · rw [HG2.out]
                    refine ⟨ownsRow_setCell_other HO5.out.1 (fun hh => ?_) _, HO5.out.2⟩
                    have h1 := (HO5.out.1.lt _ hh).1
                    have h2 := HK2.out.lt
                    simp at h1
                    omega
                  · rw [HKS6.cell, hxr]
                    have := HMR.out
                    show mr < m
                    omega
                | true =>
                  by_cases hk0 : kn = 0
                  · subst hk0
                    have HF : Hid (trimK kl = kl) := Lib.hid (by rw [List.eq_nil_of_length_eq_zero hkn.out]; rfl)
                    have HG2 : Hid (kr ms true l (p + n) = kr ms true l p ++ kl) := Lib.hid (by
                      have := hT.out
                      simp only [if_true] at this
                      rw [HGRP.out, if_pos rfl, ← this, HF.out])
                    go_wp2_with (at_builtin; refine app_ents3 _ rfl _ _ 22 rfl Try.underlying22 Try.infoE rfl rfl HOUr.out hkn.out rfl hEl.out (by have h1 := kr_len ms true l p; have h2 := hkn.out; have h3 := hpm.out.1; omega) HK2.out.le ?_; intro v' w5 hown5 hb5; have HKS5 := Lib.hid (HK2.out.step hb5); have hbx5 := HKS5.out.cell; have hfx5 := HKS5.out.free; have HO5 := Lib.hid hown5; clear hown5)
                    have HKS6 := HKS5.out.store (cutFrom (some ⟨bR, oR, none⟩) c n 4) mr (c - n)
                    refine ⟨⟨p + n, cutFrom (some ⟨bR, oR, none⟩) c n 4, mr, c - n, Lib.hid ⟨by have := hpm.out.1; have := HMR.out; omega, HBND.out⟩, by have := HMR.out; omega, by omega, by have := HMR.out; omega, Lib.hid (by rw [← List.drop_drop, HRE.out]; exact HE.out.drop (by rw [HRL.out]; exact hmc) n), Lib.hid HKS6, Lib.hid ?_⟩, ?_⟩
                    · rw [HG2.out]
                      refine ⟨ownsRow_setCell_other HO5.out.1 (fun hh => ?_) _, HO5.out.2⟩
                      have h1 := (HO5.out.1.lt _ hh).1
                      have h2 := HK2.out.lt
                      simp at h1
                      omega
                    · rw [HKS6.cell, hxr]
                      have := HMR.out
                      show mr < m
                      omega
                  · obtain ⟨q, rfl⟩ : ∃ q, kn = q + 1 := ⟨kn - 1, by omega⟩
                    have hql : q < kl.length := by rw [hkn.out]; omega
                    obtain ⟨bL, oL, rfl, ⟨_, _, l2, _⟩, _⟩ := hEl.out q hql
                    have HTS : Hid (trimK kl = if (kl[q]'hql).kind = 0 then trimK (kl.take q) else kl) := Lib.hid (by
                      have e : kl = kl.take q ++ [kl[q]'hql] := by
                        have h1 := List.take_succ_eq_append_getElem hql
                        rw [← h1, List.take_of_length_le (by rw [hkn.out]; exact Nat.le_refl _)]
                      conv => lhs; rw [e]
                      rw [trimK_snoc, ← e])
                    have q1 : (0 : Int) < (q : Int) + 1 := by omega
                    have q2 : (q : Int) < (q : Int) + 1 := by omega
                    have q3 : (0 : Int) ≤ (q : Int) := by omega
                    have q4 : (q : Int) ≤ (c' : Int) := by omega
                    have hr6 := fun w => R2.out (some ⟨bL, oL, none⟩) (q + 1) c' q (by omega) w
                    by_cases hkd : (kl[q]'hql).kind = 0
                    · have d1 : (((kl[q]'hql).kind : Int) == 0) = true := by simp; omega
                      rw [if_pos hkd] at HTS
                      have HT2 : Hid ((if true = true then trimK (kl.take q) else kl.take q) = (if true = true then trimK (kp ms rest n) else kp ms rest n)) := Lib.hid (by have := hT.out; simp only [if_true] at this ⊢; rw [← this, HTS.out])
                      clear hkd
                      generalize (kl[q]'hql).kind = kd at *
                      go_wp2
                      exact ⟨⟨kl.take q, some ⟨bL, oL, none⟩, q, c', rfl, Lib.hid (by simp; omega), by omega, hkc2, by omega, Lib.hid (hEl.out.take q), HT2, (by trivial)⟩, by show q < q + 1; omega⟩
                    · have d1 : (((kl[q]'hql).kind : Int) == 0) = false := by simp; omega
                      rw [if_neg hkd] at HTS
                      have HG2 : Hid (kr ms true l (p + n) = kr ms true l p ++ kl) := Lib.hid (by
                        have := hT.out
                        simp only [if_true] at this
                        rw [HGRP.out, if_pos rfl, ← this, HTS.out])
                      clear hkd HTS
                      generalize (kl[q]'hql).kind = kd at *
                      go_wp2_with (at_builtin; refine app_ents3 _ rfl _ _ 22 rfl Try.underlying22 Try.infoE rfl rfl HOUr.out hkn.out rfl hEl.out (by have h1 := kr_len ms true l p; have h2 := hkn.out; have h3 := hpm.out.1; omega) HK2.out.le ?_; intro v' w5 hown5 hb5; have HKS5 := Lib.hid (HK2.out.step hb5); have hbx5 := HKS5.out.cell; have hfx5 := HKS5.out.free; have HO5 := Lib.hid hown5; clear hown5)
                      have HKS6 := HKS5.out.store (cutFrom (some ⟨bR, oR, none⟩) c n 4) mr (c - n)
                      refine ⟨⟨p + n, cutFrom (some ⟨bR, oR, none⟩) c n 4, mr, c - n, Lib.hid ⟨by have := hpm.out.1; have := HMR.out; omega, HBND.out⟩, by have := HMR.out; omega, by omega, by have := HMR.out; omega, Lib.hid (by rw [← List.drop_drop, HRE.out]; exact HE.out.drop (by rw [HRL.out]; exact hmc) n), Lib.hid HKS6, Lib.hid ?_⟩, ?_⟩
                      · rw [HG2.out]
                        refine ⟨ownsRow_setCell_other HO5.out.1 (fun hh => ?_) _, HO5.out.2⟩
                        have h1 := (HO5.out.1.lt _ hh).1
                        have h2 := HK2.out.lt
                        simp at h1
                        omega
                      · rw [HKS6.cell, hxr]
                        have := HMR.out
                        show mr < m
                        omega
      · obtain rfl : m = 0 := by omega
        have hpl : p = l.length := by have := hpm.out.1; omega
        subst hpl
        go_wp2
        go_ret
        exact ⟨_, rfl, by rw [hv.out]; exact hown.out.mono (Nat.le_of_lt HKr.out.lt), HKr.out.bel⟩
end Go.Proofs.Ythgbmijgoaihcaa

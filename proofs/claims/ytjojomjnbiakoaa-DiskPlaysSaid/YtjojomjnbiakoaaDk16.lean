/-
  DiskCuts.
-/
import Derived.Test.YtjojomjnbiakoaaDk15
namespace Go.Proofs.Ytjojomjnbiakoaa
open Go.RowKit Go.Maps Go.ChangeShapes
set_option linter.unusedVariables false
def C1 : DM := ⟨[([97], ⟨[], 0⟩)], 1048576, false, -1, 1⟩
theorem cu1 : DM.append ⟨[], 1048576, false, -1, 0⟩ (keyB kA) [] = (C1, 0) := by rfl
theorem cu2 (n : Nat) : CutInv n (C1.cut n) := by
  refine ⟨Nat.le_refl _, Or.inl ⟨rfl, ?_, ?_⟩⟩
  · show (0 : Int) ≤ max (n : Int) (-1); omega
  · show max (n : Int) (-1) + ((1 : Nat) : Int) = n + 1; omega
/-- An act of the arguments, boxed. -/
theorem Acts.boxed {w wA : World} {a : Option Addr} {l : List ActM} (h : Acts w a l) (hb : Below w.heap.size w wA) (i : Nat) (hi : i < l.length) :
    ∃ b off xb cb xk ck, a = some ⟨b, off, none⟩ ∧ (wA.cell? ⟨b, off + i * 6, none⟩ = some (.int .u8 (l[i].kind : Nat)) ∧ wA.cell? ⟨b, off + i * 6 + 1, none⟩ = some (.string l[i].name) ∧ wA.cell? ⟨b, off + i * 6 + 2, none⟩ = some (.string l[i].dst) ∧ wA.cell? ⟨b, off + i * 6 + 3, none⟩ = some (.slice xb l[i].b.length cb) ∧ wA.cell? ⟨b, off + i * 6 + 4, none⟩ = some (.int .i64 l[i].n) ∧ wA.cell? ⟨b, off + i * 6 + 5, none⟩ = some (.slice xk l[i].keep.length ck)) ∧
      Boxed w (wA.alloc (.cells #[.int .u8 (l[i].kind : Nat), .string l[i].name, .string l[i].dst, .slice xb l[i].b.length cb, .int .i64 l[i].n, .slice xk l[i].keep.length ck] 30)) wA.heap.size xb cb xk ck l[i] := by
  obtain ⟨b, off, xb, cb, xk, ck, e, hai, q0, q1, q2, q3, q4, q5⟩ := h i hi
  exact ⟨b, off, xb, cb, xk, ck, e, ⟨cell_up hb q0, cell_up hb q1, cell_up hb q2, cell_up hb q3, cell_up hb q4, cell_up hb q5⟩, Boxed.start (hai.below hb) hb fun e => hai.k.lt e⟩

set_option maxRecDepth 100000 in
set_option maxHeartbeats 3200000 in
theorem law_cuts (a : Option Addr) (cap : Nat) (l : List ActM) (c : Nat) (w : World) (hl : l.length ≤ cap) (hm : cap ≤ maxLen) (hb : Acts w a l) (hc : c < 256) :
    Calls Try.prog 4 #[.slice a l.length cap, .int .u8 (c : Nat)] w fun e w' => e = .returned (.bool true) ∧ Below w.heap.size w w' := by
  have HA := Lib.hid hb
  have HM := Lib.hid (And.intro hl hm)
  obtain ⟨n, hn⟩ : ∃ n, l.length = n := ⟨_, rfl⟩
  have HN := Lib.hid hn
  rw [hn]
  clear hb hl hm hn
  go_enter Try.func4, Try.ntmps4
  go_wp2_with fail
  refine (shown_any _).mono ?_
  rintro _ w1 ⟨rfl, hb1⟩
  have HB1 := Lib.hid hb1
  clear hb1
  go_wp2_with fail
  refine (new_any 1048576 w1 (by decide)).mono ?_
  rintro _ w2 ⟨bd, bm, rfl, hd, hgd, hgm, hb2⟩
  have HO2 : Hid (Own w w2 bd bm ⟨[], 1048576, false, -1, 0⟩) := Lib.hid ⟨hd, HB1.out.trans (hb2.mono HB1.out.size), Nat.le_trans HB1.out.size hgd, Nat.le_trans HB1.out.size hgm⟩
  clear hd hgd hgm hb2 HB1
  go_wp2_with fail
  refine (append_any bd bm _ kA none _ [] 9 9 _ (by decide) (by decide) (by decide) (lim_small _ (by decide) (by decide) (by decide)) (bytes_nil _ _) HO2.out.st.safe HO2.out.st).mono ?_
  rintro _ w3 ⟨rfl, hd, hu⟩
  rw [cu1] at hd ⊢
  have HO3 := Lib.hid (HO2.out.op hd hu)
  clear hd hu HO2
  go_wp2_with fail
  refine (cut_any bd bm C1 c _ (by omega) HO3.out.st).mono ?_
  rintro _ w4 ⟨rfl, hd, hu⟩
  have HO4 := Lib.hid (HO3.out.op hd (Upd.mono (S' := DS bd bm) hu (fun k q => Or.inl q)))
  clear hd hu HO3
  have HFW := Lib.hid (few_any a cap l w4 HM.out.1 HM.out.2 (HA.out.below HO4.out.bl))
  rw [HN.out] at HFW
  go_wp2_with fail
  refine HFW.out.mono ?_
  rintro _ w5 ⟨k, rfl, hk1, hk2, hk3, hb5⟩
  have HOS := Lib.hid (HO4.out.later hb5)
  have HK := Lib.hid hk3
  clear hk3 hb5 HFW HO4
  go_wp2_with fail
  go_loopw [25] (fun iv wr => ∃ (i : Nat) (A : DM), i ≤ k ∧ iv = .int .i64 i ∧ Hid (Own w wr bd bm A) ∧ Hid (A.Lim (2 * i + 9) (bsum (l.take i))) ∧ Hid (CutInv c A)) (fun iv _ => k - (intOf iv).toNat)
  case atStart => exact ⟨0, _, by omega, rfl, HOS, Lib.hid ((show DM.Lim 9 0 C1 from ⟨by decide, by decide, by decide⟩).cut _), Lib.hid (cu2 c)⟩
  case round =>
    obtain ⟨i, A, hi, rfl, HO, HL, HI⟩ := hrel
    obtain ⟨wA, rfl⟩ : ∃ wA, wA = wr := ⟨_, rfl⟩
    by_cases hlt : i < k
    · have hil : i < l.length := by have := HN.out; omega
      have hin : (i : Int) < (k : Int) := by omega
      have hi0 : (0 : Int) ≤ (i : Int) := by omega
      have HT : Hid (bsum (l.take i) + l[i].b.length ≤ 20000) := Lib.hid (by
        rw [← bsum_snoc l i hil]
        exact Nat.le_trans (bsum_mono l (by omega)) HK.out)
      have HSN := Lib.hid (bsum_snoc l i hil)
      obtain ⟨b, off, xb, cb, xk, ck, rfl, ⟨q0, q1, q2, q3, q4, q5⟩, hbx⟩ := HA.out.boxed HO.out.bl i hil
      generalize l[i] = x at *
      have HBX := Lib.hid hbx
      have HOA := Lib.hid (HO.out.later ((Below.refl _ _).alloc (Nat.le_refl _) (.cells #[.int .u8 (x.kind : Nat), .string x.name, .string x.dst, .slice xb x.b.length cb, .int .i64 x.n, .slice xk x.keep.length ck] 30)))
      clear hbx
      obtain ⟨r8, hr8, hr8t, hr8w, HR8, hr8l⟩ : ∃ r : Nat, (x.kind : Int) % 8 = (r : Int) ∧ (x.kind : Int).tmod 8 = (r : Int) ∧ IntKind.u8.wrap (r : Int) = (r : Int) ∧ Hid (x.kind % 8 = r) ∧ r < 8 :=
        ⟨x.kind % 8, by omega, by rw [Int.tmod_eq_emod_of_nonneg (by omega)]; omega, by rw [IntKind.wrap_u8]; omega, Lib.hid rfl, by omega⟩
      by_cases h4 : r8 < 4
      · have d4 : ¬ (4 : Int) ≤ (r8 : Int) := by omega
        have HK4 : Hid (x.kind % 8 < 4) := Lib.hid (by rw [HR8.out]; exact h4)
        go_upto_region 11 with (fail)
        obtain ⟨wS, hwS⟩ : ∃ wS, wA.alloc (.cells #[.int .u8 (x.kind : Nat), .string x.name, .string x.dst, .slice xb x.b.length cb, .int .i64 x.n, .slice xk x.keep.length ck] 30) = wS := ⟨_, rfl⟩
        obtain ⟨Bx, hBx⟩ : ∃ Bx, wA.heap.size = Bx := ⟨_, rfl⟩
        rw [hwS] at HBX HOA ⊢
        rw [hBx] at HBX ⊢
        clear hwS hBx q0 q1 q2 q3 q4 q5 hin hi0 hr8 hr8t hr8w HR8 hr8l d4 h4
        have hcs := HBX.out.cells
        go_wp2_with fail
        refine (done_any bd bm A _ HOA.out.st).mono ?_
        rintro _ _ ⟨rfl, rfl⟩
        obtain ⟨p, HP⟩ : ∃ p : Nat, Hid (A.done = p) := ⟨_, Lib.hid rfl⟩
        have HPB : Hid (p ≤ 300) := Lib.hid (by have := HL.out.done; have := HP.out; omega)
        rw [HP.out]
        go_wp2_with fail
        refine (does_own (2 * i + 9) (bsum (l.take i)) (by omega) (by have := HT.out; omega) HL.out HBX.out HOA.out).mono ?_
        rintro _ w5 ⟨rfl, ho5, hx5, hu5⟩
        have HO5 := Lib.hid ho5
        have HL5 : Hid ((A.act x).1.Lim (2 * (i + 1) + 9) (bsum (l.take (i + 1)))) := Lib.hid ((HL.out.act HOA.out.st.ok x).mono (by omega) (by rw [HSN.out]; exact Nat.le_refl _))
        have HLW := Lib.hid (cut_law HI.out x HK4.out)
        clear ho5 hx5 hu5 hcs HOA HBX HL HI
        rw [HP.out] at HLW
        generalize (A.act x).2 = e0 at *
        generalize (A.act x).1 = B at *
        obtain ⟨l1, l2, l3, l4, l5⟩ := HLW.out
        have HI5 := Lib.hid l1
        obtain ⟨D, hD⟩ : ∃ D, B.done = D := ⟨_, rfl⟩
        obtain ⟨P1, hP1⟩ : ∃ P1, p + 1 = P1 := ⟨_, rfl⟩
        have hD1 : 1 ≤ D := by have := l1.1; omega
        have hdb : D ≤ 1000000 := by have := HL5.out.done; omega
        have hpb : p ≤ 1000000 := by have := HPB.out; omega
        rw [hD, hP1] at l2
        rw [hD] at l3 l4
        have HBD := Lib.hid hD
        obtain ⟨m, hm⟩ : ∃ m, D = m + 1 := ⟨D - 1, by omega⟩
        have e_m : (D : Int) - 1 = (m : Int) := by omega
        have e_p : (p : Int) + 1 = (P1 : Int) := by omega
        have d2 : ¬ (c : Int) < (m : Int) := by omega
        clear l1 hm hD hP1 HLW HP HPB
        go_wp2_with fail
        refine (done_any bd bm B _ HO5.out.st).mono ?_
        rintro _ _ ⟨rfl, rfl⟩
        rw [HBD.out]
        go_upto_region 14 with (fail)
        by_cases h0 : e0 = 0
        · subst h0
          have h5 : B.dead = false := by
            cases hd : B.dead with
            | false => rfl
            | true => exact absurd rfl (l5 hd)
          have HDE := Lib.hid h5
          obtain rfl : D = P1 := l2.1 rfl
          clear l2 l3 l4 l5 h5
          go_wp2_with fail
          refine (done_any bd bm B _ HO5.out.st).mono ?_
          rintro _ _ ⟨rfl, rfl⟩
          rw [HBD.out]
          go_wp2_with fail
          refine (dead_any bd bm B _ HO5.out.st).mono ?_
          rintro _ _ ⟨rfl, rfl⟩
          rw [HDE.out]
          go_wp2
          exact ⟨⟨i + 1, B, by omega, by go_num, HO5, HL5, HI5⟩, by simp [intOf]; omega⟩
        · have hne : ¬ (D : Int) = (P1 : Int) := fun e => h0 (l2.2 (by omega))
          by_cases h1 : e0 = 140
          · subst h1
            have hmc : (m : Int) = (c : Int) := by have := l4 rfl; omega
            clear l2 l3 l4 l5 d2
            obtain rfl : m = c := by omega
            clear hmc
            have d2 : ¬ (m : Int) < (m : Int) := by omega
            have hde : ((D : Int) == (P1 : Int)) = false := by simp; omega
            obtain ⟨dd, HDE⟩ : ∃ dd, Hid (B.dead = dd) := ⟨_, Lib.hid rfl⟩
            cases dd with
            | false =>
              go_wp2_with fail
              refine (done_any bd bm B _ HO5.out.st).mono ?_
              rintro _ _ ⟨rfl, rfl⟩
              rw [HBD.out]
              go_wp2_with fail
              refine (dead_any bd bm B _ HO5.out.st).mono ?_
              rintro _ _ ⟨rfl, rfl⟩
              rw [HDE.out]
              go_wp2
              exact ⟨⟨i + 1, B, by omega, by go_num, HO5, HL5, HI5⟩, by simp [intOf]; omega⟩
            | true =>
              go_wp2_with fail
              refine (done_any bd bm B _ HO5.out.st).mono ?_
              rintro _ _ ⟨rfl, rfl⟩
              rw [HBD.out]
              go_wp2_with fail
              refine (dead_any bd bm B _ HO5.out.st).mono ?_
              rintro _ _ ⟨rfl, rfl⟩
              rw [HDE.out]
              go_wp2
              exact ⟨⟨i + 1, B, by omega, by go_num, HO5, HL5, HI5⟩, by simp [intOf]; omega⟩
          · obtain ⟨dd, HDE⟩ : ∃ dd, Hid (B.dead = dd) := ⟨_, Lib.hid rfl⟩
            have hde : ((D : Int) == (P1 : Int)) = false := by simp; omega
            have hee : (e0 == 0) = false := by simp [h0]
            clear l2 l3 l4 l5
            cases dd with
            | false =>
              go_wp2_with fail
              refine (done_any bd bm B _ HO5.out.st).mono ?_
              rintro _ _ ⟨rfl, rfl⟩
              rw [HBD.out]
              go_wp2_with fail
              refine (dead_any bd bm B _ HO5.out.st).mono ?_
              rintro _ _ ⟨rfl, rfl⟩
              rw [HDE.out]
              go_wp2
              exact ⟨⟨i + 1, B, by omega, by go_num, HO5, HL5, HI5⟩, by simp [intOf]; omega⟩
            | true =>
              go_wp2_with fail
              refine (done_any bd bm B _ HO5.out.st).mono ?_
              rintro _ _ ⟨rfl, rfl⟩
              rw [HBD.out]
              go_wp2_with fail
              refine (dead_any bd bm B _ HO5.out.st).mono ?_
              rintro _ _ ⟨rfl, rfl⟩
              rw [HDE.out]
              go_wp2
              exact ⟨⟨i + 1, B, by omega, by go_num, HO5, HL5, HI5⟩, by simp [intOf]; omega⟩
      · have d4 : (4 : Int) ≤ (r8 : Int) := by omega
        have HL2 := Lib.hid (HL.out.mono (show 2 * i + 9 ≤ 2 * (i + 1) + 9 by omega) (bsum_mono l (show i ≤ i + 1 by omega)))
        clear HBX HL HT HSN
        go_wp2
        exact ⟨⟨i + 1, A, by omega, by go_num, HOA, HL2, HI⟩, by simp [intOf]; omega⟩
    · obtain rfl : i = k := by omega
      have i3 : ¬ (i : Int) < (i : Int) := by omega
      go_wp2
      go_ret
      exact ⟨rfl, HO.out.bl⟩
end Go.Proofs.Ytjojomjnbiakoaa

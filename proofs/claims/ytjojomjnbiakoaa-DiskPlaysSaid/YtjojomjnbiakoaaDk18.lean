/-
  DiskRefused.
-/
import Derived.Test.YtjojomjnbiakoaaDk17
namespace Go.Proofs.Ytjojomjnbiakoaa
open Go.RowKit Go.Maps Go.ChangeShapes
set_option linter.unusedVariables false
theorem wf_u16 {n : Int} (h : (Lit.int .u16 n).wf = true) : 0 ≤ n ∧ n < 65536 := by
  simp [Lit.wf, IntKind.min, IntKind.max, IntKind.signed, IntKind.bits] at h; omega
theorem apart_ne {bd bm bc cn K : Nat} (h1 : bd < K) (h2 : bm < K) (h3 : K ≤ bc) (h4 : K ≤ cn) : (¬ DS bd bm bc ∧ ¬ DS bd bm cn) ∧ (¬ DS bc cn bd ∧ ¬ DS bc cn bm) := by
  refine ⟨⟨?_, ?_⟩, ?_, ?_⟩ <;> (rintro (e | e) <;> omega)
/-- One disk turns, another stays. -/
theorem Own.apart {w w1 w2 : World} {bd bm bc cn : Nat} {A B : DM} (h1 : Own w w1 bd bm A) (h2 : Own w w1 bc cn B) (hne : ¬ DS bd bm bc ∧ ¬ DS bd bm cn) (hu : Upd (DS bd bm) w1 w2) : Own w w2 bc cn B :=
  ⟨h2.st.upd hu h1.st.safe hne.1 hne.2, h1.bl.trans (hu.below h1.bl.size fun k q => by
    rcases q with rfl | rfl
    · exact h1.gd
    · exact h1.gm), h2.gd, h2.gm⟩
theorem Own.lt {w w1 : World} {bd bm : Nat} {A : DM} (h : Own w w1 bd bm A) : bd < w1.heap.size ∧ bm < w1.heap.size := ⟨heap_lt h.st.box, h.st.map.lt⟩
theorem copy_own {w w1 : World} {bd bm : Nat} {A : DM} (h : Own w w1 bd bm A) :
    Calls Try.prog 18 #[.pointer (some ⟨bd, 0, none⟩)] w1 fun e w' => ∃ bc cn, e = .returned (.pointer (some ⟨bc, 0, none⟩)) ∧ Own w w' bc cn A ∧ Own w w' bd bm A ∧ ((¬ DS bd bm bc ∧ ¬ DS bd bm cn) ∧ (¬ DS bc cn bd ∧ ¬ DS bc cn bm)) ∧ w1.heap.size ≤ bc ∧ w1.heap.size ≤ cn ∧ Below w1.heap.size w1 w' := by
  refine (copy_any bd bm A w1 h.st).mono ?_
  rintro _ w' ⟨bc, cn, rfl, hd, h3, h4, hb⟩
  exact ⟨bc, cn, rfl, ⟨hd, h.bl.trans (hb.mono h.bl.size), Nat.le_trans h.bl.size h3, Nat.le_trans h.bl.size h4⟩, h.later hb, apart_ne h.lt.1 h.lt.2 h3 h4, h3, h4, hb⟩
theorem crash_nil {w w1 : World} {bd bm : Nat} {A : DM} (hn : A.fs.length ≤ 1000000) (hT : tot A.fs ≤ 1099511627776) (h : Own w w1 bd bm A) :
    Calls Try.prog 19 #[.pointer (some ⟨bd, 0, none⟩), .slice none 0 0] w1 fun e w' => e = .returned (.tuple #[]) ∧ Own w w' bd bm (A.crash []) ∧ Upd (DS bd bm) w1 w' := by
  refine (crash_any bd bm A none 0 [] w1 hn hT (by decide) (ints_nil _ _) (fun e => absurd rfl e) h.st).mono ?_
  rintro _ w' ⟨rfl, hd, hu⟩
  exact ⟨rfl, h.op hd hu, hu⟩

set_option maxRecDepth 100000 in
set_option maxHeartbeats 3200000 in
theorem law_refused (a : Option Addr) (cap : Nat) (l : List ActM) (c : Nat) (w : World) (hl : l.length ≤ cap) (hm : cap ≤ maxLen) (hb : Acts w a l) (hc : c < 65536) :
    Calls Try.prog 5 #[.int .u16 (c : Nat), .slice a l.length cap] w fun e w' => e = .returned (.bool true) ∧ Below w.heap.size w w' := by
  have HA := Lib.hid hb
  have HM := Lib.hid (And.intro hl hm)
  obtain ⟨n, hn⟩ : ∃ n, l.length = n := ⟨_, rfl⟩
  have HN := Lib.hid hn
  rw [hn]
  clear hb hl hm hn
  go_enter Try.func5, Try.ntmps5
  go_wp2_with fail
  refine (shown_any _).mono ?_
  rintro _ w1 ⟨rfl, hb1⟩
  have HB1 := Lib.hid hb1
  clear hb1
  go_wp2_with fail
  refine (new_any c w1 (by omega)).mono ?_
  rintro _ w2 ⟨bd, bm, rfl, hd, hgd, hgm, hb2⟩
  have HO2 : Hid (Own w w2 bd bm ⟨[], (c : Int).toNat, false, -1, 0⟩) := Lib.hid ⟨hd, HB1.out.trans (hb2.mono HB1.out.size), Nat.le_trans HB1.out.size hgd, Nat.le_trans HB1.out.size hgm⟩
  clear hd hgd hgm hb2 HB1
  have HFW := Lib.hid (few_any a cap l w2 HM.out.1 HM.out.2 (HA.out.below HO2.out.bl))
  rw [HN.out] at HFW
  go_wp2_with fail
  refine HFW.out.mono ?_
  rintro _ w3 ⟨k, rfl, hk1, hk2, hk3, hb3⟩
  have HOS := Lib.hid (HO2.out.later hb3)
  have HK := Lib.hid hk3
  clear hk3 hb3 HFW HO2
  go_wp2_with fail
  go_loopw [20] (fun iv wr => ∃ (i : Nat) (A : DM), i ≤ k ∧ iv = .int .i64 i ∧ Hid (Own w wr bd bm A) ∧ Hid (A.Lim (2 * i) (bsum (l.take i)))) (fun iv _ => k - (intOf iv).toNat)
  case atStart => exact ⟨0, _, by omega, rfl, HOS, Lib.hid ⟨Nat.le_refl _, Nat.le_refl _, Nat.le_refl _⟩⟩
  case round =>
    obtain ⟨i, A, hi, rfl, HO, HL⟩ := hrel
    obtain ⟨wA, rfl⟩ : ∃ wA, wA = wr := ⟨_, rfl⟩
    by_cases hlt : i < k
    · have hil : i < l.length := by have := HN.out; omega
      have hin : (i : Int) < (k : Int) := by omega
      have hi0 : (0 : Int) ≤ (i : Int) := by omega
      have HT : Hid (bsum (l.take i) + l[i].b.length ≤ 20000) := Lib.hid (by
        rw [← bsum_snoc l i hil]
        exact Nat.le_trans (bsum_mono l (by omega)) HK.out)
      have HSN := Lib.hid (bsum_snoc l i hil)
      obtain ⟨b, off, xb, cb, xk, ck, rfl, ⟨q0, q1, q2, q3, q4, q5⟩, hbx⟩ := HA.out.boxed HO.out.bl i hil
      generalize l[i] = x at *
      have HBX := Lib.hid hbx
      have HOA := Lib.hid (HO.out.later ((Below.refl _ _).alloc (Nat.le_refl _) (.cells #[.int .u8 (x.kind : Nat), .string x.name, .string x.dst, .slice xb x.b.length cb, .int .i64 x.n, .slice xk x.keep.length ck] 30)))
      clear hbx
      go_wp2_with fail
      obtain ⟨wS, hwS⟩ : ∃ wS, wA.alloc (.cells #[.int .u8 (x.kind : Nat), .string x.name, .string x.dst, .slice xb x.b.length cb, .int .i64 x.n, .slice xk x.keep.length ck] 30) = wS := ⟨_, rfl⟩
      obtain ⟨Bx, hBx⟩ : ∃ Bx, wA.heap.size = Bx := ⟨_, rfl⟩
      rw [hwS] at HBX HOA ⊢
      rw [hBx] at HBX ⊢
      clear hwS hBx q0 q1 q2 q3 q4 q5 hin hi0 HO
      refine (copy_own HOA.out).mono ?_
      rintro _ w4 ⟨bc, cn, rfl, hoc, ho4, hne, _, _, hb4⟩
      have HC4 := Lib.hid hoc
      have HO4 := Lib.hid ho4
      have HNE := Lib.hid hne
      have HBX4 := Lib.hid (HBX.out.later hb4)
      have hcs := HBX4.out.cells
      clear hoc ho4 hne hb4 HBX HOA
      go_wp2_with fail
      refine (does_own (2 * i) (bsum (l.take i)) (by omega) (by have := HT.out; omega) HL.out HBX4.out HO4.out).mono ?_
      rintro _ w5 ⟨rfl, ho5, hx5, hu5⟩
      have HO5 := Lib.hid ho5
      have HC5 := Lib.hid (HO4.out.apart HC4.out HNE.out.1 hu5)
      have HL5 : Hid ((A.act x).1.Lim (2 * (i + 1)) (bsum (l.take (i + 1)))) := Lib.hid ((HL.out.act HO4.out.st.ok x).mono (by omega) (by rw [HSN.out]; exact Nat.le_refl _))
      have HFS : Hid ((A.act x).2 ≠ 0 → (A.act x).1.fs = A.fs) := Lib.hid (refused_fs x)
      have hlen : A.fs.length ≤ 1000000 := by have := HL.out.len; omega
      have htot : tot A.fs ≤ 1099511627776 := by have := HL.out.tot; have := HT.out; omega
      clear ho5 hx5 hu5 hcs HO4 HC4 HBX4 HL
      generalize (A.act x).2 = e0 at *
      generalize (A.act x).1 = B at *
      have hlenB : B.fs.length ≤ 1000000 := by have := HL5.out.len; omega
      have htotB : tot B.fs ≤ 1099511627776 := by have := HL5.out.tot; have := HT.out; have := HSN.out; omega
      by_cases h0 : e0 = 0
      · subst h0
        clear HFS HC5
        go_wp2
        exact ⟨⟨i + 1, B, by omega, by go_num, HO5, HL5⟩, by simp [intOf]; omega⟩
      · have HFS := Lib.hid (HFS.out h0)
        go_wp2_with fail
        refine (crash_nil hlen htot HC5.out).mono ?_
        rintro _ w6 ⟨rfl, hoc, hu⟩
        have HC6 := Lib.hid hoc
        have HO6 := Lib.hid (HC5.out.apart HO5.out HNE.out.2 hu)
        clear hoc hu HC5 HO5
        go_wp2_with fail
        refine (copy_own HO6.out).mono ?_
        rintro _ w7 ⟨bx, xn, rfl, hox, ho7, hne, hg1, hg2, hb7⟩
        have HX7 := Lib.hid hox
        have HO7 := Lib.hid ho7
        have HC7 := Lib.hid (HC6.out.later hb7)
        have HNX := Lib.hid (And.intro hne.2 (apart_ne HC6.out.lt.1 HC6.out.lt.2 hg1 hg2).2)
        clear hox ho7 hne hg1 hg2 hb7 HC6 HO6
        go_wp2_with fail
        refine (crash_nil hlenB htotB HX7.out).mono ?_
        rintro _ w8 ⟨rfl, hox, hu⟩
        have HX8 := Lib.hid hox
        have HO8 := Lib.hid (HX7.out.apart HO7.out HNX.out.1 hu)
        have HC8 := Lib.hid (HX7.out.apart HC7.out HNX.out.2 hu)
        clear hox hu HX7 HO7 HC7 HNX
        have hfs2 : (B.crash []).fs = (A.crash []).fs := by show crashF [] B.fs = crashF [] A.fs; rw [HFS.out]
        have hlA : (A.crash []).fs.length ≤ 1000000 := by show (crashF [] A.fs).length ≤ _; rw [crashF_len]; exact hlen
        have htA : tot (A.crash []).fs ≤ 1099511627776 := Nat.le_trans (crashF_tot [] A.fs) htot
        have hlB : (B.crash []).fs.length ≤ 1000000 := by rw [hfs2]; exact hlA
        have htB : tot (B.crash []).fs ≤ 1099511627776 := by rw [hfs2]; exact htA
        have HLE : Hid (tot (B.crash []).fs ≤ tot B.fs) := Lib.hid (crashF_tot [] B.fs)
        have HSM := Lib.hid (same_any bc cn bx xn (A.crash []) (B.crash []) w8 hfs2 rfl rfl hlA htA HC8.out.st HX8.out.st)
        clear hfs2 hlA htA HC8
        go_wp2_with fail
        refine HSM.out.mono ?_
        rintro _ w9 ⟨rfl, hb9⟩
        have HX9 := Lib.hid (HX8.out.later hb9)
        have HO9 := Lib.hid (HO8.out.later hb9)
        clear hb9 HSM HX8 HO8
        generalize B.crash [] = BC at *
        go_wp2_with fail
        refine (size_any bd bm B w9 hlenB htotB HO9.out.st).mono ?_
        rintro _ w10 ⟨rfl, hb10⟩
        have HX10 := Lib.hid (HX9.out.later hb10)
        have HO10 := Lib.hid (HO9.out.later hb10)
        clear hb10 HX9 HO9
        go_wp2_with fail
        refine (size_any bx xn BC w10 hlB htB HX10.out.st).mono ?_
        rintro _ w11 ⟨rfl, hb11⟩
        have HO11 := Lib.hid (HO10.out.later hb11)
        have hle : ¬ (tot B.fs : Int) < (tot BC.fs : Int) := by have := HLE.out; omega
        clear hb11 HX10 HO10 HLE
        go_wp2
        exact ⟨⟨i + 1, B, by omega, by go_num, HO11, HL5⟩, by simp [intOf]; omega⟩
    · obtain rfl : i = k := by omega
      have i3 : ¬ (i : Int) < (i : Int) := by omega
      go_wp2
      go_ret
      exact ⟨rfl, HO.out.bl⟩
end Go.Proofs.Ytjojomjnbiakoaa

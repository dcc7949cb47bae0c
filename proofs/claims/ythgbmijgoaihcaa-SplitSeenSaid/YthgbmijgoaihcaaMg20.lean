/-
  The law that what is kept is seen as it was.
-/
import Derived.Test.YthgbmijgoaihcaaSo10
import Derived.Test.YthgbmijgoaihcaaMg14
import Derived.Test.YthgbmijgoaihcaaMg15
import Derived.Test.YthgbmijgoaihcaaEnt2
import Derived.Test.YthgbmijgoaihcaaMg18
namespace Go.Proofs.Ythgbmijgoaihcaa
open Go.RowKit
set_option linter.unusedVariables false
theorem U64s.take' {w : World} {a : Option Addr} {l : List Nat} (h : U64s w a l) (k : Nat) : U64s w a (l.take k) := by
  intro i hi
  have hi' : i < l.length := by simp at hi; omega
  obtain ⟨b, off, e, hc⟩ := h i hi'
  exact ⟨b, off, e, by simpa using hc⟩
theorem U64s.news {w : World} {b off : Nat} {l : List Nat} (h : U64s w (some ⟨b, off, none⟩) l) : ∀ j u, (u64Cells l)[j]? = some u → w.cell? ((⟨b, off, none⟩ : Addr).add j) = some u := by
  intro j u hu
  have hj : j < l.length := by
    rcases Nat.lt_or_ge j l.length with h' | h'
    · exact h'
    · rw [List.getElem?_eq_none (by simpa [u64Cells] using h')] at hu; cases hu
  obtain ⟨b1, o1, e, hc⟩ := h j hj
  cases e
  rw [addr_add, hc]
  simpa [u64Cells, hj] using hu
section laws
variable {P : Program} {ops : Array Oper} {rest : List Oper} {o : Oper} {a : Act} {Q : Exit → Act → World → Prop}
theorem app_u64s (w : World) (hgd : o.guard = none) (s x : Operand) (t : TypeId) (ho : o.op = .call { callee := .builtin .append, args := #[s, x], argTypes := #[t, t] })
    {E : TypeId} (ht : P.underlying t = some (.slice E)) (hi : (P.info? E).map (fun i => (i.zero, i.size, i.bytes)) = some (some (.int .u64 0), 1, 8))
    {K : Nat} {v : Value} {l : List Nat} {n0 : Nat} (hn0 : n0 = l.length) (hs : a.eval s = v) (hown : w.ownsRow K E 1 v n0 (u64Cells l)) {y : Option Addr} {m : List Nat} {n c : Nat} (hn : m.length = n) (hx : a.eval x = .slice y n c) (hm : U64s w y m)
    (hl : l.length + m.length ≤ 17592186044400) (hK : K ≤ w.heap.size)
    (h : ∀ v' w', w'.ownsRow K E 1 v' (l ++ m).length (u64Cells (l ++ m)) → Below K w w' → wpList P ops Q rest (a.put o.dst v') w') : wpList P ops Q (o :: rest) a w := by
  obtain ⟨i0, hi0, hz0, hz1, hz2⟩ := info_parts hi
  subst hn hn0
  by_cases hne : m = []
  · subst hne
    refine app_none hgd s x t ho K E i0 1 ht hi0 v l.length _ hs hown hx ?_
    refine h v w (by rw [List.append_nil]; exact hown) (Below.refl _ _)
  have hpos : 0 < m.length := List.length_pos_iff.2 hne
  obtain ⟨b, off, rfl, _⟩ := hm 0 hpos
  refine wpList_append_lies w hgd s x t ho K E i0 (.int .u64 0) 1 8 ht hi0 hz0 hz1 hz2 rfl (by decide) v l.length (u64Cells l) hs hown ⟨b, off, none⟩ m.length c (u64Cells m) hx (by simp [u64Cells])
    hm.news (by simp [u64Cells, Value.oneCell']) hpos (by unfold maxLen; omega) (by omega) hK _ rfl ?_
  intro g cap w' h1 h2 h3 h4
  refine h _ _ ?_ ?_
  · have e : u64Cells (l ++ m) = u64Cells l ++ u64Cells m := by simp [u64Cells]
    rw [e, List.length_append]
    exact h1
  · exact (Below.refl K w).grown h2 hK (fun k hk => (hown.lt k hk).1)
end laws
/-- The newest of the first k. -/
def mxTo (l : List Ent) : Nat → Nat
  | 0 => 0
  | k + 1 => if (l.getD k default).seq ≤ mxTo l k then mxTo l k else (l.getD k default).seq
theorem mxTo_le (l : List Ent) : ∀ k, ∀ i, i < k → (l.getD i default).seq ≤ mxTo l k
  | 0, i, h => by omega
  | k + 1, i, h => by
    have ih := mxTo_le l k i
    unfold mxTo
    by_cases e : i = k
    · subst e; split <;> omega
    · have := ih (by omega); split <;> omega
theorem mxTo_lt (l : List Ent) (h : ∀ e ∈ l, e.seq < 18446744073709551616) : ∀ k, k ≤ l.length → mxTo l k < 18446744073709551616
  | 0, _ => by unfold mxTo; omega
  | k + 1, hk => by
    have ih := mxTo_lt l h k (by omega)
    have := h _ (getD_in l k (by omega))
    unfold mxTo
    split <;> omega
set_option maxRecDepth 100000 in
set_option maxHeartbeats 3200000 in
theorem law_seen (a : Option Addr) (cap : Nat) (l : List Ent) (am : Option Addr) (capm : Nat) (ms : List Nat) (last : Bool) (w : World) (hl : l.length ≤ cap) (hm : cap ≤ maxLen) (hb : Ents w a l)
    (hml : ms.length ≤ capm) (hmm : capm ≤ maxLen) (hms : ∀ m ∈ ms, m < 18446744073709551616) (hI : U64s w am ms) :
    Calls Try.prog 7 #[.slice a l.length cap, .slice am ms.length capm, .bool last] w fun e w' => e = .returned (.bool true) ∧ Below w.heap.size w w' := by
  have HSH := Lib.hid (fun w' => mshown_any sorts w')
  obtain ⟨p, HP⟩ : ∃ p, Hid (min l.length 500 = p) := ⟨_, Lib.hid rfl⟩
  obtain ⟨q, HQ⟩ : ∃ q, Hid (min ms.length 100 = q) := ⟨_, Lib.hid rfl⟩
  have hp5 : p ≤ 500 := by have := HP.out; omega
  have hq1 : q ≤ 100 := by have := HQ.out; omega
  have hpl : p ≤ l.length := by have := HP.out; omega
  have hql : q ≤ ms.length := by have := HQ.out; omega
  have hl1 : l.length ≤ 9223372036854775807 := by unfold maxLen at hm; omega
  have hm1 : ms.length ≤ 9223372036854775807 := by unfold maxLen at hmm; omega
  obtain ⟨xs, HX⟩ : ∃ xs, Hid (l.take p = xs) := ⟨_, Lib.hid rfl⟩
  obtain ⟨mq, HM⟩ : ∃ mq, Hid (ms.take q = mq) := ⟨_, Lib.hid rfl⟩
  have hxl : xs.length = p := by rw [← HX.out]; simp; omega
  have hml2 : mq.length = q := by rw [← HM.out]; simp; omega
  have HKP := Lib.hid (fun w' hb hu => keep_any sorts a cap xs am capm mq last w' (by omega) hm (by omega) hb (by omega) (fun m h => hms m (by rw [← HM.out] at h; exact List.mem_of_mem_take h)) hu)
  rw [hxl, hml2] at HKP
  have HE : Hid (Ents w a xs) := Lib.hid (by rw [← HX.out]; exact hb.take p)
  have HU : Hid (U64s w am mq) := Lib.hid (by rw [← HM.out]; exact U64s.take' hI q)
  have HVW := Lib.hid (fun s h hs => keep_view mq last xs s h hs)
  have HKR := Lib.hid (keep_rises mq last xs)
  have HRL : Hid ((keepR mq last xs).length ≤ 500) := Lib.hid (by
    unfold keepR
    split
    · exact Nat.le_trans (kr_len mq last xs xs.length) (by omega)
    · simp)
  have HK0 : Hid (rises xs = false → keepR mq last xs = []) := Lib.hid (fun h => by unfold keepR; rw [h]; rfl)
  have HV0 : Hid (rises xs = false → viewF xs 5 = []) := Lib.hid (fun h => by unfold viewF; rw [h]; rfl)
  have HMS : Hid (∀ m ∈ mq, m < 18446744073709551616) := Lib.hid (fun m h => hms m (by rw [← HM.out] at h; exact List.mem_of_mem_take h))
  have HSQ : Hid (∀ e ∈ xs, e.seq < 18446744073709551616) := Lib.hid (fun e h => (hb.ok e (by rw [← HX.out] at h; exact List.mem_of_mem_take h)).2.1)
  have HRS := Lib.hid (fun w' hb => rises_any a cap xs w' (by omega) hb)
  have HVX := Lib.hid (fun s w' hs hb => view_any a cap xs s w' (by omega) hm (by omega) hs hb)
  rw [hxl] at HRS HVX
  obtain ⟨i0, hi0⟩ : ∃ i0, Try.prog.info? 33 = some i0 := by
    obtain ⟨i0, hi0, _⟩ := info_parts Try.infoE
    exact ⟨i0, hi0⟩
  obtain ⟨i1, hi1⟩ : ∃ i1, Try.prog.info? 31 = some i1 := by
    obtain ⟨i1, hi1, _⟩ := info_parts infoU
    exact ⟨i1, hi1⟩
  have HC1 := Lib.hid (fun w => run_cut_to (P := Try.prog) Try.underlying22 hi0 a l.length cap p .i64 (by omega) w)
  have HC2 := Lib.hid (fun w => run_cut_to (P := Try.prog) Try.underlying35 hi1 am ms.length capm q .i64 (by omega) w)
  clear hi0 hi1 hb hI hms
  generalize keepR mq last xs = R at *
  obtain ⟨rb, hrb⟩ : ∃ rb, rises xs = rb := ⟨_, rfl⟩
  rw [hrb] at HVW HK0 HV0 HRS
  clear hrb
  go_enter Try.func7, Try.ntmps7
  go_upto_region 2 with (refine (HSH.out _).mono ?_; rintro _ w1 ⟨rfl, hb1⟩)
  have HB1 := Lib.hid hb1
  clear hb1
  go_cut [8] (fun v wx => v = .slice a p cap ∧ w1 = wx)
  case first =>
    have hcut := HC1.out
    by_cases h5 : l.length ≤ 500
    · obtain rfl : p = l.length := by have := HP.out; omega
      have h6 : (l.length : Int) ≤ 500 := by omega
      have h7 : ¬ (500 : Int) < (l.length : Int) := by omega
      go_wp2
      go_meet
      case rel => exact ⟨rfl, rfl⟩
    · obtain rfl : p = 500 := by have := HP.out; omega
      have h6 : ¬ (l.length : Int) ≤ 500 := by omega
      have h7 : (500 : Int) < (l.length : Int) := by omega
      go_wp2
      go_meet
      case rel => exact ⟨rfl, rfl⟩
  case rest =>
    obtain ⟨rfl, rfl⟩ := hcut
    go_upto_region 3 with (fail)
    go_cut [9] (fun v wx => v = .slice am q capm ∧ w1 = wx)
    case first =>
      have hcut := HC2.out
      by_cases h5 : ms.length ≤ 100
      · obtain rfl : q = ms.length := by have := HQ.out; omega
        have h6 : (ms.length : Int) ≤ 100 := by omega
        have h7 : ¬ (100 : Int) < (ms.length : Int) := by omega
        go_wp2
        go_meet
        case rel => exact ⟨rfl, rfl⟩
      · obtain rfl : q = 100 := by have := HQ.out; omega
        have h6 : ¬ (ms.length : Int) ≤ 100 := by omega
        have h7 : (100 : Int) < (ms.length : Int) := by omega
        go_wp2
        go_meet
        case rel => exact ⟨rfl, rfl⟩
    case rest =>
      obtain ⟨rfl, rfl⟩ := hcut
      go_wp2_with fail
      refine (HRS.out _ (HE.out.below HB1.out)).mono ?_
      rintro _ w1r ⟨rfl, hbr⟩
      have HB1r := Lib.hid (HB1.out.trans (hbr.mono HB1.out.size))
      clear hbr HRS HB1
      cases rb with
      | false =>
        have hK0 := HK0.out rfl
        have hV0 := HV0.out rfl
        rw [hK0] at HKP
        have HV5 := Lib.hid (fun w' hb => HVX.out 5 w' (by decide) hb)
        rw [hV0] at HV5
        clear hK0 hV0 HK0 HV0 HVW
        go_wp2_with fail
        refine (HKP.out _ (HE.out.below HB1r.out) (HU.out.below HB1r.out)).mono ?_
        rintro _ w2 ⟨v1, rfl, ho1, hb2⟩
        obtain ⟨x1, c1, rfl, _⟩ := ho1.read
        have HB2 := Lib.hid (HB1r.out.trans (hb2.mono HB1r.out.size))
        clear ho1 hb2
        go_wp2_with fail
        refine (HV5.out _ (HE.out.below HB2.out)).mono ?_
        rintro _ w3 ⟨v2, rfl, ho2, hb3⟩
        obtain ⟨x2, c2, rfl, _⟩ := ho2.read
        have HB3 := Lib.hid (HB2.out.trans (hb3.mono HB2.out.size))
        clear ho2 hb3
        go_wp2
        go_ret
        exact ⟨rfl, HB3.out⟩
      | true =>
        have hVW := HVW.out
        have HV := Lib.hid (fun s hs => hVW s rfl hs)
        clear hVW HVW HK0 HV0
        go_wp2_with fail
        refine (HKP.out _ (HE.out.below HB1r.out) (HU.out.below HB1r.out)).mono ?_
        rintro _ w2 ⟨v1, rfl, ho1, hb2⟩
        obtain ⟨x1, c1, rfl, hc1, hc1m, he1, _⟩ := ho1.read
        have HR := Lib.hid he1
        have HB2 := Lib.hid (HB1r.out.trans (hb2.mono HB1r.out.size))
        have HE2 := Lib.hid (HE.out.below HB2.out)
        have HU2 := Lib.hid (HU.out.below HB2.out)
        have HVR := Lib.hid (fun s w' hs hb => view_any x1 c1 R s w' hc1 hc1m (by have := HRL.out; omega) hs hb)
        have HRR := Lib.hid (fun w' hb => rises_any x1 c1 R w' (Nat.le_trans hc1 hc1m) hb)
        rw [HKR.out] at HRR
        clear ho1 he1 hb2 HE HU HKP HC1 HC2 HSH HX HM HP HQ
        go_wp2_with fail
        go_loopw [11, 50] (fun nv iv wr => ∃ i : Nat, i ≤ p ∧ iv = .int .i64 i ∧ nv = .int .u64 (mxTo xs i : Nat) ∧ Below w2.heap.size w2 wr) (fun _ iv _ => p - (intOf iv).toNat)
        case atStart => exact ⟨0, by omega, rfl, rfl, Below.refl _ _⟩
        case round =>
          obtain ⟨i, hi, rfl, rfl, hwr⟩ := hrel
          obtain ⟨wA, rfl⟩ : ∃ wA, wA = wr := ⟨_, rfl⟩
          by_cases hlt : i < p
          · have hlt' : i < xs.length := by omega
            obtain ⟨b, off, rfl, ⟨c0, c1', c2, c3⟩, ho1⟩ := (HE2.out.below hwr) i hlt'
            have hin : (i : Int) < (p : Int) := by omega
            have h0 : (0 : Int) ≤ (i : Int) := by omega
            have HS : Hid (mxTo xs (i + 1) = if (xs[i]'hlt').seq ≤ mxTo xs i then mxTo xs i else (xs[i]'hlt').seq) := Lib.hid (by
              have : xs.getD i default = xs[i] := by simp [List.getD_eq_getElem?_getD, hlt']
              rw [← this]; rfl)
            generalize mxTo xs i = M at *
            generalize (xs[i]'hlt') = e at *
            by_cases hle : e.seq ≤ M
            · have k1 : (e.seq : Int) ≤ (M : Int) := by omega
              have k2 : ¬ (M : Int) < (e.seq : Int) := by omega
              have HS' : Hid (mxTo xs (i + 1) = M) := Lib.hid (by rw [HS.out, if_pos hle])
              go_wp2
              exact ⟨⟨i + 1, by omega, by go_num, by rw [HS'.out], by first | exact hwr | exact below_drewN hwr _⟩, by simp [intOf]; omega⟩
            · have k1 : ¬ (e.seq : Int) ≤ (M : Int) := by omega
              have k2 : (M : Int) < (e.seq : Int) := by omega
              have HS' : Hid (mxTo xs (i + 1) = e.seq) := Lib.hid (by rw [HS.out, if_neg hle])
              go_wp2
              exact ⟨⟨i + 1, by omega, by go_num, by rw [HS'.out], by first | exact hwr | exact below_drewN hwr _⟩, by simp [intOf]; omega⟩
          · obtain rfl : i = p := by omega
            have HA := Lib.hid hwr
            clear hwr
            obtain ⟨N, hN⟩ : ∃ N, mxTo xs i = N := ⟨_, rfl⟩
            have HN1 : Hid (∀ e ∈ xs, e.seq ≤ N) := Lib.hid (fun e he => by
              obtain ⟨j, hj, rfl⟩ := in_getD xs e he
              rw [← hN]; exact mxTo_le xs i j (by omega))
            have HN2 : Hid (N < 18446744073709551616) := Lib.hid (by rw [← hN]; exact mxTo_lt xs HSQ.out i (by omega))
            rw [hN]
            clear hN
            obtain ⟨tl, htl⟩ : ∃ tl, [N, 18446744073709551615] ++ mq = tl := ⟨_, rfl⟩
            have HTV : Hid (∀ s ∈ tl, s < 18446744073709551616 ∧ viewF R s = viewF xs s) := Lib.hid (by
              intro s hs
              rw [← htl] at hs
              simp only [List.cons_append, List.nil_append, List.mem_cons] at hs
              rcases hs with rfl | rfl | hs
              · exact ⟨HN2.out, HV.out _ (Or.inr HN1.out)⟩
              · exact ⟨by decide, HV.out _ (Or.inr fun e he => by have := HSQ.out e he; omega)⟩
              · exact ⟨HMS.out s hs, HV.out _ (Or.inl hs)⟩)
            have htn : tl.length = q + 2 := by rw [← htl]; simp; omega
            have HTL := Lib.hid htl
            have HTN := Lib.hid htn
            have ht1 : tl.length ≤ 102 := by omega
            clear htl htn HN1 HN2 HV HMS HSQ
            have HOWN : Hid ((wA.alloc (.cells #[.int .u64 (N : Nat), .int .u64 18446744073709551615] 31)).ownsRow wA.heap.size 31 1 (.slice (some ⟨wA.heap.size, 0, none⟩) 2 2) 2 (u64Cells [N, 18446744073709551615])) := Lib.hid (by
              have := World.ownsRow_lit (base := wA.heap.size) (e := 31) (size := 1) wA #[.int .u64 (N : Nat), .int .u64 18446744073709551615] 2 (Nat.le_refl _) (by unfold maxLen; omega) rfl
              exact this)
            have HUA : Hid (U64s (wA.alloc (.cells #[.int .u64 (N : Nat), .int .u64 18446744073709551615] 31)) am mq) := Lib.hid (HU2.out.below (HA.out.trans (((Below.refl wA.heap.size wA).alloc (Nat.le_refl _) _).mono HA.out.size)))
            go_wp2_with (at_builtin; refine app_u64s _ rfl _ _ 35 rfl Try.underlying35 infoU (K := wA.heap.size) (l := [N, 18446744073709551615]) (n0 := 2) rfl rfl HOWN.out (m := mq) (n := q) hml2 rfl HUA.out (by simp; omega) (by simp) ?_; intro v' w5 hown5 hb5; rw [HTL.out] at hown5; obtain ⟨y, cy, rfl, hty, _⟩ := ownU_read rfl hown5)
            have HB5 : Hid (Below w2.heap.size w2 w5) := Lib.hid (HA.out.trans ((((Below.refl wA.heap.size wA).alloc (Nat.le_refl _) _).trans hb5).mono HA.out.size))
            have HTY := Lib.hid hty
            clear hty hown5 hb5 HOWN HUA HA HTL HU2
            go_loopw [66] (fun iv wr => ∃ j : Nat, j ≤ tl.length ∧ iv = .int .i64 j ∧ Below w5.heap.size w5 wr) (fun iv _ => tl.length - (intOf iv).toNat)
            case atStart => exact ⟨0, by omega, rfl, Below.refl _ _⟩
            case round =>
              obtain ⟨j, hj, rfl, hwr⟩ := hrel
              obtain ⟨wB, rfl⟩ : ∃ wB, wB = wr := ⟨_, rfl⟩
              have HWB : Hid (Below w2.heap.size w2 wB) := Lib.hid (HB5.out.trans (hwr.mono HB5.out.size))
              by_cases hlt : j < tl.length
              · obtain ⟨b, off, rfl, c0⟩ := (HTY.out.below hwr) j hlt
                have hT := HTV.out tl[j] (List.getElem_mem hlt)
                have hin : (j : Int) < (tl.length : Int) := by omega
                have h0 : (0 : Int) ≤ (j : Int) := by omega
                generalize tl[j] = s at *
                have h1 := fun w' hb => HVR.out s w' hT.1 hb
                have h2 := fun w' hb => HVX.out s w' hT.1 hb
                rw [hT.2] at h1
                generalize viewF xs s = V at *
                have H1 := Lib.hid h1
                have H2 := Lib.hid h2
                have HW := Lib.hid hwr
                clear h1 h2 hT hwr
                go_wp2_with fail
                refine (H1.out _ (HR.out.below HWB.out)).mono ?_
                rintro _ w6 ⟨v6, rfl, ho6, hb6⟩
                obtain ⟨y6, c6, rfl, e6, f6, he6⟩ := ho6.read
                have HW6 := Lib.hid (HW.out.trans (hb6.mono HW.out.size))
                have HE6 := Lib.hid he6
                have HF6 := Lib.hid (HE2.out.below (HWB.out.trans (hb6.mono HWB.out.size)))
                clear ho6 he6 hb6
                go_wp2_with fail
                refine (H2.out _ HF6.out).mono ?_
                rintro _ w7 ⟨v7, rfl, ho7, hb7⟩
                obtain ⟨y7, c7, rfl, e7, f7, he7⟩ := ho7.read
                have HW7 := Lib.hid (HW6.out.trans (hb7.mono HW6.out.size))
                have HSP := Lib.hid (samePairs_any y6 y7 c6 c7 V V w7 (Nat.le_trans e6 f6) (HE6.out.below hb7) he7 rfl)
                clear ho7 he7 hb7
                go_wp2_with fail
                refine HSP.out.mono ?_
                rintro _ w8 ⟨rfl, hb8⟩
                have HW8 := Lib.hid (HW7.out.trans (hb8.mono HW7.out.size))
                clear hb8
                go_wp2
                exact ⟨⟨j + 1, by omega, by go_num, HW8.out⟩, by simp [intOf]; omega⟩
              · obtain rfl : j = tl.length := by omega
                clear hwr
                go_wp2_with fail
                refine (HRR.out _ (HR.out.below HWB.out)).mono ?_
                rintro _ w6 ⟨rfl, hb6⟩
                have HW6 := Lib.hid (HB2.out.trans ((HWB.out.trans (hb6.mono HWB.out.size)).mono HB2.out.size))
                clear hb6
                go_wp2
                go_ret
                exact ⟨rfl, HW6.out⟩
end Go.Proofs.Ythgbmijgoaihcaa

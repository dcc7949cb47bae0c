/-
  The law that parts of a list, put together, are the list.
-/
import Derived.Test.YthgbmijgoaihcaaSo10
import Derived.Test.YthgbmijgoaihcaaMg15
import Derived.Test.YthgbmijgoaihcaaMg30
import Derived.Test.YthgbmijgoaihcaaMgRows
namespace Go.Proofs.Ythgbmijgoaihcaa
open Go.RowKit
set_option linter.unusedVariables false

theorem isMerge_bad (ls : List (List Ent)) (m : List Ent) (h : ls.all rises = false) (hm : IsMerge ls m) : m = [] := by
  unfold IsMerge at hm
  rw [h] at hm
  simpa using hm
set_option maxRecDepth 100000 in
set_option maxHeartbeats 3200000 in
theorem law_parts (a : Option Addr) (cap : Nat) (l : List Ent) (af : Option Addr) (cf : Nat) (f : List Nat) (w : World) (hl : l.length ≤ cap) (hm : cap ≤ maxLen) (hb : Ents w a l)
    (hfl : f.length ≤ cf) (hfm : cf ≤ maxLen) (hI : U8s w af f) :
    Calls Try.prog 11 #[.slice a l.length cap, .slice af f.length cf] w fun e w' => e = .returned (.bool true) ∧ Below w.heap.size w w' := by
  have HSH := Lib.hid (fun w' => mshown_any sorts w')
  obtain ⟨p, HP⟩ : ∃ p, Hid (min l.length 500 = p) := ⟨_, Lib.hid rfl⟩
  have hp5 : p ≤ 500 := by have := HP.out; omega
  have hpl : p ≤ l.length := by have := HP.out; omega
  have hpc : p ≤ cap := by omega
  have hl1 : l.length ≤ 9223372036854775807 := by unfold maxLen at hm; omega
  have hf1 : f.length ≤ 9223372036854775807 := by unfold maxLen at hfm; omega
  obtain ⟨xs, HX⟩ : ∃ xs, Hid (l.take p = xs) := ⟨_, Lib.hid rfl⟩
  have hxl : xs.length = p := by rw [← HX.out]; simp; omega
  have HXL := Lib.hid hxl
  have HE : Hid (Ents w a xs) := Lib.hid (by rw [← HX.out]; exact hb.take p)
  have HU := Lib.hid hI
  have HRS := Lib.hid (fun w' hb => rises_any a cap xs w' (by omega) hb)
  rw [hxl] at HRS
  obtain ⟨i0, hi0⟩ : ∃ i0, Try.prog.info? 33 = some i0 := by
    obtain ⟨i0, hi0, _⟩ := info_parts Try.infoE
    exact ⟨i0, hi0⟩
  have HC1 := Lib.hid (fun w => run_cut_to (P := Try.prog) Try.underlying22 hi0 a l.length cap p .i64 (by omega) w)
  clear hi0 hb hI hxl
  obtain ⟨rb, hrb⟩ : ∃ rb, rises xs = rb := ⟨_, rfl⟩
  rw [hrb] at HRS
  have HRB := Lib.hid hrb
  clear hrb
  go_enter Try.func11, Try.ntmps11
  go_upto_region 2 with (refine (HSH.out _).mono ?_; rintro _ w1 ⟨rfl, hb1⟩)
  have HB1 := Lib.hid hb1
  clear hb1
  go_cut [6] (fun v wx => v = .slice a p cap ∧ w1 = wx)
  case first =>
    have hcut := HC1.out
    by_cases h5 : l.length ≤ 500
    · obtain rfl : p = l.length := by have := HP.out; omega
      have h6 : (l.length : Int) ≤ 500 := by omega
      have h7 : ¬ (500 : Int) < (l.length : Int) := by omega
      go_wp2
      go_meet
      case rel => exact ⟨rfl, rfl⟩
    · obtain rfl : p = 500 := by have := HP.out; omega
      have h6 : ¬ (l.length : Int) ≤ 500 := by omega
      have h7 : (500 : Int) < (l.length : Int) := by omega
      go_wp2
      go_meet
      case rel => exact ⟨rfl, rfl⟩
  case rest =>
    obtain ⟨rfl, rfl⟩ := hcut
    go_wp2_with fail
    refine (HRS.out _ (HE.out.below HB1.out)).mono ?_
    rintro _ w2 ⟨rfl, hbr⟩
    have HB2 := Lib.hid (HB1.out.trans (hbr.mono HB1.out.size))
    have HE2 := Lib.hid (HE.out.below HB2.out)
    have HRW : Hid (RowsOk w2 [⟨a, cap, xs⟩]) := Lib.hid (fun r hr => by simp at hr; subst hr; exact ⟨by have := HXL.out; show xs.length ≤ cap; omega, hm, HE2.out⟩)
    clear hbr HRS HB1
    cases rb with
    | false =>
      have HME := Lib.hid (fun (w' : World) (hb : EntRows w' (some ⟨w2.heap.size, 0, none⟩) [xs]) => merge_any (some ⟨w2.heap.size, 0, none⟩) 1 [xs] w' (by simp) hb (fun h => by cases h) 500 (by decide) (by have := HXL.out; simp; omega))
      have hbl : (w2.alloc (.cells #[.slice a p cap] 22)).heap[w2.heap.size]? = some (.cells (([⟨a, cap, xs⟩] : List Row).map Row.val).toArray 22 (0, 0)) := by
        rw [heap_at]; simp [Row.val, HXL.out]
      have HER : Hid (EntRows (w2.alloc (.cells #[.slice a p cap] 22)) (some ⟨w2.heap.size, 0, none⟩) [xs]) := Lib.hid (rows_blk hbl (fun r hr => by
        obtain ⟨h1, h2, h3⟩ := HRW.out r hr
        exact ⟨h1, h2, h3.below ((Below.refl _ _).alloc (Nat.le_refl _) _)⟩))
      clear hbl
      go_wp2_with fail
      refine (HME.out _ HER.out).mono ?_
      rintro _ w3 ⟨v3, rfl, ⟨m, hm3, him⟩, hb3⟩
      have hm0 := isMerge_bad _ _ (by simp [HRB.out]) him
      subst hm0
      obtain ⟨x3, c3, rfl, _⟩ := hm3.read
      have HB3 := Lib.hid (HB2.out.trans ((((Below.refl w2.heap.size w2).alloc (Nat.le_refl _) (.cells #[.slice a p cap] 22)).trans (hb3.mono (by simp))).mono HB2.out.size))
      clear him hm3 hb3
      go_wp2
      go_ret
      exact ⟨rfl, HB3.out⟩
    | true =>
      clear HC1
      have PS0 := Lib.hid (PS.start w2)
      go_wp2_with fail
      go_loopw [31] (fun iv wr => ∃ (i : Nat) (vs : Nat → Value), i ≤ p ∧ iv = .int .i64 i ∧ Hid (PS w2 wr w2.heap.size vs (fun c => part f xs c i))) (fun iv _ => p - (intOf iv).toNat)
      case atStart => exact ⟨0, _, by omega, rfl, PS0⟩
      case round =>
        obtain ⟨i, vs, hi, rfl, HS⟩ := hrel
        obtain ⟨wA, rfl⟩ : ∃ wA, wA = wr := ⟨_, rfl⟩
        by_cases hlt : i < p
        · have hlt' : i < xs.length := by have := HXL.out; omega
          have hip : (i : Int) < (p : Int) := by omega
          have h0 : (0 : Int) ≤ (i : Int) := by omega
          obtain ⟨b, off, rfl, ⟨e0, e1, e2, e3⟩, hxo⟩ := (HE2.out.below (w' := wA) HS.out.bel) i hlt'
          have HXO := Lib.hid hxo
          have HGD : Hid (xs.getD i default = xs[i]) := Lib.hid (by simp [List.getD_eq_getElem?_getD, hlt'])
          obtain ⟨c, hc⟩ : ∃ c, kd f i = c := ⟨_, rfl⟩
          have HC := Lib.hid hc
          have hc3 : c < 3 := by rw [← hc]; exact kd_lt f i
          have HPL : Hid ((part f xs c i).length + 1 ≤ 2932031007402) := Lib.hid (by have := part_len f xs c i (by omega); omega)
          have HUP := Lib.hid (updL_part f xs i c hc)
          rw [HGD.out] at HUP
          clear hc hxo HGD
          generalize (xs[i]'hlt') = e at *
          go_upto_if 37 with (fail)
          go_cut [9] (fun s wx => s = .int .i64 (c : Nat) ∧ wA = wx)
          case first =>
            by_cases hif : i < f.length
            · obtain ⟨bf, of, rfl, c0, c256⟩ := (HU.out.below (HB2.out.trans (HS.out.bel.mono HB2.out.size))) i hif
              have hii : (i : Int) < (f.length : Int) := by omega
              have HV : Hid (c = f[i] % 3) := Lib.hid (by rw [← HC.out]; unfold kd; rw [if_pos hif]; simp [List.getD_eq_getElem?_getD, hif])
              generalize f[i] = q at *
              go_wp2
              go_meet
              case rel => exact ⟨by rw [HV.out]; go_num, rfl⟩
            · have hii : ¬ (i : Int) < (f.length : Int) := by omega
              have HV : Hid (c = 0) := Lib.hid (by rw [← HC.out]; unfold kd; rw [if_neg hif])
              go_wp2
              go_meet
              case rel => exact ⟨by rw [HV.out]; rfl, rfl⟩
          case rest =>
            obtain ⟨rfl, rfl⟩ := hcut
            obtain ⟨hcB, hfB⟩ := HS.out.cell c hc3
            have hcc0 : (0 : Int) ≤ (c : Int) := by omega
            have hcc3 : (c : Int) < 3 := by omega
            go_wp2
            refine cut_start 9 (fun w' => w'.cell? ⟨w2.heap.size, c, none⟩ = some (vs c) ∧ w'.cell? ⟨b, off + i * 4, none⟩ = some (.string e.user) ∧ w'.cell? ⟨b, off + i * 4 + 1, none⟩ = some (.int .u64 (e.seq : Nat)) ∧ w'.cell? ⟨b, off + i * 4 + 2, none⟩ = some (.int .u8 (e.kind : Nat)) ∧ w'.cell? ⟨b, off + i * 4 + 3, none⟩ = some (.string e.value)) (by kernel_rfl) ?_ (fun hS0 => ?_)
            · exact ⟨hcB, e0, e1, e2, e3⟩
            refine cut_pure (i := 0) (oi := { dst := some 44, op := Op.move (Operand.tmp 9), type := 3, pos := "law.go:84", after := #[], guard := none }) (v := ?_) rfl (by kernel_rfl) (by kernel_rfl) (by kernel_rfl) (by kernel_rfl) (fun _ _ _ h => h) (Or.inl ⟨by rfl, ?hy1⟩) (by assumption) ?_
            case hy1 => (intro w; go_simp; try with_reducible rfl)
            (try simp only [Act.put, List.setIfInBounds_toArray, List.set_cons_zero, List.set_cons_succ])
            refine cut_pure (i := 1) (oi := { dst := some 45, op := Op.move (Operand.tmp 9), type := 3, pos := "law.go:84", after := #[], guard := none }) (v := ?_) rfl (by kernel_rfl) (by kernel_rfl) (by kernel_rfl) (by kernel_rfl) (fun _ _ _ h => h) (Or.inl ⟨by rfl, ?hy2⟩) (by assumption) ?_
            case hy2 => (intro w; go_simp; try with_reducible rfl)
            (try simp only [Act.put, List.setIfInBounds_toArray, List.set_cons_zero, List.set_cons_succ])
            refine cut_pure (i := 2) (oi := { dst := some 46, op := Op.indexAddr 50 (Operand.tmp 7) (Operand.tmp 45), type := 0, pos := "law.go:84", after := #[{ on := 1, ground := Ground.data }], guard := none }) (v := ?_) rfl (by kernel_rfl) (by kernel_rfl) (by kernel_rfl) (by kernel_rfl) (fun _ _ _ h => h) (Or.inl ⟨by rfl, ?hy3⟩) (by assumption) ?_
            case hy3 => (intro w; go_simp; try with_reducible rfl)
            (try simp only [Act.put, List.setIfInBounds_toArray, List.set_cons_zero, List.set_cons_succ])
            refine cut_pure (i := 4) (oi := { dst := some 48, op := Op.move (Operand.tmp 6), type := 22, pos := "law.go:84", after := #[], guard := none }) (v := ?_) rfl (by kernel_rfl) (by kernel_rfl) (by kernel_rfl) (by kernel_rfl) (fun _ _ _ h => h) (Or.inl ⟨by rfl, ?hy4⟩) (by assumption) ?_
            case hy4 => (intro w; go_simp; try with_reducible rfl)
            (try simp only [Act.put, List.setIfInBounds_toArray, List.set_cons_zero, List.set_cons_succ])
            refine cut_pure (i := 5) (oi := { dst := some 49, op := Op.move (Operand.tmp 8), type := 3, pos := "law.go:84", after := #[], guard := none }) (v := ?_) rfl (by kernel_rfl) (by kernel_rfl) (by kernel_rfl) (by kernel_rfl) (fun _ _ _ h => h) (Or.inl ⟨by rfl, ?hy5⟩) (by assumption) ?_
            case hy5 => (intro w; go_simp; try with_reducible rfl)
            (try simp only [Act.put, List.setIfInBounds_toArray, List.set_cons_zero, List.set_cons_succ])
            refine cut_pure (i := 6) (oi := { dst := some 50, op := Op.indexAddr 22 (Operand.tmp 48) (Operand.tmp 49), type := 0, pos := "law.go:84", after := #[{ on := 4, ground := Ground.data }, { on := 5, ground := Ground.data }], guard := none }) (v := ?_) rfl (by kernel_rfl) (by kernel_rfl) (by kernel_rfl) (by kernel_rfl) (fun _ _ _ h => h) (Or.inl ⟨by rfl, ?hy6⟩) (by assumption) ?_
            case hy6 => (intro w; go_simp; try with_reducible rfl)
            (try simp only [Act.put, List.setIfInBounds_toArray, List.set_cons_zero, List.set_cons_succ])
            refine cut_take (i := 3) (oi := { dst := some 47, op := Op.load 22 (Operand.tmp 46), type := 22, pos := "law.go:84", after := #[{ on := 2, ground := Ground.data }], guard := none }) (v := ?_) rfl (by kernel_rfl) (by kernel_rfl) (by kernel_rfl) (by kernel_rfl) (fun _ _ _ h => h) (Or.inl ⟨by rfl, ?hy7⟩) (by assumption) ?_
            case hy7 => (intro w hSw; (try dsimp only at hSw); go_simp; try with_reducible rfl)
            (try simp only [Act.put, List.setIfInBounds_toArray, List.set_cons_zero, List.set_cons_succ])
            refine cut_other (i := 7) (by kernel_rfl) (by kernel_rfl) (o := { dst := some 51, op := Op.load 33 (Operand.tmp 50), type := 33, pos := "law.go:84", after := #[{ on := 6, ground := Ground.data }], guard := none }) rfl (fun K hK => ?_)
            go_simp
            (try dsimp only)
            refine Shut.out hK _ _ ?_ (fun hS7 => ?_)
            · exact ⟨hcB, e0, e1, e2, e3⟩
            clear hK K
            (try simp only [Act.put, List.setIfInBounds_toArray, List.set_cons_zero, List.set_cons_succ])
            refine cut_other (i := 8) (by kernel_rfl) (by kernel_rfl) (o := { dst := some 52, op := Op.buildSlice 22 1 #[(0, Operand.tmp 51)], type := 22, pos := "law.go:84", after := #[{ on := 7, ground := Ground.data }], guard := none }) rfl (fun K hK => ?_)
            go_simp
            (try dsimp only)
            refine Shut.out hK _ _ ?_ (fun hS8 => ?_)
            · exact ⟨cell_later2 ((Below.refl wA.heap.size wA).drew.alloc (Nat.le_refl _) _) hcB, cell_later2 ((Below.refl wA.heap.size wA).drew.alloc (Nat.le_refl _) _) e0, cell_later2 ((Below.refl wA.heap.size wA).drew.alloc (Nat.le_refl _) _) e1, cell_later2 ((Below.refl wA.heap.size wA).drew.alloc (Nat.le_refl _) _) e2, cell_later2 ((Below.refl wA.heap.size wA).drew.alloc (Nat.le_refl _) _) e3⟩
            clear hK K
            (try simp only [Act.put, List.setIfInBounds_toArray, List.set_cons_zero, List.set_cons_succ])
            refine cut_step (by kernel_rfl) (o := { dst := some 53, op := Op.call { callee := Callee.builtin Builtin.append, args := #[Operand.tmp 47, Operand.tmp 52], argTypes := #[22, 22] }, type := 22, pos := "law.go:84", after := #[{ on := 3, ground := Ground.data }, { on := 8, ground := Ground.data }], guard := none }) rfl (fun K hK => ?_)
            have HSX := Lib.hid (HS.out.later ((Below.refl wA.heap.size wA).drew.alloc (Nat.le_refl _) (.cells #[.string e.user, .int .u64 (e.seq : Nat), .int .u8 (e.kind : Nat), .string e.value] 33)))
            refine step_app_e _ (by rfl) _ _ _ (by rfl) Try.underlying22 Try.infoE rfl (by rfl) (HSX.out.own c hc3) (e := e) (by rfl) (heap_at' (by simp)) HXO.out HPL.out (by have := heap_lt HS.out.box; simp; omega) ?_
            intro g cg w5 hown5 hg5 hloc5
            have hput := HSX.out.put c hc3 hown5 hg5 (hloc5.imp (fun q => q.symm) fun q => ⟨g, rfl, Nat.le_of_eq q.symm⟩)
            have HPUT := Lib.hid hput
            obtain ⟨hc5, hf5⟩ := HSX.out.cellB hg5 hc3
            clear hput hown5 hg5 hloc5
            (try dsimp only)
            refine Shut.out hK _ _ ?_
            clear hK K
            (try simp only [Act.put, List.setIfInBounds_toArray, List.set_cons_zero, List.set_cons_succ])
            clear hS0 hS7 hS8
            refine wpAny_take (i := 10) (oi := { dst := some 54, op := Op.indexAddr 50 (Operand.tmp 7) (Operand.tmp 44), type := 0, pos := "law.go:84", after := #[{ on := 0, ground := Ground.data }, { on := 0, ground := Ground.phase }, { on := 1, ground := Ground.phase }, { on := 2, ground := Ground.phase }, { on := 3, ground := Ground.phase }, { on := 4, ground := Ground.phase }, { on := 5, ground := Ground.phase }, { on := 6, ground := Ground.phase }, { on := 7, ground := Ground.phase }, { on := 8, ground := Ground.phase }, { on := 9, ground := Ground.phase }], guard := none }) (v := ?_) rfl (by kernel_rfl) (by kernel_rfl) (by kernel_rfl) (fun _ _ _ h => h) (Or.inl ⟨by rfl, ?hy11⟩) ?_
            case hy11 => (intro w; go_simp; try with_reducible rfl)
            (try simp only [Act.put, List.setIfInBounds_toArray, List.set_cons_zero, List.set_cons_succ])
            refine any_step (i := 11) (by kernel_rfl) (o := { dst := none, op := Op.store 22 (Operand.tmp 54) (Operand.tmp 53), type := 0, pos := "law.go:84", after := #[{ on := 10, ground := Ground.data }, { on := 9, ground := Ground.data }, { on := 9, ground := Ground.chain }, { on := 0, ground := Ground.phase }, { on := 1, ground := Ground.phase }, { on := 2, ground := Ground.phase }, { on := 3, ground := Ground.phase }, { on := 4, ground := Ground.phase }, { on := 5, ground := Ground.phase }, { on := 6, ground := Ground.phase }, { on := 7, ground := Ground.phase }, { on := 8, ground := Ground.phase }, { on := 9, ground := Ground.phase }], guard := none }) rfl (fun K hK => ?_)
            go_simp
            (try dsimp only)
            refine Shut.out hK _ _ ?_
            clear hK K
            (try simp only [Act.put, List.setIfInBounds_toArray, List.set_cons_zero, List.set_cons_succ])
            refine wpAny_done (by kernel_rfl) ?_ _
            go_wp2
            exact ⟨⟨i + 1, upd vs c _, by omega, by go_num, Lib.hid (by rw [show (fun c => part f xs c (i + 1)) = updL (fun c => part f xs c i) c (part f xs c i ++ [e]) from funext fun d => (HUP.out d).symm]; exact HPUT.out)⟩, by simp [intOf]; omega⟩
        · obtain rfl : i = p := by omega
          have o0 : OwnE 33 wA (w2.heap.size + 1) (vs 0) (part f xs 0 i) := HS.out.own 0 (by decide)
          have o1 : OwnE 33 wA (w2.heap.size + 1) (vs 1) (part f xs 1 i) := HS.out.own 1 (by decide)
          have o2 : OwnE 33 wA (w2.heap.size + 1) (vs 2) (part f xs 2 i) := HS.out.own 2 (by decide)
          obtain ⟨x0, c0, hv0, q0, m0, E0, _⟩ := o0.read
          obtain ⟨x1, c1, hv1, q1, m1, E1, _⟩ := o1.read
          obtain ⟨x2, c2, hv2, q2, m2, E2, _⟩ := o2.read
          obtain ⟨hB0, _⟩ := HS.out.cell 0 (by decide)
          obtain ⟨hB1, _⟩ := HS.out.cell 1 (by decide)
          obtain ⟨hB2, _⟩ := HS.out.cell 2 (by decide)
          rw [hv0] at hB0
          rw [hv1] at hB1
          rw [hv2] at hB2
          have HALL : Hid (∀ e ∈ xs, e ∈ part f xs 0 i ∨ e ∈ part f xs 1 i ∨ e ∈ part f xs 2 i) := Lib.hid (fun e he => by
            have := part_all f xs e he
            rw [HXL.out] at this
            exact this)
          have HP0 : Hid ((part f xs 0 i).length ≤ i ∧ rises (part f xs 0 i) = true ∧ ∀ e ∈ part f xs 0 i, e ∈ xs) := Lib.hid ⟨part_len f xs 0 i (Nat.le_of_eq HXL.out.symm), part_rises f xs 0 i (Nat.le_of_eq HXL.out.symm) HRB.out, part_in f xs 0 i (Nat.le_of_eq HXL.out.symm)⟩
          have HP1 : Hid ((part f xs 1 i).length ≤ i ∧ rises (part f xs 1 i) = true ∧ ∀ e ∈ part f xs 1 i, e ∈ xs) := Lib.hid ⟨part_len f xs 1 i (Nat.le_of_eq HXL.out.symm), part_rises f xs 1 i (Nat.le_of_eq HXL.out.symm) HRB.out, part_in f xs 1 i (Nat.le_of_eq HXL.out.symm)⟩
          have HP2 : Hid ((part f xs 2 i).length ≤ i ∧ rises (part f xs 2 i) = true ∧ ∀ e ∈ part f xs 2 i, e ∈ xs) := Lib.hid ⟨part_len f xs 2 i (Nat.le_of_eq HXL.out.symm), part_rises f xs 2 i (Nat.le_of_eq HXL.out.symm) HRB.out, part_in f xs 2 i (Nat.le_of_eq HXL.out.symm)⟩
          have HBW := Lib.hid HS.out.bel
          clear o0 o1 o2 hv0 hv1 hv2 HS PS0
          generalize part f xs 0 i = P0 at *
          generalize part f xs 1 i = P1 at *
          generalize part f xs 2 i = P2 at *
          have HRO : Hid (RowsOk wA [⟨x0, c0, P0⟩, ⟨x1, c1, P1⟩, ⟨x2, c2, P2⟩]) := Lib.hid (fun r hr => by
            simp only [List.mem_cons, List.not_mem_nil, or_false] at hr
            rcases hr with rfl | rfl | rfl
            · exact ⟨q0, m0, E0⟩
            · exact ⟨q1, m1, E1⟩
            · exact ⟨q2, m2, E2⟩)
          have HI1 : Hid (IsMerge [P0, P1, P2] xs) := Lib.hid (parts_merge xs HRB.out _ (fun p hp => by
            simp only [List.mem_cons, List.not_mem_nil, or_false] at hp
            rcases hp with rfl | rfl | rfl
            · exact HP0.out.2
            · exact HP1.out.2
            · exact HP2.out.2) (fun e he => by
            rcases HALL.out e he with q | q | q
            · exact ⟨P0, by simp, q⟩
            · exact ⟨P1, by simp, q⟩
            · exact ⟨P2, by simp, q⟩))
          have HSUM : Hid (P0.length + (P1.length + (P2.length + 0)) ≤ 10000) := Lib.hid (by have := HP0.out.1; have := HP1.out.1; have := HP2.out.1; omega)
          have HE0 := Lib.hid E0
          have HE1 := Lib.hid E1
          have HE2' := Lib.hid E2
          clear q0 q1 q2 m0 m1 m2 E0 E1 E2
          go_wp2_with fail
          have hbel := (Below.refl wA.heap.size wA).alloc (Nat.le_refl _) (.cells #[.slice x0 P0.length c0, .slice x1 P1.length c1, .slice x2 P2.length c2] 22)
          refine (merge_to _ wA.heap.size [⟨x0, c0, P0⟩, ⟨x1, c1, P1⟩, ⟨x2, c2, P2⟩] 3 _ _ rfl (heap_at' rfl) (HRO.out.below hbel) (by decide) HSUM.out xs HI1.out).mono ?_
          rintro _ w3 ⟨ya, ca, rfl, hra, hb3⟩
          have HB3 := Lib.hid (hbel.trans (hb3.mono (by simp)))
          have HRA := Lib.hid hra
          have hc0 := cell_later2 HB3.out hB0
          have hc1 := cell_later2 HB3.out hB1
          have hc2 := cell_later2 HB3.out hB2
          have HW3 := Lib.hid (HB2.out.trans ((HBW.out.trans (HB3.out.mono HBW.out.size)).mono HB2.out.size))
          have HR10 : Hid (RowsOk w3 [⟨x1, c1, P1⟩, ⟨x0, c0, P0⟩]) := Lib.hid (fun r hr => by
            refine HRO.out.below HB3.out r ?_
            simp only [List.mem_cons, List.not_mem_nil, or_false] at hr ⊢
            rcases hr with rfl | rfl <;> simp)
          have HR2 : Hid (∀ w' y k m, Below w3.heap.size w3 w' → Rd w' y k m → RowsOk w' [⟨x2, c2, P2⟩, ⟨y, k, m⟩]) := Lib.hid (fun w' y k m hb hr r hmem => by
            simp only [List.mem_cons, List.not_mem_nil, or_false] at hmem
            rcases hmem with rfl | rfl
            · exact HRO.out.below (HB3.out.trans (hb.mono HB3.out.size)) _ (by simp)
            · exact ⟨hr.len, hr.cap, hr.ents⟩)
          have HS10 : Hid (P1.length + (P0.length + 0) ≤ 10000) := Lib.hid (by have := HSUM.out; omega)
          have HIN : Hid (∀ m, IsMerge [P1, P0] m → P2.length + (m.length + 0) ≤ 10000 ∧ IsMerge [P2, m] xs) := Lib.hid (fun m him => by
            have hin := inner_merge xs HRB.out [P1, P0] m (fun p hp => by
              simp only [List.mem_cons, List.not_mem_nil, or_false] at hp
              rcases hp with rfl | rfl
              · exact HP1.out.2
              · exact HP0.out.2) him
            have hlen := isMerge_len him
            simp only [List.map_cons, List.map_nil, List.sum_cons, List.sum_nil] at hlen
            refine ⟨by have := HSUM.out; omega, parts_merge xs HRB.out _ (fun p hp => ?_) (fun e he => ?_)⟩
            · simp only [List.mem_cons, List.not_mem_nil, or_false] at hp
              rcases hp with rfl | rfl
              · exact HP2.out.2
              · exact ⟨hin.1, hin.2.1⟩
            · rcases HALL.out e he with q | q | q
              · exact ⟨m, by simp, hin.2.2 P0 (by simp) e q⟩
              · exact ⟨m, by simp, hin.2.2 P1 (by simp) e q⟩
              · exact ⟨P2, by simp, q⟩)
          have KS : Hid (∀ w', Below w3.heap.size w3 w' → (w'.cell? ⟨w2.heap.size, 0, none⟩ = some (.slice x0 P0.length c0) ∧ w'.cell? ⟨w2.heap.size, 1, none⟩ = some (.slice x1 P1.length c1) ∧ w'.cell? ⟨w2.heap.size, 2, none⟩ = some (.slice x2 P2.length c2) ∧ Below w3.heap.size w3 w')) :=
            Lib.hid (fun w' hb => ⟨cell_later2 hb hc0, cell_later2 hb hc1, cell_later2 hb hc2, hb⟩)
          clear hbel hra hb3 hB0 hB1 hB2
          rw [HXL.out]
          go_wp2
          refine wp_region_held_drew (S := (fun w' => w'.cell? ⟨w2.heap.size, 0, none⟩ = some (.slice x0 P0.length c0) ∧ w'.cell? ⟨w2.heap.size, 1, none⟩ = some (.slice x1 P1.length c1) ∧ w'.cell? ⟨w2.heap.size, 2, none⟩ = some (.slice x2 P2.length c2) ∧ Below w3.heap.size w3 w')) (by kernel_rfl) ?_ (fun hS0 => ?_)
          · exact KS.out _ (Below.refl _ _).drew
          refine wpAnyH_take (i := 0) (oi := { dst := some 64, op := Op.indexAddr 50 (Operand.tmp 7) (Operand.const (Value.int IntKind.i64 2)), type := 0, pos := "law.go:87", after := #[], guard := none }) (v := ?_) rfl (by kernel_rfl) (by kernel_rfl) (by kernel_rfl) (fun _ _ _ h => h) (Or.inl ⟨by rfl, ?hy1⟩) (by assumption) ?_
          case hy1 => (intro w hSw; (try dsimp only at hSw); go_simp; try with_reducible rfl)
          (try simp only [Act.put, List.setIfInBounds_toArray, List.set_cons_zero, List.set_cons_succ])
          refine wpAnyH_take (i := 1) (oi := { dst := some 65, op := Op.load 22 (Operand.tmp 64), type := 22, pos := "law.go:87", after := #[{ on := 0, ground := Ground.data }], guard := none }) (v := ?_) rfl (by kernel_rfl) (by kernel_rfl) (by kernel_rfl) (fun _ _ _ h => h) (Or.inl ⟨by rfl, ?hy2⟩) (by assumption) ?_
          case hy2 => (intro w hSw; (try dsimp only at hSw); go_simp; try with_reducible rfl)
          (try simp only [Act.put, List.setIfInBounds_toArray, List.set_cons_zero, List.set_cons_succ])
          refine wpAnyH_take (i := 2) (oi := { dst := some 66, op := Op.indexAddr 50 (Operand.tmp 7) (Operand.const (Value.int IntKind.i64 1)), type := 0, pos := "law.go:87", after := #[], guard := none }) (v := ?_) rfl (by kernel_rfl) (by kernel_rfl) (by kernel_rfl) (fun _ _ _ h => h) (Or.inl ⟨by rfl, ?hy3⟩) (by assumption) ?_
          case hy3 => (intro w hSw; (try dsimp only at hSw); go_simp; try with_reducible rfl)
          (try simp only [Act.put, List.setIfInBounds_toArray, List.set_cons_zero, List.set_cons_succ])
          refine wpAnyH_take (i := 3) (oi := { dst := some 67, op := Op.load 22 (Operand.tmp 66), type := 22, pos := "law.go:87", after := #[{ on := 2, ground := Ground.data }], guard := none }) (v := ?_) rfl (by kernel_rfl) (by kernel_rfl) (by kernel_rfl) (fun _ _ _ h => h) (Or.inl ⟨by rfl, ?hy4⟩) (by assumption) ?_
          case hy4 => (intro w hSw; (try dsimp only at hSw); go_simp; try with_reducible rfl)
          (try simp only [Act.put, List.setIfInBounds_toArray, List.set_cons_zero, List.set_cons_succ])
          refine wpAnyH_take (i := 4) (oi := { dst := some 68, op := Op.indexAddr 50 (Operand.tmp 7) (Operand.const (Value.int IntKind.i64 0)), type := 0, pos := "law.go:87", after := #[], guard := none }) (v := ?_) rfl (by kernel_rfl) (by kernel_rfl) (by kernel_rfl) (fun _ _ _ h => h) (Or.inl ⟨by rfl, ?hy5⟩) (by assumption) ?_
          case hy5 => (intro w hSw; (try dsimp only at hSw); go_simp; try with_reducible rfl)
          (try simp only [Act.put, List.setIfInBounds_toArray, List.set_cons_zero, List.set_cons_succ])
          refine wpAnyH_take (i := 5) (oi := { dst := some 69, op := Op.load 22 (Operand.tmp 68), type := 22, pos := "law.go:87", after := #[{ on := 4, ground := Ground.data }], guard := none }) (v := ?_) rfl (by kernel_rfl) (by kernel_rfl) (by kernel_rfl) (fun _ _ _ h => h) (Or.inl ⟨by rfl, ?hy6⟩) (by assumption) ?_
          case hy6 => (intro w hSw; (try dsimp only at hSw); go_simp; try with_reducible rfl)
          (try simp only [Act.put, List.setIfInBounds_toArray, List.set_cons_zero, List.set_cons_succ])
          refine wpAnyH_ready (rs := [6]) (by kernel_rfl) (by simp) (AllReadyH.cons (o := { dst := some 70, op := Op.buildSlice 25 2 #[(0, Operand.tmp 67), (1, Operand.tmp 69)], type := 25, pos := "law.go:87", after := #[{ on := 3, ground := Ground.data }, { on := 5, ground := Ground.data }], guard := none }) rfl (fun K hK => ?_) AllReadyH.nil)
          go_simp
          (try dsimp only)
          refine Shut.out hK _ _ ?_ (fun hS6 => ?_)
          · exact KS.out _ (hS0.2.2.2.alloc hS0.2.2.2.size _)
          clear hK K
          (try simp only [Act.put, List.setIfInBounds_toArray, List.set_cons_zero, List.set_cons_succ])
          refine wpAnyH_ready (rs := [7]) (by kernel_rfl) (by simp) (AllReadyH.cons (o := { dst := some 71, op := Op.call { callee := Callee.value (Operand.func 33), args := #[Operand.tmp 70], argTypes := #[25] }, type := 22, pos := "law.go:87", after := #[{ on := 6, ground := Ground.data }], guard := none }) rfl (fun K hK => ?_) AllReadyH.nil)
          go_simp
          refine (merge_rows _ w3.heap.size [⟨x1, c1, P1⟩, ⟨x0, c0, P0⟩] 2 22 (0, 0) rfl (by exact heap_at' rfl) (HR10.out.below hS6.2.2.2) (by decide) HS10.out).mono ?_
          rintro _ w4 ⟨y4, k4, m4, rfl, hr4, him4, hb4⟩
          (try dsimp only)
          refine Shut.out hK _ _ ?_ (fun hS7 => ?_)
          · exact KS.out _ (hS6.2.2.2.trans (hb4.mono hS6.2.2.2.size))
          clear hK K
          (try simp only [Act.put, List.setIfInBounds_toArray, List.set_cons_zero, List.set_cons_succ])
          refine wpAnyH_ready (rs := [8]) (by kernel_rfl) (by simp) (AllReadyH.cons (o := { dst := some 72, op := Op.buildSlice 25 2 #[(0, Operand.tmp 65), (1, Operand.tmp 71)], type := 25, pos := "law.go:87", after := #[{ on := 1, ground := Ground.data }, { on := 7, ground := Ground.data }], guard := none }) rfl (fun K hK => ?_) AllReadyH.nil)
          go_simp
          (try dsimp only)
          refine Shut.out hK _ _ ?_ (fun hS8 => ?_)
          · exact KS.out _ (hS7.2.2.2.alloc hS7.2.2.2.size _)
          clear hK K
          (try simp only [Act.put, List.setIfInBounds_toArray, List.set_cons_zero, List.set_cons_succ])
          refine wpAnyH_ready (rs := [9]) (by kernel_rfl) (by simp) (AllReadyH.cons (o := { dst := some 73, op := Op.call { callee := Callee.value (Operand.func 33), args := #[Operand.tmp 72], argTypes := #[25] }, type := 22, pos := "law.go:87", after := #[{ on := 8, ground := Ground.data }, { on := 7, ground := Ground.chain }], guard := none }) rfl (fun K hK => ?_) AllReadyH.nil)
          go_simp
          refine (merge_to _ w4.heap.size [⟨x2, c2, P2⟩, ⟨y4, k4, m4⟩] 2 22 (0, 0) rfl (by exact heap_at' rfl) (HR2.out _ _ _ _ hS8.2.2.2 (hr4.below ((Below.refl _ _).alloc (Nat.le_refl _) _))) (by decide) (HIN.out m4 him4).1 xs (HIN.out m4 him4).2).mono ?_
          rintro _ w5 ⟨y5, k5, rfl, hr5, hb5⟩
          rw [HXL.out]
          (try dsimp only)
          refine Shut.out hK _ _ ?_ (fun hS9 => ?_)
          · exact KS.out _ (hS8.2.2.2.trans (hb5.mono hS8.2.2.2.size))
          clear hK K
          (try simp only [Act.put, List.setIfInBounds_toArray, List.set_cons_zero, List.set_cons_succ])
          refine wpAnyH_take (i := 10) (oi := { dst := some 11, op := Op.assign (Operand.tmp 73), type := 22, pos := "law.go:87", after := #[{ on := 9, ground := Ground.data }, { on := 9, ground := Ground.chain }, { on := 0, ground := Ground.phase }, { on := 1, ground := Ground.phase }, { on := 2, ground := Ground.phase }, { on := 3, ground := Ground.phase }, { on := 4, ground := Ground.phase }, { on := 5, ground := Ground.phase }, { on := 6, ground := Ground.phase }, { on := 7, ground := Ground.phase }, { on := 8, ground := Ground.phase }, { on := 9, ground := Ground.phase }], guard := none }) (v := ?_) rfl (by kernel_rfl) (by kernel_rfl) (by kernel_rfl) (fun _ _ _ h => h) (Or.inl ⟨by rfl, ?hy7⟩) (by assumption) ?_
          case hy7 => (intro w hSw; (try dsimp only at hSw); go_simp; try with_reducible rfl)
          (try simp only [Act.put, List.setIfInBounds_toArray, List.set_cons_zero, List.set_cons_succ])
          refine wpAnyH_done (by kernel_rfl) ?_ _
          have HB5 := Lib.hid hS9.2.2.2
          have HR5 := Lib.hid hr5
          have HW5 := Lib.hid (HW3.out.trans (HB5.out.mono HW3.out.size))
          have HX5 : Hid (Ents w5 a xs) := Lib.hid (HE2.out.below ((HBW.out.trans (HB3.out.mono HBW.out.size)).trans (HB5.out.mono (Nat.le_trans HBW.out.size HB3.out.size))))
          have hxm : xs.length ≤ maxLen := Nat.le_trans HR5.out.len HR5.out.cap
          have hs1 := same_any ya a ca cap xs xs w5 hxm hxm (HRA.out.ents.below HB5.out) HX5.out rfl
          rw [HXL.out] at hs1
          have HS1 := Lib.hid hs1
          clear hs1 hr5 hr4 hS0 hS6 hS7 hS8 hS9 hb4 hb5 him4 hc0 hc1 hc2 KS HIN HR2 HR10
          go_wp2_with fail
          refine HS1.out.mono ?_
          rintro _ w6 ⟨rfl, hb6⟩
          have HB6 := Lib.hid hb6
          have HW6 := Lib.hid (HW5.out.trans (hb6.mono HW5.out.size))
          have hs2 := same_any y5 a k5 cap xs xs w6 hxm hxm (HR5.out.ents.below hb6) (HX5.out.below hb6) rfl
          rw [HXL.out] at hs2
          have HS2 := Lib.hid hs2
          clear hs2 hb6
          go_wp2_with fail
          refine HS2.out.mono ?_
          rintro _ w7 ⟨rfl, hb7⟩
          have HW7 := Lib.hid (HW6.out.trans (hb7.mono HW6.out.size))
          have HX7 := Lib.hid ((HX5.out.below HB6.out).below hb7)
          have HR7 : Hid (RowsOk w7 [⟨a, cap, xs⟩, ⟨a, cap, xs⟩, ⟨none, 0, []⟩]) := Lib.hid (fun r hr => by
            simp only [List.mem_cons, List.not_mem_nil, or_false] at hr
            rcases hr with rfl | rfl | rfl
            · exact ⟨by have := HXL.out; show xs.length ≤ cap; omega, hm, HX7.out⟩
            · exact ⟨by have := HXL.out; show xs.length ≤ cap; omega, hm, HX7.out⟩
            · exact ⟨Nat.le_refl _, by unfold maxLen; decide, ents_nil _ _⟩)
          have HI7 : Hid (IsMerge [xs, xs, []] xs) := Lib.hid (parts_merge xs HRB.out _ (fun p hp => by
            simp only [List.mem_cons, List.not_mem_nil, or_false] at hp
            rcases hp with rfl | rfl | rfl
            · exact ⟨HRB.out, fun e he => he⟩
            · exact ⟨HRB.out, fun e he => he⟩
            · exact ⟨rfl, fun e he => by simp at he⟩) (fun e he => ⟨xs, by simp, he⟩))
          clear hb7
          go_wp2_with fail
          have hbel := (Below.refl w7.heap.size w7).alloc (Nat.le_refl _) (.cells #[.slice a i cap, .slice a i cap, .slice none 0 0] 22)
          refine (merge_to _ w7.heap.size [⟨a, cap, xs⟩, ⟨a, cap, xs⟩, ⟨none, 0, []⟩] 3 22 (0, 0) rfl (by rw [heap_at' rfl]; simp [Row.val, HXL.out]) (HR7.out.below hbel) (by decide) (by have := HXL.out; simp; omega) xs HI7.out).mono ?_
          rintro _ w8 ⟨y8, k8, rfl, hr8, hb8⟩
          rw [HXL.out]
          have HB8 := Lib.hid (hbel.trans (hb8.mono (by simp)))
          have HW8 := Lib.hid (HW7.out.trans (HB8.out.mono HW7.out.size))
          have hs3 := same_any y8 a k8 cap xs xs w8 hxm hxm hr8.ents (HX7.out.below HB8.out) rfl
          rw [HXL.out] at hs3
          have HS3 := Lib.hid hs3
          clear hs3 hbel hr8 hb8
          go_wp2_with fail
          refine HS3.out.mono ?_
          rintro _ w9 ⟨rfl, hb9⟩
          have HW9 := Lib.hid (HW8.out.trans (hb9.mono HW8.out.size))
          clear hb9
          go_wp2
          go_ret
          exact ⟨rfl, HW9.out⟩
end Go.Proofs.Ythgbmijgoaihcaa

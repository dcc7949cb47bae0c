/-
  The law on View and Range.
-/
import Derived.Test.YthgbmijgoaihcaaSo10
import Derived.Test.YthgbmijgoaihcaaMg15
import Derived.Test.YthgbmijgoaihcaaMg7
import Derived.Test.YthgbmijgoaihcaaMg6
import Derived.Test.YthgbmijgoaihcaaEnt2
import Derived.Deep.DeepCutAuto
namespace Go.Proofs.Ythgbmijgoaihcaa
open Go.RowKit Go.ChangeShapes Go.WideShapes Go.ChangeAt
set_option linter.unusedVariables false

theorem okWide_array {P : Program} {w : World} {r : Reach} {base : Nat} {t : TypeId} {v : Value} {n : Nat} {e : TypeId} (ht : P.underlying t = some (.array n e)) (h : Value.okWide P w r base t v) : ∃ cs, v = .agg cs ∧ cs.size = P.cellsOf t := by
  unfold Value.okWide at h
  rw [ht] at h
  cases v <;> simp_all
theorem open_str2 {w : World} {H : Type} {enc : TypeId × Value → H} {base b0 : Nat} {held : Bool} {r : Reach} {v : Value} {d : DataW H} {ps : List MemPlace}
    (hval : Value.okWide Try.prog w r b0 42 v) (hd : DataW.Trod enc Try.prog w base (fun _ => true) held 42 v d ps) : ∃ k0 k1 : ByteArray, v = .agg #[.string k0, .string k1] := by
  obtain ⟨cs, rfl, hsz⟩ := okWide_array Try.underlying42 hval
  obtain ⟨fuel, hf⟩ := hd
  obtain ⟨xs, m, _, _, hl, hxs, hi⟩ := DataW.trod_array Try.underlying42 hf
  have c2 : Try.prog.cellsOf 42 = 2 := by kernel_rfl
  have c1 : Try.prog.cellsOf 9 = 1 := by kernel_rfl
  rw [c2] at hl
  have hcs : (Value.agg cs).cells.toList = cs.toList := rfl
  rw [hcs] at hl hi
  have g : ∀ i, i < 2 → ∃ s, cs.toList[i]? = some (.string s) := by
    intro i hlt
    have h1 := hi i hlt
    rw [c1, Nat.mul_one, List.getElem?_eq_getElem (by omega)] at h1
    obtain ⟨s, hs, _⟩ := DataW.trod_string Try.underlying9 h1
    refine ⟨s, ?_⟩
    have h2 : ((cs.toList.drop i).take 1)[0]? = some (.string s) := by rw [hs]; rfl
    simpa using h2
  obtain ⟨s0, h0⟩ := g 0 (by decide)
  obtain ⟨s1, h1⟩ := g 1 (by decide)
  refine ⟨s0, s1, ?_⟩
  congr 1
  apply Array.ext'
  apply List.ext_getElem?
  intro i
  match i with
  | 0 => rw [h0]; rfl
  | 1 => rw [h1]; rfl
  | i + 2 => rw [List.getElem?_eq_none (by omega)]; rfl

set_option maxRecDepth 100000 in
set_option maxHeartbeats 3200000 in
theorem law_views (a : Option Addr) (cap : Nat) (l : List Ent) (s : Nat) (k0 k1 : ByteArray) (w : World) (hl : l.length ≤ cap) (hm : cap ≤ maxLen) (hl2 : l.length ≤ 2932031007400) (hs : s < 18446744073709551616) (hb : Ents w a l) :
    Calls Try.prog 9 #[.slice a l.length cap, .int .u64 (s : Nat), .agg #[.string k0, .string k1]] w fun e w' => e = .returned (.bool true) ∧ Below w.heap.size w w' := by
  have HSH := Lib.hid (fun w' => mshown_any sorts w')
  have HV := Lib.hid (fun w' hb => view_any a cap l s w' hl hm hl2 hs hb)
  have HR := Lib.hid (fun w' hb => rview_any a cap l s w' hl hm hl2 hs hb)
  have HE := Lib.hid hb
  have HN : Hid ((viewR l s).length ≤ 2932031007400) := Lib.hid (by
    rw [← viewF_viewR]
    unfold viewF
    split
    · exact Nat.le_trans (viewTo_rng l s l.length).2.2 hl2
    · simp)
  rw [viewF_viewR] at HV
  clear hb
  generalize viewR l s = R at *
  go_enter Try.func9, Try.ntmps9
  go_wp2_with fail
  refine (HSH.out _).mono ?_
  rintro _ w1 ⟨rfl, hb1⟩
  have q0 := heap_at w (Obj.cells #[.string k0, .string k1] 42 (0, 0))
  have d0 : w1.cell? ⟨w.heap.size, 0, none⟩ = some (.string k0) := by
    rw [hb1.cell (p := ⟨w.heap.size, 0, none⟩) (by simp)]
    simp only [World.cell?, q0]; rfl
  have d1 : w1.cell? ⟨w.heap.size, 1, none⟩ = some (.string k1) := by
    rw [hb1.cell (p := ⟨w.heap.size, 1, none⟩) (by simp)]
    simp only [World.cell?, q0]; rfl
  have D0 := Lib.hid d0
  have D1 := Lib.hid d1
  have HB1 : Hid (Below w.heap.size w w1) := Lib.hid (((Below.refl _ _).alloc (Nat.le_refl _) _).trans (hb1.mono (by simp)))
  clear hb1 q0 d0 d1
  obtain ⟨B, hB⟩ : ∃ B, w.heap.size = B := ⟨_, rfl⟩
  rw [hB] at D0 D1 ⊢
  have HBb := Lib.hid hB
  clear hB
  go_wp2_with fail
  refine (HV.out _ (HE.out.below HB1.out)).mono ?_
  rintro _ w2 ⟨v1, rfl, ho1, hb2⟩
  obtain ⟨x1, c1, rfl, hc1, hc1m, he1⟩ := ho1.read
  have HP1 := Lib.hid he1
  have E0 : Hid (w2.cell? ⟨B, 0, none⟩ = some (.string k0)) := Lib.hid (by rw [hb2.cell (p := ⟨B, 0, none⟩) (cell_lt D0.out)]; exact D0.out)
  have E1 : Hid (w2.cell? ⟨B, 1, none⟩ = some (.string k1)) := Lib.hid (by rw [hb2.cell (p := ⟨B, 1, none⟩) (cell_lt D1.out)]; exact D1.out)
  have HB2 := Lib.hid (HB1.out.trans (hb2.mono HB1.out.size))
  clear ho1 he1 hb2 D0 D1
  go_wp2_with fail
  refine (HR.out _ (HE.out.below HB2.out)).mono ?_
  rintro _ wS ⟨v2, rfl, ho2, hb3⟩
  obtain ⟨x2, c2, rfl, hc2, hc2m, he2⟩ := ho2.read
  have HP := Lib.hid (HP1.out.below hb3)
  have HQ := Lib.hid he2
  have F0 : Hid (wS.cell? ⟨B, 0, none⟩ = some (.string k0)) := Lib.hid (by rw [hb3.cell (p := ⟨B, 0, none⟩) (cell_lt E0.out)]; exact E0.out)
  have F1 : Hid (wS.cell? ⟨B, 1, none⟩ = some (.string k1)) := Lib.hid (by rw [hb3.cell (p := ⟨B, 1, none⟩) (cell_lt E1.out)]; exact E1.out)
  have HBS := Lib.hid (HB2.out.trans (hb3.mono HB2.out.size))
  clear ho2 he2 hb3 E0 E1 HP1 HB1 HB2 HV HR HE
  have hRm : R.length ≤ maxLen := Nat.le_trans hc1 hc1m
  have KS : Hid (∀ w', Below wS.heap.size wS w' → (w'.cell? ⟨B, 0, none⟩ = some (.string k0) ∧ w'.cell? ⟨B, 1, none⟩ = some (.string k1) ∧ Below wS.heap.size wS w')) := Lib.hid (fun w' hbel => 
    ⟨by rw [hbel.cell (p := ⟨B, 0, none⟩) (cell_lt F0.out)]; exact F0.out, by rw [hbel.cell (p := ⟨B, 1, none⟩) (cell_lt F1.out)]; exact F1.out, hbel⟩)
  go_upto_region 3 with (fail)
  refine wp_region_held_drew (S := (fun w' => w'.cell? ⟨B, 0, none⟩ = some (Value.string k0) ∧ w'.cell? ⟨B, 1, none⟩ = some (Value.string k1) ∧ Below wS.heap.size wS w')) (by kernel_rfl) ?_ (fun hS0 => ?_)
  · exact KS.out _ (Below.refl _ _).drew
  refine wpAnyH_take (i := 0) (oi := { dst := some 17, op := Op.move (Operand.tmp 7), type := 4, pos := "law.go:47", after := #[], guard := none }) (v := ?_) rfl (by kernel_rfl) (by kernel_rfl) (by kernel_rfl) (fun _ _ _ h => h) (Or.inl ⟨by rfl, ?hy1⟩) (by assumption) ?_
  case hy1 => (intro w hSw; (try dsimp only at hSw); go_simp; try with_reducible rfl)
  (try simp only [Act.put, List.setIfInBounds_toArray, List.set_cons_zero, List.set_cons_succ])
  refine wpAnyH_take (i := 1) (oi := { dst := some 18, op := Op.move (Operand.tmp 17), type := 4, pos := "law.go:47", after := #[{ on := 0, ground := Ground.data }], guard := none }) (v := ?_) rfl (by kernel_rfl) (by kernel_rfl) (by kernel_rfl) (fun _ _ _ h => h) (Or.inl ⟨by rfl, ?hy2⟩) (by assumption) ?_
  case hy2 => (intro w hSw; (try dsimp only at hSw); go_simp; try with_reducible rfl)
  (try simp only [Act.put, List.setIfInBounds_toArray, List.set_cons_zero, List.set_cons_succ])
  refine wpAnyH_take (i := 2) (oi := { dst := some 19, op := Op.move (Operand.tmp 8), type := 39, pos := "law.go:47", after := #[{ on := 1, ground := Ground.guard }], guard := some (1, true) }) (v := ?_) rfl (by kernel_rfl) (by kernel_rfl) (by kernel_rfl) (fun _ _ _ h => h) (Or.inl ⟨by rfl, ?hy3⟩) (by assumption) ?_
  case hy3 => (intro w hSw; (try dsimp only at hSw); go_simp; try with_reducible rfl)
  (try simp only [Act.put, List.setIfInBounds_toArray, List.set_cons_zero, List.set_cons_succ])
  refine wpAnyH_take (i := 3) (oi := { dst := some 20, op := Op.move (Operand.tmp 9), type := 39, pos := "law.go:47", after := #[{ on := 1, ground := Ground.guard }], guard := some (1, true) }) (v := ?_) rfl (by kernel_rfl) (by kernel_rfl) (by kernel_rfl) (fun _ _ _ h => h) (Or.inl ⟨by rfl, ?hy4⟩) (by assumption) ?_
  case hy4 => (intro w hSw; (try dsimp only at hSw); go_simp; try with_reducible rfl)
  (try simp only [Act.put, List.setIfInBounds_toArray, List.set_cons_zero, List.set_cons_succ])
  refine wpAnyH_ready (rs := [4]) (by kernel_rfl) (by simp) (AllReadyH.cons (o := { dst := some 21, op := Op.call { callee := Callee.value (Operand.func 29), args := #[Operand.tmp 19, Operand.tmp 20], argTypes := #[39, 39] }, type := 4, pos := "law.go:47", after := #[{ on := 2, ground := Ground.data }, { on := 3, ground := Ground.data }, { on := 1, ground := Ground.chain }, { on := 1, ground := Ground.guard }], guard := some (1, true) }) rfl (fun K hK => ?_) AllReadyH.nil)
  go_simp
  refine (samePairs_any x1 x2 c1 c2 R R _ hRm (HP.out.below hS0.2.2) (HQ.out.below hS0.2.2) rfl).mono ?_
  rintro _ wa ⟨rfl, hwa⟩
  (try dsimp only)
  refine Shut.out hK _ _ ?_ (fun hS4 => ?_)
  · exact KS.out _ (hS0.2.2.trans (hwa.mono hS0.2.2.size))
  clear hK K
  (try simp only [Act.put, List.setIfInBounds_toArray, List.set_cons_zero, List.set_cons_succ])
  refine wpAnyH_take (i := 5) (oi := { dst := some 22, op := Op.pick (Operand.tmp 18) (Operand.tmp 21) (Operand.const (Value.bool false)), type := 4, pos := "law.go:47", after := #[{ on := 1, ground := Ground.data }, { on := 4, ground := Ground.data }], guard := none }) (v := ?_) rfl (by kernel_rfl) (by kernel_rfl) (by kernel_rfl) (fun _ _ _ h => h) (Or.inl ⟨by rfl, ?hy5⟩) (by assumption) ?_
  case hy5 => (intro w hSw; (try dsimp only at hSw); go_simp; try with_reducible rfl)
  (try simp only [Act.put, List.setIfInBounds_toArray, List.set_cons_zero, List.set_cons_succ])
  refine wpAnyH_take (i := 6) (oi := { dst := some 23, op := Op.move (Operand.tmp 22), type := 4, pos := "law.go:47", after := #[{ on := 5, ground := Ground.data }, { on := 4, ground := Ground.chain }], guard := none }) (v := ?_) rfl (by kernel_rfl) (by kernel_rfl) (by kernel_rfl) (fun _ _ _ h => h) (Or.inl ⟨by rfl, ?hy6⟩) (by assumption) ?_
  case hy6 => (intro w hSw; (try dsimp only at hSw); go_simp; try with_reducible rfl)
  (try simp only [Act.put, List.setIfInBounds_toArray, List.set_cons_zero, List.set_cons_succ])
  refine wpAnyH_take (i := 7) (oi := { dst := some 24, op := Op.move (Operand.tmp 8), type := 39, pos := "law.go:47", after := #[{ on := 6, ground := Ground.guard }], guard := some (6, true) }) (v := ?_) rfl (by kernel_rfl) (by kernel_rfl) (by kernel_rfl) (fun _ _ _ h => h) (Or.inl ⟨by rfl, ?hy7⟩) (by assumption) ?_
  case hy7 => (intro w hSw; (try dsimp only at hSw); go_simp; try with_reducible rfl)
  (try simp only [Act.put, List.setIfInBounds_toArray, List.set_cons_zero, List.set_cons_succ])
  refine wpAnyH_take (i := 8) (oi := { dst := some 25, op := Op.indexAddr 42 (Operand.tmp 5) (Operand.const (Value.int IntKind.i64 0)), type := 0, pos := "law.go:47", after := #[{ on := 6, ground := Ground.guard }], guard := some (6, true) }) (v := ?_) rfl (by kernel_rfl) (by kernel_rfl) (by kernel_rfl) (fun _ _ _ h => h) (Or.inl ⟨by rfl, ?hy8⟩) (by assumption) ?_
  case hy8 => (intro w hSw; (try dsimp only at hSw); go_simp; try with_reducible rfl)
  (try simp only [Act.put, List.setIfInBounds_toArray, List.set_cons_zero, List.set_cons_succ])
  refine wpAnyH_take (i := 9) (oi := { dst := some 26, op := Op.load 9 (Operand.tmp 25), type := 9, pos := "law.go:47", after := #[{ on := 8, ground := Ground.data }, { on := 6, ground := Ground.guard }], guard := some (6, true) }) (v := ?_) rfl (by kernel_rfl) (by kernel_rfl) (by kernel_rfl) (fun _ _ _ h => h) (Or.inl ⟨by rfl, ?hy9⟩) (by assumption) ?_
  case hy9 => (intro w hSw; (try dsimp only at hSw); go_simp; try with_reducible rfl)
  (try simp only [Act.put, List.setIfInBounds_toArray, List.set_cons_zero, List.set_cons_succ])
  refine wpAnyH_take (i := 10) (oi := { dst := some 27, op := Op.indexAddr 42 (Operand.tmp 5) (Operand.const (Value.int IntKind.i64 1)), type := 0, pos := "law.go:47", after := #[{ on := 6, ground := Ground.guard }], guard := some (6, true) }) (v := ?_) rfl (by kernel_rfl) (by kernel_rfl) (by kernel_rfl) (fun _ _ _ h => h) (Or.inl ⟨by rfl, ?hy10⟩) (by assumption) ?_
  case hy10 => (intro w hSw; (try dsimp only at hSw); go_simp; try with_reducible rfl)
  (try simp only [Act.put, List.setIfInBounds_toArray, List.set_cons_zero, List.set_cons_succ])
  refine wpAnyH_take (i := 11) (oi := { dst := some 28, op := Op.load 9 (Operand.tmp 27), type := 9, pos := "law.go:47", after := #[{ on := 10, ground := Ground.data }, { on := 6, ground := Ground.guard }], guard := some (6, true) }) (v := ?_) rfl (by kernel_rfl) (by kernel_rfl) (by kernel_rfl) (fun _ _ _ h => h) (Or.inl ⟨by rfl, ?hy11⟩) (by assumption) ?_
  case hy11 => (intro w hSw; (try dsimp only at hSw); go_simp; try with_reducible rfl)
  (try simp only [Act.put, List.setIfInBounds_toArray, List.set_cons_zero, List.set_cons_succ])
  refine wpAnyH_take (i := 13) (oi := { dst := some 30, op := Op.move (Operand.tmp 9), type := 39, pos := "law.go:47", after := #[{ on := 6, ground := Ground.guard }], guard := some (6, true) }) (v := ?_) rfl (by kernel_rfl) (by kernel_rfl) (by kernel_rfl) (fun _ _ _ h => h) (Or.inl ⟨by rfl, ?hy12⟩) (by assumption) ?_
  case hy12 => (intro w hSw; (try dsimp only at hSw); go_simp; try with_reducible rfl)
  (try simp only [Act.put, List.setIfInBounds_toArray, List.set_cons_zero, List.set_cons_succ])
  refine wpAnyH_take (i := 14) (oi := { dst := some 31, op := Op.indexAddr 42 (Operand.tmp 5) (Operand.const (Value.int IntKind.i64 0)), type := 0, pos := "law.go:47", after := #[{ on := 6, ground := Ground.guard }], guard := some (6, true) }) (v := ?_) rfl (by kernel_rfl) (by kernel_rfl) (by kernel_rfl) (fun _ _ _ h => h) (Or.inl ⟨by rfl, ?hy13⟩) (by assumption) ?_
  case hy13 => (intro w hSw; (try dsimp only at hSw); go_simp; try with_reducible rfl)
  (try simp only [Act.put, List.setIfInBounds_toArray, List.set_cons_zero, List.set_cons_succ])
  refine wpAnyH_take (i := 15) (oi := { dst := some 32, op := Op.load 9 (Operand.tmp 31), type := 9, pos := "law.go:47", after := #[{ on := 14, ground := Ground.data }, { on := 6, ground := Ground.guard }], guard := some (6, true) }) (v := ?_) rfl (by kernel_rfl) (by kernel_rfl) (by kernel_rfl) (fun _ _ _ h => h) (Or.inl ⟨by rfl, ?hy14⟩) (by assumption) ?_
  case hy14 => (intro w hSw; (try dsimp only at hSw); go_simp; try with_reducible rfl)
  (try simp only [Act.put, List.setIfInBounds_toArray, List.set_cons_zero, List.set_cons_succ])
  refine wpAnyH_take (i := 16) (oi := { dst := some 33, op := Op.indexAddr 42 (Operand.tmp 5) (Operand.const (Value.int IntKind.i64 1)), type := 0, pos := "law.go:47", after := #[{ on := 6, ground := Ground.guard }], guard := some (6, true) }) (v := ?_) rfl (by kernel_rfl) (by kernel_rfl) (by kernel_rfl) (fun _ _ _ h => h) (Or.inl ⟨by rfl, ?hy15⟩) (by assumption) ?_
  case hy15 => (intro w hSw; (try dsimp only at hSw); go_simp; try with_reducible rfl)
  (try simp only [Act.put, List.setIfInBounds_toArray, List.set_cons_zero, List.set_cons_succ])
  refine wpAnyH_take (i := 17) (oi := { dst := some 34, op := Op.load 9 (Operand.tmp 33), type := 9, pos := "law.go:47", after := #[{ on := 16, ground := Ground.data }, { on := 6, ground := Ground.guard }], guard := some (6, true) }) (v := ?_) rfl (by kernel_rfl) (by kernel_rfl) (by kernel_rfl) (fun _ _ _ h => h) (Or.inl ⟨by rfl, ?hy16⟩) (by assumption) ?_
  case hy16 => (intro w hSw; (try dsimp only at hSw); go_simp; try with_reducible rfl)
  (try simp only [Act.put, List.setIfInBounds_toArray, List.set_cons_zero, List.set_cons_succ])
  refine wpAnyH_ready (rs := [12]) (by kernel_rfl) (by simp) (AllReadyH.cons (o := { dst := some 29, op := Op.call { callee := Callee.value (Operand.func 31), args := #[Operand.tmp 24, Operand.tmp 26, Operand.tmp 28], argTypes := #[39, 9, 9] }, type := 39, pos := "law.go:47", after := #[{ on := 7, ground := Ground.data }, { on := 9, ground := Ground.data }, { on := 11, ground := Ground.data }, { on := 6, ground := Ground.chain }, { on := 6, ground := Ground.guard }], guard := some (6, true) }) rfl (fun K hK => ?_) AllReadyH.nil)
  go_simp
  refine (range_any x1 c1 R k0 k1 _ HN.out (HP.out.below hS4.2.2)).mono ?_
  rintro _ wb ⟨vwb, rfl, howb, hwb⟩
  obtain ⟨ywb, dwb, rfl, ewb, fwb, hewb⟩ := howb.read
  (try dsimp only)
  refine Shut.out hK _ _ ?_ (fun hS12 => ?_)
  · exact KS.out _ (hS4.2.2.trans (hwb.mono hS4.2.2.size))
  clear hK K
  (try simp only [Act.put, List.setIfInBounds_toArray, List.set_cons_zero, List.set_cons_succ])
  refine wpAnyH_ready (rs := [18]) (by kernel_rfl) (by simp) (AllReadyH.cons (o := { dst := some 35, op := Op.call { callee := Callee.value (Operand.func 32), args := #[Operand.tmp 30, Operand.tmp 32, Operand.tmp 34], argTypes := #[39, 9, 9] }, type := 39, pos := "law.go:47", after := #[{ on := 13, ground := Ground.data }, { on := 15, ground := Ground.data }, { on := 17, ground := Ground.data }, { on := 12, ground := Ground.chain }, { on := 6, ground := Ground.guard }], guard := some (6, true) }) rfl (fun K hK => ?_) AllReadyH.nil)
  go_simp
  refine (rrange_any x2 c2 R k0 k1 _ HN.out (HQ.out.below hS12.2.2)).mono ?_
  rintro _ wc ⟨vwc, rfl, howc, hwc⟩
  obtain ⟨ywc, dwc, rfl, ewc, fwc, hewc⟩ := howc.read
  (try dsimp only)
  refine Shut.out hK _ _ ?_ (fun hS18 => ?_)
  · exact KS.out _ (hS12.2.2.trans (hwc.mono hS12.2.2.size))
  clear hK K
  (try simp only [Act.put, List.setIfInBounds_toArray, List.set_cons_zero, List.set_cons_succ])
  refine wpAnyH_ready (rs := [19]) (by kernel_rfl) (by simp) (AllReadyH.cons (o := { dst := some 36, op := Op.call { callee := Callee.value (Operand.func 29), args := #[Operand.tmp 29, Operand.tmp 35], argTypes := #[39, 39] }, type := 4, pos := "law.go:47", after := #[{ on := 12, ground := Ground.data }, { on := 18, ground := Ground.data }, { on := 18, ground := Ground.chain }, { on := 6, ground := Ground.guard }], guard := some (6, true) }) rfl (fun K hK => ?_) AllReadyH.nil)
  go_simp
  refine (samePairs_any ywb ywc dwb dwc _ _ _ (Nat.le_trans ewb fwb) (hewb.below hwc) (hewc) rfl).mono ?_
  rintro _ wd ⟨rfl, hwd⟩
  (try dsimp only)
  refine Shut.out hK _ _ ?_ (fun hS19 => ?_)
  · exact KS.out _ (hS18.2.2.trans (hwd.mono hS18.2.2.size))
  clear hK K
  (try simp only [Act.put, List.setIfInBounds_toArray, List.set_cons_zero, List.set_cons_succ])
  refine wpAnyH_take (i := 20) (oi := { dst := some 37, op := Op.pick (Operand.tmp 23) (Operand.tmp 36) (Operand.const (Value.bool false)), type := 4, pos := "law.go:47", after := #[{ on := 6, ground := Ground.data }, { on := 19, ground := Ground.data }], guard := none }) (v := ?_) rfl (by kernel_rfl) (by kernel_rfl) (by kernel_rfl) (fun _ _ _ h => h) (Or.inl ⟨by rfl, ?hy17⟩) (by assumption) ?_
  case hy17 => (intro w hSw; (try dsimp only at hSw); go_simp; try with_reducible rfl)
  (try simp only [Act.put, List.setIfInBounds_toArray, List.set_cons_zero, List.set_cons_succ])
  refine wpAnyH_take (i := 21) (oi := { dst := some 6, op := Op.assign (Operand.tmp 37), type := 4, pos := "law.go:47", after := #[{ on := 20, ground := Ground.data }, { on := 19, ground := Ground.chain }, { on := 0, ground := Ground.phase }, { on := 1, ground := Ground.phase }, { on := 2, ground := Ground.phase }, { on := 3, ground := Ground.phase }, { on := 4, ground := Ground.phase }, { on := 5, ground := Ground.phase }, { on := 6, ground := Ground.phase }, { on := 7, ground := Ground.phase }, { on := 8, ground := Ground.phase }, { on := 9, ground := Ground.phase }, { on := 10, ground := Ground.phase }, { on := 11, ground := Ground.phase }, { on := 12, ground := Ground.phase }, { on := 13, ground := Ground.phase }, { on := 14, ground := Ground.phase }, { on := 15, ground := Ground.phase }, { on := 16, ground := Ground.phase }, { on := 17, ground := Ground.phase }, { on := 18, ground := Ground.phase }, { on := 19, ground := Ground.phase }, { on := 20, ground := Ground.phase }], guard := none }) (v := ?_) rfl (by kernel_rfl) (by kernel_rfl) (by kernel_rfl) (fun _ _ _ h => h) (Or.inl ⟨by rfl, ?hy18⟩) (by assumption) ?_
  case hy18 => (intro w hSw; (try dsimp only at hSw); go_simp; try with_reducible rfl)
  (try simp only [Act.put, List.setIfInBounds_toArray, List.set_cons_zero, List.set_cons_succ])
  refine wpAnyH_done (by kernel_rfl) ?_ _
  go_wp2
  go_ret
  refine ⟨rfl, ?_⟩
  exact HBS.out.trans (hS19.2.2.mono HBS.out.size)
end Go.Proofs.Ythgbmijgoaihcaa

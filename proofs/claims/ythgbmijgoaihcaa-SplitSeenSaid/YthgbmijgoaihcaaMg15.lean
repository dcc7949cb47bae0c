/-
  The examples of the merge.
-/
import Derived.Test.YthgbmijgoaihcaaMg13
import Derived.Test.YthgbmijgoaihcaaMg3
import Derived.Test.YthgbmijgoaihcaaDraw
import Derived.Deep.DeepCutAuto
namespace Go.Proofs.Ythgbmijgoaihcaa
open Go.RowKit
set_option linter.unusedVariables false

theorem ents_block2 {w : World} {B : Nat} {E : TypeId} {fr : Nat × Nat} {l : List Ent} (h : w.heap[B]? = some (.cells (entsCells l).toArray E fr)) (hok : ∀ e ∈ l, e.ok) : Ents w (some ⟨B, 0, none⟩) l := by
  intro i hi
  have hc : ∀ j, j < 4 → w.cell? ⟨B, 0 + i * 4 + j, none⟩ = (entCells l[i])[j]? := by
    intro j hj
    rw [← entsCells_getElem? l i j hi hj]
    simp [World.cell?, h]
  exact ⟨B, 0, rfl, ⟨hc 0 (by omega), hc 1 (by omega), hc 2 (by omega), hc 3 (by omega)⟩, hok _ (List.getElem_mem hi)⟩
theorem prs_block {w : World} {B : Nat} {E : TypeId} {fr : Nat × Nat} {l : List Pr} (h : w.heap[B]? = some (.cells (prsCells l).toArray E fr)) : Prs w (some ⟨B, 0, none⟩) l := by
  intro i hi
  have hc : ∀ j, j < 2 → w.cell? ⟨B, 0 + i * 2 + j, none⟩ = (prCells l[i])[j]? := by
    intro j hj
    rw [← prsCells_getElem? l i j hi hj]
    simp [World.cell?, h]
  exact ⟨B, 0, rfl, hc 0 (by omega), hc 1 (by omega)⟩
theorem u64s_block {w : World} {B : Nat} {E : TypeId} {fr : Nat × Nat} {l : List Nat} (h : w.heap[B]? = some (.cells (u64Cells l).toArray E fr)) : U64s w (some ⟨B, 0, none⟩) l := by
  intro i hi
  exact ⟨B, 0, rfl, by simp [World.cell?, h, u64Cells, hi]⟩

def e5 : Ent := ⟨⟨#[97]⟩, 5, 1, ⟨#[120]⟩⟩
def e3 : Ent := ⟨⟨#[97]⟩, 3, 0, ⟨#[]⟩⟩
def e2 : Ent := ⟨⟨#[97]⟩, 2, 1, ⟨#[121]⟩⟩
def shL : List Ent := [e5, e3, e2]
theorem shOk : ∀ e ∈ shL, e.ok := by
  intro e he
  simp [shL] at he
  rcases he with rfl | rfl | rfl <;> exact ⟨by decide, by decide, by decide, by decide⟩
theorem ok52 : ∀ e ∈ [e5, e2], e.ok := fun e he => shOk e (by simp [shL] at he ⊢; rcases he with h | h <;> simp [h])
theorem kA : keepR [] false shL = [e5] := by kernel_rfl
theorem kB : keepR [2] false shL = [e5, e2] := by kernel_rfl
theorem kC : keepR [3] true shL = [e5] := by kernel_rfl
theorem kD : keepR [3] false shL = [e5, e3] := by kernel_rfl
theorem view4 : viewF shL 4 = [] := by kernel_rfl
theorem view2 : viewF shL 2 = [(⟨#[97]⟩, ⟨#[121]⟩)] := by kernel_rfl

theorem keep_shown (HS : Sorts) (ms : List Nat) (n : Nat) (am : Option Addr) (capm : Nat) (last : Bool) (w : World) (B : Nat) (hn : ms.length = n) (h : ms.length ≤ 3) (hm : ∀ m ∈ ms, m < 18446744073709551616) (hb : Ents w (some ⟨B, 0, none⟩) shL) (hI : U64s w am ms) :
    Calls Try.prog 25 #[.slice (some ⟨B, 0, none⟩) 3 3, .slice am n capm, .bool last] w fun e w' => ∃ v, e = .returned v ∧ OwnE 33 w' w.heap.size v (keepR ms last shL) ∧ Below w.heap.size w w' := by
  subst hn
  exact keep_any HS (some ⟨B, 0, none⟩) 3 shL am capm ms last w (by decide) (by decide) (by decide) hb (by omega) hm hI
theorem view_shown (s : Nat) (w : World) (B : Nat) (hs : s < 18446744073709551616) (hb : Ents w (some ⟨B, 0, none⟩) shL) :
    Calls Try.prog 28 #[.slice (some ⟨B, 0, none⟩) 3 3, .int .u64 (s : Nat)] w fun e w' => ∃ v, e = .returned v ∧ OwnP w' w.heap.size v (viewF shL s) ∧ Below w.heap.size w w' :=
  view_any (some ⟨B, 0, none⟩) 3 shL s w (by decide) (by decide) (by decide) hs hb

set_option maxRecDepth 100000 in
set_option maxHeartbeats 6400000 in
theorem mshown_any (HS : Sorts) (w : World) : Calls Try.prog 24 #[] w fun e w' => e = .returned (.bool true) ∧ Below w.heap.size w w' := by
  have HE := Lib.hid (show ∀ w' : World, w'.heap[w.heap.size]? = some (.cells (entsCells shL).toArray 33 (0, 0)) → Ents w' (some ⟨w.heap.size, 0, none⟩) shL from fun w' h => ents_block2 h shOk)
  have HK := Lib.hid (keep_shown HS)
  clear HS
  go_enter Try.func24, Try.ntmps24
  have hcl : (entsCells shL).toArray = #[.string ⟨#[97]⟩, .int .u64 5, .int .u8 1, .string ⟨#[120]⟩, .string ⟨#[97]⟩, .int .u64 3, .int .u8 0, .string ⟨#[]⟩, .string ⟨#[97]⟩, .int .u64 2, .int .u8 1, .string ⟨#[121]⟩] := by rfl
  have hE0 := HE.out (w.alloc (.cells (entsCells shL).toArray 33)) (heap_at w _)
  have hB0 : Below w.heap.size w (w.alloc (.cells (entsCells shL).toArray 33)) := (Below.refl _ _).alloc (Nat.le_refl _) _
  rw [hcl] at hE0 hB0
  have HE0 := Lib.hid hE0
  have HB0 := Lib.hid hB0
  clear hE0 hcl hB0
  go_wp2_with fail
  refine (HK.out [] 0 none 0 false _ w.heap.size rfl (by decide) (by simp) HE0.out (u64s_nil _ _)).mono ?_
  rintro _ w1 ⟨va, rfl, ha, hb1⟩
  rw [kA] at ha
  obtain ⟨xa, ca, rfl, _, _, hea, _⟩ := ha.read
  have HA1 := Lib.hid hea
  have HE1 := Lib.hid (HE0.out.below hb1)
  have HB1 := Lib.hid (HB0.out.trans (hb1.mono HB0.out.size))
  clear ha hea hb1
  go_wp2_with fail
  refine (HK.out [2] 1 _ 1 false _ w.heap.size rfl (by decide) (by simp) (HE1.out.below ((Below.refl _ _).alloc (Nat.le_refl _) _)) (u64s_block (l := [2]) (heap_at _ _))).mono ?_
  rintro _ w2 ⟨vb, rfl, hb, hb2⟩
  rw [kB] at hb
  obtain ⟨xb, cb, rfl, _, _, heb, _⟩ := hb.read
  have HX2 : Hid (Below w1.heap.size w1 w2) := Lib.hid (((Below.refl w1.heap.size w1).alloc (Nat.le_refl _) _).trans (hb2.mono (by simp)))
  have HA2 := Lib.hid (HA1.out.below HX2.out)
  have HE2 := Lib.hid (HE1.out.below HX2.out)
  have HB2 := Lib.hid (HB1.out.trans (HX2.out.mono HB1.out.size))
  have HC2 := Lib.hid heb
  clear hb heb hb2
  go_wp2_with fail
  refine (HK.out [3] 1 _ 1 true _ w.heap.size rfl (by decide) (by simp) (HE2.out.below ((Below.refl _ _).alloc (Nat.le_refl _) _)) (u64s_block (l := [3]) (heap_at _ _))).mono ?_
  rintro _ w3 ⟨vc, rfl, hc, hb3⟩
  rw [kC] at hc
  obtain ⟨xc, cc, rfl, _, _, hec, _⟩ := hc.read
  have HX3 : Hid (Below w2.heap.size w2 w3) := Lib.hid (((Below.refl w2.heap.size w2).alloc (Nat.le_refl _) _).trans (hb3.mono (by simp)))
  have HA3 := Lib.hid (HA2.out.below HX3.out)
  have HC3 := Lib.hid (HC2.out.below HX3.out)
  have HE3 := Lib.hid (HE2.out.below HX3.out)
  have HB3 := Lib.hid (HB2.out.trans (HX3.out.mono HB2.out.size))
  have HD3 := Lib.hid hec
  clear hc hec hb3
  go_wp2_with fail
  refine (HK.out [3] 1 _ 1 false _ w.heap.size rfl (by decide) (by simp) (HE3.out.below ((Below.refl _ _).alloc (Nat.le_refl _) _)) (u64s_block (l := [3]) (heap_at _ _))).mono ?_
  rintro _ wS ⟨vd, rfl, hd, hb4⟩
  rw [kD] at hd
  obtain ⟨xd, cd, rfl, _, _, hed, _⟩ := hd.read
  have HX4 : Hid (Below w3.heap.size w3 wS) := Lib.hid (((Below.refl w3.heap.size w3).alloc (Nat.le_refl _) _).trans (hb4.mono (by simp)))
  have HA := Lib.hid (HA3.out.below HX4.out)
  have HB := Lib.hid (HC3.out.below HX4.out)
  have HC := Lib.hid (HD3.out.below HX4.out)
  have HL := Lib.hid (HE3.out.below HX4.out)
  have HBS := Lib.hid (HB3.out.trans (HX4.out.mono HB3.out.size))
  have HD := Lib.hid hed
  clear hd hed hb4 HX4 HX3 HX2 HA3 HA2 HA1 HC3 HC2 HD3 HE3 HE2 HE1 HE0 HB3 HB2 HB1 HB0 HE HK
  obtain ⟨B, hB⟩ : ∃ B, w.heap.size = B := ⟨_, rfl⟩
  have HBb := Lib.hid hB
  rw [hB] at HL HBS ⊢
  clear hB
  have KS : Hid (∀ w', Below wS.heap.size wS w' → (w'.cell? ⟨B, 0, none⟩ = some (.string ⟨#[97]⟩) ∧ w'.cell? ⟨B, 1, none⟩ = some (.int .u64 5) ∧ w'.cell? ⟨B, 2, none⟩ = some (.int .u8 1) ∧ w'.cell? ⟨B, 3, none⟩ = some (.string ⟨#[120]⟩) ∧ w'.cell? ⟨B, 8, none⟩ = some (.string ⟨#[97]⟩) ∧ w'.cell? ⟨B, 9, none⟩ = some (.int .u64 2) ∧ w'.cell? ⟨B, 10, none⟩ = some (.int .u8 1) ∧ w'.cell? ⟨B, 11, none⟩ = some (.string ⟨#[121]⟩) ∧ Below wS.heap.size wS w')) := Lib.hid (fun w' hbel => by
    have h := HL.out.below hbel
    obtain ⟨a0, a1, a2, a3⟩ := h.get 0 (by decide)
    obtain ⟨b0, b1, b2, b3⟩ := h.get 2 (by decide)
    exact ⟨a0, a1, a2, a3, b0, b1, b2, b3, hbel⟩)
  obtain ⟨i0, hi0⟩ : ∃ i0, Try.prog.info? 33 = some i0 := by
    obtain ⟨i0, hi0, _⟩ := info_parts Try.infoE
    exact ⟨i0, hi0⟩
  have hr1 : ∀ w : World, (Instr.slice 22 (.slice (some ⟨B, 0, none⟩) 3 3) none (some (.int .i64 1)) none).run Try.prog w = .ok (.slice (some ⟨B, 0, none⟩) 1 3) w := fun (w : World) => run_cut_to Try.underlying22 hi0 (some ⟨B, 0, none⟩) 3 3 1 .i64 (by decide) w
  have hr2 : ∀ w : World, (Instr.slice 22 (.slice (some ⟨B, 0, none⟩) 3 3) none (some (.int .i64 2)) none).run Try.prog w = .ok (.slice (some ⟨B, 0, none⟩) 2 3) w := fun (w : World) => run_cut_to Try.underlying22 hi0 (some ⟨B, 0, none⟩) 3 3 2 .i64 (by decide) w
  clear hi0
  go_upto_region 3 with (fail)
  refine wp_region_held_drew (S := (fun w' => w'.cell? ⟨B, 0, none⟩ = some (.string ⟨#[97]⟩) ∧ w'.cell? ⟨B, 1, none⟩ = some (.int .u64 5) ∧ w'.cell? ⟨B, 2, none⟩ = some (.int .u8 1) ∧ w'.cell? ⟨B, 3, none⟩ = some (.string ⟨#[120]⟩) ∧ w'.cell? ⟨B, 8, none⟩ = some (.string ⟨#[97]⟩) ∧ w'.cell? ⟨B, 9, none⟩ = some (.int .u64 2) ∧ w'.cell? ⟨B, 10, none⟩ = some (.int .u8 1) ∧ w'.cell? ⟨B, 11, none⟩ = some (.string ⟨#[121]⟩) ∧ Below wS.heap.size wS w')) (by kernel_rfl) ?_ (fun hS0 => ?_)
  · exact KS.out _ (Below.refl _ _).drew
  refine wpAnyH_take (i := 0) (oi := { dst := some 21, op := Op.move (Operand.tmp 2), type := 22, pos := "law.go:16", after := #[], guard := none }) (v := ?_) rfl (by kernel_rfl) (by kernel_rfl) (by kernel_rfl) (fun _ _ _ h => h) (Or.inl ⟨by rfl, ?hy1⟩) (by assumption) ?_
  case hy1 => (intro w hSw; (try dsimp only at hSw); go_simp; try with_reducible rfl)
  (try simp only [Act.put, List.setIfInBounds_toArray, List.set_cons_zero, List.set_cons_succ])
  refine wpAnyH_take (i := 1) (oi := { dst := some 22, op := Op.move (Operand.tmp 1), type := 22, pos := "law.go:16", after := #[], guard := none }) (v := ?_) rfl (by kernel_rfl) (by kernel_rfl) (by kernel_rfl) (fun _ _ _ h => h) (Or.inl ⟨by rfl, ?hy2⟩) (by assumption) ?_
  case hy2 => (intro w hSw; (try dsimp only at hSw); go_simp; try with_reducible rfl)
  (try simp only [Act.put, List.setIfInBounds_toArray, List.set_cons_zero, List.set_cons_succ])
  refine wpAnyH_take (i := 2) (oi := { dst := some 23, op := Op.slice 22 (Operand.tmp 22) none (some (Operand.const (Value.int IntKind.i64 1))) none, type := 22, pos := "law.go:16", after := #[{ on := 1, ground := Ground.data }], guard := none }) (v := ?_) rfl (by kernel_rfl) (by kernel_rfl) (by kernel_rfl) (fun _ _ _ h => h) (Or.inl ⟨by rfl, ?hy3⟩) (by assumption) ?_
  case hy3 => (intro w hSw; (try dsimp only at hSw); go_simp; try with_reducible rfl)
  (try simp only [Act.put, List.setIfInBounds_toArray, List.set_cons_zero, List.set_cons_succ])
  refine wpAnyH_ready (rs := [3]) (by kernel_rfl) (by simp) (AllReadyH.cons (o := { dst := some 24, op := Op.call { callee := Callee.value (Operand.func 23), args := #[Operand.tmp 21, Operand.tmp 23], argTypes := #[22, 22] }, type := 4, pos := "law.go:16", after := #[{ on := 0, ground := Ground.data }, { on := 2, ground := Ground.data }], guard := none }) rfl (fun K hK => ?_) AllReadyH.nil)
  go_simp
  refine (same_any xa (some ⟨B, 0, none⟩) _ _ [e5] [e5] _ (by decide) (by decide) (HA.out.below hS0.2.2.2.2.2.2.2.2) ((HL.out.below hS0.2.2.2.2.2.2.2.2).take 1) rfl).mono ?_
  rintro _ wa ⟨rfl, hwa⟩
  (try dsimp only)
  refine Shut.out hK _ _ ?_ (fun hS3 => ?_)
  · exact KS.out _ (hS0.2.2.2.2.2.2.2.2.trans (hwa.mono hS0.2.2.2.2.2.2.2.2.size))
  clear hK K
  (try simp only [Act.put, List.setIfInBounds_toArray, List.set_cons_zero, List.set_cons_succ])
  refine wpAnyH_take (i := 4) (oi := { dst := some 25, op := Op.move (Operand.tmp 24), type := 4, pos := "law.go:16", after := #[{ on := 3, ground := Ground.data }, { on := 3, ground := Ground.chain }], guard := none }) (v := ?_) rfl (by kernel_rfl) (by kernel_rfl) (by kernel_rfl) (fun _ _ _ h => h) (Or.inl ⟨by rfl, ?hy4⟩) (by assumption) ?_
  case hy4 => (intro w hSw; (try dsimp only at hSw); go_simp; try with_reducible rfl)
  (try simp only [Act.put, List.setIfInBounds_toArray, List.set_cons_zero, List.set_cons_succ])
  refine wpAnyH_take (i := 5) (oi := { dst := some 26, op := Op.move (Operand.tmp 3), type := 22, pos := "law.go:16", after := #[{ on := 4, ground := Ground.guard }], guard := some (4, true) }) (v := ?_) rfl (by kernel_rfl) (by kernel_rfl) (by kernel_rfl) (fun _ _ _ h => h) (Or.inl ⟨by rfl, ?hy5⟩) (by assumption) ?_
  case hy5 => (intro w hSw; (try dsimp only at hSw); go_simp; try with_reducible rfl)
  (try simp only [Act.put, List.setIfInBounds_toArray, List.set_cons_zero, List.set_cons_succ])
  refine wpAnyH_take (i := 6) (oi := { dst := some 27, op := Op.move (Operand.tmp 1), type := 22, pos := "law.go:16", after := #[{ on := 4, ground := Ground.guard }], guard := some (4, true) }) (v := ?_) rfl (by kernel_rfl) (by kernel_rfl) (by kernel_rfl) (fun _ _ _ h => h) (Or.inl ⟨by rfl, ?hy6⟩) (by assumption) ?_
  case hy6 => (intro w hSw; (try dsimp only at hSw); go_simp; try with_reducible rfl)
  (try simp only [Act.put, List.setIfInBounds_toArray, List.set_cons_zero, List.set_cons_succ])
  refine wpAnyH_take (i := 7) (oi := { dst := some 28, op := Op.indexAddr 22 (Operand.tmp 27) (Operand.const (Value.int IntKind.i64 0)), type := 0, pos := "law.go:16", after := #[{ on := 6, ground := Ground.data }, { on := 4, ground := Ground.guard }], guard := some (4, true) }) (v := ?_) rfl (by kernel_rfl) (by kernel_rfl) (by kernel_rfl) (fun _ _ _ h => h) (Or.inl ⟨by rfl, ?hy7⟩) (by assumption) ?_
  case hy7 => (intro w hSw; (try dsimp only at hSw); go_simp; try with_reducible rfl)
  (try simp only [Act.put, List.setIfInBounds_toArray, List.set_cons_zero, List.set_cons_succ])
  refine wpAnyH_take (i := 8) (oi := { dst := some 29, op := Op.load 33 (Operand.tmp 28), type := 33, pos := "law.go:16", after := #[{ on := 7, ground := Ground.data }, { on := 4, ground := Ground.guard }], guard := some (4, true) }) (v := ?_) rfl (by kernel_rfl) (by kernel_rfl) (by kernel_rfl) (fun _ _ _ h => h) (Or.inl ⟨by rfl, ?hy8⟩) (by assumption) ?_
  case hy8 => (intro w hSw; (try dsimp only at hSw); go_simp; try with_reducible rfl)
  (try simp only [Act.put, List.setIfInBounds_toArray, List.set_cons_zero, List.set_cons_succ])
  refine wpAnyH_take (i := 9) (oi := { dst := some 30, op := Op.move (Operand.tmp 1), type := 22, pos := "law.go:16", after := #[{ on := 4, ground := Ground.guard }], guard := some (4, true) }) (v := ?_) rfl (by kernel_rfl) (by kernel_rfl) (by kernel_rfl) (fun _ _ _ h => h) (Or.inl ⟨by rfl, ?hy9⟩) (by assumption) ?_
  case hy9 => (intro w hSw; (try dsimp only at hSw); go_simp; try with_reducible rfl)
  (try simp only [Act.put, List.setIfInBounds_toArray, List.set_cons_zero, List.set_cons_succ])
  refine wpAnyH_take (i := 10) (oi := { dst := some 31, op := Op.indexAddr 22 (Operand.tmp 30) (Operand.const (Value.int IntKind.i64 2)), type := 0, pos := "law.go:16", after := #[{ on := 9, ground := Ground.data }, { on := 4, ground := Ground.guard }], guard := some (4, true) }) (v := ?_) rfl (by kernel_rfl) (by kernel_rfl) (by kernel_rfl) (fun _ _ _ h => h) (Or.inl ⟨by rfl, ?hy10⟩) (by assumption) ?_
  case hy10 => (intro w hSw; (try dsimp only at hSw); go_simp; try with_reducible rfl)
  (try simp only [Act.put, List.setIfInBounds_toArray, List.set_cons_zero, List.set_cons_succ])
  refine wpAnyH_take (i := 11) (oi := { dst := some 32, op := Op.load 33 (Operand.tmp 31), type := 33, pos := "law.go:16", after := #[{ on := 10, ground := Ground.data }, { on := 4, ground := Ground.guard }], guard := some (4, true) }) (v := ?_) rfl (by kernel_rfl) (by kernel_rfl) (by kernel_rfl) (fun _ _ _ h => h) (Or.inl ⟨by rfl, ?hy11⟩) (by assumption) ?_
  case hy11 => (intro w hSw; (try dsimp only at hSw); go_simp; try with_reducible rfl)
  (try simp only [Act.put, List.setIfInBounds_toArray, List.set_cons_zero, List.set_cons_succ])
  refine wpAnyH_ready (rs := [12]) (by kernel_rfl) (by simp) (AllReadyH.cons (o := { dst := some 33, op := Op.buildSlice 22 2 #[(0, Operand.tmp 29), (1, Operand.tmp 32)], type := 22, pos := "law.go:16", after := #[{ on := 8, ground := Ground.data }, { on := 11, ground := Ground.data }, { on := 4, ground := Ground.guard }], guard := some (4, true) }) rfl (fun K hK => ?_) AllReadyH.nil)
  go_simp
  (try dsimp only)
  refine Shut.out hK _ _ ?_ (fun hS12 => ?_)
  · exact KS.out _ (hS3.2.2.2.2.2.2.2.2.alloc hS3.2.2.2.2.2.2.2.2.size _)
  clear hK K
  (try simp only [Act.put, List.setIfInBounds_toArray, List.set_cons_zero, List.set_cons_succ])
  refine wpAnyH_ready (rs := [13]) (by kernel_rfl) (by simp) (AllReadyH.cons (o := { dst := some 34, op := Op.call { callee := Callee.value (Operand.func 23), args := #[Operand.tmp 26, Operand.tmp 33], argTypes := #[22, 22] }, type := 4, pos := "law.go:16", after := #[{ on := 5, ground := Ground.data }, { on := 12, ground := Ground.data }, { on := 4, ground := Ground.chain }, { on := 4, ground := Ground.guard }], guard := some (4, true) }) rfl (fun K hK => ?_) AllReadyH.nil)
  go_simp
  refine (same_any xb (some ⟨wa.heap.size, 0, none⟩) _ _ [e5, e2] [e5, e2] _ (by decide) (by decide) (HB.out.below hS12.2.2.2.2.2.2.2.2) (ents_block2 (l := [e5, e2]) (heap_at _ _) ok52) rfl).mono ?_
  rintro _ wb ⟨rfl, hwb⟩
  (try dsimp only)
  refine Shut.out hK _ _ ?_ (fun hS13 => ?_)
  · exact KS.out _ (hS12.2.2.2.2.2.2.2.2.trans (hwb.mono hS12.2.2.2.2.2.2.2.2.size))
  clear hK K
  (try simp only [Act.put, List.setIfInBounds_toArray, List.set_cons_zero, List.set_cons_succ])
  refine wpAnyH_take (i := 14) (oi := { dst := some 35, op := Op.pick (Operand.tmp 25) (Operand.tmp 34) (Operand.const (Value.bool false)), type := 4, pos := "law.go:16", after := #[{ on := 4, ground := Ground.data }, { on := 13, ground := Ground.data }], guard := none }) (v := ?_) rfl (by kernel_rfl) (by kernel_rfl) (by kernel_rfl) (fun _ _ _ h => h) (Or.inl ⟨by rfl, ?hy12⟩) (by assumption) ?_
  case hy12 => (intro w hSw; (try dsimp only at hSw); go_simp; try with_reducible rfl)
  (try simp only [Act.put, List.setIfInBounds_toArray, List.set_cons_zero, List.set_cons_succ])
  refine wpAnyH_take (i := 15) (oi := { dst := some 36, op := Op.move (Operand.tmp 35), type := 4, pos := "law.go:16", after := #[{ on := 14, ground := Ground.data }, { on := 13, ground := Ground.chain }], guard := none }) (v := ?_) rfl (by kernel_rfl) (by kernel_rfl) (by kernel_rfl) (fun _ _ _ h => h) (Or.inl ⟨by rfl, ?hy13⟩) (by assumption) ?_
  case hy13 => (intro w hSw; (try dsimp only at hSw); go_simp; try with_reducible rfl)
  (try simp only [Act.put, List.setIfInBounds_toArray, List.set_cons_zero, List.set_cons_succ])
  refine wpAnyH_take (i := 16) (oi := { dst := some 37, op := Op.move (Operand.tmp 4), type := 22, pos := "law.go:16", after := #[{ on := 15, ground := Ground.guard }], guard := some (15, true) }) (v := ?_) rfl (by kernel_rfl) (by kernel_rfl) (by kernel_rfl) (fun _ _ _ h => h) (Or.inl ⟨by rfl, ?hy14⟩) (by assumption) ?_
  case hy14 => (intro w hSw; (try dsimp only at hSw); go_simp; try with_reducible rfl)
  (try simp only [Act.put, List.setIfInBounds_toArray, List.set_cons_zero, List.set_cons_succ])
  refine wpAnyH_take (i := 17) (oi := { dst := some 38, op := Op.move (Operand.tmp 1), type := 22, pos := "law.go:16", after := #[{ on := 15, ground := Ground.guard }], guard := some (15, true) }) (v := ?_) rfl (by kernel_rfl) (by kernel_rfl) (by kernel_rfl) (fun _ _ _ h => h) (Or.inl ⟨by rfl, ?hy15⟩) (by assumption) ?_
  case hy15 => (intro w hSw; (try dsimp only at hSw); go_simp; try with_reducible rfl)
  (try simp only [Act.put, List.setIfInBounds_toArray, List.set_cons_zero, List.set_cons_succ])
  refine wpAnyH_take (i := 18) (oi := { dst := some 39, op := Op.slice 22 (Operand.tmp 38) none (some (Operand.const (Value.int IntKind.i64 1))) none, type := 22, pos := "law.go:16", after := #[{ on := 17, ground := Ground.data }, { on := 15, ground := Ground.guard }], guard := some (15, true) }) (v := ?_) rfl (by kernel_rfl) (by kernel_rfl) (by kernel_rfl) (fun _ _ _ h => h) (Or.inl ⟨by rfl, ?hy16⟩) (by assumption) ?_
  case hy16 => (intro w hSw; (try dsimp only at hSw); go_simp; try with_reducible rfl)
  (try simp only [Act.put, List.setIfInBounds_toArray, List.set_cons_zero, List.set_cons_succ])
  refine wpAnyH_ready (rs := [19]) (by kernel_rfl) (by simp) (AllReadyH.cons (o := { dst := some 40, op := Op.call { callee := Callee.value (Operand.func 23), args := #[Operand.tmp 37, Operand.tmp 39], argTypes := #[22, 22] }, type := 4, pos := "law.go:16", after := #[{ on := 16, ground := Ground.data }, { on := 18, ground := Ground.data }, { on := 15, ground := Ground.chain }, { on := 15, ground := Ground.guard }], guard := some (15, true) }) rfl (fun K hK => ?_) AllReadyH.nil)
  go_simp
  refine (same_any xc (some ⟨B, 0, none⟩) _ _ [e5] [e5] _ (by decide) (by decide) (HC.out.below hS13.2.2.2.2.2.2.2.2) ((HL.out.below hS13.2.2.2.2.2.2.2.2).take 1) rfl).mono ?_
  rintro _ wc ⟨rfl, hwc⟩
  (try dsimp only)
  refine Shut.out hK _ _ ?_ (fun hS19 => ?_)
  · exact KS.out _ (hS13.2.2.2.2.2.2.2.2.trans (hwc.mono hS13.2.2.2.2.2.2.2.2.size))
  clear hK K
  (try simp only [Act.put, List.setIfInBounds_toArray, List.set_cons_zero, List.set_cons_succ])
  refine wpAnyH_take (i := 20) (oi := { dst := some 41, op := Op.pick (Operand.tmp 36) (Operand.tmp 40) (Operand.const (Value.bool false)), type := 4, pos := "law.go:16", after := #[{ on := 15, ground := Ground.data }, { on := 19, ground := Ground.data }], guard := none }) (v := ?_) rfl (by kernel_rfl) (by kernel_rfl) (by kernel_rfl) (fun _ _ _ h => h) (Or.inl ⟨by rfl, ?hy17⟩) (by assumption) ?_
  case hy17 => (intro w hSw; (try dsimp only at hSw); go_simp; try with_reducible rfl)
  (try simp only [Act.put, List.setIfInBounds_toArray, List.set_cons_zero, List.set_cons_succ])
  refine wpAnyH_take (i := 21) (oi := { dst := some 42, op := Op.move (Operand.tmp 41), type := 4, pos := "law.go:16", after := #[{ on := 20, ground := Ground.data }, { on := 19, ground := Ground.chain }], guard := none }) (v := ?_) rfl (by kernel_rfl) (by kernel_rfl) (by kernel_rfl) (fun _ _ _ h => h) (Or.inl ⟨by rfl, ?hy18⟩) (by assumption) ?_
  case hy18 => (intro w hSw; (try dsimp only at hSw); go_simp; try with_reducible rfl)
  (try simp only [Act.put, List.setIfInBounds_toArray, List.set_cons_zero, List.set_cons_succ])
  refine wpAnyH_take (i := 22) (oi := { dst := some 43, op := Op.move (Operand.tmp 5), type := 22, pos := "law.go:16", after := #[{ on := 21, ground := Ground.guard }], guard := some (21, true) }) (v := ?_) rfl (by kernel_rfl) (by kernel_rfl) (by kernel_rfl) (fun _ _ _ h => h) (Or.inl ⟨by rfl, ?hy19⟩) (by assumption) ?_
  case hy19 => (intro w hSw; (try dsimp only at hSw); go_simp; try with_reducible rfl)
  (try simp only [Act.put, List.setIfInBounds_toArray, List.set_cons_zero, List.set_cons_succ])
  refine wpAnyH_take (i := 23) (oi := { dst := some 44, op := Op.move (Operand.tmp 1), type := 22, pos := "law.go:16", after := #[{ on := 21, ground := Ground.guard }], guard := some (21, true) }) (v := ?_) rfl (by kernel_rfl) (by kernel_rfl) (by kernel_rfl) (fun _ _ _ h => h) (Or.inl ⟨by rfl, ?hy20⟩) (by assumption) ?_
  case hy20 => (intro w hSw; (try dsimp only at hSw); go_simp; try with_reducible rfl)
  (try simp only [Act.put, List.setIfInBounds_toArray, List.set_cons_zero, List.set_cons_succ])
  refine wpAnyH_take (i := 24) (oi := { dst := some 45, op := Op.slice 22 (Operand.tmp 44) none (some (Operand.const (Value.int IntKind.i64 2))) none, type := 22, pos := "law.go:16", after := #[{ on := 23, ground := Ground.data }, { on := 21, ground := Ground.guard }], guard := some (21, true) }) (v := ?_) rfl (by kernel_rfl) (by kernel_rfl) (by kernel_rfl) (fun _ _ _ h => h) (Or.inl ⟨by rfl, ?hy21⟩) (by assumption) ?_
  case hy21 => (intro w hSw; (try dsimp only at hSw); go_simp; try with_reducible rfl)
  (try simp only [Act.put, List.setIfInBounds_toArray, List.set_cons_zero, List.set_cons_succ])
  refine wpAnyH_ready (rs := [25]) (by kernel_rfl) (by simp) (AllReadyH.cons (o := { dst := some 46, op := Op.call { callee := Callee.value (Operand.func 23), args := #[Operand.tmp 43, Operand.tmp 45], argTypes := #[22, 22] }, type := 4, pos := "law.go:16", after := #[{ on := 22, ground := Ground.data }, { on := 24, ground := Ground.data }, { on := 21, ground := Ground.chain }, { on := 21, ground := Ground.guard }], guard := some (21, true) }) rfl (fun K hK => ?_) AllReadyH.nil)
  go_simp
  refine (same_any xd (some ⟨B, 0, none⟩) _ _ [e5, e3] [e5, e3] _ (by decide) (by decide) (HD.out.below hS19.2.2.2.2.2.2.2.2) ((HL.out.below hS19.2.2.2.2.2.2.2.2).take 2) rfl).mono ?_
  rintro _ wd ⟨rfl, hwd⟩
  (try dsimp only)
  refine Shut.out hK _ _ ?_ (fun hS25 => ?_)
  · exact KS.out _ (hS19.2.2.2.2.2.2.2.2.trans (hwd.mono hS19.2.2.2.2.2.2.2.2.size))
  clear hK K
  (try simp only [Act.put, List.setIfInBounds_toArray, List.set_cons_zero, List.set_cons_succ])
  refine wpAnyH_take (i := 26) (oi := { dst := some 47, op := Op.pick (Operand.tmp 42) (Operand.tmp 46) (Operand.const (Value.bool false)), type := 4, pos := "law.go:16", after := #[{ on := 21, ground := Ground.data }, { on := 25, ground := Ground.data }], guard := none }) (v := ?_) rfl (by kernel_rfl) (by kernel_rfl) (by kernel_rfl) (fun _ _ _ h => h) (Or.inl ⟨by rfl, ?hy22⟩) (by assumption) ?_
  case hy22 => (intro w hSw; (try dsimp only at hSw); go_simp; try with_reducible rfl)
  (try simp only [Act.put, List.setIfInBounds_toArray, List.set_cons_zero, List.set_cons_succ])
  refine wpAnyH_take (i := 27) (oi := { dst := some 48, op := Op.move (Operand.tmp 47), type := 4, pos := "law.go:16", after := #[{ on := 26, ground := Ground.data }, { on := 25, ground := Ground.chain }], guard := none }) (v := ?_) rfl (by kernel_rfl) (by kernel_rfl) (by kernel_rfl) (fun _ _ _ h => h) (Or.inl ⟨by rfl, ?hy23⟩) (by assumption) ?_
  case hy23 => (intro w hSw; (try dsimp only at hSw); go_simp; try with_reducible rfl)
  (try simp only [Act.put, List.setIfInBounds_toArray, List.set_cons_zero, List.set_cons_succ])
  refine wpAnyH_take (i := 28) (oi := { dst := some 49, op := Op.move (Operand.tmp 1), type := 22, pos := "law.go:16", after := #[{ on := 27, ground := Ground.guard }], guard := some (27, true) }) (v := ?_) rfl (by kernel_rfl) (by kernel_rfl) (by kernel_rfl) (fun _ _ _ h => h) (Or.inl ⟨by rfl, ?hy24⟩) (by assumption) ?_
  case hy24 => (intro w hSw; (try dsimp only at hSw); go_simp; try with_reducible rfl)
  (try simp only [Act.put, List.setIfInBounds_toArray, List.set_cons_zero, List.set_cons_succ])
  refine wpAnyH_ready (rs := [29]) (by kernel_rfl) (by simp) (AllReadyH.cons (o := { dst := some 50, op := Op.call { callee := Callee.value (Operand.func 28), args := #[Operand.tmp 49, Operand.const (Value.int IntKind.u64 4)], argTypes := #[22, 31] }, type := 39, pos := "law.go:16", after := #[{ on := 28, ground := Ground.data }, { on := 27, ground := Ground.chain }, { on := 27, ground := Ground.guard }], guard := some (27, true) }) rfl (fun K hK => ?_) AllReadyH.nil)
  go_simp
  refine (view_shown 4 _ B (by decide) (HL.out.below hS25.2.2.2.2.2.2.2.2)).mono ?_
  rintro _ we ⟨v4, rfl, hv4, hwe⟩
  rw [view4] at hv4
  obtain ⟨x4, c4, rfl, _, _, _⟩ := hv4.read
  (try dsimp only)
  refine Shut.out hK _ _ ?_ (fun hS29 => ?_)
  · exact KS.out _ (hS25.2.2.2.2.2.2.2.2.trans (hwe.mono hS25.2.2.2.2.2.2.2.2.size))
  clear hK K
  (try simp only [Act.put, List.setIfInBounds_toArray, List.set_cons_zero, List.set_cons_succ])
  refine wpAnyH_take (i := 30) (oi := { dst := some 51, op := Op.call { callee := Callee.builtin Builtin.len, args := #[Operand.tmp 50], argTypes := #[39] }, type := 3, pos := "law.go:16", after := #[{ on := 29, ground := Ground.data }, { on := 27, ground := Ground.guard }], guard := some (27, true) }) (v := ?_) rfl (by kernel_rfl) (by kernel_rfl) (by kernel_rfl) (fun _ _ _ h => h) (Or.inl ⟨by rfl, ?hy25⟩) (by assumption) ?_
  case hy25 => (intro w hSw; (try dsimp only at hSw); go_simp; try with_reducible rfl)
  (try simp only [Act.put, List.setIfInBounds_toArray, List.set_cons_zero, List.set_cons_succ])
  refine wpAnyH_take (i := 31) (oi := { dst := some 52, op := Op.binOp BinOp.eql 3 (Operand.tmp 51) (Operand.const (Value.int IntKind.i64 0)) 3, type := 4, pos := "law.go:16", after := #[{ on := 30, ground := Ground.data }, { on := 27, ground := Ground.guard }], guard := some (27, true) }) (v := ?_) rfl (by kernel_rfl) (by kernel_rfl) (by kernel_rfl) (fun _ _ _ h => h) (Or.inl ⟨by rfl, ?hy26⟩) (by assumption) ?_
  case hy26 => (intro w hSw; (try dsimp only at hSw); go_simp; try with_reducible rfl)
  (try simp only [Act.put, List.setIfInBounds_toArray, List.set_cons_zero, List.set_cons_succ])
  refine wpAnyH_take (i := 32) (oi := { dst := some 53, op := Op.pick (Operand.tmp 48) (Operand.tmp 52) (Operand.const (Value.bool false)), type := 4, pos := "law.go:16", after := #[{ on := 27, ground := Ground.data }, { on := 31, ground := Ground.data }], guard := none }) (v := ?_) rfl (by kernel_rfl) (by kernel_rfl) (by kernel_rfl) (fun _ _ _ h => h) (Or.inl ⟨by rfl, ?hy27⟩) (by assumption) ?_
  case hy27 => (intro w hSw; (try dsimp only at hSw); go_simp; try with_reducible rfl)
  (try simp only [Act.put, List.setIfInBounds_toArray, List.set_cons_zero, List.set_cons_succ])
  refine wpAnyH_take (i := 33) (oi := { dst := some 54, op := Op.move (Operand.tmp 53), type := 4, pos := "law.go:16", after := #[{ on := 32, ground := Ground.data }, { on := 29, ground := Ground.chain }], guard := none }) (v := ?_) rfl (by kernel_rfl) (by kernel_rfl) (by kernel_rfl) (fun _ _ _ h => h) (Or.inl ⟨by rfl, ?hy28⟩) (by assumption) ?_
  case hy28 => (intro w hSw; (try dsimp only at hSw); go_simp; try with_reducible rfl)
  (try simp only [Act.put, List.setIfInBounds_toArray, List.set_cons_zero, List.set_cons_succ])
  refine wpAnyH_take (i := 34) (oi := { dst := some 55, op := Op.move (Operand.tmp 1), type := 22, pos := "law.go:16", after := #[{ on := 33, ground := Ground.guard }], guard := some (33, true) }) (v := ?_) rfl (by kernel_rfl) (by kernel_rfl) (by kernel_rfl) (fun _ _ _ h => h) (Or.inl ⟨by rfl, ?hy29⟩) (by assumption) ?_
  case hy29 => (intro w hSw; (try dsimp only at hSw); go_simp; try with_reducible rfl)
  (try simp only [Act.put, List.setIfInBounds_toArray, List.set_cons_zero, List.set_cons_succ])
  refine wpAnyH_take (i := 36) (oi := { dst := some 57, op := Op.build 61 #[(0, Operand.const (Value.string { data := #[97] })), (1, Operand.const (Value.string { data := #[121] }))], type := 61, pos := "law.go:16", after := #[{ on := 33, ground := Ground.guard }], guard := some (33, true) }) (v := ?_) rfl (by kernel_rfl) (by kernel_rfl) (by kernel_rfl) (fun _ _ _ h => h) (Or.inl ⟨by rfl, ?hy30⟩) (by assumption) ?_
  case hy30 => (intro w hSw; (try dsimp only at hSw); go_simp; try with_reducible rfl)
  (try simp only [Act.put, List.setIfInBounds_toArray, List.set_cons_zero, List.set_cons_succ])
  refine wpAnyH_ready (rs := [35, 37]) (by kernel_rfl) (by simp) (AllReadyH.cons (o := { dst := some 56, op := Op.call { callee := Callee.value (Operand.func 28), args := #[Operand.tmp 55, Operand.const (Value.int IntKind.u64 2)], argTypes := #[22, 31] }, type := 39, pos := "law.go:16", after := #[{ on := 34, ground := Ground.data }, { on := 33, ground := Ground.chain }, { on := 33, ground := Ground.guard }], guard := some (33, true) }) rfl (fun K hK => ?_) (AllReadyH.cons (o := { dst := some 58, op := Op.buildSlice 39 1 #[(0, Operand.tmp 57)], type := 39, pos := "law.go:16", after := #[{ on := 36, ground := Ground.data }, { on := 33, ground := Ground.guard }], guard := some (33, true) }) rfl (fun K hK => ?_) AllReadyH.nil))
  · skip
    go_simp
    refine (view_shown 2 _ B (by decide) (HL.out.below hS29.2.2.2.2.2.2.2.2)).mono ?_
    rintro _ wf ⟨v2, rfl, hv2, hwf⟩
    rw [view2] at hv2
    obtain ⟨x2, c2, rfl, _, _, hp2⟩ := hv2.read
    (try dsimp only)
    refine Shut.out hK _ _ ?_ (fun hS35 => ?_)
    · exact KS.out _ (hS29.2.2.2.2.2.2.2.2.trans (hwf.mono hS29.2.2.2.2.2.2.2.2.size))
    clear hK K
    (try simp only [Act.put, List.setIfInBounds_toArray, List.set_cons_zero, List.set_cons_succ])
    refine wpAnyH_ready (rs := [37]) (by kernel_rfl) (by simp) (AllReadyH.cons (o := { dst := some 58, op := Op.buildSlice 39 1 #[(0, Operand.tmp 57)], type := 39, pos := "law.go:16", after := #[{ on := 36, ground := Ground.data }, { on := 33, ground := Ground.guard }], guard := some (33, true) }) rfl (fun K hK => ?_) AllReadyH.nil)
    go_simp
    (try dsimp only)
    refine Shut.out hK _ _ ?_ (fun hS37 => ?_)
    · exact KS.out _ (hS35.2.2.2.2.2.2.2.2.alloc hS35.2.2.2.2.2.2.2.2.size _)
    clear hK K
    (try simp only [Act.put, List.setIfInBounds_toArray, List.set_cons_zero, List.set_cons_succ])
    refine wpAnyH_ready (rs := [38]) (by kernel_rfl) (by simp) (AllReadyH.cons (o := { dst := some 59, op := Op.call { callee := Callee.value (Operand.func 29), args := #[Operand.tmp 56, Operand.tmp 58], argTypes := #[39, 39] }, type := 4, pos := "law.go:16", after := #[{ on := 35, ground := Ground.data }, { on := 37, ground := Ground.data }, { on := 35, ground := Ground.chain }, { on := 33, ground := Ground.guard }], guard := some (33, true) }) rfl (fun K hK => ?_) AllReadyH.nil)
    go_simp
    refine (samePairs_any x2 (some ⟨wf.heap.size, 0, none⟩) _ _ [(⟨#[97]⟩, ⟨#[121]⟩)] [(⟨#[97]⟩, ⟨#[121]⟩)] _ (by decide) (hp2.below ((Below.refl _ _).alloc (Nat.le_refl _) _)) (prs_block (l := [(⟨#[97]⟩, ⟨#[121]⟩)]) (heap_at _ _)) rfl).mono ?_
    rintro _ wg ⟨rfl, hwg⟩
    (try dsimp only)
    refine Shut.out hK _ _ ?_ (fun hS38 => ?_)
    · exact KS.out _ (hS37.2.2.2.2.2.2.2.2.trans (hwg.mono hS37.2.2.2.2.2.2.2.2.size))
    clear hK K
    (try simp only [Act.put, List.setIfInBounds_toArray, List.set_cons_zero, List.set_cons_succ])
    refine wpAnyH_take (i := 39) (oi := { dst := some 60, op := Op.pick (Operand.tmp 54) (Operand.tmp 59) (Operand.const (Value.bool false)), type := 4, pos := "law.go:16", after := #[{ on := 33, ground := Ground.data }, { on := 38, ground := Ground.data }], guard := none }) (v := ?_) rfl (by kernel_rfl) (by kernel_rfl) (by kernel_rfl) (fun _ _ _ h => h) (Or.inl ⟨by rfl, ?hy31⟩) (by assumption) ?_
    case hy31 => (intro w hSw; (try dsimp only at hSw); go_simp; try with_reducible rfl)
    (try simp only [Act.put, List.setIfInBounds_toArray, List.set_cons_zero, List.set_cons_succ])
    refine wpAnyH_take (i := 40) (oi := { dst := some 0, op := Op.assign (Operand.tmp 60), type := 4, pos := "law.go:16", after := #[{ on := 39, ground := Ground.data }, { on := 38, ground := Ground.chain }, { on := 0, ground := Ground.phase }, { on := 1, ground := Ground.phase }, { on := 2, ground := Ground.phase }, { on := 3, ground := Ground.phase }, { on := 4, ground := Ground.phase }, { on := 5, ground := Ground.phase }, { on := 6, ground := Ground.phase }, { on := 7, ground := Ground.phase }, { on := 8, ground := Ground.phase }, { on := 9, ground := Ground.phase }, { on := 10, ground := Ground.phase }, { on := 11, ground := Ground.phase }, { on := 12, ground := Ground.phase }, { on := 13, ground := Ground.phase }, { on := 14, ground := Ground.phase }, { on := 15, ground := Ground.phase }, { on := 16, ground := Ground.phase }, { on := 17, ground := Ground.phase }, { on := 18, ground := Ground.phase }, { on := 19, ground := Ground.phase }, { on := 20, ground := Ground.phase }, { on := 21, ground := Ground.phase }, { on := 22, ground := Ground.phase }, { on := 23, ground := Ground.phase }, { on := 24, ground := Ground.phase }, { on := 25, ground := Ground.phase }, { on := 26, ground := Ground.phase }, { on := 27, ground := Ground.phase }, { on := 28, ground := Ground.phase }, { on := 29, ground := Ground.phase }, { on := 30, ground := Ground.phase }, { on := 31, ground := Ground.phase }, { on := 32, ground := Ground.phase }, { on := 33, ground := Ground.phase }, { on := 34, ground := Ground.phase }, { on := 35, ground := Ground.phase }, { on := 36, ground := Ground.phase }, { on := 37, ground := Ground.phase }, { on := 38, ground := Ground.phase }, { on := 39, ground := Ground.phase }], guard := none }) (v := ?_) rfl (by kernel_rfl) (by kernel_rfl) (by kernel_rfl) (fun _ _ _ h => h) (Or.inl ⟨by rfl, ?hy32⟩) (by assumption) ?_
    case hy32 => (intro w hSw; (try dsimp only at hSw); go_simp; try with_reducible rfl)
    (try simp only [Act.put, List.setIfInBounds_toArray, List.set_cons_zero])
    refine wpAnyH_done (by kernel_rfl) ?_ _
    go_wp2
    go_ret
    refine ⟨rfl, ?_⟩
    rw [HBb.out]
    exact HBS.out.trans (hS38.2.2.2.2.2.2.2.2.mono (by rw [← HBb.out]; exact HBS.out.size))
  · skip
    go_simp
    (try dsimp only)
    refine Shut.out hK _ _ ?_ (fun hS37 => ?_)
    · exact KS.out _ (hS29.2.2.2.2.2.2.2.2.alloc hS29.2.2.2.2.2.2.2.2.size _)
    clear hK K
    (try simp only [Act.put, List.setIfInBounds_toArray, List.set_cons_zero, List.set_cons_succ])
    refine wpAnyH_ready (rs := [35]) (by kernel_rfl) (by simp) (AllReadyH.cons (o := { dst := some 56, op := Op.call { callee := Callee.value (Operand.func 28), args := #[Operand.tmp 55, Operand.const (Value.int IntKind.u64 2)], argTypes := #[22, 31] }, type := 39, pos := "law.go:16", after := #[{ on := 34, ground := Ground.data }, { on := 33, ground := Ground.chain }, { on := 33, ground := Ground.guard }], guard := some (33, true) }) rfl (fun K hK => ?_) AllReadyH.nil)
    go_simp
    refine (view_shown 2 _ B (by decide) (HL.out.below hS37.2.2.2.2.2.2.2.2)).mono ?_
    rintro _ wf ⟨v2, rfl, hv2, hwf⟩
    rw [view2] at hv2
    obtain ⟨x2, c2, rfl, _, _, hp2⟩ := hv2.read
    (try dsimp only)
    refine Shut.out hK _ _ ?_ (fun hS35 => ?_)
    · exact KS.out _ (hS37.2.2.2.2.2.2.2.2.trans (hwf.mono hS37.2.2.2.2.2.2.2.2.size))
    clear hK K
    (try simp only [Act.put, List.setIfInBounds_toArray, List.set_cons_zero, List.set_cons_succ])
    refine wpAnyH_ready (rs := [38]) (by kernel_rfl) (by simp) (AllReadyH.cons (o := { dst := some 59, op := Op.call { callee := Callee.value (Operand.func 29), args := #[Operand.tmp 56, Operand.tmp 58], argTypes := #[39, 39] }, type := 4, pos := "law.go:16", after := #[{ on := 35, ground := Ground.data }, { on := 37, ground := Ground.data }, { on := 35, ground := Ground.chain }, { on := 33, ground := Ground.guard }], guard := some (33, true) }) rfl (fun K hK => ?_) AllReadyH.nil)
    go_simp
    refine (samePairs_any x2 (some ⟨we.heap.size, 0, none⟩) _ _ [(⟨#[97]⟩, ⟨#[121]⟩)] [(⟨#[97]⟩, ⟨#[121]⟩)] _ (by decide) hp2 (Prs.below (prs_block (l := [(⟨#[97]⟩, ⟨#[121]⟩)]) (heap_at _ _)) hwf) rfl).mono ?_
    rintro _ wg ⟨rfl, hwg⟩
    (try dsimp only)
    refine Shut.out hK _ _ ?_ (fun hS38 => ?_)
    · exact KS.out _ (hS35.2.2.2.2.2.2.2.2.trans (hwg.mono hS35.2.2.2.2.2.2.2.2.size))
    clear hK K
    (try simp only [Act.put, List.setIfInBounds_toArray, List.set_cons_zero, List.set_cons_succ])
    refine wpAnyH_take (i := 39) (oi := { dst := some 60, op := Op.pick (Operand.tmp 54) (Operand.tmp 59) (Operand.const (Value.bool false)), type := 4, pos := "law.go:16", after := #[{ on := 33, ground := Ground.data }, { on := 38, ground := Ground.data }], guard := none }) (v := ?_) rfl (by kernel_rfl) (by kernel_rfl) (by kernel_rfl) (fun _ _ _ h => h) (Or.inl ⟨by rfl, ?hy33⟩) (by assumption) ?_
    case hy33 => (intro w hSw; (try dsimp only at hSw); go_simp; try with_reducible rfl)
    (try simp only [Act.put, List.setIfInBounds_toArray, List.set_cons_zero, List.set_cons_succ])
    refine wpAnyH_take (i := 40) (oi := { dst := some 0, op := Op.assign (Operand.tmp 60), type := 4, pos := "law.go:16", after := #[{ on := 39, ground := Ground.data }, { on := 38, ground := Ground.chain }, { on := 0, ground := Ground.phase }, { on := 1, ground := Ground.phase }, { on := 2, ground := Ground.phase }, { on := 3, ground := Ground.phase }, { on := 4, ground := Ground.phase }, { on := 5, ground := Ground.phase }, { on := 6, ground := Ground.phase }, { on := 7, ground := Ground.phase }, { on := 8, ground := Ground.phase }, { on := 9, ground := Ground.phase }, { on := 10, ground := Ground.phase }, { on := 11, ground := Ground.phase }, { on := 12, ground := Ground.phase }, { on := 13, ground := Ground.phase }, { on := 14, ground := Ground.phase }, { on := 15, ground := Ground.phase }, { on := 16, ground := Ground.phase }, { on := 17, ground := Ground.phase }, { on := 18, ground := Ground.phase }, { on := 19, ground := Ground.phase }, { on := 20, ground := Ground.phase }, { on := 21, ground := Ground.phase }, { on := 22, ground := Ground.phase }, { on := 23, ground := Ground.phase }, { on := 24, ground := Ground.phase }, { on := 25, ground := Ground.phase }, { on := 26, ground := Ground.phase }, { on := 27, ground := Ground.phase }, { on := 28, ground := Ground.phase }, { on := 29, ground := Ground.phase }, { on := 30, ground := Ground.phase }, { on := 31, ground := Ground.phase }, { on := 32, ground := Ground.phase }, { on := 33, ground := Ground.phase }, { on := 34, ground := Ground.phase }, { on := 35, ground := Ground.phase }, { on := 36, ground := Ground.phase }, { on := 37, ground := Ground.phase }, { on := 38, ground := Ground.phase }, { on := 39, ground := Ground.phase }], guard := none }) (v := ?_) rfl (by kernel_rfl) (by kernel_rfl) (by kernel_rfl) (fun _ _ _ h => h) (Or.inl ⟨by rfl, ?hy34⟩) (by assumption) ?_
    case hy34 => (intro w hSw; (try dsimp only at hSw); go_simp; try with_reducible rfl)
    (try simp only [Act.put, List.setIfInBounds_toArray, List.set_cons_zero])
    refine wpAnyH_done (by kernel_rfl) ?_ _
    go_wp2
    go_ret
    refine ⟨rfl, ?_⟩
    rw [HBb.out]
    exact HBS.out.trans (hS38.2.2.2.2.2.2.2.2.mono (by rw [← HBb.out]; exact HBS.out.size))
end Go.Proofs.Ythgbmijgoaihcaa

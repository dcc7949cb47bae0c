/-
  BloomMays, BloomMakes.
-/
import Derived.Test.YtogihaiedemdhaaBl8
namespace Go.Proofs.Ytogihaiedemdhaa
open Go.RowKit
set_option linter.unusedVariables false

set_option maxRecDepth 100000 in
set_option maxHeartbeats 800000 in
theorem law_mays (a : Option Addr) (cap : Nat) (f : List UInt8) (s : ByteArray) (w : World) (hcap : f.length ≤ cap) (hcm : cap ≤ maxLen) (hs : s.size ≤ maxLen) (hb : Bytes w a f) :
    Calls Try.prog 5 #[.slice a f.length cap, .string s] w fun e w' => e = .returned (.bool true) ∧ Below w.heap.size w w' := by
  have hfm : f.length ≤ maxLen := Nat.le_trans hcap hcm
  have hfm' : f.length ≤ 9223372036854775807 := by unfold maxLen at hfm; omega
  have HB := Lib.hid hb
  clear hb
  by_cases hlt : 100000 < f.length
  · have d0 : (100000 : Int) < (f.length : Int) := by omega
    go_enter Try.func5, Try.ntmps5
    go_wp2_with ((with_reducible refine (shown_any w).mono ?_); rintro _ w1 ⟨rfl, hb1⟩)
    go_ret
    exact ⟨rfl, hb1⟩
  · have d0 : ¬ (100000 : Int) < (f.length : Int) := by omega
    have hl : f.length ≤ 1000001 := by omega
    go_enter Try.func5, Try.ntmps5
    go_wp2_with (first
      | ((with_reducible refine (shown_any w).mono ?_); rintro _ w1 ⟨rfl, hb1⟩)
      | ((with_reducible refine (may_any a cap f s w1 hl hcap hcm hs (HB.out.below hb1)).mono ?_); rintro _ w2 ⟨rfl, hb2⟩; have hw2 := Lib.hid (hb1.trans (hb2.mono hb1.size)))
      | ((with_reducible refine (rmay_any a cap f s w2 hl hcap hcm hs (HB.out.below hw2.out)).mono ?_); rintro _ w3 ⟨rfl, hb3⟩; have hw3 := Lib.hid (hw2.out.trans (hb3.mono hw2.out.size))))
    go_ret
    exact ⟨ret_bool (by simp), hw3.out⟩

/-- What a call that makes bytes leaves. -/
def MadeB (w : World) (F : List UInt8) (e : Ending) (w' : World) : Prop := ∃ v, e = .returned v ∧ w'.ownsRow w.heap.size 5 1 v F.length (cells8 F) ∧ Below w.heap.size w w'
theorem MadeB.open {w w' : World} {F : List UInt8} {e : Ending} (h : MadeB w F e w') (hF : 0 < F.length) :
    ∃ g c, e = .returned (.slice (some ⟨g, 0, none⟩) F.length c) ∧ F.length ≤ c ∧ c ≤ maxLen ∧ Bytes w' (some ⟨g, 0, none⟩) F ∧ Below w.heap.size w w' := by
  obtain ⟨v, he, ho, hb⟩ := h
  obtain ⟨g, c, rfl, hg⟩ := ho.form hF
  obtain ⟨_, h1, h2, _, h3⟩ := bytes_owns ho
  exact ⟨g, c, he, h1, h2, h3, hb⟩
theorem mkf_pos (ks : List ByteArray) (b : Int) : 0 < (mkf ks b).length := by unfold mkf; simp

/-- The conversion's run, at every later world. -/
def RunS (w : World) (g c : Nat) (F : List UInt8) : Prop := (convert 32 9 (.slice (some ⟨g, 0, none⟩) F.length c)).run Try.prog w = .ok (.string ⟨F.toArray⟩) w
theorem runS_of {w : World} {g c : Nat} {F : List UInt8} (h : Bytes w (some ⟨g, 0, none⟩) F) : RunS w g c F := to_string_run w 32 9 5 _ F c Try.underlying32 Try.underlying5 Try.underlying9 h

set_option maxRecDepth 100000 in
set_option maxHeartbeats 1600000 in
theorem law_makes (a : Option Addr) (cap : Nat) (ks : List ByteArray) (b : Int) (w : World) (hcap : ks.length ≤ cap) (hcm : cap ≤ maxLen) (hb : -9223372036854775808 ≤ b ∧ b ≤ 9223372036854775807) (hs : Strs w a ks) :
    Calls Try.prog 4 #[.slice a ks.length cap, .int .i64 b] w fun e w' => e = .returned (.bool true) ∧ Below w.heap.size w w' := by
  have HFW := Lib.hid (fun w => few_any a cap ks w hcap hcm)
  have hsX := hs.take 10000
  have hXl : (ks.take 10000).length ≤ 10000 := by simp; omega
  generalize ks.take 10000 = X at *
  have HMK : Hid (∀ w', Below w.heap.size w w' → Calls Try.prog 17 #[.slice a X.length cap, .int .i64 b] w' (MadeB w' (mkf X b))) := Lib.hid (fun w' h => make_any a cap X b w' hXl hb (hsX.below h))
  have HRK : Hid (∀ w', Below w.heap.size w w' → Calls Try.prog 19 #[.slice a X.length cap, .int .i64 b] w' (MadeB w' (mkf X b))) := Lib.hid (fun w' h => rmake_any a cap X b w' hXl hb (hsX.below h))
  have hF := mkf_pos X b
  generalize mkf X b = F at *
  clear hs hsX hXl hcap hcm hb
  go_enter Try.func4, Try.ntmps4
  go_wp2
  refine wp_region_held_drew (S := (fun w' => Below w.heap.size w w')) (by kernel_rfl) ?_ (fun hS0 => ?_)
  · exact (Below.refl _ _).drew
  refine wpAnyH_ready (rs := [0]) (by kernel_rfl) (by simp) (AllReadyH.cons (o := { dst := some 5, op := Op.call { callee := Callee.value (Operand.func 16), args := #[], argTypes := #[] }, type := 4, pos := "law.go:20", after := #[], guard := none }) rfl (fun K hK => ?_) AllReadyH.nil)
  go_simp
  refine (shown_any _).mono ?_
  rintro _ w1 ⟨rfl, hb1⟩
  (try dsimp only)
  refine Shut.out hK _ _ ?_ (fun hS0 => ?_)
  · exact Below.trans (Below.refl _ _).drew (hb1.mono (Nat.le_refl _))
  clear hK K
  (try simp only [Act.put, List.setIfInBounds_toArray, List.set_cons_zero, List.set_cons_succ])
  refine wpAnyH_take (i := 1) (oi := { dst := some 6, op := Op.move (Operand.tmp 5), type := 4, pos := "law.go:20", after := #[{ on := 0, ground := Ground.data }, { on := 0, ground := Ground.chain }], guard := none }) (v := ?_) rfl (by kernel_rfl) (by kernel_rfl) (by kernel_rfl) (fun _ _ _ h => h) (Or.inl ⟨by rfl, ?hy1⟩) (by assumption) ?_
  case hy1 => (intro w hSw; (try dsimp only at hSw); go_simp; try with_reducible rfl)
  (try simp only [Act.put, List.setIfInBounds_toArray, List.set_cons_zero, List.set_cons_succ])
  refine wpAnyH_take (i := 2) (oi := { dst := some 7, op := Op.move (Operand.tmp 0), type := 31, pos := "law.go:20", after := #[{ on := 1, ground := Ground.guard }], guard := some (1, true) }) (v := ?_) rfl (by kernel_rfl) (by kernel_rfl) (by kernel_rfl) (fun _ _ _ h => h) (Or.inl ⟨by rfl, ?hy2⟩) (by assumption) ?_
  case hy2 => (intro w hSw; (try dsimp only at hSw); go_simp; try with_reducible rfl)
  (try simp only [Act.put, List.setIfInBounds_toArray, List.set_cons_zero, List.set_cons_succ])
  refine wpAnyH_take (i := 4) (oi := { dst := some 9, op := Op.move (Operand.tmp 1), type := 3, pos := "law.go:20", after := #[{ on := 1, ground := Ground.guard }], guard := some (1, true) }) (v := ?_) rfl (by kernel_rfl) (by kernel_rfl) (by kernel_rfl) (fun _ _ _ h => h) (Or.inl ⟨by rfl, ?hy3⟩) (by assumption) ?_
  case hy3 => (intro w hSw; (try dsimp only at hSw); go_simp; try with_reducible rfl)
  (try simp only [Act.put, List.setIfInBounds_toArray, List.set_cons_zero, List.set_cons_succ])
  refine wpAnyH_take (i := 7) (oi := { dst := some 12, op := Op.move (Operand.tmp 0), type := 31, pos := "law.go:20", after := #[{ on := 1, ground := Ground.guard }], guard := some (1, true) }) (v := ?_) rfl (by kernel_rfl) (by kernel_rfl) (by kernel_rfl) (fun _ _ _ h => h) (Or.inl ⟨by rfl, ?hy4⟩) (by assumption) ?_
  case hy4 => (intro w hSw; (try dsimp only at hSw); go_simp; try with_reducible rfl)
  (try simp only [Act.put, List.setIfInBounds_toArray, List.set_cons_zero, List.set_cons_succ])
  refine wpAnyH_take (i := 9) (oi := { dst := some 14, op := Op.move (Operand.tmp 1), type := 3, pos := "law.go:20", after := #[{ on := 1, ground := Ground.guard }], guard := some (1, true) }) (v := ?_) rfl (by kernel_rfl) (by kernel_rfl) (by kernel_rfl) (fun _ _ _ h => h) (Or.inl ⟨by rfl, ?hy5⟩) (by assumption) ?_
  case hy5 => (intro w hSw; (try dsimp only at hSw); go_simp; try with_reducible rfl)
  (try simp only [Act.put, List.setIfInBounds_toArray, List.set_cons_zero, List.set_cons_succ])
  refine wpAnyH_ready (rs := [3]) (by kernel_rfl) (by simp) (AllReadyH.cons (o := { dst := some 8, op := Op.call { callee := Callee.value (Operand.func 18), args := #[Operand.tmp 7], argTypes := #[31] }, type := 31, pos := "law.go:20", after := #[{ on := 2, ground := Ground.data }, { on := 1, ground := Ground.chain }, { on := 1, ground := Ground.guard }], guard := some (1, true) }) rfl (fun K hK => ?_) AllReadyH.nil)
  go_simp
  refine (HFW.out _).mono ?_
  rintro _ _ ⟨rfl, rfl⟩
  (try dsimp only)
  refine Shut.out hK _ _ ?_ (fun hS3 => ?_)
  · assumption
  clear hK K
  (try simp only [Act.put, List.setIfInBounds_toArray, List.set_cons_zero, List.set_cons_succ])
  refine wpAnyH_ready (rs := [5]) (by kernel_rfl) (by simp) (AllReadyH.cons (o := { dst := some 10, op := Op.call { callee := Callee.value (Operand.func 17), args := #[Operand.tmp 8, Operand.tmp 9], argTypes := #[31, 3] }, type := 32, pos := "law.go:20", after := #[{ on := 3, ground := Ground.data }, { on := 4, ground := Ground.data }, { on := 3, ground := Ground.chain }, { on := 1, ground := Ground.guard }], guard := some (1, true) }) rfl (fun K hK => ?_) AllReadyH.nil)
  go_simp
  refine (HMK.out _ (by assumption)).mono ?_
  intro e2 w2 hm2
  obtain ⟨g2, c2, rfl, hl2, hc2, hB2, hb2⟩ := hm2.open hF
  (try dsimp only)
  refine Shut.out hK _ _ ?_ (fun hS5 => ?_)
  · exact hS3.trans (hb2.mono hS3.size)
  clear hK K
  (try simp only [Act.put, List.setIfInBounds_toArray, List.set_cons_zero, List.set_cons_succ])
  refine wpAnyH_change (S2 := (fun w' => Below w.heap.size w w' ∧ (convert 32 9 (.slice (some ⟨g2, 0, none⟩) F.length c2)).run Try.prog w' = .ok (.string ⟨F.toArray⟩) w')) (fun w' h => h.1) _ _ _ _ ?_
  have hT5 := And.intro hS5 (runS_of hB2 : RunS w2 g2 c2 F)
  refine wpAnyH_take (i := 6) (oi := { dst := some 11, op := Op.convert 32 9 (Operand.tmp 10), type := 9, pos := "law.go:20", after := #[{ on := 5, ground := Ground.data }, { on := 1, ground := Ground.guard }], guard := some (1, true) }) (v := ?_) rfl (by kernel_rfl) (by kernel_rfl) (by kernel_rfl) (fun _ _ _ h => h) (Or.inl ⟨by rfl, ?hy6⟩) (by assumption) ?_
  case hy6 => (intro w hSw; (try dsimp only at hSw); go_simp; try with_reducible rfl)
  (try simp only [Act.put, List.setIfInBounds_toArray, List.set_cons_zero, List.set_cons_succ])
  refine wpAnyH_ready (rs := [8]) (by kernel_rfl) (by simp) (AllReadyH.cons (o := { dst := some 13, op := Op.call { callee := Callee.value (Operand.func 18), args := #[Operand.tmp 12], argTypes := #[31] }, type := 31, pos := "law.go:20", after := #[{ on := 7, ground := Ground.data }, { on := 5, ground := Ground.chain }, { on := 1, ground := Ground.guard }], guard := some (1, true) }) rfl (fun K hK => ?_) AllReadyH.nil)
  go_simp
  refine (HFW.out _).mono ?_
  rintro _ _ ⟨rfl, rfl⟩
  (try dsimp only)
  refine Shut.out hK _ _ ?_ (fun hS8 => ?_)
  · exact ⟨hS5, hT5.2⟩
  clear hK K
  (try simp only [Act.put, List.setIfInBounds_toArray, List.set_cons_zero, List.set_cons_succ])
  refine wpAnyH_ready (rs := [10]) (by kernel_rfl) (by simp) (AllReadyH.cons (o := { dst := some 15, op := Op.call { callee := Callee.value (Operand.func 19), args := #[Operand.tmp 13, Operand.tmp 14], argTypes := #[31, 3] }, type := 32, pos := "law.go:20", after := #[{ on := 8, ground := Ground.data }, { on := 9, ground := Ground.data }, { on := 8, ground := Ground.chain }, { on := 1, ground := Ground.guard }], guard := some (1, true) }) rfl (fun K hK => ?_) AllReadyH.nil)
  go_simp
  refine (HRK.out _ hS5).mono ?_
  intro e3 w3 hm3
  obtain ⟨g3, c3, rfl, hl3, hc3, hB3, hb3⟩ := hm3.open hF
  (try dsimp only)
  refine Shut.out hK _ _ ?_ (fun hS10 => ?_)
  · exact ⟨hS5.trans (hb3.mono hS5.size), (runS_of (hB2.below hb3) : RunS w3 g2 c2 F)⟩
  clear hK K
  (try simp only [Act.put, List.setIfInBounds_toArray, List.set_cons_zero, List.set_cons_succ])
  refine wpAnyH_change (S2 := (fun w' => Below w.heap.size w w' ∧ (convert 32 9 (.slice (some ⟨g2, 0, none⟩) F.length c2)).run Try.prog w' = .ok (.string ⟨F.toArray⟩) w' ∧ (convert 32 9 (.slice (some ⟨g3, 0, none⟩) F.length c3)).run Try.prog w' = .ok (.string ⟨F.toArray⟩) w')) (fun w' h => ⟨h.1, h.2.1⟩) _ _ _ _ ?_
  have hT10 := And.intro hS10.1 (And.intro hS10.2 (runS_of hB3 : RunS w3 g3 c3 F))
  refine wpAnyH_take (i := 11) (oi := { dst := some 16, op := Op.convert 32 9 (Operand.tmp 15), type := 9, pos := "law.go:20", after := #[{ on := 10, ground := Ground.data }, { on := 1, ground := Ground.guard }], guard := some (1, true) }) (v := ?_) rfl (by kernel_rfl) (by kernel_rfl) (by kernel_rfl) (fun _ _ _ h => h) (Or.inl ⟨by rfl, ?hy7⟩) (by assumption) ?_
  case hy7 => (intro w hSw; (try dsimp only at hSw); go_simp; try with_reducible rfl)
  (try simp only [Act.put, List.setIfInBounds_toArray, List.set_cons_zero, List.set_cons_succ])
  refine wpAnyH_take (i := 12) (oi := { dst := some 17, op := Op.binOp BinOp.eql 9 (Operand.tmp 11) (Operand.tmp 16) 9, type := 4, pos := "law.go:20", after := #[{ on := 6, ground := Ground.data }, { on := 11, ground := Ground.data }, { on := 1, ground := Ground.guard }], guard := some (1, true) }) (v := ?_) rfl (by kernel_rfl) (by kernel_rfl) (by kernel_rfl) (fun _ _ _ h => h) (Or.inl ⟨by rfl, ?hy8⟩) (by assumption) ?_
  case hy8 => (intro w hSw; (try dsimp only at hSw); go_simp; try with_reducible rfl)
  (try simp only [Act.put, List.setIfInBounds_toArray, List.set_cons_zero, List.set_cons_succ])
  refine wpAnyH_take (i := 13) (oi := { dst := some 18, op := Op.pick (Operand.tmp 6) (Operand.tmp 17) (Operand.const (Value.bool false)), type := 4, pos := "law.go:20", after := #[{ on := 1, ground := Ground.data }, { on := 12, ground := Ground.data }], guard := none }) (v := ?_) rfl (by kernel_rfl) (by kernel_rfl) (by kernel_rfl) (fun _ _ _ h => h) (Or.inl ⟨by rfl, ?hy9⟩) (by assumption) ?_
  case hy9 => (intro w hSw; (try dsimp only at hSw); go_simp; try with_reducible rfl)
  (try simp only [Act.put, List.setIfInBounds_toArray, List.set_cons_zero, List.set_cons_succ])
  refine wpAnyH_take (i := 14) (oi := { dst := some 4, op := Op.assign (Operand.tmp 18), type := 4, pos := "law.go:20", after := #[{ on := 13, ground := Ground.data }, { on := 10, ground := Ground.chain }, { on := 0, ground := Ground.phase }, { on := 1, ground := Ground.phase }, { on := 2, ground := Ground.phase }, { on := 3, ground := Ground.phase }, { on := 4, ground := Ground.phase }, { on := 5, ground := Ground.phase }, { on := 6, ground := Ground.phase }, { on := 7, ground := Ground.phase }, { on := 8, ground := Ground.phase }, { on := 9, ground := Ground.phase }, { on := 10, ground := Ground.phase }, { on := 11, ground := Ground.phase }, { on := 12, ground := Ground.phase }, { on := 13, ground := Ground.phase }], guard := none }) (v := ?_) rfl (by kernel_rfl) (by kernel_rfl) (by kernel_rfl) (fun _ _ _ h => h) (Or.inl ⟨by rfl, ?hy10⟩) (by assumption) ?_
  case hy10 => (intro w hSw; (try dsimp only at hSw); go_simp; try with_reducible rfl)
  (try simp only [Act.put, List.setIfInBounds_toArray, List.set_cons_zero, List.set_cons_succ])
  refine wpAnyH_done (by kernel_rfl) ?_ _
  all_goals
    go_wp2
    go_ret
    exact ⟨rfl, hT10.1⟩
end Go.Proofs.Ytogihaiedemdhaa

/-
  StreamTwice.
-/
import Derived.Test.YtogihaiedemdhaaSt11
namespace Go.Proofs.Ytogihaiedemdhaa
open Go.RowKit Go.ChangeShapes Go.WideShapes Go.ChangeAt
set_option linter.unusedVariables false

theorem xor_back (a k : UInt8) : (a ^^^ k) ^^^ k = a := by rw [UInt8.xor_assoc, UInt8.xor_self, UInt8.xor_zero]
theorem crossF_twice (key nonce : List UInt8) (count : Nat) (l : List UInt8) : crossF key nonce count (crossF key nonce count l) = l := by
  apply List.ext_getElem (by rw [crossF_length, crossF_length])
  intro i h1 h2
  rw [crossF_get _ _ _ _ _ (by rw [crossF_length]; exact h2), crossF_get _ _ _ _ _ h2, xor_back]
def RunN (w : World) (a : Option Addr) (n c : Nat) (l : List UInt8) : Prop := (convert 32 9 (.slice a n c)).run Try.prog w = .ok (.string ⟨l.toArray⟩) w
theorem runN_of {w : World} {a : Option Addr} {n c : Nat} {l : List UInt8} (h : BA w a c l) (hn : l.length = n) : RunN w a n c l := by
  subst hn
  exact to_string_run w 32 9 5 _ l c Try.underlying32 Try.underlying5 Try.underlying9 h.2.2.2.2
theorem BA.drew {w : World} {a : Option Addr} {cap : Nat} {l : List UInt8} (h : BA w a cap l) : BA w.drew a cap l := h

set_option maxRecDepth 100000 in
set_option maxHeartbeats 1600000 in
theorem law_twice (key nonce : List UInt8) (count : Nat) (a1 : Option Addr) (cap1 : Nat) (l1 : List UInt8) (w : World) (hk : key.length = 32) (hn : nonce.length = 12) (hc : count < 4294967296) (h1 : BA w a1 cap1 l1) :
    Calls Try.prog 10 #[.agg (placeCells key nonce count).toArray, .slice a1 l1.length cap1] w fun e w' => e = .returned (.bool true) ∧ Below w.heap.size w w' := by
  have HC1 : Hid (∀ w', Below w.heap.size w w' → Calls Try.prog 22 #[.agg (cells8 key).toArray, .agg (cells8 nonce).toArray, .int .u32 count, .slice a1 l1.length cap1] w' fun e w'' => ∃ g c, e = .returned (.slice (some ⟨g, 0, none⟩) l1.length c) ∧ Hid (w''.ownsRow w'.heap.size 5 1 (.slice (some ⟨g, 0, none⟩) l1.length c) l1.length (cells8 (crossF key nonce count l1)) ∧ BA w'' (some ⟨g, 0, none⟩) c (crossF key nonce count l1)) ∧ Below w'.heap.size w' w'') := Lib.hid (fun w' h => cross_ba key nonce count a1 cap1 l1 w' hk hn hc (h1.below h))
  have HC2 : Hid (∀ w' a c, BA w' a c (crossF key nonce count l1) → Calls Try.prog 22 #[.agg (cells8 key).toArray, .agg (cells8 nonce).toArray, .int .u32 count, .slice a l1.length c] w' fun e w'' => ∃ g c, e = .returned (.slice (some ⟨g, 0, none⟩) l1.length c) ∧ BA w'' (some ⟨g, 0, none⟩) c l1 ∧ Below w'.heap.size w' w'') := Lib.hid (fun w' a c h => by
    have h3 := cross_ba key nonce count a c (crossF key nonce count l1) w' hk hn hc h
    rw [crossF_twice, crossF_length] at h3
    refine h3.mono ?_
    rintro _ w'' ⟨g, c, rfl, hh, hb⟩
    exact ⟨g, c, rfl, hh.out.2, hb⟩)
  have HFL := Lib.hid (crossF_length key nonce count l1)
  generalize crossF key nonce count l1 = F at *
  obtain ⟨pb, hK⟩ : ∃ pb, w.heap.size = pb := ⟨_, rfl⟩
  have HP0 := Lib.hid (PL.start key nonce count w hk hn)
  have HI32 : Hid (some 32 = some (cells8 key).length) := Lib.hid (by rw [cells8_length, hk])
  have HI12 : Hid (some 12 = some (cells8 nonce).length) := Lib.hid (by rw [cells8_length, hn])
  rw [hK] at HP0
  have HB1 := Lib.hid h1
  have hm1 : l1.length ≤ 140737488351232 := h1.2.2.1
  obtain ⟨n1, hn1⟩ : ∃ n1, l1.length = n1 := ⟨_, rfl⟩
  rw [hn1] at hm1 HC1 HC2 HFL ⊢
  have HN1 := Lib.hid hn1
  clear hk hn h1 hn1
  generalize placeCells key nonce count = pc at *
  go_enter Try.func10, Try.ntmps10
  have hc0 := HP0.out.2.2.1
  go_wp2_with (first
    | (refine wpList_load_mid rfl 22 _ rfl pb 0 (by rfl) (cells8 key) _ HP0.out.1 Try.underlying22 rfl (info32.trans HI32.out) ?_)
    | (refine wpList_load_mid rfl 23 _ rfl pb 32 (by rfl) (cells8 nonce) _ HP0.out.2.1 Try.underlying23 rfl (info12.trans HI12.out) ?_)
    | ((with_reducible refine (HC1.out _ HP0.out.bel).mono ?_); rintro _ w2 ⟨g1, c1, rfl, hx1, hb2⟩; have HP2 := Lib.hid (HP0.out.later hb2); clear HP0 hc0))
  have HX1 := Lib.hid hx1.out.2
  have hS : PL w pb key nonce count w2 ∧ BA w2 (some ⟨g1, 0, none⟩) c1 F := ⟨HP2.out, HX1.out⟩
  clear hx1 HP2 HX1 hb2
  refine wp_region_held_drew (S := (fun w' => w'.rangeAt pb 0 (cells8 key) ∧ w'.rangeAt pb 32 (cells8 nonce) ∧ w'.cell? ⟨pb, 44, none⟩ = some (.int .u32 (count : Nat)) ∧ Below w.heap.size w w' ∧ (convert 32 9 (.slice a1 n1 cap1)).run Try.prog w' = .ok (.string ⟨l1.toArray⟩) w' ∧ BA w' (some ⟨g1, 0, none⟩) c1 F)) (by kernel_rfl) ?_ (fun hS0 => ?_)
  · exact ⟨hS.1.1, hS.1.2.1, hS.1.2.2.1, hS.1.2.2.2.drew, (runN_of (HB1.out.below hS.1.2.2.2.drew) HN1.out : RunN w2.drew a1 n1 cap1 l1), hS.2.drew⟩
  refine wpAnyH_ready (rs := [0]) (by kernel_rfl) (by simp) (AllReadyH.cons (o := { dst := some 14, op := Op.call { callee := Callee.value (Operand.func 13), args := #[], argTypes := #[] }, type := 4, pos := "law.go:46", after := #[], guard := none }) rfl (fun K hK => ?_) AllReadyH.nil)
  go_simp
  refine (sshown_any _).mono ?_
  rintro _ w3 ⟨rfl, hb3⟩
  (try dsimp only)
  refine Shut.out hK _ _ ?_ (fun hS0 => ?_)
  · have hL := PL.later (w0 := w) (show PL w pb key nonce count _ from ⟨hS0.1, hS0.2.1, hS0.2.2.1, hS0.2.2.2.1⟩) hb3; exact ⟨hL.1, hL.2.1, hL.2.2.1, hL.2.2.2, (runN_of (HB1.out.below hL.bel) HN1.out : RunN w3 a1 n1 cap1 l1), hS0.2.2.2.2.2.below hb3⟩
  clear hK K
  (try simp only [Act.put, List.setIfInBounds_toArray, List.set_cons_zero, List.set_cons_succ])
  refine wpAnyH_take (i := 1) (oi := { dst := some 15, op := Op.move (Operand.tmp 14), type := 4, pos := "law.go:46", after := #[{ on := 0, ground := Ground.data }, { on := 0, ground := Ground.chain }], guard := none }) (v := ?_) rfl (by kernel_rfl) (by kernel_rfl) (by kernel_rfl) (fun _ _ _ h => h) (Or.inl ⟨by rfl, ?hy1⟩) (by assumption) ?_
  case hy1 => (intro w hSw; (try dsimp only at hSw); go_simp; try with_reducible rfl)
  (try simp only [Act.put, List.setIfInBounds_toArray, List.set_cons_zero, List.set_cons_succ])
  refine wpAnyH_take (i := 2) (oi := { dst := some 16, op := Op.move (Operand.tmp 5), type := 32, pos := "law.go:46", after := #[{ on := 1, ground := Ground.guard }], guard := some (1, true) }) (v := ?_) rfl (by kernel_rfl) (by kernel_rfl) (by kernel_rfl) (fun _ _ _ h => h) (Or.inl ⟨by rfl, ?hy2⟩) (by assumption) ?_
  case hy2 => (intro w hSw; (try dsimp only at hSw); go_simp; try with_reducible rfl)
  (try simp only [Act.put, List.setIfInBounds_toArray, List.set_cons_zero, List.set_cons_succ])
  refine wpAnyH_take (i := 3) (oi := { dst := some 17, op := Op.call { callee := Callee.builtin Builtin.len, args := #[Operand.tmp 16], argTypes := #[32] }, type := 3, pos := "law.go:46", after := #[{ on := 2, ground := Ground.data }, { on := 1, ground := Ground.guard }], guard := some (1, true) }) (v := ?_) rfl (by kernel_rfl) (by kernel_rfl) (by kernel_rfl) (fun _ _ _ h => h) (Or.inl ⟨by rfl, ?hy3⟩) (by assumption) ?_
  case hy3 => (intro w hSw; (try dsimp only at hSw); go_simp; try with_reducible rfl)
  (try simp only [Act.put, List.setIfInBounds_toArray, List.set_cons_zero, List.set_cons_succ])
  refine wpAnyH_take (i := 4) (oi := { dst := some 18, op := Op.move (Operand.tmp 1), type := 32, pos := "law.go:46", after := #[{ on := 1, ground := Ground.guard }], guard := some (1, true) }) (v := ?_) rfl (by kernel_rfl) (by kernel_rfl) (by kernel_rfl) (fun _ _ _ h => h) (Or.inl ⟨by rfl, ?hy4⟩) (by assumption) ?_
  case hy4 => (intro w hSw; (try dsimp only at hSw); go_simp; try with_reducible rfl)
  (try simp only [Act.put, List.setIfInBounds_toArray, List.set_cons_zero, List.set_cons_succ])
  refine wpAnyH_take (i := 5) (oi := { dst := some 19, op := Op.call { callee := Callee.builtin Builtin.len, args := #[Operand.tmp 18], argTypes := #[32] }, type := 3, pos := "law.go:46", after := #[{ on := 4, ground := Ground.data }, { on := 1, ground := Ground.guard }], guard := some (1, true) }) (v := ?_) rfl (by kernel_rfl) (by kernel_rfl) (by kernel_rfl) (fun _ _ _ h => h) (Or.inl ⟨by rfl, ?hy5⟩) (by assumption) ?_
  case hy5 => (intro w hSw; (try dsimp only at hSw); go_simp; try with_reducible rfl)
  (try simp only [Act.put, List.setIfInBounds_toArray, List.set_cons_zero, List.set_cons_succ])
  refine wpAnyH_take (i := 6) (oi := { dst := some 20, op := Op.binOp BinOp.eql 3 (Operand.tmp 17) (Operand.tmp 19) 3, type := 4, pos := "law.go:46", after := #[{ on := 3, ground := Ground.data }, { on := 5, ground := Ground.data }, { on := 1, ground := Ground.guard }], guard := some (1, true) }) (v := ?_) rfl (by kernel_rfl) (by kernel_rfl) (by kernel_rfl) (fun _ _ _ h => h) (Or.inl ⟨by rfl, ?hy6⟩) (by assumption) ?_
  case hy6 => (intro w hSw; (try dsimp only at hSw); go_simp; try with_reducible rfl)
  (try simp only [Act.put, List.setIfInBounds_toArray, List.set_cons_zero, List.set_cons_succ])
  refine wpAnyH_take (i := 7) (oi := { dst := some 21, op := Op.pick (Operand.tmp 15) (Operand.tmp 20) (Operand.const (Value.bool false)), type := 4, pos := "law.go:46", after := #[{ on := 1, ground := Ground.data }, { on := 6, ground := Ground.data }], guard := none }) (v := ?_) rfl (by kernel_rfl) (by kernel_rfl) (by kernel_rfl) (fun _ _ _ h => h) (Or.inl ⟨by rfl, ?hy7⟩) (by assumption) ?_
  case hy7 => (intro w hSw; (try dsimp only at hSw); go_simp; try with_reducible rfl)
  (try simp only [Act.put, List.setIfInBounds_toArray, List.set_cons_zero, List.set_cons_succ])
  refine wpAnyH_take (i := 8) (oi := { dst := some 22, op := Op.move (Operand.tmp 21), type := 4, pos := "law.go:46", after := #[{ on := 7, ground := Ground.data }, { on := 1, ground := Ground.chain }], guard := none }) (v := ?_) rfl (by kernel_rfl) (by kernel_rfl) (by kernel_rfl) (fun _ _ _ h => h) (Or.inl ⟨by rfl, ?hy8⟩) (by assumption) ?_
  case hy8 => (intro w hSw; (try dsimp only at hSw); go_simp; try with_reducible rfl)
  (try simp only [Act.put, List.setIfInBounds_toArray, List.set_cons_zero, List.set_cons_succ])
  refine wpAnyH_take (i := 9) (oi := { dst := some 23, op := Op.fieldAddr 26 (Operand.tmp 2) 0, type := 0, pos := "law.go:46", after := #[{ on := 8, ground := Ground.guard }], guard := some (8, true) }) (v := ?_) rfl (by kernel_rfl) (by kernel_rfl) (by kernel_rfl) (fun _ _ _ h => h) (Or.inl ⟨by rfl, ?hy9⟩) (by assumption) ?_
  case hy9 => (intro w hSw; (try dsimp only at hSw); go_simp; try with_reducible rfl)
  (try simp only [Act.put, List.setIfInBounds_toArray, List.set_cons_zero, List.set_cons_succ])
  refine wpAnyH_take (i := 10) (oi := { dst := some 24, op := Op.load 22 (Operand.tmp 23), type := 22, pos := "law.go:46", after := #[{ on := 9, ground := Ground.data }, { on := 8, ground := Ground.guard }], guard := some (8, true) }) (v := _) rfl (by kernel_rfl) (by kernel_rfl) (by kernel_rfl) (fun _ _ _ h => h) (yieldsIf_load_mid (by rfl) 22 _ rfl pb 0 (by rfl) (cells8 key) _ (fun w' hw' => hw'.1) Try.underlying22 rfl (info32.trans HI32.out)) (by assumption) ?_
  (try simp only [Act.put, List.setIfInBounds_toArray, List.set_cons_zero, List.set_cons_succ])
  refine wpAnyH_take (i := 11) (oi := { dst := some 25, op := Op.fieldAddr 26 (Operand.tmp 2) 1, type := 0, pos := "law.go:46", after := #[{ on := 8, ground := Ground.guard }], guard := some (8, true) }) (v := ?_) rfl (by kernel_rfl) (by kernel_rfl) (by kernel_rfl) (fun _ _ _ h => h) (Or.inl ⟨by rfl, ?hy11⟩) (by assumption) ?_
  case hy11 => (intro w hSw; (try dsimp only at hSw); go_simp; try with_reducible rfl)
  (try simp only [Act.put, List.setIfInBounds_toArray, List.set_cons_zero, List.set_cons_succ])
  refine wpAnyH_take (i := 12) (oi := { dst := some 26, op := Op.load 23 (Operand.tmp 25), type := 23, pos := "law.go:46", after := #[{ on := 11, ground := Ground.data }, { on := 8, ground := Ground.guard }], guard := some (8, true) }) (v := _) rfl (by kernel_rfl) (by kernel_rfl) (by kernel_rfl) (fun _ _ _ h => h) (yieldsIf_load_mid (by rfl) 23 _ rfl pb 32 (by rfl) (cells8 nonce) _ (fun w' hw' => hw'.2.1) Try.underlying23 rfl (info12.trans HI12.out)) (by assumption) ?_
  (try simp only [Act.put, List.setIfInBounds_toArray, List.set_cons_zero, List.set_cons_succ])
  refine wpAnyH_take (i := 13) (oi := { dst := some 27, op := Op.fieldAddr 26 (Operand.tmp 2) 2, type := 0, pos := "law.go:46", after := #[{ on := 8, ground := Ground.guard }], guard := some (8, true) }) (v := ?_) rfl (by kernel_rfl) (by kernel_rfl) (by kernel_rfl) (fun _ _ _ h => h) (Or.inl ⟨by rfl, ?hy13⟩) (by assumption) ?_
  case hy13 => (intro w hSw; (try dsimp only at hSw); go_simp; try with_reducible rfl)
  (try simp only [Act.put, List.setIfInBounds_toArray, List.set_cons_zero, List.set_cons_succ])
  refine wpAnyH_take (i := 14) (oi := { dst := some 28, op := Op.load 24 (Operand.tmp 27), type := 24, pos := "law.go:46", after := #[{ on := 13, ground := Ground.data }, { on := 8, ground := Ground.guard }], guard := some (8, true) }) (v := ?_) rfl (by kernel_rfl) (by kernel_rfl) (by kernel_rfl) (fun _ _ _ h => h) (Or.inl ⟨by rfl, ?hy14⟩) (by assumption) ?_
  case hy14 => (intro w hSw; (try dsimp only at hSw); go_simp; try with_reducible rfl)
  (try simp only [Act.put, List.setIfInBounds_toArray, List.set_cons_zero, List.set_cons_succ])
  refine wpAnyH_take (i := 15) (oi := { dst := some 29, op := Op.move (Operand.tmp 5), type := 32, pos := "law.go:46", after := #[{ on := 8, ground := Ground.guard }], guard := some (8, true) }) (v := ?_) rfl (by kernel_rfl) (by kernel_rfl) (by kernel_rfl) (fun _ _ _ h => h) (Or.inl ⟨by rfl, ?hy15⟩) (by assumption) ?_
  case hy15 => (intro w hSw; (try dsimp only at hSw); go_simp; try with_reducible rfl)
  (try simp only [Act.put, List.setIfInBounds_toArray, List.set_cons_zero, List.set_cons_succ])
  refine wpAnyH_take (i := 18) (oi := { dst := some 32, op := Op.move (Operand.tmp 1), type := 32, pos := "law.go:46", after := #[{ on := 8, ground := Ground.guard }], guard := some (8, true) }) (v := ?_) rfl (by kernel_rfl) (by kernel_rfl) (by kernel_rfl) (fun _ _ _ h => h) (Or.inl ⟨by rfl, ?hy16⟩) (by assumption) ?_
  case hy16 => (intro w hSw; (try dsimp only at hSw); go_simp; try with_reducible rfl)
  (try simp only [Act.put, List.setIfInBounds_toArray, List.set_cons_zero, List.set_cons_succ])
  refine wpAnyH_take (i := 19) (oi := { dst := some 33, op := Op.convert 32 9 (Operand.tmp 32), type := 9, pos := "law.go:46", after := #[{ on := 18, ground := Ground.data }, { on := 8, ground := Ground.guard }], guard := some (8, true) }) (v := ?_) rfl (by kernel_rfl) (by kernel_rfl) (by kernel_rfl) (fun _ _ _ h => h) (Or.inl ⟨by rfl, ?hy17⟩) (by assumption) ?_
  case hy17 => (intro w hSw; (try dsimp only at hSw); go_simp; try with_reducible rfl)
  (try simp only [Act.put, List.setIfInBounds_toArray, List.set_cons_zero, List.set_cons_succ])
  refine wpAnyH_ready (rs := [16]) (by kernel_rfl) (by simp) (AllReadyH.cons (o := { dst := some 30, op := Op.call { callee := Callee.value (Operand.func 22), args := #[Operand.tmp 24, Operand.tmp 26, Operand.tmp 28, Operand.tmp 29], argTypes := #[22, 23, 24, 32] }, type := 32, pos := "law.go:46", after := #[{ on := 10, ground := Ground.data }, { on := 12, ground := Ground.data }, { on := 14, ground := Ground.data }, { on := 15, ground := Ground.data }, { on := 8, ground := Ground.chain }, { on := 8, ground := Ground.guard }], guard := some (8, true) }) rfl (fun K hK => ?_) AllReadyH.nil)
  go_simp
  refine (HC2.out _ _ _ hS0.2.2.2.2.2).mono ?_
  rintro _ w4 ⟨g2, c2, rfl, hx2, hb4⟩
  (try dsimp only)
  refine Shut.out hK _ _ ?_ (fun hS16 => ?_)
  · have hL := PL.later (w0 := w) (show PL w pb key nonce count _ from ⟨hS0.1, hS0.2.1, hS0.2.2.1, hS0.2.2.2.1⟩) hb4; exact ⟨hL.1, hL.2.1, hL.2.2.1, hL.2.2.2, (runN_of (HB1.out.below hL.bel) HN1.out : RunN w4 a1 n1 cap1 l1), hS0.2.2.2.2.2.below hb4⟩
  clear hK K
  (try simp only [Act.put, List.setIfInBounds_toArray, List.set_cons_zero, List.set_cons_succ])
  refine wpAnyH_change (S2 := (fun w' => w'.rangeAt pb 0 (cells8 key) ∧ w'.rangeAt pb 32 (cells8 nonce) ∧ w'.cell? ⟨pb, 44, none⟩ = some (.int .u32 (count : Nat)) ∧ Below w.heap.size w w' ∧ (convert 32 9 (.slice a1 n1 cap1)).run Try.prog w' = .ok (.string ⟨l1.toArray⟩) w' ∧ BA w' (some ⟨g1, 0, none⟩) c1 F ∧ (convert 32 9 (.slice (some ⟨g2, 0, none⟩) n1 c2)).run Try.prog w' = .ok (.string ⟨l1.toArray⟩) w')) (fun w' h => ⟨h.1, h.2.1, h.2.2.1, h.2.2.2.1, h.2.2.2.2.1, h.2.2.2.2.2.1⟩) _ _ _ _ ?_
  have hT16 := (⟨hS16.1, hS16.2.1, hS16.2.2.1, hS16.2.2.2.1, hS16.2.2.2.2.1, hS16.2.2.2.2.2, (runN_of hx2 HN1.out : RunN w4 (some ⟨g2, 0, none⟩) n1 c2 l1)⟩ : (fun w' => w'.rangeAt pb 0 (cells8 key) ∧ w'.rangeAt pb 32 (cells8 nonce) ∧ w'.cell? ⟨pb, 44, none⟩ = some (.int .u32 (count : Nat)) ∧ Below w.heap.size w w' ∧ (convert 32 9 (.slice a1 n1 cap1)).run Try.prog w' = .ok (.string ⟨l1.toArray⟩) w' ∧ BA w' (some ⟨g1, 0, none⟩) c1 F ∧ (convert 32 9 (.slice (some ⟨g2, 0, none⟩) n1 c2)).run Try.prog w' = .ok (.string ⟨l1.toArray⟩) w') w4)
  refine wpAnyH_take (i := 17) (oi := { dst := some 31, op := Op.convert 32 9 (Operand.tmp 30), type := 9, pos := "law.go:46", after := #[{ on := 16, ground := Ground.data }, { on := 8, ground := Ground.guard }], guard := some (8, true) }) (v := ?_) rfl (by kernel_rfl) (by kernel_rfl) (by kernel_rfl) (fun _ _ _ h => h) (Or.inl ⟨by rfl, ?hy18⟩) (by assumption) ?_
  case hy18 => (intro w hSw; (try dsimp only at hSw); go_simp; try with_reducible rfl)
  (try simp only [Act.put, List.setIfInBounds_toArray, List.set_cons_zero, List.set_cons_succ])
  refine wpAnyH_take (i := 20) (oi := { dst := some 34, op := Op.binOp BinOp.eql 9 (Operand.tmp 31) (Operand.tmp 33) 9, type := 4, pos := "law.go:46", after := #[{ on := 17, ground := Ground.data }, { on := 19, ground := Ground.data }, { on := 8, ground := Ground.guard }], guard := some (8, true) }) (v := ?_) rfl (by kernel_rfl) (by kernel_rfl) (by kernel_rfl) (fun _ _ _ h => h) (Or.inl ⟨by rfl, ?hy19⟩) (by assumption) ?_
  case hy19 => (intro w hSw; (try dsimp only at hSw); go_simp; try with_reducible rfl)
  (try simp only [Act.put, List.setIfInBounds_toArray, List.set_cons_zero, List.set_cons_succ])
  refine wpAnyH_take (i := 21) (oi := { dst := some 35, op := Op.pick (Operand.tmp 22) (Operand.tmp 34) (Operand.const (Value.bool false)), type := 4, pos := "law.go:46", after := #[{ on := 8, ground := Ground.data }, { on := 20, ground := Ground.data }], guard := none }) (v := ?_) rfl (by kernel_rfl) (by kernel_rfl) (by kernel_rfl) (fun _ _ _ h => h) (Or.inl ⟨by rfl, ?hy20⟩) (by assumption) ?_
  case hy20 => (intro w hSw; (try dsimp only at hSw); go_simp; try with_reducible rfl)
  (try simp only [Act.put, List.setIfInBounds_toArray, List.set_cons_zero, List.set_cons_succ])
  refine wpAnyH_take (i := 22) (oi := { dst := some 4, op := Op.assign (Operand.tmp 35), type := 4, pos := "law.go:46", after := #[{ on := 21, ground := Ground.data }, { on := 16, ground := Ground.chain }, { on := 0, ground := Ground.phase }, { on := 1, ground := Ground.phase }, { on := 2, ground := Ground.phase }, { on := 3, ground := Ground.phase }, { on := 4, ground := Ground.phase }, { on := 5, ground := Ground.phase }, { on := 6, ground := Ground.phase }, { on := 7, ground := Ground.phase }, { on := 8, ground := Ground.phase }, { on := 9, ground := Ground.phase }, { on := 10, ground := Ground.phase }, { on := 11, ground := Ground.phase }, { on := 12, ground := Ground.phase }, { on := 13, ground := Ground.phase }, { on := 14, ground := Ground.phase }, { on := 15, ground := Ground.phase }, { on := 16, ground := Ground.phase }, { on := 17, ground := Ground.phase }, { on := 18, ground := Ground.phase }, { on := 19, ground := Ground.phase }, { on := 20, ground := Ground.phase }, { on := 21, ground := Ground.phase }], guard := none }) (v := ?_) rfl (by kernel_rfl) (by kernel_rfl) (by kernel_rfl) (fun _ _ _ h => h) (Or.inl ⟨by rfl, ?hy21⟩) (by assumption) ?_
  case hy21 => (intro w hSw; (try dsimp only at hSw); go_simp; try with_reducible rfl)
  (try simp only [Act.put, List.setIfInBounds_toArray, List.set_cons_zero, List.set_cons_succ])
  refine wpAnyH_done (by kernel_rfl) ?_ _
  all_goals
    go_wp2
    go_ret
    exact ⟨rfl, hT16.2.2.2.1⟩
end Go.Proofs.Ytogihaiedemdhaa

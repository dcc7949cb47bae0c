/-
  StreamBlocks.
-/
import Derived.Test.YtogihaiedemdhaaSt7
namespace Go.Proofs.Ytogihaiedemdhaa
open Go.RowKit
set_option linter.unusedVariables false

theorem rangeAt_later {w w' : World} {b o : Nat} {cs : List Value} (h : w.rangeAt b o cs) (hb : Below w.heap.size w w') : w'.rangeAt b o cs := by
  intro j v hv
  have h1 := h j v hv
  rw [hb.cell (p := ⟨b, o + j, none⟩) (cell_lt h1)]
  exact h1
theorem yieldsIf_eql {P : Program} {ops : Array Oper} {S : World → Prop} {op : Oper} {a : Act} {t t' : TypeId} {x y : Operand} {A : Array Value} (hw : Region.wanted op (yielded ops a.tmps) = true) (ho : op.op = .binOp .eql t x y t')
    (hx : a.eval x = .agg A) (hy : a.eval y = .agg A) (hm : P.eqGuardType P.depth t = false) (hr : ∀ w, (binOp .eql t (.agg A) (.agg A)).run P w = .ok (.bool true) w) : YieldsIf P ops S op (.bool true) a :=
  .inl ⟨hw, fun w _ => by
    have hg := run_eqGuard_agg (P := P) w .eql t x y A A hm
    unfold execOp
    simp only [ho, hx, hy, Sem.run_bind, hg, Result.andThen_ok, hr w, Sem.run_pure]⟩
theorem eql64 (l : List UInt8) (hl : l.length = 64) (w : World) : (binOp .eql 28 (.agg (cells8 l).toArray) (.agg (cells8 l).toArray)).run Try.prog w = .ok (.bool true) w := by
  have := run_eql_bytes (P := Try.prog) w 28 5 64 Try.underlying28 Try.underlying5 (fun w => by kernel_rfl) l l hl hl
  rw [show (l == l) = true by simp] at this
  exact this
theorem place_ranges {w : World} {K : Nat} {T : TypeId} {key nonce : List UInt8} {count : Nat} (h : w.heap[K]? = some (.cells (placeCells key nonce count).toArray T (0, 0))) (hk : key.length = 32) (hn : nonce.length = 12) :
    w.rangeAt K 0 (cells8 key) ∧ w.rangeAt K 32 (cells8 nonce) ∧ w.cell? ⟨K, 44, none⟩ = some (.int .u32 (count : Nat)) := by
  have hc := fun i => cell_of_row w K i _ T (0, 0) h
  refine ⟨fun j v hv => ?_, fun j v hv => ?_, ?_⟩
  · have hj := (List.getElem?_eq_some_iff.1 hv).1
    rw [Nat.zero_add, hc]
    simp only [placeCells, List.getElem?_toArray]
    rw [List.getElem?_append_left hj]
    exact hv
  · have hj := (List.getElem?_eq_some_iff.1 hv).1
    rw [hc]
    simp only [placeCells, List.getElem?_toArray]
    rw [List.getElem?_append_right (by rw [cells8_length, hk]; omega), cells8_length, hk, show 32 + j - 32 = j by omega, List.getElem?_append_left hj]
    exact hv
  · rw [hc]
    simp only [placeCells, List.getElem?_toArray]
    rw [List.getElem?_append_right (by rw [cells8_length, hk]; omega), cells8_length, hk, List.getElem?_append_right (by rw [cells8_length, hn]; omega), cells8_length, hn]
    rfl

set_option maxRecDepth 100000 in
set_option maxHeartbeats 1600000 in
theorem law_blocks (key nonce : List UInt8) (count : Nat) (w : World) (hk : key.length = 32) (hn : nonce.length = 12) (hc : count < 4294967296) :
    Calls Try.prog 3 #[.agg (placeCells key nonce count).toArray] w fun e w' => e = .returned (.bool true) ∧ Below w.heap.size w w' := by
  have HCB : Hid (∀ w', Calls Try.prog 14 #[.agg (cells8 key).toArray, .agg (cells8 nonce).toArray, .int .u32 count] w' fun e w'' => e = .returned (.agg (cells8 (blk key nonce count)).toArray) ∧ Below w'.heap.size w' w'') := Lib.hid (fun w' => block_any key nonce count w' hk hn hc)
  have HRB : Hid (∀ w', Calls Try.prog 15 #[.agg (cells8 key).toArray, .agg (cells8 nonce).toArray, .int .u32 count] w' fun e w'' => e = .returned (.agg (cells8 (blk key nonce count)).toArray) ∧ Below w'.heap.size w' w'') := Lib.hid (fun w' => rblock_any key nonce count w' hk hn hc)
  have HEQ := Lib.hid (eql64 (blk key nonce count) (blk_length _ _ _))
  generalize blk key nonce count = bl at *
  obtain ⟨pb, hK⟩ : ∃ pb, w.heap.size = pb := ⟨_, rfl⟩
  have hP0 := place_ranges (w := w.alloc (.cells (placeCells key nonce count).toArray 26)) (K := pb) (heap_at' hK) hk hn
  have HP0 := Lib.hid (And.intro hP0.1 (And.intro hP0.2.1 (And.intro hP0.2.2 ((Below.refl w.heap.size w).alloc (Nat.le_refl _) (Obj.cells (placeCells key nonce count).toArray 26)))))
  have HI32 : Hid (some 32 = some (cells8 key).length) := Lib.hid (by rw [cells8_length, hk])
  have HI12 : Hid (some 12 = some (cells8 nonce).length) := Lib.hid (by rw [cells8_length, hn])
  clear hP0 hk hn
  generalize placeCells key nonce count = pc at *
  go_enter Try.func3, Try.ntmps3
  go_wp2
  obtain ⟨wo, hwo⟩ : ∃ wo, w.alloc (Obj.cells pc.toArray 26) = wo := ⟨_, rfl⟩
  rw [hwo] at HP0 ⊢
  clear hwo
  have hS := HP0.out
  clear HP0 hK
  refine wp_region_held_drew (S := (fun w' => w'.rangeAt pb 0 (cells8 key) ∧ w'.rangeAt pb 32 (cells8 nonce) ∧ w'.cell? ⟨pb, 44, none⟩ = some (.int .u32 (count : Nat)) ∧ Below w.heap.size w w')) (by kernel_rfl) ?_ (fun hS0 => ?_)
  · exact ⟨hS.1, hS.2.1, hS.2.2.1, hS.2.2.2.drew⟩
  refine wpAnyH_ready (rs := [0]) (by kernel_rfl) (by simp) (AllReadyH.cons (o := { dst := some 3, op := Op.call { callee := Callee.value (Operand.func 13), args := #[], argTypes := #[] }, type := 4, pos := "law.go:28", after := #[], guard := none }) rfl (fun K hK => ?_) AllReadyH.nil)
  go_simp
  refine (sshown_any _).mono ?_
  rintro _ w1 ⟨rfl, hb1⟩
  (try dsimp only)
  refine Shut.out hK _ _ ?_ (fun hS0 => ?_)
  · exact ⟨rangeAt_later hS0.1 hb1, rangeAt_later hS0.2.1 hb1, by rw [hb1.cell (p := ⟨pb, 44, none⟩) (cell_lt hS0.2.2.1)]; exact hS0.2.2.1, hS0.2.2.2.trans (hb1.mono hS0.2.2.2.size)⟩
  clear hK K
  (try simp only [Act.put, List.setIfInBounds_toArray, List.set_cons_zero, List.set_cons_succ])
  refine wpAnyH_take (i := 1) (oi := { dst := some 4, op := Op.move (Operand.tmp 3), type := 4, pos := "law.go:28", after := #[{ on := 0, ground := Ground.data }, { on := 0, ground := Ground.chain }], guard := none }) (v := ?_) rfl (by kernel_rfl) (by kernel_rfl) (by kernel_rfl) (fun _ _ _ h => h) (Or.inl ⟨by rfl, ?hy1⟩) (by assumption) ?_
  case hy1 => (intro w hSw; (try dsimp only at hSw); go_simp; try with_reducible rfl)
  (try simp only [Act.put, List.setIfInBounds_toArray, List.set_cons_zero, List.set_cons_succ])
  refine wpAnyH_take (i := 2) (oi := { dst := some 5, op := Op.fieldAddr 26 (Operand.tmp 1) 0, type := 0, pos := "law.go:28", after := #[{ on := 1, ground := Ground.guard }], guard := some (1, true) }) (v := ?_) rfl (by kernel_rfl) (by kernel_rfl) (by kernel_rfl) (fun _ _ _ h => h) (Or.inl ⟨by rfl, ?hy2⟩) (by assumption) ?_
  case hy2 => (intro w hSw; (try dsimp only at hSw); go_simp; try with_reducible rfl)
  (try simp only [Act.put, List.setIfInBounds_toArray, List.set_cons_zero, List.set_cons_succ])
  refine wpAnyH_take (i := 3) (oi := { dst := some 6, op := Op.load 22 (Operand.tmp 5), type := 22, pos := "law.go:28", after := #[{ on := 2, ground := Ground.data }, { on := 1, ground := Ground.guard }], guard := some (1, true) }) (v := _) rfl (by kernel_rfl) (by kernel_rfl) (by kernel_rfl) (fun _ _ _ h => h) (yieldsIf_load_mid (by rfl) 22 _ rfl pb 0 (by rfl) (cells8 key) _ (fun w' hw' => hw'.1) Try.underlying22 rfl (info32.trans HI32.out)) (by assumption) ?_
  (try simp only [Act.put, List.setIfInBounds_toArray, List.set_cons_zero, List.set_cons_succ])
  refine wpAnyH_take (i := 4) (oi := { dst := some 7, op := Op.fieldAddr 26 (Operand.tmp 1) 1, type := 0, pos := "law.go:28", after := #[{ on := 1, ground := Ground.guard }], guard := some (1, true) }) (v := ?_) rfl (by kernel_rfl) (by kernel_rfl) (by kernel_rfl) (fun _ _ _ h => h) (Or.inl ⟨by rfl, ?hy4⟩) (by assumption) ?_
  case hy4 => (intro w hSw; (try dsimp only at hSw); go_simp; try with_reducible rfl)
  (try simp only [Act.put, List.setIfInBounds_toArray, List.set_cons_zero, List.set_cons_succ])
  refine wpAnyH_take (i := 5) (oi := { dst := some 8, op := Op.load 23 (Operand.tmp 7), type := 23, pos := "law.go:28", after := #[{ on := 4, ground := Ground.data }, { on := 1, ground := Ground.guard }], guard := some (1, true) }) (v := _) rfl (by kernel_rfl) (by kernel_rfl) (by kernel_rfl) (fun _ _ _ h => h) (yieldsIf_load_mid (by rfl) 23 _ rfl pb 32 (by rfl) (cells8 nonce) _ (fun w' hw' => hw'.2.1) Try.underlying23 rfl (info12.trans HI12.out)) (by assumption) ?_
  (try simp only [Act.put, List.setIfInBounds_toArray, List.set_cons_zero, List.set_cons_succ])
  refine wpAnyH_take (i := 6) (oi := { dst := some 9, op := Op.fieldAddr 26 (Operand.tmp 1) 2, type := 0, pos := "law.go:28", after := #[{ on := 1, ground := Ground.guard }], guard := some (1, true) }) (v := ?_) rfl (by kernel_rfl) (by kernel_rfl) (by kernel_rfl) (fun _ _ _ h => h) (Or.inl ⟨by rfl, ?hy6⟩) (by assumption) ?_
  case hy6 => (intro w hSw; (try dsimp only at hSw); go_simp; try with_reducible rfl)
  (try simp only [Act.put, List.setIfInBounds_toArray, List.set_cons_zero, List.set_cons_succ])
  refine wpAnyH_take (i := 7) (oi := { dst := some 10, op := Op.load 24 (Operand.tmp 9), type := 24, pos := "law.go:28", after := #[{ on := 6, ground := Ground.data }, { on := 1, ground := Ground.guard }], guard := some (1, true) }) (v := ?_) rfl (by kernel_rfl) (by kernel_rfl) (by kernel_rfl) (fun _ _ _ h => h) (Or.inl ⟨by rfl, ?hy7⟩) (by assumption) ?_
  case hy7 => (intro w hSw; (try dsimp only at hSw); go_simp; try with_reducible rfl)
  (try simp only [Act.put, List.setIfInBounds_toArray, List.set_cons_zero, List.set_cons_succ])
  refine wpAnyH_take (i := 9) (oi := { dst := some 12, op := Op.fieldAddr 26 (Operand.tmp 1) 0, type := 0, pos := "law.go:28", after := #[{ on := 1, ground := Ground.guard }], guard := some (1, true) }) (v := ?_) rfl (by kernel_rfl) (by kernel_rfl) (by kernel_rfl) (fun _ _ _ h => h) (Or.inl ⟨by rfl, ?hy8⟩) (by assumption) ?_
  case hy8 => (intro w hSw; (try dsimp only at hSw); go_simp; try with_reducible rfl)
  (try simp only [Act.put, List.setIfInBounds_toArray, List.set_cons_zero, List.set_cons_succ])
  refine wpAnyH_take (i := 10) (oi := { dst := some 13, op := Op.load 22 (Operand.tmp 12), type := 22, pos := "law.go:28", after := #[{ on := 9, ground := Ground.data }, { on := 1, ground := Ground.guard }], guard := some (1, true) }) (v := _) rfl (by kernel_rfl) (by kernel_rfl) (by kernel_rfl) (fun _ _ _ h => h) (yieldsIf_load_mid (by rfl) 22 _ rfl pb 0 (by rfl) (cells8 key) _ (fun w' hw' => hw'.1) Try.underlying22 rfl (info32.trans HI32.out)) (by assumption) ?_
  (try simp only [Act.put, List.setIfInBounds_toArray, List.set_cons_zero, List.set_cons_succ])
  refine wpAnyH_take (i := 11) (oi := { dst := some 14, op := Op.fieldAddr 26 (Operand.tmp 1) 1, type := 0, pos := "law.go:28", after := #[{ on := 1, ground := Ground.guard }], guard := some (1, true) }) (v := ?_) rfl (by kernel_rfl) (by kernel_rfl) (by kernel_rfl) (fun _ _ _ h => h) (Or.inl ⟨by rfl, ?hy10⟩) (by assumption) ?_
  case hy10 => (intro w hSw; (try dsimp only at hSw); go_simp; try with_reducible rfl)
  (try simp only [Act.put, List.setIfInBounds_toArray, List.set_cons_zero, List.set_cons_succ])
  refine wpAnyH_take (i := 12) (oi := { dst := some 15, op := Op.load 23 (Operand.tmp 14), type := 23, pos := "law.go:28", after := #[{ on := 11, ground := Ground.data }, { on := 1, ground := Ground.guard }], guard := some (1, true) }) (v := _) rfl (by kernel_rfl) (by kernel_rfl) (by kernel_rfl) (fun _ _ _ h => h) (yieldsIf_load_mid (by rfl) 23 _ rfl pb 32 (by rfl) (cells8 nonce) _ (fun w' hw' => hw'.2.1) Try.underlying23 rfl (info12.trans HI12.out)) (by assumption) ?_
  (try simp only [Act.put, List.setIfInBounds_toArray, List.set_cons_zero, List.set_cons_succ])
  refine wpAnyH_take (i := 13) (oi := { dst := some 16, op := Op.fieldAddr 26 (Operand.tmp 1) 2, type := 0, pos := "law.go:28", after := #[{ on := 1, ground := Ground.guard }], guard := some (1, true) }) (v := ?_) rfl (by kernel_rfl) (by kernel_rfl) (by kernel_rfl) (fun _ _ _ h => h) (Or.inl ⟨by rfl, ?hy12⟩) (by assumption) ?_
  case hy12 => (intro w hSw; (try dsimp only at hSw); go_simp; try with_reducible rfl)
  (try simp only [Act.put, List.setIfInBounds_toArray, List.set_cons_zero, List.set_cons_succ])
  refine wpAnyH_take (i := 14) (oi := { dst := some 17, op := Op.load 24 (Operand.tmp 16), type := 24, pos := "law.go:28", after := #[{ on := 13, ground := Ground.data }, { on := 1, ground := Ground.guard }], guard := some (1, true) }) (v := ?_) rfl (by kernel_rfl) (by kernel_rfl) (by kernel_rfl) (fun _ _ _ h => h) (Or.inl ⟨by rfl, ?hy13⟩) (by assumption) ?_
  case hy13 => (intro w hSw; (try dsimp only at hSw); go_simp; try with_reducible rfl)
  (try simp only [Act.put, List.setIfInBounds_toArray, List.set_cons_zero, List.set_cons_succ])
  refine wpAnyH_ready (rs := [8]) (by kernel_rfl) (by simp) (AllReadyH.cons (o := { dst := some 11, op := Op.call { callee := Callee.value (Operand.func 14), args := #[Operand.tmp 6, Operand.tmp 8, Operand.tmp 10], argTypes := #[22, 23, 24] }, type := 28, pos := "law.go:28", after := #[{ on := 3, ground := Ground.data }, { on := 5, ground := Ground.data }, { on := 7, ground := Ground.data }, { on := 1, ground := Ground.chain }, { on := 1, ground := Ground.guard }], guard := some (1, true) }) rfl (fun K hK => ?_) AllReadyH.nil)
  go_simp
  refine (HCB.out _).mono ?_
  rintro _ w2 ⟨rfl, hb2⟩
  (try dsimp only)
  refine Shut.out hK _ _ ?_ (fun hS8 => ?_)
  · exact ⟨rangeAt_later hS0.1 hb2, rangeAt_later hS0.2.1 hb2, by rw [hb2.cell (p := ⟨pb, 44, none⟩) (cell_lt hS0.2.2.1)]; exact hS0.2.2.1, hS0.2.2.2.trans (hb2.mono hS0.2.2.2.size)⟩
  clear hK K
  (try simp only [Act.put, List.setIfInBounds_toArray, List.set_cons_zero, List.set_cons_succ])
  refine wpAnyH_ready (rs := [15]) (by kernel_rfl) (by simp) (AllReadyH.cons (o := { dst := some 18, op := Op.call { callee := Callee.value (Operand.func 15), args := #[Operand.tmp 13, Operand.tmp 15, Operand.tmp 17], argTypes := #[22, 23, 24] }, type := 28, pos := "law.go:28", after := #[{ on := 10, ground := Ground.data }, { on := 12, ground := Ground.data }, { on := 14, ground := Ground.data }, { on := 8, ground := Ground.chain }, { on := 1, ground := Ground.guard }], guard := some (1, true) }) rfl (fun K hK => ?_) AllReadyH.nil)
  go_simp
  refine (HRB.out _).mono ?_
  rintro _ w3 ⟨rfl, hb3⟩
  (try dsimp only)
  refine Shut.out hK _ _ ?_ (fun hS15 => ?_)
  · exact ⟨rangeAt_later hS8.1 hb3, rangeAt_later hS8.2.1 hb3, by rw [hb3.cell (p := ⟨pb, 44, none⟩) (cell_lt hS8.2.2.1)]; exact hS8.2.2.1, hS8.2.2.2.trans (hb3.mono hS8.2.2.2.size)⟩
  clear hK K
  (try simp only [Act.put, List.setIfInBounds_toArray, List.set_cons_zero, List.set_cons_succ])
  refine wpAnyH_take (i := 16) (oi := { dst := some 19, op := Op.binOp BinOp.eql 28 (Operand.tmp 11) (Operand.tmp 18) 28, type := 4, pos := "law.go:28", after := #[{ on := 8, ground := Ground.data }, { on := 15, ground := Ground.data }, { on := 1, ground := Ground.guard }], guard := some (1, true) }) (v := _) rfl (by kernel_rfl) (by kernel_rfl) (by kernel_rfl) (fun _ _ _ h => h) (yieldsIf_eql (by rfl) rfl (by rfl) (by rfl) Try.eqGuardType28 HEQ.out) (by assumption) ?_
  (try simp only [Act.put, List.setIfInBounds_toArray, List.set_cons_zero, List.set_cons_succ])
  refine wpAnyH_take (i := 17) (oi := { dst := some 20, op := Op.pick (Operand.tmp 4) (Operand.tmp 19) (Operand.const (Value.bool false)), type := 4, pos := "law.go:28", after := #[{ on := 1, ground := Ground.data }, { on := 16, ground := Ground.data }], guard := none }) (v := ?_) rfl (by kernel_rfl) (by kernel_rfl) (by kernel_rfl) (fun _ _ _ h => h) (Or.inl ⟨by rfl, ?hy15⟩) (by assumption) ?_
  case hy15 => (intro w hSw; (try dsimp only at hSw); go_simp; try with_reducible rfl)
  (try simp only [Act.put, List.setIfInBounds_toArray, List.set_cons_zero, List.set_cons_succ])
  refine wpAnyH_take (i := 18) (oi := { dst := some 2, op := Op.assign (Operand.tmp 20), type := 4, pos := "law.go:28", after := #[{ on := 17, ground := Ground.data }, { on := 15, ground := Ground.chain }, { on := 0, ground := Ground.phase }, { on := 1, ground := Ground.phase }, { on := 2, ground := Ground.phase }, { on := 3, ground := Ground.phase }, { on := 4, ground := Ground.phase }, { on := 5, ground := Ground.phase }, { on := 6, ground := Ground.phase }, { on := 7, ground := Ground.phase }, { on := 8, ground := Ground.phase }, { on := 9, ground := Ground.phase }, { on := 10, ground := Ground.phase }, { on := 11, ground := Ground.phase }, { on := 12, ground := Ground.phase }, { on := 13, ground := Ground.phase }, { on := 14, ground := Ground.phase }, { on := 15, ground := Ground.phase }, { on := 16, ground := Ground.phase }, { on := 17, ground := Ground.phase }], guard := none }) (v := ?_) rfl (by kernel_rfl) (by kernel_rfl) (by kernel_rfl) (fun _ _ _ h => h) (Or.inl ⟨by rfl, ?hy16⟩) (by assumption) ?_
  case hy16 => (intro w hSw; (try dsimp only at hSw); go_simp; try with_reducible rfl)
  (try simp only [Act.put, List.setIfInBounds_toArray, List.set_cons_zero, List.set_cons_succ])
  refine wpAnyH_done (by kernel_rfl) ?_ _
  all_goals
    go_wp2
    go_ret
    exact ⟨rfl, hS15.2.2.2⟩
end Go.Proofs.Ytogihaiedemdhaa

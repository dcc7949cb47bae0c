/-
  'alike': both disks, in all that can be seen.
-/
import Derived.Test.YtjojomjnbiakoaaRd9
import Derived.Laws.BitsAllLaws
namespace Go.Proofs.Ytjojomjnbiakoaa
open Go.RowKit Go.Maps
set_option linter.unusedVariables false
theorem xor8 (c d : UInt8) : bits BinOp.xor IntKind.u8 (c.toNat : Nat) (d.toNat : Nat) = ((c ^^^ d).toNat : Nat) := by
  rw [u8_xor_nat _ _ c.toNat_lt d.toNat_lt, UInt8.toNat_xor]
theorem cells8_set (l : List UInt8) (i : Nat) (c : UInt8) : (cells8 l).set i (.int .u8 (c.toNat : Nat)) = cells8 (l.set i c) := by
  simp [cells8, List.map_set]
set_option maxRecDepth 100000 in
set_option maxHeartbeats 3200000 in
theorem alike_any (bd bm bw : Nat) (A : DM) (w : World) (hn : A.fs.length ≤ 1000000) (ht : tot A.fs ≤ 1099511627776) (h1 : DiskSt w bd bm A) (h2 : RefSt w bw A) :
    Calls Try.prog 25 #[.pointer (some ⟨bd, 0, none⟩), .pointer (some ⟨bw, 0, none⟩)] w fun e w' => e = .returned (.bool true) ∧ Below w.heap.size w w' := by
  have HD := Lib.hid h1
  have HR := Lib.hid h2
  have HN1 := Lib.hid (names_any bd bm A w hn h1)
  have HNN := Lib.hid hn
  have HTT := Lib.hid ht
  obtain ⟨x, c, hrb⟩ := h2.open
  have HRB := Lib.hid hrb
  obtain ⟨n, hnn⟩ : ∃ n, A.fs.length = n := ⟨_, rfl⟩
  have HLN := Lib.hid hnn
  rw [hnn] at HN1 hn
  clear h1 h2 hnn hrb
  go_enter Try.func25, Try.ntmps25
  go_wp2_with fail
  refine HN1.out.mono ?_
  rintro _ w1 ⟨x1, c1, rfl, hs1, hb1⟩
  have HS1 := Lib.hid hs1
  have HB1 := Lib.hid hb1
  clear hs1 hb1 HN1
  have KS : Hid (∀ w', Below w1.heap.size w1 w' → (w'.cell? ⟨bw, 0, none⟩ = some (.slice x n c) ∧ w'.cell? ⟨bw, 2, none⟩ = some (.bool A.dead) ∧ w'.cell? ⟨bw, 4, none⟩ = some (.int .i64 (A.done : Nat)) ∧ Below w1.heap.size w1 w')) := Lib.hid (fun w' hb => by
    have hq := (HRB.out.later (HB1.out.trans (hb.mono HB1.out.size))).cells.1
    rw [HLN.out] at hq
    exact ⟨hq.1, hq.2.2.1, hq.2.2.2.2, hb⟩)
  have HZ1 := Lib.hid (fun (w' : World) (hb : Below w1.heap.size w1 w') => size_any bd bm A w' HNN.out HTT.out (HD.out.later (HB1.out.trans (hb.mono HB1.out.size))))
  have HZ2 := Lib.hid (fun (w' : World) (hb : Below w1.heap.size w1 w') => rsize_any bw A w' HNN.out HTT.out (HR.out.later (HB1.out.trans (hb.mono HB1.out.size))))
  have HZ3 : Hid (∀ (w' : World) (hb : Below w1.heap.size w1 w'), Calls Try.prog 17 #[.pointer (some ⟨bd, 0, none⟩)] w' fun e w'' => e = .returned (.bool A.dead) ∧ Below w'.heap.size w' w'') := Lib.hid (fun w' hb => (dead_any bd bm A w' (HD.out.later (HB1.out.trans (hb.mono HB1.out.size)))).mono (by rintro _ _ ⟨rfl, rfl⟩; exact ⟨rfl, Below.refl _ _⟩))
  have HZ4 : Hid (∀ (w' : World) (hb : Below w1.heap.size w1 w'), Calls Try.prog 16 #[.pointer (some ⟨bd, 0, none⟩)] w' fun e w'' => e = .returned (.int .i64 (A.done : Nat)) ∧ Below w'.heap.size w' w'') := Lib.hid (fun w' hb => (done_any bd bm A w' (HD.out.later (HB1.out.trans (hb.mono HB1.out.size)))).mono (by rintro _ _ ⟨rfl, rfl⟩; exact ⟨rfl, Below.refl _ _⟩))
  go_upto_region 2 with (fail)
  go_cut [46] (fun q wx => q = .bool false ∧ Hid (Below w1.heap.size w1 wx))
  case first =>
    refine wp_region_held_drew (S := (fun w' => w'.cell? ⟨bw, 0, none⟩ = some (.slice x n c) ∧ w'.cell? ⟨bw, 2, none⟩ = some (.bool A.dead) ∧ w'.cell? ⟨bw, 4, none⟩ = some (.int .i64 (A.done : Nat)) ∧ Below w1.heap.size w1 w')) (by kernel_rfl) ?_ (fun hS0 => ?_)
    · exact KS.out _ (Below.refl _ _).drew
    refine wpAnyH_take (i := 0) (oi := { dst := some 14, op := Op.move (Operand.tmp 5), type := 54, pos := "law.go:90", after := #[], guard := none }) (v := ?_) rfl (by kernel_rfl) (by kernel_rfl) (by kernel_rfl) (fun _ _ _ h => h) (Or.inl ⟨by rfl, ?hy1⟩) (by assumption) ?_
    case hy1 => (intro w hSw; (try dsimp only at hSw); go_simp; try with_reducible rfl)
    (try simp only [Act.put, List.setIfInBounds_toArray, List.set_cons_zero, List.set_cons_succ])
    refine wpAnyH_take (i := 1) (oi := { dst := some 15, op := Op.call { callee := Callee.builtin Builtin.len, args := #[Operand.tmp 14], argTypes := #[54] }, type := 3, pos := "law.go:90", after := #[{ on := 0, ground := Ground.data }], guard := none }) (v := ?_) rfl (by kernel_rfl) (by kernel_rfl) (by kernel_rfl) (fun _ _ _ h => h) (Or.inl ⟨by rfl, ?hy2⟩) (by assumption) ?_
    case hy2 => (intro w hSw; (try dsimp only at hSw); go_simp; try with_reducible rfl)
    (try simp only [Act.put, List.setIfInBounds_toArray, List.set_cons_zero, List.set_cons_succ])
    refine wpAnyH_take (i := 2) (oi := { dst := some 16, op := Op.move (Operand.tmp 1), type := 46, pos := "law.go:90", after := #[], guard := none }) (v := ?_) rfl (by kernel_rfl) (by kernel_rfl) (by kernel_rfl) (fun _ _ _ h => h) (Or.inl ⟨by rfl, ?hy3⟩) (by assumption) ?_
    case hy3 => (intro w hSw; (try dsimp only at hSw); go_simp; try with_reducible rfl)
    (try simp only [Act.put, List.setIfInBounds_toArray, List.set_cons_zero, List.set_cons_succ])
    refine wpAnyH_take (i := 3) (oi := { dst := some 17, op := Op.nilCheck (Operand.tmp 16), type := 0, pos := "law.go:90", after := #[{ on := 2, ground := Ground.data }], guard := none }) (v := ?_) rfl (by kernel_rfl) (by kernel_rfl) (by kernel_rfl) (fun _ _ _ h => h) (Or.inl ⟨by rfl, ?hy4⟩) (by assumption) ?_
    case hy4 => (intro w hSw; (try dsimp only at hSw); go_simp; try with_reducible rfl)
    (try simp only [Act.put, List.setIfInBounds_toArray, List.set_cons_zero, List.set_cons_succ])
    refine wpAnyH_take (i := 4) (oi := { dst := some 18, op := Op.fieldAddr 72 (Operand.tmp 17) 0, type := 0, pos := "law.go:90", after := #[{ on := 3, ground := Ground.data }], guard := none }) (v := ?_) rfl (by kernel_rfl) (by kernel_rfl) (by kernel_rfl) (fun _ _ _ h => h) (Or.inl ⟨by rfl, ?hy5⟩) (by assumption) ?_
    case hy5 => (intro w hSw; (try dsimp only at hSw); go_simp; try with_reducible rfl)
    (try simp only [Act.put, List.setIfInBounds_toArray, List.set_cons_zero, List.set_cons_succ])
    refine wpAnyH_take (i := 5) (oi := { dst := some 19, op := Op.load 70 (Operand.tmp 18), type := 70, pos := "law.go:90", after := #[{ on := 4, ground := Ground.data }], guard := none }) (v := ?_) rfl (by kernel_rfl) (by kernel_rfl) (by kernel_rfl) (fun _ _ _ h => h) (Or.inl ⟨by rfl, ?hy6⟩) (by assumption) ?_
    case hy6 => (intro w hSw; (try dsimp only at hSw); go_simp; try with_reducible rfl)
    (try simp only [Act.put, List.setIfInBounds_toArray, List.set_cons_zero, List.set_cons_succ])
    refine wpAnyH_take (i := 6) (oi := { dst := some 20, op := Op.call { callee := Callee.builtin Builtin.len, args := #[Operand.tmp 19], argTypes := #[70] }, type := 3, pos := "law.go:90", after := #[{ on := 5, ground := Ground.data }], guard := none }) (v := ?_) rfl (by kernel_rfl) (by kernel_rfl) (by kernel_rfl) (fun _ _ _ h => h) (Or.inl ⟨by rfl, ?hy7⟩) (by assumption) ?_
    case hy7 => (intro w hSw; (try dsimp only at hSw); go_simp; try with_reducible rfl)
    (try simp only [Act.put, List.setIfInBounds_toArray, List.set_cons_zero, List.set_cons_succ])
    refine wpAnyH_take (i := 7) (oi := { dst := some 21, op := Op.binOp BinOp.neq 3 (Operand.tmp 15) (Operand.tmp 20) 3, type := 4, pos := "law.go:90", after := #[{ on := 1, ground := Ground.data }, { on := 6, ground := Ground.data }], guard := none }) (v := ?_) rfl (by kernel_rfl) (by kernel_rfl) (by kernel_rfl) (fun _ _ _ h => h) (Or.inl ⟨by rfl, ?hy8⟩) (by assumption) ?_
    case hy8 => (intro w hSw; (try dsimp only at hSw); go_simp; try with_reducible rfl)
    (try simp only [Act.put, List.setIfInBounds_toArray, List.set_cons_zero, List.set_cons_succ])
    refine wpAnyH_take (i := 8) (oi := { dst := some 22, op := Op.move (Operand.tmp 21), type := 4, pos := "law.go:90", after := #[{ on := 7, ground := Ground.data }], guard := none }) (v := ?_) rfl (by kernel_rfl) (by kernel_rfl) (by kernel_rfl) (fun _ _ _ h => h) (Or.inl ⟨by rfl, ?hy9⟩) (by assumption) ?_
    case hy9 => (intro w hSw; (try dsimp only at hSw); go_simp; try with_reducible rfl)
    (try simp only [Act.put, List.setIfInBounds_toArray, List.set_cons_zero, List.set_cons_succ])
    refine wpAnyH_take (i := 9) (oi := { dst := some 23, op := Op.move (Operand.tmp 0), type := 24, pos := "law.go:90", after := #[{ on := 8, ground := Ground.guard }], guard := some (8, false) }) (v := ?_) rfl (by kernel_rfl) (by kernel_rfl) (by kernel_rfl) (fun _ _ _ h => h) (Or.inl ⟨by rfl, ?hy10⟩) (by assumption) ?_
    case hy10 => (intro w hSw; (try dsimp only at hSw); go_simp; try with_reducible rfl)
    (try simp only [Act.put, List.setIfInBounds_toArray, List.set_cons_zero, List.set_cons_succ])
    refine wpAnyH_take (i := 11) (oi := { dst := some 25, op := Op.move (Operand.tmp 1), type := 46, pos := "law.go:90", after := #[{ on := 8, ground := Ground.guard }], guard := some (8, false) }) (v := ?_) rfl (by kernel_rfl) (by kernel_rfl) (by kernel_rfl) (fun _ _ _ h => h) (Or.inl ⟨by rfl, ?hy11⟩) (by assumption) ?_
    case hy11 => (intro w hSw; (try dsimp only at hSw); go_simp; try with_reducible rfl)
    (try simp only [Act.put, List.setIfInBounds_toArray, List.set_cons_zero, List.set_cons_succ])
    refine wpAnyH_ready (rs := [10]) (by kernel_rfl) (by simp) (AllReadyH.cons (o := { dst := some 24, op := Op.call { callee := Callee.value (Operand.func 21), args := #[Operand.tmp 23], argTypes := #[24] }, type := 3, pos := "law.go:90", after := #[{ on := 9, ground := Ground.data }, { on := 8, ground := Ground.chain }, { on := 8, ground := Ground.guard }], guard := some (8, false) }) rfl (fun K hK => ?_) AllReadyH.nil)
    go_simp
    refine (HZ1.out _ hS0.2.2.2).mono ?_
    rintro _ w2 ⟨rfl, hb2⟩
    (try dsimp only)
    refine Shut.out hK _ _ ?_ (fun hS10 => ?_)
    · exact KS.out _ (hS0.2.2.2.trans (hb2.mono hS0.2.2.2.size))
    clear hK K
    (try simp only [Act.put, List.setIfInBounds_toArray, List.set_cons_zero, List.set_cons_succ])
    refine wpAnyH_ready (rs := [12]) (by kernel_rfl) (by simp) (AllReadyH.cons (o := { dst := some 26, op := Op.call { callee := Callee.value (Operand.func 43), args := #[Operand.tmp 25], argTypes := #[46] }, type := 3, pos := "law.go:90", after := #[{ on := 11, ground := Ground.data }, { on := 10, ground := Ground.chain }, { on := 8, ground := Ground.guard }], guard := some (8, false) }) rfl (fun K hK => ?_) AllReadyH.nil)
    go_simp
    refine (HZ2.out _ hS10.2.2.2).mono ?_
    rintro _ w3 ⟨rfl, hb3⟩
    (try dsimp only)
    refine Shut.out hK _ _ ?_ (fun hS12 => ?_)
    · exact KS.out _ (hS10.2.2.2.trans (hb3.mono hS10.2.2.2.size))
    clear hK K
    (try simp only [Act.put, List.setIfInBounds_toArray, List.set_cons_zero, List.set_cons_succ])
    refine wpAnyH_take (i := 13) (oi := { dst := some 27, op := Op.binOp BinOp.neq 3 (Operand.tmp 24) (Operand.tmp 26) 3, type := 4, pos := "law.go:90", after := #[{ on := 10, ground := Ground.data }, { on := 12, ground := Ground.data }, { on := 8, ground := Ground.guard }], guard := some (8, false) }) (v := ?_) rfl (by kernel_rfl) (by kernel_rfl) (by kernel_rfl) (fun _ _ _ h => h) (Or.inl ⟨by rfl, ?hy12⟩) (by assumption) ?_
    case hy12 => (intro w hSw; (try dsimp only at hSw); go_simp; try with_reducible rfl)
    (try simp only [Act.put, List.setIfInBounds_toArray, List.set_cons_zero, List.set_cons_succ])
    refine wpAnyH_take (i := 14) (oi := { dst := some 28, op := Op.pick (Operand.tmp 22) (Operand.const (Value.bool true)) (Operand.tmp 27), type := 4, pos := "law.go:90", after := #[{ on := 8, ground := Ground.data }, { on := 13, ground := Ground.data }], guard := none }) (v := ?_) rfl (by kernel_rfl) (by kernel_rfl) (by kernel_rfl) (fun _ _ _ h => h) (Or.inl ⟨by rfl, ?hy13⟩) (by assumption) ?_
    case hy13 => (intro w hSw; (try dsimp only at hSw); go_simp; try with_reducible rfl)
    (try simp only [Act.put, List.setIfInBounds_toArray, List.set_cons_zero, List.set_cons_succ])
    refine wpAnyH_take (i := 15) (oi := { dst := some 29, op := Op.move (Operand.tmp 28), type := 4, pos := "law.go:90", after := #[{ on := 14, ground := Ground.data }, { on := 12, ground := Ground.chain }], guard := none }) (v := ?_) rfl (by kernel_rfl) (by kernel_rfl) (by kernel_rfl) (fun _ _ _ h => h) (Or.inl ⟨by rfl, ?hy14⟩) (by assumption) ?_
    case hy14 => (intro w hSw; (try dsimp only at hSw); go_simp; try with_reducible rfl)
    (try simp only [Act.put, List.setIfInBounds_toArray, List.set_cons_zero, List.set_cons_succ])
    refine wpAnyH_take (i := 16) (oi := { dst := some 30, op := Op.move (Operand.tmp 0), type := 24, pos := "law.go:90", after := #[{ on := 15, ground := Ground.guard }], guard := some (15, false) }) (v := ?_) rfl (by kernel_rfl) (by kernel_rfl) (by kernel_rfl) (fun _ _ _ h => h) (Or.inl ⟨by rfl, ?hy15⟩) (by assumption) ?_
    case hy15 => (intro w hSw; (try dsimp only at hSw); go_simp; try with_reducible rfl)
    (try simp only [Act.put, List.setIfInBounds_toArray, List.set_cons_zero, List.set_cons_succ])
    refine wpAnyH_take (i := 18) (oi := { dst := some 32, op := Op.move (Operand.tmp 1), type := 46, pos := "law.go:90", after := #[{ on := 15, ground := Ground.guard }], guard := some (15, false) }) (v := ?_) rfl (by kernel_rfl) (by kernel_rfl) (by kernel_rfl) (fun _ _ _ h => h) (Or.inl ⟨by rfl, ?hy16⟩) (by assumption) ?_
    case hy16 => (intro w hSw; (try dsimp only at hSw); go_simp; try with_reducible rfl)
    (try simp only [Act.put, List.setIfInBounds_toArray, List.set_cons_zero, List.set_cons_succ])
    refine wpAnyH_take (i := 19) (oi := { dst := some 33, op := Op.nilCheck (Operand.tmp 32), type := 0, pos := "law.go:90", after := #[{ on := 18, ground := Ground.data }, { on := 15, ground := Ground.guard }], guard := some (15, false) }) (v := ?_) rfl (by kernel_rfl) (by kernel_rfl) (by kernel_rfl) (fun _ _ _ h => h) (Or.inl ⟨by rfl, ?hy17⟩) (by assumption) ?_
    case hy17 => (intro w hSw; (try dsimp only at hSw); go_simp; try with_reducible rfl)
    (try simp only [Act.put, List.setIfInBounds_toArray, List.set_cons_zero, List.set_cons_succ])
    refine wpAnyH_take (i := 20) (oi := { dst := some 34, op := Op.fieldAddr 72 (Operand.tmp 33) 2, type := 0, pos := "law.go:90", after := #[{ on := 19, ground := Ground.data }, { on := 15, ground := Ground.guard }], guard := some (15, false) }) (v := ?_) rfl (by kernel_rfl) (by kernel_rfl) (by kernel_rfl) (fun _ _ _ h => h) (Or.inl ⟨by rfl, ?hy18⟩) (by assumption) ?_
    case hy18 => (intro w hSw; (try dsimp only at hSw); go_simp; try with_reducible rfl)
    (try simp only [Act.put, List.setIfInBounds_toArray, List.set_cons_zero, List.set_cons_succ])
    refine wpAnyH_take (i := 21) (oi := { dst := some 35, op := Op.load 4 (Operand.tmp 34), type := 4, pos := "law.go:90", after := #[{ on := 20, ground := Ground.data }, { on := 15, ground := Ground.guard }], guard := some (15, false) }) (v := ?_) rfl (by kernel_rfl) (by kernel_rfl) (by kernel_rfl) (fun _ _ _ h => h) (Or.inl ⟨by rfl, ?hy19⟩) (by assumption) ?_
    case hy19 => (intro w hSw; (try dsimp only at hSw); go_simp; try with_reducible rfl)
    (try simp only [Act.put, List.setIfInBounds_toArray, List.set_cons_zero, List.set_cons_succ])
    refine wpAnyH_ready (rs := [17]) (by kernel_rfl) (by simp) (AllReadyH.cons (o := { dst := some 31, op := Op.call { callee := Callee.value (Operand.func 17), args := #[Operand.tmp 30], argTypes := #[24] }, type := 4, pos := "law.go:90", after := #[{ on := 16, ground := Ground.data }, { on := 15, ground := Ground.chain }, { on := 15, ground := Ground.guard }], guard := some (15, false) }) rfl (fun K hK => ?_) AllReadyH.nil)
    go_simp
    refine (HZ3.out _ hS12.2.2.2).mono ?_
    rintro _ w4 ⟨rfl, hb4⟩
    (try dsimp only)
    refine Shut.out hK _ _ ?_ (fun hS17 => ?_)
    · exact KS.out _ (hS12.2.2.2.trans (hb4.mono hS12.2.2.2.size))
    clear hK K
    (try simp only [Act.put, List.setIfInBounds_toArray, List.set_cons_zero, List.set_cons_succ])
    refine wpAnyH_take (i := 22) (oi := { dst := some 36, op := Op.binOp BinOp.neq 4 (Operand.tmp 31) (Operand.tmp 35) 4, type := 4, pos := "law.go:90", after := #[{ on := 17, ground := Ground.data }, { on := 21, ground := Ground.data }, { on := 15, ground := Ground.guard }], guard := some (15, false) }) (v := ?_) rfl (by kernel_rfl) (by kernel_rfl) (by kernel_rfl) (fun _ _ _ h => h) (Or.inl ⟨by rfl, ?hy20⟩) (by assumption) ?_
    case hy20 => (intro w hSw; (try dsimp only at hSw); go_simp; try with_reducible rfl)
    (try simp only [Act.put, List.setIfInBounds_toArray, List.set_cons_zero, List.set_cons_succ])
    refine wpAnyH_take (i := 23) (oi := { dst := some 37, op := Op.pick (Operand.tmp 29) (Operand.const (Value.bool true)) (Operand.tmp 36), type := 4, pos := "law.go:90", after := #[{ on := 15, ground := Ground.data }, { on := 22, ground := Ground.data }], guard := none }) (v := ?_) rfl (by kernel_rfl) (by kernel_rfl) (by kernel_rfl) (fun _ _ _ h => h) (Or.inl ⟨by rfl, ?hy21⟩) (by assumption) ?_
    case hy21 => (intro w hSw; (try dsimp only at hSw); go_simp; try with_reducible rfl)
    (try simp only [Act.put, List.setIfInBounds_toArray, List.set_cons_zero, List.set_cons_succ])
    refine wpAnyH_take (i := 24) (oi := { dst := some 38, op := Op.move (Operand.tmp 37), type := 4, pos := "law.go:90", after := #[{ on := 23, ground := Ground.data }, { on := 17, ground := Ground.chain }], guard := none }) (v := ?_) rfl (by kernel_rfl) (by kernel_rfl) (by kernel_rfl) (fun _ _ _ h => h) (Or.inl ⟨by rfl, ?hy22⟩) (by assumption) ?_
    case hy22 => (intro w hSw; (try dsimp only at hSw); go_simp; try with_reducible rfl)
    (try simp only [Act.put, List.setIfInBounds_toArray, List.set_cons_zero, List.set_cons_succ])
    refine wpAnyH_take (i := 25) (oi := { dst := some 39, op := Op.move (Operand.tmp 0), type := 24, pos := "law.go:90", after := #[{ on := 24, ground := Ground.guard }], guard := some (24, false) }) (v := ?_) rfl (by kernel_rfl) (by kernel_rfl) (by kernel_rfl) (fun _ _ _ h => h) (Or.inl ⟨by rfl, ?hy23⟩) (by assumption) ?_
    case hy23 => (intro w hSw; (try dsimp only at hSw); go_simp; try with_reducible rfl)
    (try simp only [Act.put, List.setIfInBounds_toArray, List.set_cons_zero, List.set_cons_succ])
    refine wpAnyH_take (i := 27) (oi := { dst := some 41, op := Op.move (Operand.tmp 1), type := 46, pos := "law.go:90", after := #[{ on := 24, ground := Ground.guard }], guard := some (24, false) }) (v := ?_) rfl (by kernel_rfl) (by kernel_rfl) (by kernel_rfl) (fun _ _ _ h => h) (Or.inl ⟨by rfl, ?hy24⟩) (by assumption) ?_
    case hy24 => (intro w hSw; (try dsimp only at hSw); go_simp; try with_reducible rfl)
    (try simp only [Act.put, List.setIfInBounds_toArray, List.set_cons_zero, List.set_cons_succ])
    refine wpAnyH_take (i := 28) (oi := { dst := some 42, op := Op.nilCheck (Operand.tmp 41), type := 0, pos := "law.go:90", after := #[{ on := 27, ground := Ground.data }, { on := 24, ground := Ground.guard }], guard := some (24, false) }) (v := ?_) rfl (by kernel_rfl) (by kernel_rfl) (by kernel_rfl) (fun _ _ _ h => h) (Or.inl ⟨by rfl, ?hy25⟩) (by assumption) ?_
    case hy25 => (intro w hSw; (try dsimp only at hSw); go_simp; try with_reducible rfl)
    (try simp only [Act.put, List.setIfInBounds_toArray, List.set_cons_zero, List.set_cons_succ])
    refine wpAnyH_take (i := 29) (oi := { dst := some 43, op := Op.fieldAddr 72 (Operand.tmp 42) 4, type := 0, pos := "law.go:90", after := #[{ on := 28, ground := Ground.data }, { on := 24, ground := Ground.guard }], guard := some (24, false) }) (v := ?_) rfl (by kernel_rfl) (by kernel_rfl) (by kernel_rfl) (fun _ _ _ h => h) (Or.inl ⟨by rfl, ?hy26⟩) (by assumption) ?_
    case hy26 => (intro w hSw; (try dsimp only at hSw); go_simp; try with_reducible rfl)
    (try simp only [Act.put, List.setIfInBounds_toArray, List.set_cons_zero, List.set_cons_succ])
    refine wpAnyH_take (i := 30) (oi := { dst := some 44, op := Op.load 3 (Operand.tmp 43), type := 3, pos := "law.go:90", after := #[{ on := 29, ground := Ground.data }, { on := 24, ground := Ground.guard }], guard := some (24, false) }) (v := ?_) rfl (by kernel_rfl) (by kernel_rfl) (by kernel_rfl) (fun _ _ _ h => h) (Or.inl ⟨by rfl, ?hy27⟩) (by assumption) ?_
    case hy27 => (intro w hSw; (try dsimp only at hSw); go_simp; try with_reducible rfl)
    (try simp only [Act.put, List.setIfInBounds_toArray, List.set_cons_zero, List.set_cons_succ])
    refine wpAnyH_ready (rs := [26]) (by kernel_rfl) (by simp) (AllReadyH.cons (o := { dst := some 40, op := Op.call { callee := Callee.value (Operand.func 16), args := #[Operand.tmp 39], argTypes := #[24] }, type := 3, pos := "law.go:90", after := #[{ on := 25, ground := Ground.data }, { on := 24, ground := Ground.chain }, { on := 24, ground := Ground.guard }], guard := some (24, false) }) rfl (fun K hK => ?_) AllReadyH.nil)
    go_simp
    refine (HZ4.out _ hS17.2.2.2).mono ?_
    rintro _ w5 ⟨rfl, hb5⟩
    (try dsimp only)
    refine Shut.out hK _ _ ?_ (fun hS26 => ?_)
    · exact KS.out _ (hS17.2.2.2.trans (hb5.mono hS17.2.2.2.size))
    clear hK K
    (try simp only [Act.put, List.setIfInBounds_toArray, List.set_cons_zero, List.set_cons_succ])
    refine wpAnyH_take (i := 31) (oi := { dst := some 45, op := Op.binOp BinOp.neq 3 (Operand.tmp 40) (Operand.tmp 44) 3, type := 4, pos := "law.go:90", after := #[{ on := 26, ground := Ground.data }, { on := 30, ground := Ground.data }, { on := 24, ground := Ground.guard }], guard := some (24, false) }) (v := ?_) rfl (by kernel_rfl) (by kernel_rfl) (by kernel_rfl) (fun _ _ _ h => h) (Or.inl ⟨by rfl, ?hy28⟩) (by assumption) ?_
    case hy28 => (intro w hSw; (try dsimp only at hSw); go_simp; try with_reducible rfl)
    (try simp only [Act.put, List.setIfInBounds_toArray, List.set_cons_zero, List.set_cons_succ])
    refine wpAnyH_take (i := 32) (oi := { dst := some 46, op := Op.pick (Operand.tmp 38) (Operand.const (Value.bool true)) (Operand.tmp 45), type := 4, pos := "law.go:90", after := #[{ on := 24, ground := Ground.data }, { on := 31, ground := Ground.data }], guard := none }) (v := ?_) rfl (by kernel_rfl) (by kernel_rfl) (by kernel_rfl) (fun _ _ _ h => h) (Or.inl ⟨by rfl, ?hy29⟩) (by assumption) ?_
    case hy29 => (intro w hSw; (try dsimp only at hSw); go_simp; try with_reducible rfl)
    (try simp only [Act.put, List.setIfInBounds_toArray, List.set_cons_zero, List.set_cons_succ])
    refine wpAnyH_done (by kernel_rfl) ?_ _
    go_wp2
    go_meet
    case rel => exact ⟨rfl, Lib.hid hS26.2.2.2⟩
  case rest =>
    obtain ⟨rfl, HX⟩ := hcut
    obtain ⟨wO, rfl⟩ : ∃ wO, wO = wc := ⟨_, rfl⟩
    have HBX : Hid (Below w.heap.size w wO) := Lib.hid (HB1.out.trans (HX.out.mono HB1.out.size))
    have HSX := Lib.hid (HS1.out.below HX.out)
    clear KS HZ1 HZ2 HZ3 HZ4 HX HB1 HS1
    go_wp2_with fail
    go_loopw [49] (fun iv wr => ∃ i : Nat, i ≤ n ∧ iv = .int .i64 i ∧ Hid (Below wO.heap.size wO wr)) (fun iv _ => n - (intOf iv).toNat)
    case atStart => exact ⟨0, by omega, rfl, Lib.hid (Below.refl _ _)⟩
    case round =>
      obtain ⟨i, hi, rfl, HW⟩ := hrel
      obtain ⟨wA, rfl⟩ : ∃ wA, wA = wr := ⟨_, rfl⟩
      have HWW := Lib.hid (HBX.out.trans (HW.out.mono HBX.out.size))
      by_cases hlt : i < n
      · have hin : (i : Int) < (n : Int) := by omega
        have hi0 : (0 : Int) ≤ (i : Int) := by omega
        have hil : i < A.fs.length := by rw [HLN.out]; exact hlt
        have hil2 : i < (A.fs.map fun p => ofK p.1).length := by rw [List.length_map]; exact hil
        obtain ⟨b1, o1, rfl, hc1, hs⟩ := (HSX.out.below HW.out) i hil2
        obtain ⟨b2, o2, rfl, k0, k1, k2⟩ := HRB.out.fls i hil
        have HAF : Hid (∀ w', Below w.heap.size w w' → FAt w' b2 (o2 + i * 3) A.fs[i]) := Lib.hid (fun w' hb => (HRB.out.later hb).fls.get i hil)
        have HSV : Hid (A.safe A.fs[i].1 = A.fs[i].2.s) := Lib.hid (by
          unfold DM.safe DM.get
          rw [mem_lkup HD.out.ok.sorted (k := A.fs[i].1) (f := A.fs[i].2) (List.getElem_mem hil)]
          rfl)
        have HKS : Hid (keyB (ofK A.fs[i].1) = A.fs[i].1) := Lib.hid (keyB_ofK _)
        have HTR : Hid ((A.read A.fs[i].1).1.length ≤ 1099511627776) := Lib.hid (by
          unfold DM.read
          split
          · split
            · simp
            · cases hh : lkup A.fs A.fs[i].1 with
              | none => simp
              | some f => exact Nat.le_trans (old_le hh) HTT.out
          · simp)
        have hsk : (A.fs.map fun p => ofK p.1)[i] = ofK A.fs[i].1 := by simp
        rw [hsk] at hc1 hs
        generalize A.fs[i] = p at *
        obtain ⟨pk, fm⟩ := p
        simp only at k0 k1 k2 hc1 hs HSV HKS HTR
        obtain ⟨s, hsd⟩ : ∃ s, ofK pk = s := ⟨_, rfl⟩
        have HSD := Lib.hid hsd
        rw [hsd] at hc1 hs HKS
        have HR1 := Lib.hid (read_any bd bm A s wA hs HTT.out (HD.out.later HWW.out))
        rw [HKS.out] at HR1
        have HC1 := Lib.hid hc1
        clear k0 k1 k2 hsk hsd
        go_wp2_with fail
        refine HR1.out.mono ?_
        rintro _ w5 ⟨v5, rfl, how5, hb5⟩
        obtain ⟨z, cz, rfl, hz1, hz2, hz3, hz4⟩ := own8_read how5
        have HO5 := Lib.hid how5
        have HW5 : Hid (Below w.heap.size w w5) := Lib.hid (HWW.out.trans (hb5.mono HWW.out.size))
        have HB5 := Lib.hid hb5
        have hc5 := cell_up hb5 hc1
        have HR2 := Lib.hid (rread_any bw A s w5 hs HNN.out (HR.out.later HW5.out))
        rw [HKS.out] at HR2
        have HZ3 := Lib.hid hz3
        obtain ⟨R, hR⟩ : ∃ R, (A.read pk).1 = R := ⟨_, rfl⟩
        obtain ⟨E, hE⟩ : ∃ E, (A.read pk).2 = E := ⟨_, rfl⟩
        rw [hR, hE] at HR2
        rw [hR] at HZ3 HO5 HTR
        rw [hR, hE]
        obtain ⟨m, hm⟩ : ∃ m, R.length = m := ⟨_, rfl⟩
        have HM := Lib.hid hm
        rw [hm] at HTR HO5
        rw [hm]
        obtain ⟨sb, hsb⟩ : ∃ sb, ofK R = sb := ⟨_, rfl⟩
        have HSB := Lib.hid hsb
        rw [hsb] at HR2
        clear how5 hz1 hz2 hz3 hz4 HR1 hb5 hc1 hR hE hm hsb
        go_wp2_with fail
        refine HR2.out.mono ?_
        rintro _ w6 ⟨rfl, hb6⟩
        have HW6 : Hid (Below w.heap.size w w6) := Lib.hid (HW5.out.trans (hb6.mono HW5.out.size))
        have HB6 : Hid (Below wA.heap.size wA w6) := Lib.hid (HB5.out.trans (hb6.mono HB5.out.size))
        have HO6 : Hid (w6.ownsRow wA.heap.size 5 1 (.slice z m cz) m (cells8 R)) := Lib.hid (by
          have hlt := World.ownsRow.lt HO5.out
          obtain ⟨q1, q2⟩ := HO5.out
          refine ⟨q1, ?_⟩
          rcases q2 with q2 | ⟨g, cap, cur, hv', hg, hh, r⟩
          · exact Or.inl q2
          · exact Or.inr ⟨g, cap, cur, hv', hg, by rw [hb6.block g (hlt g (by rw [hv']; rfl)).2]; exact hh, r⟩)
        have KS : Hid (∀ w', Below w6.heap.size w6 w' → (w'.cell? ⟨b1, o1 + i, none⟩ = some (.string s) ∧ w'.cell? ⟨bw, 0, none⟩ = some (.slice (some ⟨b2, o2, none⟩) n c) ∧ w'.cell? ⟨b2, o2 + i * 3, none⟩ = some (.string s) ∧ w'.cell? ⟨b2, o2 + i * 3 + 2, none⟩ = some (.int .i64 (fm.s : Nat)) ∧ (convert 27 9 (.slice z m cz)).run Try.prog w' = .ok (.string sb) w' ∧ Below w6.heap.size w6 w')) := Lib.hid (fun w' hb => by
          have hbw := HW6.out.trans (hb.mono HW6.out.size)
          have hq := (HRB.out.later hbw).cells.1.1
          rw [HLN.out] at hq
          obtain ⟨f0, f1, f2⟩ := HAF.out w' hbw
          simp only at f0 f2
          rw [HSD.out] at f0
          have hcv := str_of (w := w') cz ((HZ3.out.below hb6).below hb)
          rw [HM.out] at hcv
          exact ⟨cell_up hb (cell_up hb6 hc5), hq, f0, f2, by rw [← HSB.out]; exact hcv, hb⟩)
        have HSF : Hid (∀ (w' : World) (hb : Below w6.heap.size w6 w'), Calls Try.prog 12 #[.pointer (some ⟨bd, 0, none⟩), .string s] w' fun e w'' => e = .returned (.int .i64 (fm.s : Nat)) ∧ Below w'.heap.size w' w'') := Lib.hid (fun w' hb => (safe_any bd bm A s w' hs (HD.out.later (HW6.out.trans (hb.mono HW6.out.size)))).mono (by
          rintro _ _ ⟨rfl, rfl⟩
          rw [HKS.out, HSV.out]
          exact ⟨rfl, Below.refl _ _⟩))
        clear hb6 hc5 HR2 HZ3 HAF HSV HKS HSD HC1
        go_upto_region 9 with (fail)
        go_cut [110] (fun q wx => q = .bool false ∧ Hid (Below w6.heap.size w6 wx))
        case first =>
          refine wp_region_held_drew (S := (fun w' => w'.cell? ⟨b1, o1 + i, none⟩ = some (.string s) ∧ w'.cell? ⟨bw, 0, none⟩ = some (.slice (some ⟨b2, o2, none⟩) n c) ∧ w'.cell? ⟨b2, o2 + i * 3, none⟩ = some (.string s) ∧ w'.cell? ⟨b2, o2 + i * 3 + 2, none⟩ = some (.int .i64 (fm.s : Nat)) ∧ (convert 27 9 (.slice z m cz)).run Try.prog w' = .ok (.string sb) w' ∧ Below w6.heap.size w6 w')) (by kernel_rfl) ?_ (fun hS0 => ?_)
          · exact KS.out _ (Below.refl _ _).drew
          refine wpAnyH_take (i := 0) (oi := { dst := some 70, op := Op.move (Operand.tmp 5), type := 54, pos := "law.go:96", after := #[], guard := none }) (v := ?_) rfl (by kernel_rfl) (by kernel_rfl) (by kernel_rfl) (fun _ _ _ h => h) (Or.inl ⟨by rfl, ?hy1⟩) (by assumption) ?_
          case hy1 => (intro w hSw; (try dsimp only at hSw); go_simp; try with_reducible rfl)
          (try simp only [Act.put, List.setIfInBounds_toArray, List.set_cons_zero, List.set_cons_succ])
          refine wpAnyH_take (i := 1) (oi := { dst := some 71, op := Op.move (Operand.tmp 6), type := 3, pos := "law.go:96", after := #[], guard := none }) (v := ?_) rfl (by kernel_rfl) (by kernel_rfl) (by kernel_rfl) (fun _ _ _ h => h) (Or.inl ⟨by rfl, ?hy2⟩) (by assumption) ?_
          case hy2 => (intro w hSw; (try dsimp only at hSw); go_simp; try with_reducible rfl)
          (try simp only [Act.put, List.setIfInBounds_toArray, List.set_cons_zero, List.set_cons_succ])
          refine wpAnyH_take (i := 2) (oi := { dst := some 72, op := Op.indexAddr 54 (Operand.tmp 70) (Operand.tmp 71), type := 0, pos := "law.go:96", after := #[{ on := 0, ground := Ground.data }, { on := 1, ground := Ground.data }], guard := none }) (v := ?_) rfl (by kernel_rfl) (by kernel_rfl) (by kernel_rfl) (fun _ _ _ h => h) (Or.inl ⟨by rfl, ?hy3⟩) (by assumption) ?_
          case hy3 => (intro w hSw; (try dsimp only at hSw); go_simp; try with_reducible rfl)
          (try simp only [Act.put, List.setIfInBounds_toArray, List.set_cons_zero, List.set_cons_succ])
          refine wpAnyH_take (i := 3) (oi := { dst := some 73, op := Op.load 9 (Operand.tmp 72), type := 9, pos := "law.go:96", after := #[{ on := 2, ground := Ground.data }], guard := none }) (v := ?_) rfl (by kernel_rfl) (by kernel_rfl) (by kernel_rfl) (fun _ _ _ h => h) (Or.inl ⟨by rfl, ?hy4⟩) (by assumption) ?_
          case hy4 => (intro w hSw; (try dsimp only at hSw); go_simp; try with_reducible rfl)
          (try simp only [Act.put, List.setIfInBounds_toArray, List.set_cons_zero, List.set_cons_succ])
          refine wpAnyH_take (i := 4) (oi := { dst := some 74, op := Op.move (Operand.tmp 1), type := 46, pos := "law.go:96", after := #[], guard := none }) (v := ?_) rfl (by kernel_rfl) (by kernel_rfl) (by kernel_rfl) (fun _ _ _ h => h) (Or.inl ⟨by rfl, ?hy5⟩) (by assumption) ?_
          case hy5 => (intro w hSw; (try dsimp only at hSw); go_simp; try with_reducible rfl)
          (try simp only [Act.put, List.setIfInBounds_toArray, List.set_cons_zero, List.set_cons_succ])
          refine wpAnyH_take (i := 5) (oi := { dst := some 75, op := Op.nilCheck (Operand.tmp 74), type := 0, pos := "law.go:96", after := #[{ on := 4, ground := Ground.data }], guard := none }) (v := ?_) rfl (by kernel_rfl) (by kernel_rfl) (by kernel_rfl) (fun _ _ _ h => h) (Or.inl ⟨by rfl, ?hy6⟩) (by assumption) ?_
          case hy6 => (intro w hSw; (try dsimp only at hSw); go_simp; try with_reducible rfl)
          (try simp only [Act.put, List.setIfInBounds_toArray, List.set_cons_zero, List.set_cons_succ])
          refine wpAnyH_take (i := 6) (oi := { dst := some 76, op := Op.fieldAddr 72 (Operand.tmp 75) 0, type := 0, pos := "law.go:96", after := #[{ on := 5, ground := Ground.data }], guard := none }) (v := ?_) rfl (by kernel_rfl) (by kernel_rfl) (by kernel_rfl) (fun _ _ _ h => h) (Or.inl ⟨by rfl, ?hy7⟩) (by assumption) ?_
          case hy7 => (intro w hSw; (try dsimp only at hSw); go_simp; try with_reducible rfl)
          (try simp only [Act.put, List.setIfInBounds_toArray, List.set_cons_zero, List.set_cons_succ])
          refine wpAnyH_take (i := 7) (oi := { dst := some 77, op := Op.load 70 (Operand.tmp 76), type := 70, pos := "law.go:96", after := #[{ on := 6, ground := Ground.data }], guard := none }) (v := ?_) rfl (by kernel_rfl) (by kernel_rfl) (by kernel_rfl) (fun _ _ _ h => h) (Or.inl ⟨by rfl, ?hy8⟩) (by assumption) ?_
          case hy8 => (intro w hSw; (try dsimp only at hSw); go_simp; try with_reducible rfl)
          (try simp only [Act.put, List.setIfInBounds_toArray, List.set_cons_zero, List.set_cons_succ])
          refine wpAnyH_take (i := 8) (oi := { dst := some 78, op := Op.move (Operand.tmp 6), type := 3, pos := "law.go:96", after := #[], guard := none }) (v := ?_) rfl (by kernel_rfl) (by kernel_rfl) (by kernel_rfl) (fun _ _ _ h => h) (Or.inl ⟨by rfl, ?hy9⟩) (by assumption) ?_
          case hy9 => (intro w hSw; (try dsimp only at hSw); go_simp; try with_reducible rfl)
          (try simp only [Act.put, List.setIfInBounds_toArray, List.set_cons_zero, List.set_cons_succ])
          refine wpAnyH_take (i := 9) (oi := { dst := some 79, op := Op.indexAddr 70 (Operand.tmp 77) (Operand.tmp 78), type := 0, pos := "law.go:96", after := #[{ on := 7, ground := Ground.data }, { on := 8, ground := Ground.data }], guard := none }) (v := ?_) rfl (by kernel_rfl) (by kernel_rfl) (by kernel_rfl) (fun _ _ _ h => h) (Or.inl ⟨by rfl, ?hy10⟩) (by assumption) ?_
          case hy10 => (intro w hSw; (try dsimp only at hSw); go_simp; try with_reducible rfl)
          (try simp only [Act.put, List.setIfInBounds_toArray, List.set_cons_zero, List.set_cons_succ])
          refine wpAnyH_take (i := 10) (oi := { dst := some 80, op := Op.fieldAddr 75 (Operand.tmp 79) 0, type := 0, pos := "law.go:96", after := #[{ on := 9, ground := Ground.data }], guard := none }) (v := ?_) rfl (by kernel_rfl) (by kernel_rfl) (by kernel_rfl) (fun _ _ _ h => h) (Or.inl ⟨by rfl, ?hy11⟩) (by assumption) ?_
          case hy11 => (intro w hSw; (try dsimp only at hSw); go_simp; try with_reducible rfl)
          (try simp only [Act.put, List.setIfInBounds_toArray, List.set_cons_zero, List.set_cons_succ])
          refine wpAnyH_take (i := 11) (oi := { dst := some 81, op := Op.load 9 (Operand.tmp 80), type := 9, pos := "law.go:96", after := #[{ on := 10, ground := Ground.data }], guard := none }) (v := ?_) rfl (by kernel_rfl) (by kernel_rfl) (by kernel_rfl) (fun _ _ _ h => h) (Or.inl ⟨by rfl, ?hy12⟩) (by assumption) ?_
          case hy12 => (intro w hSw; (try dsimp only at hSw); go_simp; try with_reducible rfl)
          (try simp only [Act.put, List.setIfInBounds_toArray, List.set_cons_zero, List.set_cons_succ])
          refine wpAnyH_take (i := 12) (oi := { dst := some 82, op := Op.binOp BinOp.neq 9 (Operand.tmp 73) (Operand.tmp 81) 9, type := 4, pos := "law.go:96", after := #[{ on := 3, ground := Ground.data }, { on := 11, ground := Ground.data }], guard := none }) (v := ?_) rfl (by kernel_rfl) (by kernel_rfl) (by kernel_rfl) (fun _ _ _ h => h) (Or.inl ⟨by rfl, ?hy13⟩) (by assumption) ?_
          case hy13 => (intro w hSw; (try dsimp only at hSw); go_simp; try with_reducible rfl)
          (try simp only [Act.put, List.setIfInBounds_toArray, List.set_cons_zero, List.set_cons_succ])
          refine wpAnyH_take (i := 13) (oi := { dst := some 83, op := Op.move (Operand.tmp 82), type := 4, pos := "law.go:96", after := #[{ on := 12, ground := Ground.data }], guard := none }) (v := ?_) rfl (by kernel_rfl) (by kernel_rfl) (by kernel_rfl) (fun _ _ _ h => h) (Or.inl ⟨by rfl, ?hy14⟩) (by assumption) ?_
          case hy14 => (intro w hSw; (try dsimp only at hSw); go_simp; try with_reducible rfl)
          (try simp only [Act.put, List.setIfInBounds_toArray, List.set_cons_zero, List.set_cons_succ])
          refine wpAnyH_take (i := 14) (oi := { dst := some 84, op := Op.move (Operand.tmp 7), type := 27, pos := "law.go:96", after := #[{ on := 13, ground := Ground.guard }], guard := some (13, false) }) (v := ?_) rfl (by kernel_rfl) (by kernel_rfl) (by kernel_rfl) (fun _ _ _ h => h) (Or.inl ⟨by rfl, ?hy15⟩) (by assumption) ?_
          case hy15 => (intro w hSw; (try dsimp only at hSw); go_simp; try with_reducible rfl)
          (try simp only [Act.put, List.setIfInBounds_toArray, List.set_cons_zero, List.set_cons_succ])
          refine wpAnyH_take (i := 15) (oi := { dst := some 85, op := Op.convert 27 9 (Operand.tmp 84), type := 9, pos := "law.go:96", after := #[{ on := 14, ground := Ground.data }, { on := 13, ground := Ground.guard }], guard := some (13, false) }) (v := ?_) rfl (by kernel_rfl) (by kernel_rfl) (by kernel_rfl) (fun _ _ _ h => h) (Or.inl ⟨by rfl, ?hy16⟩) (by assumption) ?_
          case hy16 => (intro w hSw; (try dsimp only at hSw); go_simp; try with_reducible rfl)
          (try simp only [Act.put, List.setIfInBounds_toArray, List.set_cons_zero, List.set_cons_succ])
          refine wpAnyH_take (i := 16) (oi := { dst := some 86, op := Op.move (Operand.tmp 9), type := 9, pos := "law.go:96", after := #[{ on := 13, ground := Ground.guard }], guard := some (13, false) }) (v := ?_) rfl (by kernel_rfl) (by kernel_rfl) (by kernel_rfl) (fun _ _ _ h => h) (Or.inl ⟨by rfl, ?hy17⟩) (by assumption) ?_
          case hy17 => (intro w hSw; (try dsimp only at hSw); go_simp; try with_reducible rfl)
          (try simp only [Act.put, List.setIfInBounds_toArray, List.set_cons_zero, List.set_cons_succ])
          refine wpAnyH_take (i := 17) (oi := { dst := some 87, op := Op.binOp BinOp.neq 9 (Operand.tmp 85) (Operand.tmp 86) 9, type := 4, pos := "law.go:96", after := #[{ on := 15, ground := Ground.data }, { on := 16, ground := Ground.data }, { on := 13, ground := Ground.guard }], guard := some (13, false) }) (v := ?_) rfl (by kernel_rfl) (by kernel_rfl) (by kernel_rfl) (fun _ _ _ h => h) (Or.inl ⟨by rfl, ?hy18⟩) (by assumption) ?_
          case hy18 => (intro w hSw; (try dsimp only at hSw); go_simp; try with_reducible rfl)
          (try simp only [Act.put, List.setIfInBounds_toArray, List.set_cons_zero, List.set_cons_succ])
          refine wpAnyH_take (i := 18) (oi := { dst := some 88, op := Op.pick (Operand.tmp 83) (Operand.const (Value.bool true)) (Operand.tmp 87), type := 4, pos := "law.go:96", after := #[{ on := 13, ground := Ground.data }, { on := 17, ground := Ground.data }], guard := none }) (v := ?_) rfl (by kernel_rfl) (by kernel_rfl) (by kernel_rfl) (fun _ _ _ h => h) (Or.inl ⟨by rfl, ?hy19⟩) (by assumption) ?_
          case hy19 => (intro w hSw; (try dsimp only at hSw); go_simp; try with_reducible rfl)
          (try simp only [Act.put, List.setIfInBounds_toArray, List.set_cons_zero, List.set_cons_succ])
          refine wpAnyH_take (i := 19) (oi := { dst := some 89, op := Op.move (Operand.tmp 88), type := 4, pos := "law.go:96", after := #[{ on := 18, ground := Ground.data }, { on := 13, ground := Ground.chain }], guard := none }) (v := ?_) rfl (by kernel_rfl) (by kernel_rfl) (by kernel_rfl) (fun _ _ _ h => h) (Or.inl ⟨by rfl, ?hy20⟩) (by assumption) ?_
          case hy20 => (intro w hSw; (try dsimp only at hSw); go_simp; try with_reducible rfl)
          (try simp only [Act.put, List.setIfInBounds_toArray, List.set_cons_zero, List.set_cons_succ])
          refine wpAnyH_take (i := 20) (oi := { dst := some 90, op := Op.move (Operand.tmp 8), type := 31, pos := "law.go:96", after := #[{ on := 19, ground := Ground.guard }], guard := some (19, false) }) (v := ?_) rfl (by kernel_rfl) (by kernel_rfl) (by kernel_rfl) (fun _ _ _ h => h) (Or.inl ⟨by rfl, ?hy21⟩) (by assumption) ?_
          case hy21 => (intro w hSw; (try dsimp only at hSw); go_simp; try with_reducible rfl)
          (try simp only [Act.put, List.setIfInBounds_toArray, List.set_cons_zero, List.set_cons_succ])
          refine wpAnyH_take (i := 21) (oi := { dst := some 91, op := Op.move (Operand.tmp 10), type := 31, pos := "law.go:96", after := #[{ on := 19, ground := Ground.guard }], guard := some (19, false) }) (v := ?_) rfl (by kernel_rfl) (by kernel_rfl) (by kernel_rfl) (fun _ _ _ h => h) (Or.inl ⟨by rfl, ?hy22⟩) (by assumption) ?_
          case hy22 => (intro w hSw; (try dsimp only at hSw); go_simp; try with_reducible rfl)
          (try simp only [Act.put, List.setIfInBounds_toArray, List.set_cons_zero, List.set_cons_succ])
          refine wpAnyH_take (i := 22) (oi := { dst := some 92, op := Op.binOp BinOp.neq 31 (Operand.tmp 90) (Operand.tmp 91) 31, type := 4, pos := "law.go:96", after := #[{ on := 20, ground := Ground.data }, { on := 21, ground := Ground.data }, { on := 19, ground := Ground.guard }], guard := some (19, false) }) (v := ?_) rfl (by kernel_rfl) (by kernel_rfl) (by kernel_rfl) (fun _ _ _ h => h) (Or.inl ⟨by rfl, ?hy23⟩) (by assumption) ?_
          case hy23 => (intro w hSw; (try dsimp only at hSw); go_simp; try with_reducible rfl)
          (try simp only [Act.put, List.setIfInBounds_toArray, List.set_cons_zero, List.set_cons_succ])
          refine wpAnyH_take (i := 23) (oi := { dst := some 93, op := Op.pick (Operand.tmp 89) (Operand.const (Value.bool true)) (Operand.tmp 92), type := 4, pos := "law.go:96", after := #[{ on := 19, ground := Ground.data }, { on := 22, ground := Ground.data }], guard := none }) (v := ?_) rfl (by kernel_rfl) (by kernel_rfl) (by kernel_rfl) (fun _ _ _ h => h) (Or.inl ⟨by rfl, ?hy24⟩) (by assumption) ?_
          case hy24 => (intro w hSw; (try dsimp only at hSw); go_simp; try with_reducible rfl)
          (try simp only [Act.put, List.setIfInBounds_toArray, List.set_cons_zero, List.set_cons_succ])
          refine wpAnyH_take (i := 24) (oi := { dst := some 94, op := Op.move (Operand.tmp 93), type := 4, pos := "law.go:96", after := #[{ on := 23, ground := Ground.data }, { on := 19, ground := Ground.chain }], guard := none }) (v := ?_) rfl (by kernel_rfl) (by kernel_rfl) (by kernel_rfl) (fun _ _ _ h => h) (Or.inl ⟨by rfl, ?hy25⟩) (by assumption) ?_
          case hy25 => (intro w hSw; (try dsimp only at hSw); go_simp; try with_reducible rfl)
          (try simp only [Act.put, List.setIfInBounds_toArray, List.set_cons_zero, List.set_cons_succ])
          refine wpAnyH_take (i := 25) (oi := { dst := some 95, op := Op.move (Operand.tmp 0), type := 24, pos := "law.go:96", after := #[{ on := 24, ground := Ground.guard }], guard := some (24, false) }) (v := ?_) rfl (by kernel_rfl) (by kernel_rfl) (by kernel_rfl) (fun _ _ _ h => h) (Or.inl ⟨by rfl, ?hy26⟩) (by assumption) ?_
          case hy26 => (intro w hSw; (try dsimp only at hSw); go_simp; try with_reducible rfl)
          (try simp only [Act.put, List.setIfInBounds_toArray, List.set_cons_zero, List.set_cons_succ])
          refine wpAnyH_take (i := 26) (oi := { dst := some 96, op := Op.move (Operand.tmp 5), type := 54, pos := "law.go:96", after := #[{ on := 24, ground := Ground.guard }], guard := some (24, false) }) (v := ?_) rfl (by kernel_rfl) (by kernel_rfl) (by kernel_rfl) (fun _ _ _ h => h) (Or.inl ⟨by rfl, ?hy27⟩) (by assumption) ?_
          case hy27 => (intro w hSw; (try dsimp only at hSw); go_simp; try with_reducible rfl)
          (try simp only [Act.put, List.setIfInBounds_toArray, List.set_cons_zero, List.set_cons_succ])
          refine wpAnyH_take (i := 27) (oi := { dst := some 97, op := Op.move (Operand.tmp 6), type := 3, pos := "law.go:96", after := #[{ on := 24, ground := Ground.guard }], guard := some (24, false) }) (v := ?_) rfl (by kernel_rfl) (by kernel_rfl) (by kernel_rfl) (fun _ _ _ h => h) (Or.inl ⟨by rfl, ?hy28⟩) (by assumption) ?_
          case hy28 => (intro w hSw; (try dsimp only at hSw); go_simp; try with_reducible rfl)
          (try simp only [Act.put, List.setIfInBounds_toArray, List.set_cons_zero, List.set_cons_succ])
          refine wpAnyH_take (i := 28) (oi := { dst := some 98, op := Op.indexAddr 54 (Operand.tmp 96) (Operand.tmp 97), type := 0, pos := "law.go:96", after := #[{ on := 26, ground := Ground.data }, { on := 27, ground := Ground.data }, { on := 24, ground := Ground.guard }], guard := some (24, false) }) (v := ?_) rfl (by kernel_rfl) (by kernel_rfl) (by kernel_rfl) (fun _ _ _ h => h) (Or.inl ⟨by rfl, ?hy29⟩) (by assumption) ?_
          case hy29 => (intro w hSw; (try dsimp only at hSw); go_simp; try with_reducible rfl)
          (try simp only [Act.put, List.setIfInBounds_toArray, List.set_cons_zero, List.set_cons_succ])
          refine wpAnyH_take (i := 29) (oi := { dst := some 99, op := Op.load 9 (Operand.tmp 98), type := 9, pos := "law.go:96", after := #[{ on := 28, ground := Ground.data }, { on := 24, ground := Ground.guard }], guard := some (24, false) }) (v := ?_) rfl (by kernel_rfl) (by kernel_rfl) (by kernel_rfl) (fun _ _ _ h => h) (Or.inl ⟨by rfl, ?hy30⟩) (by assumption) ?_
          case hy30 => (intro w hSw; (try dsimp only at hSw); go_simp; try with_reducible rfl)
          (try simp only [Act.put, List.setIfInBounds_toArray, List.set_cons_zero, List.set_cons_succ])
          refine wpAnyH_take (i := 31) (oi := { dst := some 101, op := Op.move (Operand.tmp 1), type := 46, pos := "law.go:96", after := #[{ on := 24, ground := Ground.guard }], guard := some (24, false) }) (v := ?_) rfl (by kernel_rfl) (by kernel_rfl) (by kernel_rfl) (fun _ _ _ h => h) (Or.inl ⟨by rfl, ?hy31⟩) (by assumption) ?_
          case hy31 => (intro w hSw; (try dsimp only at hSw); go_simp; try with_reducible rfl)
          (try simp only [Act.put, List.setIfInBounds_toArray, List.set_cons_zero, List.set_cons_succ])
          refine wpAnyH_take (i := 32) (oi := { dst := some 102, op := Op.nilCheck (Operand.tmp 101), type := 0, pos := "law.go:96", after := #[{ on := 31, ground := Ground.data }, { on := 24, ground := Ground.guard }], guard := some (24, false) }) (v := ?_) rfl (by kernel_rfl) (by kernel_rfl) (by kernel_rfl) (fun _ _ _ h => h) (Or.inl ⟨by rfl, ?hy32⟩) (by assumption) ?_
          case hy32 => (intro w hSw; (try dsimp only at hSw); go_simp; try with_reducible rfl)
          (try simp only [Act.put, List.setIfInBounds_toArray, List.set_cons_zero, List.set_cons_succ])
          refine wpAnyH_take (i := 33) (oi := { dst := some 103, op := Op.fieldAddr 72 (Operand.tmp 102) 0, type := 0, pos := "law.go:96", after := #[{ on := 32, ground := Ground.data }, { on := 24, ground := Ground.guard }], guard := some (24, false) }) (v := ?_) rfl (by kernel_rfl) (by kernel_rfl) (by kernel_rfl) (fun _ _ _ h => h) (Or.inl ⟨by rfl, ?hy33⟩) (by assumption) ?_
          case hy33 => (intro w hSw; (try dsimp only at hSw); go_simp; try with_reducible rfl)
          (try simp only [Act.put, List.setIfInBounds_toArray, List.set_cons_zero, List.set_cons_succ])
          refine wpAnyH_take (i := 34) (oi := { dst := some 104, op := Op.load 70 (Operand.tmp 103), type := 70, pos := "law.go:96", after := #[{ on := 33, ground := Ground.data }, { on := 24, ground := Ground.guard }], guard := some (24, false) }) (v := ?_) rfl (by kernel_rfl) (by kernel_rfl) (by kernel_rfl) (fun _ _ _ h => h) (Or.inl ⟨by rfl, ?hy34⟩) (by assumption) ?_
          case hy34 => (intro w hSw; (try dsimp only at hSw); go_simp; try with_reducible rfl)
          (try simp only [Act.put, List.setIfInBounds_toArray, List.set_cons_zero, List.set_cons_succ])
          refine wpAnyH_take (i := 35) (oi := { dst := some 105, op := Op.move (Operand.tmp 6), type := 3, pos := "law.go:96", after := #[{ on := 24, ground := Ground.guard }], guard := some (24, false) }) (v := ?_) rfl (by kernel_rfl) (by kernel_rfl) (by kernel_rfl) (fun _ _ _ h => h) (Or.inl ⟨by rfl, ?hy35⟩) (by assumption) ?_
          case hy35 => (intro w hSw; (try dsimp only at hSw); go_simp; try with_reducible rfl)
          (try simp only [Act.put, List.setIfInBounds_toArray, List.set_cons_zero, List.set_cons_succ])
          refine wpAnyH_take (i := 36) (oi := { dst := some 106, op := Op.indexAddr 70 (Operand.tmp 104) (Operand.tmp 105), type := 0, pos := "law.go:96", after := #[{ on := 34, ground := Ground.data }, { on := 35, ground := Ground.data }, { on := 24, ground := Ground.guard }], guard := some (24, false) }) (v := ?_) rfl (by kernel_rfl) (by kernel_rfl) (by kernel_rfl) (fun _ _ _ h => h) (Or.inl ⟨by rfl, ?hy36⟩) (by assumption) ?_
          case hy36 => (intro w hSw; (try dsimp only at hSw); go_simp; try with_reducible rfl)
          (try simp only [Act.put, List.setIfInBounds_toArray, List.set_cons_zero, List.set_cons_succ])
          refine wpAnyH_take (i := 37) (oi := { dst := some 107, op := Op.fieldAddr 75 (Operand.tmp 106) 2, type := 0, pos := "law.go:96", after := #[{ on := 36, ground := Ground.data }, { on := 24, ground := Ground.guard }], guard := some (24, false) }) (v := ?_) rfl (by kernel_rfl) (by kernel_rfl) (by kernel_rfl) (fun _ _ _ h => h) (Or.inl ⟨by rfl, ?hy37⟩) (by assumption) ?_
          case hy37 => (intro w hSw; (try dsimp only at hSw); go_simp; try with_reducible rfl)
          (try simp only [Act.put, List.setIfInBounds_toArray, List.set_cons_zero, List.set_cons_succ])
          refine wpAnyH_take (i := 38) (oi := { dst := some 108, op := Op.load 3 (Operand.tmp 107), type := 3, pos := "law.go:96", after := #[{ on := 37, ground := Ground.data }, { on := 24, ground := Ground.guard }], guard := some (24, false) }) (v := ?_) rfl (by kernel_rfl) (by kernel_rfl) (by kernel_rfl) (fun _ _ _ h => h) (Or.inl ⟨by rfl, ?hy38⟩) (by assumption) ?_
          case hy38 => (intro w hSw; (try dsimp only at hSw); go_simp; try with_reducible rfl)
          (try simp only [Act.put, List.setIfInBounds_toArray, List.set_cons_zero, List.set_cons_succ])
          refine wpAnyH_ready (rs := [30]) (by kernel_rfl) (by simp) (AllReadyH.cons (o := { dst := some 100, op := Op.call { callee := Callee.value (Operand.func 12), args := #[Operand.tmp 95, Operand.tmp 99], argTypes := #[24, 9] }, type := 3, pos := "law.go:96", after := #[{ on := 25, ground := Ground.data }, { on := 29, ground := Ground.data }, { on := 24, ground := Ground.chain }, { on := 24, ground := Ground.guard }], guard := some (24, false) }) rfl (fun K hK => ?_) AllReadyH.nil)
          go_simp
          refine (HSF.out _ hS0.2.2.2.2.2).mono ?_
          rintro _ w7 ⟨rfl, hb7⟩
          (try dsimp only)
          refine Shut.out hK _ _ ?_ (fun hS30 => ?_)
          · exact KS.out _ (hS0.2.2.2.2.2.trans (hb7.mono hS0.2.2.2.2.2.size))
          clear hK K
          (try simp only [Act.put, List.setIfInBounds_toArray, List.set_cons_zero, List.set_cons_succ])
          refine wpAnyH_take (i := 39) (oi := { dst := some 109, op := Op.binOp BinOp.neq 3 (Operand.tmp 100) (Operand.tmp 108) 3, type := 4, pos := "law.go:96", after := #[{ on := 30, ground := Ground.data }, { on := 38, ground := Ground.data }, { on := 24, ground := Ground.guard }], guard := some (24, false) }) (v := ?_) rfl (by kernel_rfl) (by kernel_rfl) (by kernel_rfl) (fun _ _ _ h => h) (Or.inl ⟨by rfl, ?hy39⟩) (by assumption) ?_
          case hy39 => (intro w hSw; (try dsimp only at hSw); go_simp; try with_reducible rfl)
          (try simp only [Act.put, List.setIfInBounds_toArray, List.set_cons_zero, List.set_cons_succ])
          refine wpAnyH_take (i := 40) (oi := { dst := some 110, op := Op.pick (Operand.tmp 94) (Operand.const (Value.bool true)) (Operand.tmp 109), type := 4, pos := "law.go:96", after := #[{ on := 24, ground := Ground.data }, { on := 39, ground := Ground.data }], guard := none }) (v := ?_) rfl (by kernel_rfl) (by kernel_rfl) (by kernel_rfl) (fun _ _ _ h => h) (Or.inl ⟨by rfl, ?hy40⟩) (by assumption) ?_
          case hy40 => (intro w hSw; (try dsimp only at hSw); go_simp; try with_reducible rfl)
          (try simp only [Act.put, List.setIfInBounds_toArray, List.set_cons_zero, List.set_cons_succ])
          refine wpAnyH_done (by kernel_rfl) ?_ _
          go_wp2
          go_meet
          case rel => exact ⟨rfl, Lib.hid hS30.2.2.2.2.2⟩
        case rest =>
          obtain ⟨rfl, HX⟩ := hcut
          clear KS HSF
          obtain ⟨w8, rfl⟩ : ∃ w8, w8 = wc := ⟨_, rfl⟩
          have HO8 : Hid (w8.ownsRow wA.heap.size 5 1 (.slice z m cz) m (cells8 R)) := Lib.hid (by
            have hlt := World.ownsRow.lt HO6.out
            obtain ⟨q1, q2⟩ := HO6.out
            refine ⟨q1, ?_⟩
            rcases q2 with q2 | ⟨g, cap, cur, hv', hg, hh, r⟩
            · exact Or.inl q2
            · exact Or.inr ⟨g, cap, cur, hv', hg, by rw [HX.out.block g (hlt g (by rw [hv']; rfl)).2]; exact hh, r⟩)
          have HB8 : Hid (Below wA.heap.size wA w8) := Lib.hid (HB6.out.trans (HX.out.mono HB6.out.size))
          have hm1 : m ≤ 1099511627776 := HTR.out
          go_wp2_with fail
          go_loopw [113] (fun kv wr => ∃ k : Nat, k ≤ m ∧ kv = .int .i64 k ∧ Hid (∃ l : List UInt8, l.length = m ∧ wr.ownsRow wA.heap.size 5 1 (.slice z m cz) m (cells8 l)) ∧ Hid (Below wA.heap.size wA wr)) (fun kv _ => m - (intOf kv).toNat)
          case atStart => exact ⟨0, by omega, rfl, Lib.hid ⟨R, HM.out, HO8.out⟩, HB8⟩
          case round =>
            obtain ⟨k, hk, rfl, HL, HBK⟩ := hrel
            obtain ⟨wK, rfl⟩ : ∃ wK, wK = wr := ⟨_, rfl⟩
            by_cases hkm : k < m
            · have hkm' : (k : Int) < (m : Int) := by omega
              have hk0 : (0 : Int) ≤ (k : Int) := by omega
              obtain ⟨l, hl, how⟩ := HL.out
              obtain ⟨g, cap, hsh⟩ := owns_shape how (by omega)
              simp only [Value.slice.injEq, true_and] at hsh
              obtain ⟨rfl, rfl⟩ := hsh
              have hkl : k < l.length := by omega
              have q0 := World.ownsRow.cellAt how k (by omega)
              rw [cells8_getElem? l k hkl] at q0
              have qf := World.ownsRow.frozenAt how k
              have hgK : wA.heap.size ≤ g := (World.ownsRow.lt how g rfl).1
              have HST := Lib.hid (World.ownsRow.stored how k (.int .u8 ((l[k] ^^^ 255).toNat : Nat))).1
              have hx : bits BinOp.xor IntKind.u8 (l[k].toNat : Nat) 255 = ((l[k] ^^^ 255).toNat : Nat) := xor8 l[k] 255
              have HSE := Lib.hid (cells8_set l k (l[k] ^^^ 255))
              have hc8 := (l[k] ^^^ 255).toNat_lt
              have hc9 := l[k].toNat_lt
              generalize l[k] ^^^ 255 = c8 at *
              generalize l[k] = c9 at *
              have HLN2 := Lib.hid hl
              clear how HL hl
              go_wp2
              refine ⟨⟨k + 1, by omega, by go_num, Lib.hid ⟨l.set k c8, by rw [List.length_set, HLN2.out], by rw [← HSE.out]; exact HST.out⟩, Lib.hid (bset HBK.out g _ _ hgK)⟩, by simp [intOf]; omega⟩
            · obtain rfl : k = m := by omega
              have i3 : ¬ (k : Int) < (k : Int) := by omega
              go_wp2
              exact ⟨⟨i + 1, by omega, by go_num, Lib.hid (HW.out.trans (HBK.out.mono HW.out.size))⟩, by simp [intOf]; omega⟩
      · obtain rfl : i = n := by omega
        have i3 : ¬ (i : Int) < (i : Int) := by omega
        go_wp2
        go_ret
        exact ⟨rfl, HWW.out⟩
end Go.Proofs.Ytjojomjnbiakoaa

/-
  What the small functions on entries compute: order, sums, sameness.
-/
import Derived.Test.YthgbmijgoaihcaaEnt1
namespace Go.Proofs.Ythgbmijgoaihcaa
open Go.RowKit
set_option linter.unusedVariables false

theorem ahead_at (x y : Ent) (w : World) (hx : x.ok) (hy : y.ok) :
    Calls Try.prog 52 #[.agg #[.string x.user, .int .u64 (x.seq : Nat), .int .u8 (x.kind : Nat), .string x.value], .agg #[.string y.user, .int .u64 (y.seq : Nat), .int .u8 (y.kind : Nat), .string y.value]] w fun e w' => e = .returned (.bool (ahead x y)) ∧ Below w.heap.size w w' := ahead_any x y w hx hy

set_option maxRecDepth 100000 in
set_option maxHeartbeats 800000 in
theorem rrises_any (a : Option Addr) (cap : Nat) (l : List Ent) (w : World) (hl : l.length ≤ maxLen) (hb : Ents w a l) :
    Calls Try.prog 40 #[.slice a l.length cap] w fun e w' => e = .returned (.bool (rises l)) ∧ Below w.heap.size w w' := by
  unfold maxLen at hl
  go_enter Try.func40, Try.ntmps40
  go_wp2
  go_loopw [3] (fun i wr => ∃ k : Nat, (k + 1 ≤ l.length ∨ k = 0) ∧ i = .int .i64 ((k : Int) + 1) ∧ rises (l.take (k + 1)) = true ∧ Below w.heap.size w wr) (fun i _ => l.length - (intOf i).toNat)
  case atStart => exact ⟨0, by omega, rfl, by cases l <;> simp [rises], Below.refl _ _⟩
  case round =>
    obtain ⟨k, hk, rfl, hr, hwr⟩ := hrel
    by_cases hlt : k + 1 < l.length
    · obtain ⟨b, off, rfl, ⟨c0, c1, c2, c3⟩, ho1⟩ := (hb.below hwr) k (by omega)
      obtain ⟨d0, d1, d2, d3⟩ := (hb.below hwr).get (k + 1) hlt
      have ho2 := hb.ok l[k + 1] (List.getElem_mem hlt)
      have ht := rises_take l k hlt
      rw [hr, Bool.true_and] at ht
      have HT := Lib.hid ht
      have HR := Lib.hid hr
      clear ht hr
      have hin : (k : Int) < (l.length : Int) := by omega
      have hin2 : (k : Int) + 1 < (l.length : Int) := by omega
      have hwk : IntKind.i64.wrap (k : Int) = (k : Int) := IntWalk.i64_in _ (by omega)
      have hkn : 0 ≤ (k : Int) := by omega
      have hkn1 : 0 ≤ (k : Int) + 1 := by omega
      have KS : Hid (∀ w', Below wr.heap.size wr w' → EntAt w' b (off + k * 4) l[k] ∧ EntAt w' b (off + (k + 1) * 4) l[k + 1]) := fun w' h => ⟨EntAt.below ⟨c0, c1, c2, c3⟩ h, EntAt.below ⟨d0, d1, d2, d3⟩ h⟩
      go_wp2
      refine wp_region_held_drew (S := (fun w' => (w'.cell? ⟨b, off + k * 4, none⟩ = some (Value.string l[k].user) ∧ w'.cell? ⟨b, off + k * 4 + 1, none⟩ = some (.int .u64 (l[k].seq : Nat)) ∧ w'.cell? ⟨b, off + k * 4 + 2, none⟩ = some (.int .u8 (l[k].kind : Nat)) ∧ w'.cell? ⟨b, off + k * 4 + 3, none⟩ = some (.string l[k].value)) ∧ (w'.cell? ⟨b, off + (k + 1) * 4, none⟩ = some (.string l[k + 1].user) ∧ w'.cell? ⟨b, off + (k + 1) * 4 + 1, none⟩ = some (.int .u64 (l[k + 1].seq : Nat)) ∧ w'.cell? ⟨b, off + (k + 1) * 4 + 2, none⟩ = some (.int .u8 (l[k + 1].kind : Nat)) ∧ w'.cell? ⟨b, off + (k + 1) * 4 + 3, none⟩ = some (.string l[k + 1].value)))) (by kernel_rfl) ?_ (fun hS0 => ?_)
      · exact KS.out _ (Below.refl _ _).drew
      refine wpAnyH_take (i := 0) (oi := { dst := some 10, op := Op.move (Operand.tmp 0), type := 22, pos := "ref.go:43", after := #[], guard := none }) (v := ?_) rfl (by kernel_rfl) (by kernel_rfl) (by kernel_rfl) (fun _ _ _ h => h) (Or.inl ⟨by rfl, ?hy1⟩) (by assumption) ?_
      case hy1 => (intro w hSw; (try dsimp only at hSw); go_simp; try with_reducible rfl)
      (try simp only [Act.put, List.setIfInBounds_toArray, List.set_cons_zero, List.set_cons_succ])
      refine wpAnyH_take (i := 1) (oi := { dst := some 11, op := Op.move (Operand.tmp 3), type := 3, pos := "ref.go:43", after := #[], guard := none }) (v := ?_) rfl (by kernel_rfl) (by kernel_rfl) (by kernel_rfl) (fun _ _ _ h => h) (Or.inl ⟨by rfl, ?hy2⟩) (by assumption) ?_
      case hy2 => (intro w hSw; (try dsimp only at hSw); go_simp; try with_reducible rfl)
      (try simp only [Act.put, List.setIfInBounds_toArray, List.set_cons_zero, List.set_cons_succ])
      refine wpAnyH_take (i := 2) (oi := { dst := some 12, op := Op.binOp BinOp.sub 3 (Operand.tmp 11) (Operand.const (Value.int IntKind.i64 1)) 3, type := 3, pos := "ref.go:43", after := #[{ on := 1, ground := Ground.data }], guard := none }) (v := ?_) rfl (by kernel_rfl) (by kernel_rfl) (by kernel_rfl) (fun _ _ _ h => h) (Or.inl ⟨by rfl, ?hy3⟩) (by assumption) ?_
      case hy3 => (intro w hSw; (try dsimp only at hSw); go_simp; try with_reducible rfl)
      (try simp only [Act.put, List.setIfInBounds_toArray, List.set_cons_zero, List.set_cons_succ])
      refine wpAnyH_take (i := 3) (oi := { dst := some 13, op := Op.indexAddr 22 (Operand.tmp 10) (Operand.tmp 12), type := 0, pos := "ref.go:43", after := #[{ on := 0, ground := Ground.data }, { on := 2, ground := Ground.data }], guard := none }) (v := ?_) rfl (by kernel_rfl) (by kernel_rfl) (by kernel_rfl) (fun _ _ _ h => h) (Or.inl ⟨by rfl, ?hy4⟩) (by assumption) ?_
      case hy4 => (intro w hSw; (try dsimp only at hSw); go_simp; try with_reducible rfl)
      (try simp only [Act.put, List.setIfInBounds_toArray, List.set_cons_zero, List.set_cons_succ])
      refine wpAnyH_take (i := 4) (oi := { dst := some 14, op := Op.load 33 (Operand.tmp 13), type := 33, pos := "ref.go:43", after := #[{ on := 3, ground := Ground.data }], guard := none }) (v := ?_) rfl (by kernel_rfl) (by kernel_rfl) (by kernel_rfl) (fun _ _ _ h => h) (Or.inl ⟨by rfl, ?hy5⟩) (by assumption) ?_
      case hy5 => (intro w hSw; (try dsimp only at hSw); go_simp; try with_reducible rfl)
      (try simp only [Act.put, List.setIfInBounds_toArray, List.set_cons_zero, List.set_cons_succ])
      refine wpAnyH_take (i := 5) (oi := { dst := some 15, op := Op.move (Operand.tmp 0), type := 22, pos := "ref.go:43", after := #[], guard := none }) (v := ?_) rfl (by kernel_rfl) (by kernel_rfl) (by kernel_rfl) (fun _ _ _ h => h) (Or.inl ⟨by rfl, ?hy6⟩) (by assumption) ?_
      case hy6 => (intro w hSw; (try dsimp only at hSw); go_simp; try with_reducible rfl)
      (try simp only [Act.put, List.setIfInBounds_toArray, List.set_cons_zero, List.set_cons_succ])
      refine wpAnyH_take (i := 6) (oi := { dst := some 16, op := Op.move (Operand.tmp 3), type := 3, pos := "ref.go:43", after := #[], guard := none }) (v := ?_) rfl (by kernel_rfl) (by kernel_rfl) (by kernel_rfl) (fun _ _ _ h => h) (Or.inl ⟨by rfl, ?hy7⟩) (by assumption) ?_
      case hy7 => (intro w hSw; (try dsimp only at hSw); go_simp; try with_reducible rfl)
      (try simp only [Act.put, List.setIfInBounds_toArray, List.set_cons_zero, List.set_cons_succ])
      refine wpAnyH_take (i := 7) (oi := { dst := some 17, op := Op.indexAddr 22 (Operand.tmp 15) (Operand.tmp 16), type := 0, pos := "ref.go:43", after := #[{ on := 5, ground := Ground.data }, { on := 6, ground := Ground.data }], guard := none }) (v := ?_) rfl (by kernel_rfl) (by kernel_rfl) (by kernel_rfl) (fun _ _ _ h => h) (Or.inl ⟨by rfl, ?hy8⟩) (by assumption) ?_
      case hy8 => (intro w hSw; (try dsimp only at hSw); go_simp; try with_reducible rfl)
      (try simp only [Act.put, List.setIfInBounds_toArray, List.set_cons_zero, List.set_cons_succ])
      refine wpAnyH_take (i := 8) (oi := { dst := some 18, op := Op.load 33 (Operand.tmp 17), type := 33, pos := "ref.go:43", after := #[{ on := 7, ground := Ground.data }], guard := none }) (v := ?_) rfl (by kernel_rfl) (by kernel_rfl) (by kernel_rfl) (fun _ _ _ h => h) (Or.inl ⟨by rfl, ?hy9⟩) (by assumption) ?_
      case hy9 => (intro w hSw; (try dsimp only at hSw); go_simp; try with_reducible rfl)
      (try simp only [Act.put, List.setIfInBounds_toArray, List.set_cons_zero, List.set_cons_succ])
      refine wpAnyH_ready (rs := [9]) (by kernel_rfl) (by simp) (AllReadyH.cons (o := { dst := some 19, op := Op.call { callee := Callee.value (Operand.func 52), args := #[Operand.tmp 14, Operand.tmp 18], argTypes := #[33, 33] }, type := 4, pos := "ref.go:43", after := #[{ on := 4, ground := Ground.data }, { on := 8, ground := Ground.data }], guard := none }) rfl (fun K hK => ?_) AllReadyH.nil)
      go_simp
      refine (ahead_at l[k] l[k + 1] _ ho1 ho2).mono ?_
      rintro e w2 ⟨rfl, hb2⟩
      (try dsimp only)
      refine Shut.out hK _ _ ?_ (fun hS9 => ?_)
      · exact KS.out _ ((Below.refl _ _).drew.trans hb2)
      clear hK K
      (try simp only [Act.put, List.setIfInBounds_toArray, List.set_cons_zero, List.set_cons_succ])
      refine wpAnyH_take (i := 10) (oi := { dst := some 20, op := Op.unOp UnOp.not 4 (Operand.tmp 19), type := 4, pos := "ref.go:43", after := #[{ on := 9, ground := Ground.data }], guard := none }) (v := ?_) rfl (by kernel_rfl) (by kernel_rfl) (by kernel_rfl) (fun _ _ _ h => h) (Or.inl ⟨by rfl, ?hy10⟩) (by assumption) ?_
      case hy10 => (intro w hSw; (try dsimp only at hSw); go_simp; try with_reducible rfl)
      (try simp only [Act.put, List.setIfInBounds_toArray, List.set_cons_zero, List.set_cons_succ])
      refine wpAnyH_done (by kernel_rfl) ?_ _
      clear KS
      have hw2 : Below w.heap.size w w2 := hwr.drew.trans (hb2.mono hwr.size)
      rcases Bool.eq_false_or_eq_true (ahead l[k] l[k + 1]) with q | q
      · have Q := Lib.hid q; rw [q]; go_wp2; exact ⟨⟨k + 1, Or.inl hlt, by go_num, HT.out.trans Q.out, hw2⟩, by simp [intOf]; omega⟩
      · have Q := Lib.hid q; rw [q]; go_wp2; go_ret; exact ⟨ret_bool (rises_false l _ (HT.out.trans Q.out)).symm, hw2⟩
    · have hn : ¬ ((k : Int) + 1 < (l.length : Int)) := by omega
      have hend : rises l = true := by rw [← hr, List.take_of_length_le (by omega)]
      have HE := Lib.hid hend
      clear hend hr
      go_wp2
      go_ret
      exact ⟨ret_bool HE.out.symm, hwr⟩

/-! Sameness. -/
def sameE (x y : Ent) : Bool := x.user.toList == y.user.toList && (x.seq == y.seq && (x.kind == y.kind && x.value.toList == y.value.toList))
def same (a b : List Ent) : Bool := a.length == b.length && (List.range a.length).all fun i => sameE (a.getD i default) (b.getD i default)

set_option maxRecDepth 100000 in
set_option maxHeartbeats 800000 in
theorem same_any (a a' : Option Addr) (cap cap' : Nat) (l m : List Ent) (w : World) (hl : l.length ≤ maxLen) (hm : m.length ≤ maxLen) (hb : Ents w a l) (hb' : Ents w a' m) (heq : l = m) :
    Calls Try.prog 23 #[.slice a l.length cap, .slice a' m.length cap'] w fun e w' => e = .returned (.bool true) ∧ Below w.heap.size w w' := by
  subst heq
  unfold maxLen at hl
  go_enter Try.func23, Try.ntmps23
  go_wp2
  go_loopw [5] (fun i wr => ∃ k : Nat, k ≤ l.length ∧ i = .int .i64 k ∧ Below w.heap.size w wr) (fun i _ => l.length - (intOf i).toNat)
  case atStart => exact ⟨0, by omega, rfl, Below.refl _ _⟩
  case round =>
    obtain ⟨k, hk, rfl, hwr⟩ := hrel
    by_cases hlt : k < l.length
    · obtain ⟨b, off, rfl, ⟨c0, c1, c2, c3⟩, ho1⟩ := (hb.below hwr) k hlt
      obtain ⟨b', off', rfl, ⟨d0, d1, d2, d3⟩, ho2⟩ := (hb'.below hwr) k hlt
      have hin : (k : Int) < (l.length : Int) := by omega
      generalize l[k] = x at *
      go_wp2
      go_quiet (fail)
      go_wp2
      exact ⟨⟨k + 1, by omega, by go_num, below_drewN hwr _⟩, by simp [intOf]; omega⟩
    · obtain rfl : k = l.length := by omega
      go_wp2
      go_ret
      exact ⟨rfl, hwr⟩
end Go.Proofs.Ythgbmijgoaihcaa

import Derived.Test.YthgbmijgoaihcaaEnts
import Derived.Deep.QuietTactic
import Derived.BigQuiet
namespace Go.Proofs.Ythgbmijgoaihcaa
open Go.RowKit
set_option linter.unusedVariables false

/-! Plain functions. -/
def lt (a b : ByteArray) : Bool := Op.bytesLess a.toList b.toList
def ahead (x y : Ent) : Bool := lt x.user y.user || (x.user.toList == y.user.toList && decide (y.seq < x.seq))
def rises : List Ent → Bool
  | [] => true
  | [_] => true
  | x :: y :: l => ahead x y && rises (y :: l)
def count (l : List Ent) : Nat := (l.map fun e => 8 + e.user.size + e.value.size).sum

theorem less_irrefl (a : List UInt8) : Op.bytesLess a a = false := by
  induction a with
  | nil => rfl
  | cons x a ih => simp [Op.bytesLess, ih]
theorem ahead_cases (x y : Ent) :
    (Op.bytesLess x.user.toList y.user.toList = true ∧ (x.user.toList == y.user.toList) = false ∧ Hid (ahead x y = true)) ∨
    (Op.bytesLess x.user.toList y.user.toList = false ∧ (x.user.toList == y.user.toList) = true ∧ y.seq < x.seq ∧ Hid (ahead x y = true)) ∨
    (Op.bytesLess x.user.toList y.user.toList = false ∧ (x.user.toList == y.user.toList) = true ∧ x.seq ≤ y.seq ∧ Hid (ahead x y = false)) ∨
    (Op.bytesLess x.user.toList y.user.toList = false ∧ (x.user.toList == y.user.toList) = false ∧ Hid (ahead x y = false)) := by
  by_cases h1 : Op.bytesLess x.user.toList y.user.toList = true
  · have h2 : x.user.toList ≠ y.user.toList := by intro e; rw [e, less_irrefl] at h1; cases h1
    exact Or.inl ⟨h1, by simpa using h2, by show ahead x y = true; simp [ahead, lt, h1]⟩
  · have h1' : Op.bytesLess x.user.toList y.user.toList = false := by simpa using h1
    by_cases h2 : x.user.toList = y.user.toList
    · by_cases h3 : y.seq < x.seq
      · exact Or.inr (Or.inl ⟨h1', by simpa using h2, h3, by show ahead x y = true; unfold ahead lt; rw [h1', h2]; simpa using h3⟩)
      · exact Or.inr (Or.inr (Or.inl ⟨h1', by simpa using h2, by omega, by show ahead x y = false; unfold ahead lt; rw [h1', h2]; simpa using h3⟩))
    · exact Or.inr (Or.inr (Or.inr ⟨h1', by simpa using h2, by show ahead x y = false; unfold ahead lt; rw [h1']; simp [h2]⟩))
theorem count_take (l : List Ent) (k : Nat) (h : k < l.length) : count (l.take (k + 1)) = count (l.take k) + (8 + l[k].user.size + l[k].value.size) := by
  unfold count; rw [List.take_succ_eq_append_getElem h]; simp only [List.map_append, List.sum_append, List.map_cons, List.map_nil, List.sum_cons, List.sum_nil, Nat.add_zero]
theorem count_append (l m : List Ent) : count (l ++ m) = count l + count m := by unfold count; simp
theorem count_take_le (l : List Ent) (k : Nat) : count (l.take k) ≤ count l := by
  have := count_append (l.take k) (l.drop k); rw [List.take_append_drop] at this; omega
theorem count_len (l : List Ent) : 8 * l.length ≤ count l := by
  induction l with
  | nil => simp [count]
  | cons x l ih => have := count_append [x] l; simp [count] at this ih ⊢; omega
theorem rises_snoc : ∀ (l : List Ent) (x y : Ent), rises (l ++ [x, y]) = (rises (l ++ [x]) && ahead x y)
  | [], x, y => by simp [rises]
  | [a], x, y => by simp [rises]
  | a :: b :: l, x, y => by
    have := rises_snoc (b :: l) x y
    simp only [List.cons_append, rises] at this ⊢
    rw [this, Bool.and_assoc]
theorem rises_take (l : List Ent) (k : Nat) (h : k + 1 < l.length) : rises (l.take (k + 2)) = (rises (l.take (k + 1)) && ahead l[k] l[k + 1]) := by
  have e1 : l.take (k + 2) = l.take k ++ [l[k], l[k + 1]] := by
    rw [show k + 2 = (k + 1) + 1 from rfl, List.take_succ_eq_append_getElem h, List.take_succ_eq_append_getElem (by omega), List.append_assoc]; rfl
  have e2 : l.take (k + 1) = l.take k ++ [l[k]] := by rw [List.take_succ_eq_append_getElem (by omega)]
  rw [e1, e2, rises_snoc]
theorem rises_append_left : ∀ (l m : List Ent), rises (l ++ m) = true → rises l = true
  | [], _, _ => rfl
  | [a], _, _ => rfl
  | a :: b :: l, m, h => by
    simp only [List.cons_append, rises, Bool.and_eq_true] at h ⊢
    exact ⟨h.1, rises_append_left (b :: l) m h.2⟩
theorem rises_take_true (l : List Ent) (k : Nat) (h : rises l = true) : rises (l.take k) = true := by
  have : l.take k ++ l.drop k = l := List.take_append_drop _ _
  rw [← this] at h; exact rises_append_left _ _ h

theorem rises_false (l : List Ent) (k : Nat) (h : rises (l.take k) = false) : rises l = false := by
  cases hr : rises l with
  | false => rfl
  | true => rw [rises_take_true l k hr] at h; cases h

set_option maxRecDepth 100000 in
set_option maxHeartbeats 400000 in
theorem ahead_any (x y : Ent) (w : World) (hx : x.ok) (hy : y.ok) :
    Calls Try.prog 52 #[.agg (entCells x).toArray, .agg (entCells y).toArray] w fun e w' => e = .returned (.bool (ahead x y)) ∧ Below w.heap.size w w' := by
  have hb : ∀ A B : Obj, Below w.heap.size w ((w.alloc A).alloc B) := fun A B => ((Below.refl _ _).alloc (Nat.le_refl _) _).alloc (by simp) _
  have HB := Lib.hid hb; clear hb
  by_cases h1 : Op.bytesLess x.user.toList y.user.toList = true
  · have v : ahead x y = true := by simp [ahead, lt, h1]
    rw [v]
    unfold entCells
    clear v
    go_enter Try.func52, Try.ntmps52
    go_wp2
    go_ret
    exact ⟨rfl, HB.out _ _⟩
  · have h1' : Op.bytesLess x.user.toList y.user.toList = false := by simpa using h1
    by_cases h2 : x.user.toList = y.user.toList
    · have v : ahead x y = decide (y.seq < x.seq) := by unfold ahead lt; rw [h1', h2]; simp
      have V := Lib.hid v; clear v
      unfold entCells
      have e2 : (x.user.toList == y.user.toList) = true := by simp [h2]
      clear h1 h2
      go_enter Try.func52, Try.ntmps52
      go_wp2
      go_ret
      exact ⟨by rw [V.out]; rfl, HB.out _ _⟩
    · have v : ahead x y = false := by simp [ahead, lt, h2, h1']
      rw [v]
      unfold entCells
      have e2 : (x.user.toList == y.user.toList) = false := by simp [h2]
      clear h1 v
      go_enter Try.func52, Try.ntmps52
      go_wp2
      go_ret
      exact ⟨rfl, HB.out _ _⟩

set_option maxRecDepth 100000 in
set_option maxHeartbeats 400000 in
theorem count_any (a : Option Addr) (cap : Nat) (l : List Ent) (w : World) (hl : count l ≤ 4611686018427387904) (hb : Ents w a l) :
    Calls Try.prog 20 #[.slice a l.length cap] w fun e w' => e = .returned (.int .i64 (count l : Nat)) ∧ Below w.heap.size w w' := by
  have hlen := count_len l
  go_enter Try.func20, Try.ntmps20
  go_wp2
  go_loopw [3, 11] (fun n i wr => ∃ k : Nat, k ≤ l.length ∧ n = .int .i64 ((8 * (l.length - k) + count (l.take k) : Nat) : Int) ∧ i = .int .i64 k ∧ Below w.heap.size w wr) (fun _ i _ => l.length - (intOf i).toNat)
  case atStart => exact ⟨0, by omega, by simp [count], rfl, Below.refl _ _⟩
  case round =>
    obtain ⟨k, hk, rfl, rfl, hwr⟩ := hrel
    by_cases hlt : k < l.length
    · obtain ⟨b, off, rfl, ⟨c0, c1, c2, c3⟩, ho1, _, _, ho2⟩ := (hb.below hwr) k hlt
      have ht := count_take l k hlt
      have htl := count_take_le l (k + 1)
      have HT := Lib.hid ht
      have hlen2 := count_len (l.take k)
      have hlen3 : (l.take k).length = k := by simp; omega
      have b1 : 8 * (l.length - k) + count (l.take k) + l[k].user.size + l[k].value.size ≤ 9223372036854775807 := by omega
      generalize hm : 8 * (l.length - k) + count (l.take k) = m at *
      have HM := Lib.hid hm
      clear ht hm hlen3
      unfold maxLen at ho1 ho2
      go_wp2
      refine ⟨⟨k + 1, by omega, ?_, by go_num, hwr.alloc hwr.size _⟩, by simp [intOf]; omega⟩
      have h1 := HT.out
      have h2 := HM.out
      rw [h1]
      congr 1
      omega
    · obtain rfl : k = l.length := by omega
      go_wp2
      go_ret
      exact ⟨ret_nat (by simp), hwr⟩

set_option maxRecDepth 100000 in
set_option maxHeartbeats 400000 in
theorem size_any (a : Option Addr) (cap : Nat) (l : List Ent) (w : World) (hl : count l ≤ 4611686018427387904) (hb : Ents w a l) :
    Calls Try.prog 21 #[.slice a l.length cap] w fun e w' => e = .returned (.int .i64 (count l : Nat)) ∧ Below w.heap.size w w' := by
  have hlen := count_len l
  go_enter Try.func21, Try.ntmps21
  go_wp2
  go_loopw [3, 4] (fun n i wr => ∃ k : Nat, k ≤ l.length ∧ n = .int .i64 ((count (l.take k) : Nat) : Int) ∧ i = .int .i64 k ∧ Below w.heap.size w wr) (fun _ i _ => l.length - (intOf i).toNat)
  case atStart => exact ⟨0, by omega, by simp [count], rfl, Below.refl _ _⟩
  case round =>
    obtain ⟨k, hk, rfl, rfl, hwr⟩ := hrel
    by_cases hlt : k < l.length
    · obtain ⟨b, off, rfl, ⟨c0, c1, c2, c3⟩, ho1, _, _, ho2⟩ := (hb.below hwr) k hlt
      have ht := count_take l k hlt
      have htl := count_take_le l (k + 1)
      have HT := Lib.hid ht
      have b1 : count (l.take k) + l[k].user.size + l[k].value.size + 8 ≤ 9223372036854775807 := by omega
      generalize hm : count (l.take k) = m at *
      have HM := Lib.hid hm
      clear ht hm
      unfold maxLen at ho1 ho2
      have hin : (k : Int) < (l.length : Int) := by omega
      go_wp2
      go_quiet (fail)
      go_wp2
      refine ⟨⟨k + 1, by omega, ?_, by go_num, below_drewN hwr _⟩, by simp [intOf]; omega⟩
      have h1 := HT.out
      have h2 := HM.out
      rw [h1]
      congr 1
      omega
    · obtain rfl : k = l.length := by omega
      go_wp2
      go_ret
      exact ⟨ret_nat (by simp), hwr⟩

set_option maxRecDepth 100000 in
set_option maxHeartbeats 800000 in
theorem rises_any (a : Option Addr) (cap : Nat) (l : List Ent) (w : World) (hl : l.length ≤ maxLen) (hb : Ents w a l) :
    Calls Try.prog 22 #[.slice a l.length cap] w fun e w' => e = .returned (.bool (rises l)) ∧ Below w.heap.size w w' := by
  unfold maxLen at hl
  go_enter Try.func22, Try.ntmps22
  go_wp2
  go_loopw [3] (fun i wr => ∃ k : Nat, (k + 1 ≤ l.length ∨ k = 0) ∧ i = .int .i64 ((k : Int) + 1) ∧ rises (l.take (k + 1)) = true ∧ Below w.heap.size w wr) (fun i _ => l.length - (intOf i).toNat)
  case atStart => exact ⟨0, by omega, rfl, by cases l <;> simp [rises], Below.refl _ _⟩
  case round =>
    obtain ⟨k, hk, rfl, hr, hwr⟩ := hrel
    by_cases hlt : k + 1 < l.length
    · obtain ⟨b, off, rfl, ⟨c0, c1, c2, c3⟩, _⟩ := (hb.below hwr) k (by omega)
      obtain ⟨d0, d1, d2, d3⟩ := (hb.below hwr).get (k + 1) hlt
      have ht := rises_take l k hlt
      rw [hr, Bool.true_and] at ht
      have HT := Lib.hid ht
      have HR := Lib.hid hr
      clear ht hr
      have hin : (k : Int) < (l.length : Int) := by omega
      have hin2 : (k : Int) + 1 < (l.length : Int) := by omega
      have hwk : IntKind.i64.wrap (k : Int) = (k : Int) := IntWalk.i64_in _ (by omega)
      have hkn : 0 ≤ (k : Int) := by omega
      have hkn1 : 0 ≤ (k : Int) + 1 := by omega
      have KS : Hid (∀ w', Below wr.heap.size wr w' → EntAt w' b (off + k * 4) l[k] ∧ EntAt w' b (off + (k + 1) * 4) l[k + 1]) := fun w' h => ⟨EntAt.below ⟨c0, c1, c2, c3⟩ h, EntAt.below ⟨d0, d1, d2, d3⟩ h⟩
      go_wp2
      refine wp_region_held_drew (S := (fun w' => (w'.cell? ⟨b, off + k * 4, none⟩ = some (Value.string l[k].user) ∧ w'.cell? ⟨b, off + k * 4 + 1, none⟩ = some (.int .u64 (l[k].seq : Nat)) ∧ w'.cell? ⟨b, off + k * 4 + 2, none⟩ = some (.int .u8 (l[k].kind : Nat)) ∧ w'.cell? ⟨b, off + k * 4 + 3, none⟩ = some (.string l[k].value)) ∧ (w'.cell? ⟨b, off + (k + 1) * 4, none⟩ = some (.string l[k + 1].user) ∧ w'.cell? ⟨b, off + (k + 1) * 4 + 1, none⟩ = some (.int .u64 (l[k + 1].seq : Nat)) ∧ w'.cell? ⟨b, off + (k + 1) * 4 + 2, none⟩ = some (.int .u8 (l[k + 1].kind : Nat)) ∧ w'.cell? ⟨b, off + (k + 1) * 4 + 3, none⟩ = some (.string l[k + 1].value)))) (by kernel_rfl) ?_ (fun hS0 => ?_)
      · exact KS.out _ (Below.refl _ _).drew
      refine wpAnyH_take (i := 0) (oi := { dst := some 12, op := Op.move (Operand.tmp 0), type := 22, pos := "ikey.go:74", after := #[], guard := none }) (v := ?_) rfl (by kernel_rfl) (by kernel_rfl) (by kernel_rfl) (fun _ _ _ h => h) (Or.inl ⟨by rfl, ?hy1⟩) (by assumption) ?_
      case hy1 => (intro w hSw; (try dsimp only at hSw); go_simp; try with_reducible rfl)
      (try simp only [Act.put, List.setIfInBounds_toArray, List.set_cons_zero, List.set_cons_succ])
      refine wpAnyH_take (i := 1) (oi := { dst := some 13, op := Op.move (Operand.tmp 3), type := 3, pos := "ikey.go:74", after := #[], guard := none }) (v := ?_) rfl (by kernel_rfl) (by kernel_rfl) (by kernel_rfl) (fun _ _ _ h => h) (Or.inl ⟨by rfl, ?hy2⟩) (by assumption) ?_
      case hy2 => (intro w hSw; (try dsimp only at hSw); go_simp; try with_reducible rfl)
      (try simp only [Act.put, List.setIfInBounds_toArray, List.set_cons_zero, List.set_cons_succ])
      refine wpAnyH_take (i := 2) (oi := { dst := some 14, op := Op.binOp BinOp.sub 3 (Operand.tmp 13) (Operand.const (Value.int IntKind.i64 1)) 3, type := 3, pos := "ikey.go:74", after := #[{ on := 1, ground := Ground.data }], guard := none }) (v := ?_) rfl (by kernel_rfl) (by kernel_rfl) (by kernel_rfl) (fun _ _ _ h => h) (Or.inl ⟨by rfl, ?hy3⟩) (by assumption) ?_
      case hy3 => (intro w hSw; (try dsimp only at hSw); go_simp; try with_reducible rfl)
      (try simp only [Act.put, List.setIfInBounds_toArray, List.set_cons_zero, List.set_cons_succ])
      refine wpAnyH_take (i := 3) (oi := { dst := some 15, op := Op.indexAddr 22 (Operand.tmp 12) (Operand.tmp 14), type := 0, pos := "ikey.go:74", after := #[{ on := 0, ground := Ground.data }, { on := 2, ground := Ground.data }], guard := none }) (v := ?_) rfl (by kernel_rfl) (by kernel_rfl) (by kernel_rfl) (fun _ _ _ h => h) (Or.inl ⟨by rfl, ?hy4⟩) (by assumption) ?_
      case hy4 => (intro w hSw; (try dsimp only at hSw); go_simp; try with_reducible rfl)
      (try simp only [Act.put, List.setIfInBounds_toArray, List.set_cons_zero, List.set_cons_succ])
      refine wpAnyH_take (i := 4) (oi := { dst := some 16, op := Op.load 33 (Operand.tmp 15), type := 33, pos := "ikey.go:74", after := #[{ on := 3, ground := Ground.data }], guard := none }) (v := ?_) rfl (by kernel_rfl) (by kernel_rfl) (by kernel_rfl) (fun _ _ _ h => h) (Or.inl ⟨by rfl, ?hy5⟩) (by assumption) ?_
      case hy5 => (intro w hSw; (try dsimp only at hSw); go_simp; try with_reducible rfl)
      (try simp only [Act.put, List.setIfInBounds_toArray, List.set_cons_zero, List.set_cons_succ])
      refine wpAnyH_take (i := 5) (oi := { dst := some 17, op := Op.move (Operand.tmp 0), type := 22, pos := "ikey.go:74", after := #[{ on := 11, ground := Ground.gcOnly Departure.lateStores }], guard := none }) (v := ?_) rfl (by kernel_rfl) (by kernel_rfl) (by kernel_rfl) (fun _ _ _ h => h) (Or.inl ⟨by rfl, ?hy6⟩) (by assumption) ?_
      case hy6 => (intro w hSw; (try dsimp only at hSw); go_simp; try with_reducible rfl)
      (try simp only [Act.put, List.setIfInBounds_toArray, List.set_cons_zero, List.set_cons_succ])
      refine wpAnyH_take (i := 6) (oi := { dst := some 18, op := Op.move (Operand.tmp 3), type := 3, pos := "ikey.go:74", after := #[{ on := 11, ground := Ground.gcOnly Departure.lateStores }], guard := none }) (v := ?_) rfl (by kernel_rfl) (by kernel_rfl) (by kernel_rfl) (fun _ _ _ h => h) (Or.inl ⟨by rfl, ?hy7⟩) (by assumption) ?_
      case hy7 => (intro w hSw; (try dsimp only at hSw); go_simp; try with_reducible rfl)
      (try simp only [Act.put, List.setIfInBounds_toArray, List.set_cons_zero, List.set_cons_succ])
      refine wpAnyH_take (i := 7) (oi := { dst := some 19, op := Op.indexAddr 22 (Operand.tmp 17) (Operand.tmp 18), type := 0, pos := "ikey.go:74", after := #[{ on := 5, ground := Ground.data }, { on := 6, ground := Ground.data }, { on := 11, ground := Ground.gcOnly Departure.lateStores }], guard := none }) (v := ?_) rfl (by kernel_rfl) (by kernel_rfl) (by kernel_rfl) (fun _ _ _ h => h) (Or.inl ⟨by rfl, ?hy8⟩) (by assumption) ?_
      case hy8 => (intro w hSw; (try dsimp only at hSw); go_simp; try with_reducible rfl)
      (try simp only [Act.put, List.setIfInBounds_toArray, List.set_cons_zero, List.set_cons_succ])
      refine wpAnyH_take (i := 8) (oi := { dst := some 20, op := Op.load 33 (Operand.tmp 19), type := 33, pos := "ikey.go:74", after := #[{ on := 7, ground := Ground.data }, { on := 11, ground := Ground.gcOnly Departure.lateStores }], guard := none }) (v := ?_) rfl (by kernel_rfl) (by kernel_rfl) (by kernel_rfl) (fun _ _ _ h => h) (Or.inl ⟨by rfl, ?hy9⟩) (by assumption) ?_
      case hy9 => (intro w hSw; (try dsimp only at hSw); go_simp; try with_reducible rfl)
      (try simp only [Act.put, List.setIfInBounds_toArray, List.set_cons_zero, List.set_cons_succ])
      refine wpAnyH_ready (rs := [9, 10]) (by kernel_rfl) (by simp) (AllReadyH.cons (o := { dst := some 4, op := Op.alloc 33, type := 0, pos := "ikey.go:74", after := #[], guard := none }) rfl (fun K hK => ?_) (AllReadyH.cons (o := { dst := some 5, op := Op.alloc 33, type := 0, pos := "ikey.go:74", after := #[], guard := none }) rfl (fun K hK => ?_) AllReadyH.nil))
      · skip
        go_simp
        (try dsimp only)
        refine Shut.out hK _ _ ?_ (fun hS9 => ?_)
        · exact KS.out _ (by (repeat (first | exact Below.refl _ _ | apply Below.drew | refine Below.alloc ?_ (by simp <;> omega) _ | refine Below.setCell ?_ (by simp <;> omega) _)))
        clear hK K
        (try simp only [Act.put, List.setIfInBounds_toArray, List.set_cons_zero, List.set_cons_succ])
        refine wpAnyH_ready (rs := [10]) (by kernel_rfl) (by simp) (AllReadyH.cons (o := { dst := some 5, op := Op.alloc 33, type := 0, pos := "ikey.go:74", after := #[], guard := none }) rfl (fun K hK => ?_) AllReadyH.nil)
        go_simp
        (try dsimp only)
        refine Shut.out hK _ _ ?_ (fun hS10 => ?_)
        · exact KS.out _ (by (repeat (first | exact Below.refl _ _ | apply Below.drew | refine Below.alloc ?_ (by simp <;> omega) _ | refine Below.setCell ?_ (by simp <;> omega) _)))
        clear hK K
        (try simp only [Act.put, List.setIfInBounds_toArray, List.set_cons_zero, List.set_cons_succ])
        refine wpAnyH_ready (rs := [11]) (by kernel_rfl) (by simp) (AllReadyH.cons (o := { dst := none, op := Op.store 33 (Operand.tmp 4) (Operand.tmp 16), type := 0, pos := "ikey.go:74", after := #[{ on := 9, ground := Ground.data }, { on := 4, ground := Ground.data }, { on := 0, ground := Ground.phase }, { on := 1, ground := Ground.phase }, { on := 2, ground := Ground.phase }, { on := 3, ground := Ground.phase }, { on := 4, ground := Ground.phase }, { on := 5, ground := Ground.textOnly Departure.lateStores }, { on := 6, ground := Ground.textOnly Departure.lateStores }, { on := 7, ground := Ground.textOnly Departure.lateStores }, { on := 8, ground := Ground.textOnly Departure.lateStores }, { on := 9, ground := Ground.phase }, { on := 10, ground := Ground.phase }], guard := none }) rfl (fun K hK => ?_) AllReadyH.nil)
        go_simp
        (try dsimp only)
        refine Shut.out hK _ _ ?_ (fun hS11 => ?_)
        · exact KS.out _ (by (repeat (first | exact Below.refl _ _ | apply Below.drew | refine Below.alloc ?_ (by simp <;> omega) _ | refine Below.setCell ?_ (by simp <;> omega) _)))
        clear hK K
        (try simp only [Act.put, List.setIfInBounds_toArray, List.set_cons_zero, List.set_cons_succ])
        refine wpAnyH_ready (rs := [12]) (by kernel_rfl) (by simp) (AllReadyH.cons (o := { dst := none, op := Op.store 33 (Operand.tmp 5) (Operand.tmp 20), type := 0, pos := "ikey.go:74", after := #[{ on := 10, ground := Ground.data }, { on := 8, ground := Ground.data }, { on := 11, ground := Ground.chain }, { on := 0, ground := Ground.phase }, { on := 1, ground := Ground.phase }, { on := 2, ground := Ground.phase }, { on := 3, ground := Ground.phase }, { on := 4, ground := Ground.phase }, { on := 5, ground := Ground.phase }, { on := 6, ground := Ground.phase }, { on := 7, ground := Ground.phase }, { on := 8, ground := Ground.phase }, { on := 9, ground := Ground.phase }, { on := 10, ground := Ground.phase }, { on := 11, ground := Ground.phase }], guard := none }) rfl (fun K hK => ?_) AllReadyH.nil)
        go_simp
        (try dsimp only)
        refine Shut.out hK _ _ ?_ (fun hS12 => ?_)
        · exact KS.out _ (by (repeat (first | exact Below.refl _ _ | apply Below.drew | refine Below.alloc ?_ (by simp <;> omega) _ | refine Below.setCell ?_ (by simp <;> omega) _)))
        clear hK K
        (try simp only [Act.put, List.setIfInBounds_toArray, List.set_cons_zero, List.set_cons_succ])
        refine wpAnyH_done (by kernel_rfl) ?_ _
        clear KS
        rcases ahead_cases l[k] l[k + 1] with ⟨q1, q2, q3⟩ | ⟨q1, q2, q3, q4⟩ | ⟨q1, q2, q3, q4⟩ | ⟨q1, q2, q3⟩
        · go_wp2; exact ⟨⟨k + 1, Or.inl hlt, by go_num, HT.out.trans q3.out, (Below.drew (Below.alloc (Below.alloc hwr hwr.size _) (Nat.le_trans hwr.size (by simp)) _))⟩, by simp [intOf]; omega⟩
        · go_wp2; exact ⟨⟨k + 1, Or.inl hlt, by go_num, HT.out.trans q4.out, (Below.drew (Below.alloc (Below.alloc hwr hwr.size _) (Nat.le_trans hwr.size (by simp)) _))⟩, by simp [intOf]; omega⟩
        · go_wp2; go_ret; exact ⟨ret_bool (rises_false l _ (HT.out.trans q4.out)).symm, (Below.drew (Below.alloc (Below.alloc hwr hwr.size _) (Nat.le_trans hwr.size (by simp)) _))⟩
        · go_wp2; go_ret; exact ⟨ret_bool (rises_false l _ (HT.out.trans q3.out)).symm, (Below.drew (Below.alloc (Below.alloc hwr hwr.size _) (Nat.le_trans hwr.size (by simp)) _))⟩
      · skip
        go_simp
        (try dsimp only)
        refine Shut.out hK _ _ ?_ (fun hS10 => ?_)
        · exact KS.out _ (by (repeat (first | exact Below.refl _ _ | apply Below.drew | refine Below.alloc ?_ (by simp <;> omega) _ | refine Below.setCell ?_ (by simp <;> omega) _)))
        clear hK K
        (try simp only [Act.put, List.setIfInBounds_toArray, List.set_cons_zero, List.set_cons_succ])
        refine wpAnyH_ready (rs := [9]) (by kernel_rfl) (by simp) (AllReadyH.cons (o := { dst := some 4, op := Op.alloc 33, type := 0, pos := "ikey.go:74", after := #[], guard := none }) rfl (fun K hK => ?_) AllReadyH.nil)
        go_simp
        (try dsimp only)
        refine Shut.out hK _ _ ?_ (fun hS9 => ?_)
        · exact KS.out _ (by (repeat (first | exact Below.refl _ _ | apply Below.drew | refine Below.alloc ?_ (by simp <;> omega) _ | refine Below.setCell ?_ (by simp <;> omega) _)))
        clear hK K
        (try simp only [Act.put, List.setIfInBounds_toArray, List.set_cons_zero, List.set_cons_succ])
        refine wpAnyH_ready (rs := [11]) (by kernel_rfl) (by simp) (AllReadyH.cons (o := { dst := none, op := Op.store 33 (Operand.tmp 4) (Operand.tmp 16), type := 0, pos := "ikey.go:74", after := #[{ on := 9, ground := Ground.data }, { on := 4, ground := Ground.data }, { on := 0, ground := Ground.phase }, { on := 1, ground := Ground.phase }, { on := 2, ground := Ground.phase }, { on := 3, ground := Ground.phase }, { on := 4, ground := Ground.phase }, { on := 5, ground := Ground.textOnly Departure.lateStores }, { on := 6, ground := Ground.textOnly Departure.lateStores }, { on := 7, ground := Ground.textOnly Departure.lateStores }, { on := 8, ground := Ground.textOnly Departure.lateStores }, { on := 9, ground := Ground.phase }, { on := 10, ground := Ground.phase }], guard := none }) rfl (fun K hK => ?_) AllReadyH.nil)
        go_simp
        (try dsimp only)
        refine Shut.out hK _ _ ?_ (fun hS11 => ?_)
        · exact KS.out _ (by (repeat (first | exact Below.refl _ _ | apply Below.drew | refine Below.alloc ?_ (by simp <;> omega) _ | refine Below.setCell ?_ (by simp <;> omega) _)))
        clear hK K
        (try simp only [Act.put, List.setIfInBounds_toArray, List.set_cons_zero, List.set_cons_succ])
        refine wpAnyH_ready (rs := [12]) (by kernel_rfl) (by simp) (AllReadyH.cons (o := { dst := none, op := Op.store 33 (Operand.tmp 5) (Operand.tmp 20), type := 0, pos := "ikey.go:74", after := #[{ on := 10, ground := Ground.data }, { on := 8, ground := Ground.data }, { on := 11, ground := Ground.chain }, { on := 0, ground := Ground.phase }, { on := 1, ground := Ground.phase }, { on := 2, ground := Ground.phase }, { on := 3, ground := Ground.phase }, { on := 4, ground := Ground.phase }, { on := 5, ground := Ground.phase }, { on := 6, ground := Ground.phase }, { on := 7, ground := Ground.phase }, { on := 8, ground := Ground.phase }, { on := 9, ground := Ground.phase }, { on := 10, ground := Ground.phase }, { on := 11, ground := Ground.phase }], guard := none }) rfl (fun K hK => ?_) AllReadyH.nil)
        go_simp
        (try dsimp only)
        refine Shut.out hK _ _ ?_ (fun hS12 => ?_)
        · exact KS.out _ (by (repeat (first | exact Below.refl _ _ | apply Below.drew | refine Below.alloc ?_ (by simp <;> omega) _ | refine Below.setCell ?_ (by simp <;> omega) _)))
        clear hK K
        (try simp only [Act.put, List.setIfInBounds_toArray, List.set_cons_zero, List.set_cons_succ])
        refine wpAnyH_done (by kernel_rfl) ?_ _
        clear KS
        rcases ahead_cases l[k] l[k + 1] with ⟨q1, q2, q3⟩ | ⟨q1, q2, q3, q4⟩ | ⟨q1, q2, q3, q4⟩ | ⟨q1, q2, q3⟩
        · go_wp2; exact ⟨⟨k + 1, Or.inl hlt, by go_num, HT.out.trans q3.out, (Below.drew (Below.alloc (Below.alloc hwr hwr.size _) (Nat.le_trans hwr.size (by simp)) _))⟩, by simp [intOf]; omega⟩
        · go_wp2; exact ⟨⟨k + 1, Or.inl hlt, by go_num, HT.out.trans q4.out, (Below.drew (Below.alloc (Below.alloc hwr hwr.size _) (Nat.le_trans hwr.size (by simp)) _))⟩, by simp [intOf]; omega⟩
        · go_wp2; go_ret; exact ⟨ret_bool (rises_false l _ (HT.out.trans q4.out)).symm, (Below.drew (Below.alloc (Below.alloc hwr hwr.size _) (Nat.le_trans hwr.size (by simp)) _))⟩
        · go_wp2; go_ret; exact ⟨ret_bool (rises_false l _ (HT.out.trans q3.out)).symm, (Below.drew (Below.alloc (Below.alloc hwr hwr.size _) (Nat.le_trans hwr.size (by simp)) _))⟩
    · have hn : ¬ ((k : Int) + 1 < (l.length : Int)) := by omega
      have hend : rises l = true := by rw [← hr, List.take_of_length_le (by omega)]
      have HE := Lib.hid hend
      clear hend hr
      go_wp2
      go_ret
      exact ⟨ret_bool HE.out.symm, hwr⟩
end Go.Proofs.Ythgbmijgoaihcaa

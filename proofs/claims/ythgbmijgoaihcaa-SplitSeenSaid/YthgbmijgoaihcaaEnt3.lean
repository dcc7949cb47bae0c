/-
  Lists of lists of entries; the law's first entries (few).
-/
import Derived.Test.YthgbmijgoaihcaaEnt2
namespace Go.Proofs.Ythgbmijgoaihcaa
open Go.RowKit
set_option linter.unusedVariables false

/-- A slice of slices of entries that reads as ls. -/
def EntRows (w : World) (a : Option Addr) (ls : List (List Ent)) : Prop :=
  ∀ i (h : i < ls.length), ∃ b off x cap, a = some ⟨b, off, none⟩ ∧ w.cell? ⟨b, off + i, none⟩ = some (.slice x ls[i].length cap) ∧ ls[i].length ≤ cap ∧ cap ≤ maxLen ∧ Ents w x ls[i]
theorem EntRows.below {w w' : World} {a : Option Addr} {ls : List (List Ent)} (h : EntRows w a ls) (hb : Below w.heap.size w w') : EntRows w' a ls := by
  intro i hi
  obtain ⟨b, off, x, cap, e, hc, hm, hm2, hx⟩ := h i hi
  exact ⟨b, off, x, cap, e, by rw [hb.cell (p := ⟨b, off + i, none⟩) (cell_lt hc), hc], hm, hm2, hx.below hb⟩
theorem cell_later2 {w w' : World} {b o : Nat} {v : Value} (hb : Below w.heap.size w w') (h : w.cell? ⟨b, o, none⟩ = some v) : w'.cell? ⟨b, o, none⟩ = some v := by
  rw [hb.cell (p := ⟨b, o, none⟩) (cell_lt h), h]

set_option maxRecDepth 100000 in
set_option maxHeartbeats 800000 in
theorem same2_any (a a' : Option Addr) (cap cap' : Nat) (l m : List (List Ent)) (w : World) (hl : l.length ≤ maxLen) (hm : m.length ≤ maxLen) (hb : EntRows w a l) (hb' : EntRows w a' m) (heq : l = m) :
    Calls Try.prog 16 #[.slice a l.length cap, .slice a' m.length cap'] w fun e w' => e = .returned (.bool true) ∧ Below w.heap.size w w' := by
  subst heq
  unfold maxLen at hl
  go_enter Try.func16, Try.ntmps16
  go_wp2
  go_loopw [5] (fun i wr => ∃ k : Nat, k ≤ l.length ∧ i = .int .i64 k ∧ Below w.heap.size w wr) (fun i _ => l.length - (intOf i).toNat)
  case atStart => exact ⟨0, by omega, rfl, Below.refl _ _⟩
  case round =>
    obtain ⟨k, hk, rfl, hwr⟩ := hrel
    by_cases hlt : k < l.length
    · obtain ⟨b, off, x, c1, rfl, h1, hlc, hcm, hx⟩ := (hb.below hwr) k hlt
      obtain ⟨b', off', x', c2, rfl, h2, hlc', hcm', hx'⟩ := (hb'.below hwr) k hlt
      have hm1 : l[k].length ≤ maxLen := Nat.le_trans hlc hcm
      have hin : (k : Int) < (l.length : Int) := by omega
      have hkn : 0 ≤ (k : Int) := by omega
      go_wp2
      refine wp_region_held_drew (S := (fun w' => w'.cell? ⟨b, off + k, none⟩ = some (.slice x l[k].length c1) ∧ w'.cell? ⟨b', off' + k, none⟩ = some (.slice x' l[k].length c2))) (by kernel_rfl) ?_ (fun hS0 => ?_)
      · exact ⟨h1, h2⟩
      refine wpAnyH_take (i := 0) (oi := { dst := some 17, op := Op.move (Operand.tmp 0), type := 25, pos := "ref.go:64", after := #[], guard := none }) (v := ?_) rfl (by kernel_rfl) (by kernel_rfl) (by kernel_rfl) (fun _ _ _ h => h) (Or.inl ⟨by rfl, ?hy1⟩) (by assumption) ?_
      case hy1 => (intro w hSw; (try dsimp only at hSw); go_simp; try with_reducible rfl)
      (try simp only [Act.put, List.setIfInBounds_toArray, List.set_cons_zero, List.set_cons_succ])
      refine wpAnyH_take (i := 1) (oi := { dst := some 18, op := Op.move (Operand.tmp 5), type := 3, pos := "ref.go:64", after := #[], guard := none }) (v := ?_) rfl (by kernel_rfl) (by kernel_rfl) (by kernel_rfl) (fun _ _ _ h => h) (Or.inl ⟨by rfl, ?hy2⟩) (by assumption) ?_
      case hy2 => (intro w hSw; (try dsimp only at hSw); go_simp; try with_reducible rfl)
      (try simp only [Act.put, List.setIfInBounds_toArray, List.set_cons_zero, List.set_cons_succ])
      refine wpAnyH_take (i := 2) (oi := { dst := some 19, op := Op.indexAddr 25 (Operand.tmp 17) (Operand.tmp 18), type := 0, pos := "ref.go:64", after := #[{ on := 0, ground := Ground.data }, { on := 1, ground := Ground.data }], guard := none }) (v := ?_) rfl (by kernel_rfl) (by kernel_rfl) (by kernel_rfl) (fun _ _ _ h => h) (Or.inl ⟨by rfl, ?hy3⟩) (by assumption) ?_
      case hy3 => (intro w hSw; (try dsimp only at hSw); go_simp; try with_reducible rfl)
      (try simp only [Act.put, List.setIfInBounds_toArray, List.set_cons_zero, List.set_cons_succ])
      refine wpAnyH_take (i := 3) (oi := { dst := some 20, op := Op.load 22 (Operand.tmp 19), type := 22, pos := "ref.go:64", after := #[{ on := 2, ground := Ground.data }], guard := none }) (v := ?_) rfl (by kernel_rfl) (by kernel_rfl) (by kernel_rfl) (fun _ _ _ h => h) (Or.inl ⟨by rfl, ?hy4⟩) (by assumption) ?_
      case hy4 => (intro w hSw; (try dsimp only at hSw); go_simp; try with_reducible rfl)
      (try simp only [Act.put, List.setIfInBounds_toArray, List.set_cons_zero, List.set_cons_succ])
      refine wpAnyH_take (i := 4) (oi := { dst := some 21, op := Op.move (Operand.tmp 1), type := 25, pos := "ref.go:64", after := #[], guard := none }) (v := ?_) rfl (by kernel_rfl) (by kernel_rfl) (by kernel_rfl) (fun _ _ _ h => h) (Or.inl ⟨by rfl, ?hy5⟩) (by assumption) ?_
      case hy5 => (intro w hSw; (try dsimp only at hSw); go_simp; try with_reducible rfl)
      (try simp only [Act.put, List.setIfInBounds_toArray, List.set_cons_zero, List.set_cons_succ])
      refine wpAnyH_take (i := 5) (oi := { dst := some 22, op := Op.move (Operand.tmp 5), type := 3, pos := "ref.go:64", after := #[], guard := none }) (v := ?_) rfl (by kernel_rfl) (by kernel_rfl) (by kernel_rfl) (fun _ _ _ h => h) (Or.inl ⟨by rfl, ?hy6⟩) (by assumption) ?_
      case hy6 => (intro w hSw; (try dsimp only at hSw); go_simp; try with_reducible rfl)
      (try simp only [Act.put, List.setIfInBounds_toArray, List.set_cons_zero, List.set_cons_succ])
      refine wpAnyH_take (i := 6) (oi := { dst := some 23, op := Op.indexAddr 25 (Operand.tmp 21) (Operand.tmp 22), type := 0, pos := "ref.go:64", after := #[{ on := 4, ground := Ground.data }, { on := 5, ground := Ground.data }], guard := none }) (v := ?_) rfl (by kernel_rfl) (by kernel_rfl) (by kernel_rfl) (fun _ _ _ h => h) (Or.inl ⟨by rfl, ?hy7⟩) (by assumption) ?_
      case hy7 => (intro w hSw; (try dsimp only at hSw); go_simp; try with_reducible rfl)
      (try simp only [Act.put, List.setIfInBounds_toArray, List.set_cons_zero, List.set_cons_succ])
      refine wpAnyH_take (i := 7) (oi := { dst := some 24, op := Op.load 22 (Operand.tmp 23), type := 22, pos := "ref.go:64", after := #[{ on := 6, ground := Ground.data }], guard := none }) (v := ?_) rfl (by kernel_rfl) (by kernel_rfl) (by kernel_rfl) (fun _ _ _ h => h) (Or.inl ⟨by rfl, ?hy8⟩) (by assumption) ?_
      case hy8 => (intro w hSw; (try dsimp only at hSw); go_simp; try with_reducible rfl)
      (try simp only [Act.put, List.setIfInBounds_toArray, List.set_cons_zero, List.set_cons_succ])
      refine wpAnyH_ready (rs := [8]) (by kernel_rfl) (by simp) (AllReadyH.cons (o := { dst := some 25, op := Op.call { callee := Callee.value (Operand.func 23), args := #[Operand.tmp 20, Operand.tmp 24], argTypes := #[22, 22] }, type := 4, pos := "ref.go:64", after := #[{ on := 3, ground := Ground.data }, { on := 7, ground := Ground.data }], guard := none }) rfl (fun K hK => ?_) AllReadyH.nil)
      go_simp
      refine (same_any x x' c1 c2 l[k] l[k] _ hm1 hm1 (hx.below (Below.refl _ _).drew) (hx'.below (Below.refl _ _).drew) rfl).mono ?_
      rintro e w2 ⟨rfl, hb2⟩
      (try dsimp only)
      refine Shut.out hK _ _ ?_ (fun hS8 => ?_)
      · exact ⟨cell_later2 hb2 h1, cell_later2 hb2 h2⟩
      clear hK K
      (try simp only [Act.put, List.setIfInBounds_toArray, List.set_cons_zero, List.set_cons_succ])
      refine wpAnyH_take (i := 9) (oi := { dst := some 26, op := Op.unOp UnOp.not 4 (Operand.tmp 25), type := 4, pos := "ref.go:64", after := #[{ on := 8, ground := Ground.data }], guard := none }) (v := ?_) rfl (by kernel_rfl) (by kernel_rfl) (by kernel_rfl) (fun _ _ _ h => h) (Or.inl ⟨by rfl, ?hy9⟩) (by assumption) ?_
      case hy9 => (intro w hSw; (try dsimp only at hSw); go_simp; try with_reducible rfl)
      (try simp only [Act.put, List.setIfInBounds_toArray, List.set_cons_zero, List.set_cons_succ])
      refine wpAnyH_done (by kernel_rfl) ?_ _
      have hw2 : Below w.heap.size w w2 := hwr.drew.trans (hb2.mono hwr.size)
      go_wp2; exact ⟨⟨k + 1, by omega, by go_num, hw2⟩, by simp [intOf]; omega⟩
    · obtain rfl : k = l.length := by omega
      go_wp2
      go_ret
      exact ⟨rfl, hwr⟩

/-! The law's 'few': how many entries from the front. -/
def fewGo : Nat → Nat → List Ent → Nat
  | _, i, [] => i
  | left, i, e :: t => if 500 ≤ i ∨ left < e.user.size ∨ left - e.user.size < e.value.size then i else fewGo (left - (e.user.size + e.value.size)) (i + 1) t
def fewN (l : List Ent) : Nat := fewGo 200000 0 l
theorem fewGo_bound : ∀ (l : List Ent) (left i : Nat), i ≤ 500 → fewGo left i l ≤ 500 ∧ fewGo left i l ≤ i + l.length ∧ i ≤ fewGo left i l ∧ count (l.take (fewGo left i l - i)) ≤ left + 8 * (fewGo left i l - i)
  | [], left, i, h => by simp [fewGo, count]; omega
  | e :: t, left, i, h => by
    unfold fewGo
    split
    · simp [count]; omega
    · rename_i hc
      have ih := fewGo_bound t (left - (e.user.size + e.value.size)) (i + 1) (by omega)
      obtain ⟨h1, h2, h3, h4⟩ := ih
      generalize fewGo (left - (e.user.size + e.value.size)) (i + 1) t = r at *
      refine ⟨h1, by simp; omega, by omega, ?_⟩
      have e1 : r - i = (r - (i + 1)) + 1 := by omega
      rw [e1, List.take_succ_cons]
      have e2 : count (e :: t.take (r - (i + 1))) = 8 + e.user.size + e.value.size + count (t.take (r - (i + 1))) := by simp [count]
      omega
theorem fewN_le (l : List Ent) : fewN l ≤ l.length := by have := (fewGo_bound l 200000 0 (by omega)).2.1; unfold fewN; omega
theorem fewN_500 (l : List Ent) : fewN l ≤ 500 := (fewGo_bound l 200000 0 (by omega)).1
theorem fewN_count (l : List Ent) : count (l.take (fewN l)) ≤ 204000 := by
  have h := fewGo_bound l 200000 0 (by omega)
  have := h.2.2.2
  have h1 := h.1
  unfold fewN; simp at this; omega

theorem few_stop (e : Ent) (left i : Nat) (t : List Ent) (h : 500 ≤ i ∨ left < e.user.size ∨ left - e.user.size < e.value.size) : fewGo left i (e :: t) = i := by
  unfold fewGo; rw [if_pos h]
theorem few_go (e : Ent) (left i : Nat) (t : List Ent) (h : ¬ (500 ≤ i ∨ left < e.user.size ∨ left - e.user.size < e.value.size)) : fewGo left i (e :: t) = fewGo (left - (e.user.size + e.value.size)) (i + 1) t := by
  conv => lhs; unfold fewGo
  rw [if_neg h]

set_option maxRecDepth 100000 in
set_option maxHeartbeats 1600000 in
theorem few_any (a : Option Addr) (cap : Nat) (l : List Ent) (w : World) (hl : l.length ≤ cap) (hm : cap ≤ maxLen) (hb : Ents w a l) :
    Calls Try.prog 18 #[.slice a l.length cap] w fun e w' => e = .returned (.slice a (fewN l) cap) ∧ Below w.heap.size w w' := by
  have hle : l.length ≤ 9223372036854775807 := by unfold maxLen at hm; omega
  have hcap : (l.length : Int) ≤ (cap : Int) := by omega
  go_enter Try.func18, Try.ntmps18
  go_wp2
  go_loopw [3, 7] (fun f i wr => ∃ k left : Nat, k ≤ l.length ∧ k ≤ 500 ∧ left ≤ 200000 ∧ f = .int .i64 left ∧ i = .int .i64 k ∧ fewGo left k (l.drop k) = fewN l ∧ Below w.heap.size w wr) (fun _ i _ => l.length - (intOf i).toNat)
  case atStart => exact ⟨0, 200000, by omega, by omega, by omega, rfl, rfl, rfl, Below.refl _ _⟩
  case round =>
    obtain ⟨k, left, hk, hk5, hleft, rfl, rfl, hf, hwr⟩ := hrel
    by_cases hlt : k < l.length
    · obtain ⟨b, off, rfl, ⟨c0, c1, c2, c3⟩, ho1, _, _, ho2⟩ := (hb.below hwr) k hlt
      rw [List.drop_eq_getElem_cons hlt] at hf
      have HF := Lib.hid hf
      clear hf
      have hin : (k : Int) < (l.length : Int) := by omega
      have hkc : (k : Int) ≤ (cap : Int) := by omega
      generalize hx : l[k] = x at *
      clear hx
      unfold maxLen at ho1 ho2
      by_cases q1 : 500 ≤ k
      · have d1 : decide (500 ≤ (k : Int)) = true := by simp; omega
        have HR : Hid (fewN l = k) := HF.out.symm.trans (few_stop x left k _ (Or.inl q1))
        go_wp2
        go_quiet (fail)
        go_wp2
        go_ret
        rw [HR.out]
        exact ⟨by simp, below_drewN hwr _⟩
      · have d1 : decide (500 ≤ (k : Int)) = false := by simp; omega
        by_cases q2 : left < x.user.size
        · have d2 : decide ((left : Int) < (x.user.size : Int)) = true := by simp; omega
          have HR : Hid (fewN l = k) := HF.out.symm.trans (few_stop x left k _ (Or.inr (Or.inl q2)))
          go_wp2
          go_quiet (fail)
          go_wp2
          go_ret
          rw [HR.out]
          exact ⟨by simp, below_drewN hwr _⟩
        · have d2 : decide ((left : Int) < (x.user.size : Int)) = false := by simp; omega
          by_cases q3 : left - x.user.size < x.value.size
          · have d3 : decide ((left : Int) - (x.user.size : Int) < (x.value.size : Int)) = true := by simp; omega
            have HR : Hid (fewN l = k) := HF.out.symm.trans (few_stop x left k _ (Or.inr (Or.inr q3)))
            go_wp2
            go_quiet (fail)
            go_wp2
            go_ret
            rw [HR.out]
            exact ⟨by simp, below_drewN hwr _⟩
          · have d3 : decide ((left : Int) - (x.user.size : Int) < (x.value.size : Int)) = false := by simp; omega
            have HR : Hid (fewGo (left - (x.user.size + x.value.size)) (k + 1) (l.drop (k + 1)) = fewN l) := (few_go x left k _ (by omega)).symm.trans HF.out
            go_wp2
            go_quiet (fail)
            go_wp2
            go_quiet (fail)
            go_wp2
            exact ⟨⟨k + 1, left - (x.user.size + x.value.size), by omega, by omega, by omega, by simp; omega, by go_num, HR.out, below_drewN hwr _⟩, by simp [intOf]; omega⟩
    · obtain rfl : k = l.length := by omega
      have hd : l.drop l.length = [] := by simp
      rw [hd] at hf
      have HF : Hid (fewN l = l.length) := hf.symm
      clear hf hd
      go_wp2
      go_ret
      rw [HF.out]
      exact ⟨rfl, hwr⟩
end Go.Proofs.Ythgbmijgoaihcaa

/-
  A region that draws its order: what must hold of the world is asked only till one operation (a call, say) is done, so that a store behind it may overwrite what was loaded before it. No function of the program is named here.
-/
import Derived.Test.YthgbmijgoaihcaaDraw
namespace Go.Proofs.Ythgbmijgoaihcaa
open Go.RowKit
set_option linter.unusedVariables false

section
variable {P : Program} {ops : Array Oper} {Q : Exit → Act → World → Prop} {md : Region.Mode} {S : World → Prop} {c : Nat}

/-- As 'wpAny'; till operation c is done S is shown of each world on the way. -/
def wpAnyC (P : Program) (md : Region.Mode) (ops : Array Oper) (Q : Exit → Act → World → Prop) (c : Nat) (S : World → Prop) : Nat → Array Bool → Act → World → Prop
  | 0, listed, a, w => Region.ready md ops listed = [] ∧ Q .normal a w
  | fuel + 1, listed, a, w => (Region.ready md ops listed = [] → Q .normal a w) ∧
      ∀ i ∈ Region.ready md ops listed, wpOp P ops Q i (fun a' w' => if i = c then wpAny P md ops Q fuel (listed.setIfInBounds i true) a' w' else S w' ∧ wpAnyC P md ops Q c S fuel (listed.setIfInBounds i true) a' w') a w

theorem wpAny_of_cut : ∀ (fuel : Nat) (listed : Array Bool) (a : Act) (w : World), wpAnyC P md ops Q c S fuel listed a w → wpAny P md ops Q fuel listed a w := by
  intro fuel
  induction fuel with
  | zero => intro listed a w h; exact h
  | succ fuel ih =>
    intro listed a w h
    refine ⟨h.1, fun i hi => wpOp_mono (fun a' w' h' => ?_) (h.2 i hi)⟩
    by_cases e : i = c
    · rw [if_pos e] at h'; exact h'
    · rw [if_neg e] at h'; exact ih _ _ _ h'.2

theorem cut_first {i : Nat} {oi : Oper} {v : Value} (hi : ops[i]? = some oi) (hsel : ∀ (j : Nat) (o : Oper) cs b, ops[j]? = some o → o.op ≠ .select cs b)
    (hQ : ∀ k a w, Q (.panic k) (a.put oi.dst v) w → Q (.panic k) a w) (hc : ∀ oc, ops[c]? = some oc → ∃ e ∈ oc.after, Region.binds md e = true ∧ e.on = i) (hic : i ≠ c) :
    ∀ (fuel : Nat) (listed : Array Bool) (a : Act) (w : World),
      (∀ j oj, ops[j]? = some oj → j ≠ i → listed.getD j true = false → (∀ e ∈ oj.after, Region.binds md e = true → e.on ≠ i) → oi.apart ops oj = true) →
      i ∈ Region.ready md ops listed → YieldsIf P ops S oi v a → S w →
      wpAnyC P md ops Q c S fuel (listed.setIfInBounds i true) (a.put oi.dst v) w → wpAnyC P md ops Q c S (fuel + 1) listed a w := by
  intro fuel
  induction fuel with
  | zero =>
    intro listed a w _ hr hy hS H
    refine ⟨fun h => (by rw [h] at hr; cases hr), fun j hj => ?_⟩
    rcases Nat.decEq j i with hne | rfl
    · have hj' := ready_mono hj hne
      rw [H.1] at hj'
      cases hj'
    · exact hy.wpOp hi hS (by rw [if_neg hic]; exact ⟨hS, H⟩)
  | succ fuel ih =>
    intro listed a w hfree hr hy hS H
    refine ⟨fun h => (by rw [h] at hr; cases hr), fun j hj => ?_⟩
    rcases Nat.decEq j i with hne | rfl
    · obtain ⟨hjun, oj, hoj, hall⟩ := mem_ready.1 hj
      have hnot : ∀ e ∈ oj.after, Region.binds md e = true → e.on ≠ i := by
        intro e he hb heq
        have t1 := hall e he hb
        have t0 := (mem_ready.1 hr).1
        rw [heq] at t1
        rcases Nat.lt_or_ge i listed.size with hl | hl
        · simp [hl] at t0 t1; rw [t0] at t1; cases t1
        · simp [Array.getElem?_eq_none hl] at t1
      have hjc : j ≠ c := by
        intro e
        subst e
        obtain ⟨e', he', hb', ho'⟩ := hc oj hoj
        exact hnot e' he' hb' ho'
      have h1 := H.2 j (ready_mono hj hne)
      have h2 := wpOp_putIf hoj (hfree j oj hoj hne hjun hnot) (fun cs b => hsel i oi cs b hi) (fun cs b => hsel j oj cs b hoj) hQ hy h1
      refine wpOp_mono (fun a' w' h3 => ?_) h2
      rw [if_neg hjc] at h3 ⊢
      refine ⟨h3.2.1, ih (listed.setIfInBounds j true) a' w' (fun k ok hk hki hun hno => hfree k ok hk hki ?_ hno) (ready_mono hr (Ne.symm hne)) h3.1 h3.2.1 ?_⟩
      · by_cases hjk : j = k
        · subst hjk; exact hjun
        · rw [getD_set_ne true hjk] at hun; exact hun
      · rw [Array.setIfInBounds_comm _ _ hne]
        exact h3.2.2
    · exact hy.wpOp hi hS (by rw [if_neg hic]; exact ⟨hS, H⟩)

theorem cut_pure_first {i : Nat} {oi : Oper} {v : Value} (hi : ops[i]? = some oi) (hsel : ∀ (j : Nat) (o : Oper) cs b, ops[j]? = some o → o.op ≠ .select cs b)
    (hQ : ∀ k a w, Q (.panic k) (a.put oi.dst v) w → Q (.panic k) a w) (hic : i ≠ c) :
    ∀ (fuel : Nat) (listed : Array Bool) (a : Act) (w : World),
      (∀ j oj, ops[j]? = some oj → j ≠ i → listed.getD j true = false → (∀ e ∈ oj.after, Region.binds md e = true → e.on ≠ i) → oi.apart ops oj = true) →
      i ∈ Region.ready md ops listed → Yields P ops oi v a → S w →
      wpAnyC P md ops Q c S fuel (listed.setIfInBounds i true) (a.put oi.dst v) w → wpAnyC P md ops Q c S (fuel + 1) listed a w := by
  intro fuel
  induction fuel with
  | zero =>
    intro listed a w _ hr hy hS H
    refine ⟨fun h => (by rw [h] at hr; cases hr), fun j hj => ?_⟩
    rcases Nat.decEq j i with hne | rfl
    · have hj' := ready_mono hj hne
      rw [H.1] at hj'
      cases hj'
    · exact hy.wpOp hi (by rw [if_neg hic]; exact ⟨hS, H⟩)
  | succ fuel ih =>
    intro listed a w hfree hr hy hS H
    refine ⟨fun h => (by rw [h] at hr; cases hr), fun j hj => ?_⟩
    rcases Nat.decEq j i with hne | rfl
    · obtain ⟨hjun, oj, hoj, hall⟩ := mem_ready.1 hj
      have hnot : ∀ e ∈ oj.after, Region.binds md e = true → e.on ≠ i := by
        intro e he hb heq
        have t1 := hall e he hb
        have t0 := (mem_ready.1 hr).1
        rw [heq] at t1
        rcases Nat.lt_or_ge i listed.size with hl | hl
        · simp [hl] at t0 t1; rw [t0] at t1; cases t1
        · simp [Array.getElem?_eq_none hl] at t1
      have hfree' : ∀ k ok, ops[k]? = some ok → k ≠ i → (listed.setIfInBounds j true).getD k true = false → (∀ e ∈ ok.after, Region.binds md e = true → e.on ≠ i) → oi.apart ops ok = true := by
        intro k ok hk hki hun hno
        refine hfree k ok hk hki ?_ hno
        by_cases hjk : j = k
        · subst hjk; exact hjun
        · rw [getD_set_ne true hjk] at hun; exact hun
      have h1 := H.2 j (ready_mono hj hne)
      have h2 := wpOp_put hoj (hfree j oj hoj hne hjun hnot) (fun cs b => hsel i oi cs b hi) (fun cs b => hsel j oj cs b hoj) hQ hy h1
      refine wpOp_mono (fun a' w' h3 => ?_) h2
      by_cases hjc : j = c
      · rw [if_pos hjc] at h3 ⊢
        refine wpAny_first hi hsel hQ fuel (listed.setIfInBounds j true) a' w' hfree' (ready_mono hr (Ne.symm hne)) h3.1 ?_
        rw [Array.setIfInBounds_comm _ _ hne]
        exact h3.2
      · rw [if_neg hjc] at h3 ⊢
        refine ⟨h3.2.1, ih (listed.setIfInBounds j true) a' w' hfree' (ready_mono hr (Ne.symm hne)) h3.1 h3.2.1 ?_⟩
        rw [Array.setIfInBounds_comm _ _ hne]
        exact h3.2.2
    · exact hy.wpOp hi (by rw [if_neg hic]; exact ⟨hS, H⟩)

/-- Operation c waits for i. -/
def waitsFor (md : Region.Mode) (ops : Array Oper) (c i : Nat) : Bool :=
  match ops[c]? with
  | some oc => oc.after.any fun e => Region.binds md e && e.on == i
  | none => true
theorem waitsFor_spec {i : Nat} (h : waitsFor md ops c i = true) : ∀ oc, ops[c]? = some oc → ∃ e ∈ oc.after, Region.binds md e = true ∧ e.on = i := by
  intro oc hoc
  unfold waitsFor at h
  rw [hoc] at h
  obtain ⟨e, he, hb⟩ := Array.any_eq_true'.1 h
  simp only [Bool.and_eq_true, beq_iff_eq] at hb
  exact ⟨e, he, hb.1, hb.2⟩

/-- A load before c, taken first under S. -/
theorem cut_take {i : Nat} {oi : Oper} {v : Value} {fuel : Nat} {listed : Array Bool} {a : Act} {w : World} (hi : ops[i]? = some oi)
    (hs : Region.noSelect ops = true) (hf : Region.free md ops listed i = true) (hr : (Region.ready md ops listed).contains i = true) (hw : (waitsFor md ops c i && !(i == c)) = true)
    (hQ : ∀ k a w, Q (.panic k) (a.put oi.dst v) w → Q (.panic k) a w) (hy : YieldsIf P ops S oi v a) (hS : S w)
    (h : wpAnyC P md ops Q c S fuel (listed.setIfInBounds i true) (a.put oi.dst v) w) : wpAnyC P md ops Q c S (fuel + 1) listed a w := by
  simp only [Bool.and_eq_true, Bool.not_eq_true', beq_eq_false_iff_ne] at hw
  exact cut_first hi (Region.noSelect_spec hs) hQ (waitsFor_spec hw.1) hw.2 fuel listed a w (Region.free_spec hi hf) (by simpa using hr) hy hS h
/-- What asks nothing of the world is taken first. -/
theorem cut_pure {i : Nat} {oi : Oper} {v : Value} {fuel : Nat} {listed : Array Bool} {a : Act} {w : World} (hi : ops[i]? = some oi)
    (hs : Region.noSelect ops = true) (hf : Region.free md ops listed i = true) (hr : (Region.ready md ops listed).contains i = true) (hw : (!(i == c)) = true)
    (hQ : ∀ k a w, Q (.panic k) (a.put oi.dst v) w → Q (.panic k) a w) (hy : Yields P ops oi v a) (hS : S w)
    (h : wpAnyC P md ops Q c S fuel (listed.setIfInBounds i true) (a.put oi.dst v) w) : wpAnyC P md ops Q c S (fuel + 1) listed a w := by
  simp only [Bool.not_eq_true', beq_eq_false_iff_ne] at hw
  exact cut_pure_first hi (Region.noSelect_spec hs) hQ hw fuel listed a w (Region.free_spec hi hf) (by simpa using hr) hy hS h
/-- The step at c, which alone may come up. -/
theorem cut_step {o : Oper} {fuel : Nat} {listed : Array Bool} {a : Act} {w : World} (hr : Region.ready md ops listed = [c]) (ho : ops[c]? = some o)
    (h : ∀ K' : Act → World → Prop, Shut (∀ a w, wpAny P md ops Q fuel (listed.setIfInBounds c true) a w → K' a w) → if Region.wanted o (yielded ops a.tmps) = true then Oper.wp P o a w K' Q else K' (a.put o.dst undef) w) :
    wpAnyC P md ops Q c S (fuel + 1) listed a w := by
  refine ⟨fun h0 => (by rw [h0] at hr; cases hr), fun j hj => ?_⟩
  rw [hr] at hj
  obtain rfl := List.mem_singleton.1 hj
  refine wpOp_step ho (fun K' hK => h K' (fun a w hW => hK a w ?_))
  rw [if_pos rfl]
  exact hW
/-- A step ahead of c, where one alone may come up; S anew behind it. -/
theorem cut_other {i : Nat} {o : Oper} {fuel : Nat} {listed : Array Bool} {a : Act} {w : World} (hr : Region.ready md ops listed = [i]) (hic : (!(i == c)) = true) (ho : ops[i]? = some o)
    (h : ∀ K' : Act → World → Prop, Shut (∀ a w, S w → (S w → wpAnyC P md ops Q c S fuel (listed.setIfInBounds i true) a w) → K' a w) → if Region.wanted o (yielded ops a.tmps) = true then Oper.wp P o a w K' Q else K' (a.put o.dst undef) w) :
    wpAnyC P md ops Q c S (fuel + 1) listed a w := by
  simp only [Bool.not_eq_true', beq_eq_false_iff_ne] at hic
  refine ⟨fun h0 => (by rw [h0] at hr; cases hr), fun j hj => ?_⟩
  rw [hr] at hj
  obtain rfl := List.mem_singleton.1 hj
  refine wpOp_step ho (fun K' hK => h K' (fun a w hS hW => hK a w ?_))
  rw [if_neg hic]
  exact ⟨hS, hW hS⟩
theorem cut_start {id : Nat} {a : Act} {w : World} (c : Nat) (S : World → Prop) (hm : P.follows .mixedOrders = true) (hS : S w.drew)
    (h : S w.drew → wpAnyC P .any ops Q c S ops.size (Array.replicate ops.size false) a w.drew) : (Code.region id ops true).wp P Q a w :=
  wp_region_any hm (wpAny_of_cut _ _ _ _ (h hS))
/-- A step behind c, where one alone may come up. -/
theorem any_step {i : Nat} {o : Oper} {fuel : Nat} {listed : Array Bool} {a : Act} {w : World} (hr : Region.ready md ops listed = [i]) (ho : ops[i]? = some o)
    (h : ∀ K' : Act → World → Prop, Shut (∀ a w, wpAny P md ops Q fuel (listed.setIfInBounds i true) a w → K' a w) → if Region.wanted o (yielded ops a.tmps) = true then Oper.wp P o a w K' Q else K' (a.put o.dst undef) w) :
    wpAny P md ops Q (fuel + 1) listed a w :=
  wpAny_ready hr (by simp) (AllReady.cons ho h AllReady.nil)
end
end Go.Proofs.Ythgbmijgoaihcaa

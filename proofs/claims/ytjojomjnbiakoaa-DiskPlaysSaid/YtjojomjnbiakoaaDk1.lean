/-
  The disk, plainly: files by rising names.
-/
import Derived.Test.YtjojomjnbiakoaaBase
import Derived.Sort.KeysCollected
namespace Go.Proofs.Ytjojomjnbiakoaa
open Go.RowKit
set_option linter.unusedVariables false

abbrev Key := List UInt8
structure FM where
  b : List UInt8
  s : Nat
instance : Inhabited FM := ⟨⟨[], 0⟩⟩
section assoc
variable {α : Type}
def lkup : List (Key × α) → Key → Option α
  | [], _ => none
  | p :: t, x => if p.1 = x then some p.2 else lkup t x
def putF : List (Key × α) → Key → α → List (Key × α)
  | [], k, f => [(k, f)]
  | p :: t, k, f => if p.1 < k then p :: putF t k f else if p.1 = k then (k, f) :: t else (k, f) :: p :: t
def delF (fs : List (Key × α)) (k : Key) : List (Key × α) := fs.filter fun p => decide (p.1 ≠ k)
def SortedF (fs : List (Key × α)) : Prop := fs.Pairwise fun p q => p.1 < q.1

theorem key_irr (k : Key) : ¬ k < k := List.lt_irrefl k
theorem key_tri (a b : Key) : a < b ∨ a = b ∨ b < a := by
  by_cases h : a < b
  · exact Or.inl h
  · by_cases h2 : b < a
    · exact Or.inr (Or.inr h2)
    · exact Or.inr (Or.inl (List.le_antisymm (List.not_lt.1 h2) (List.not_lt.1 h)))
theorem key_trans {a b c : Key} (h : a < b) (h2 : b < c) : a < c := List.lt_trans h h2
theorem lkup_put_same (k : Key) (f : α) : ∀ fs : List (Key × α), lkup (putF fs k f) k = some f
  | [] => by simp [putF, lkup]
  | p :: t => by
    unfold putF
    split
    · rename_i h
      have : p.1 ≠ k := fun e => key_irr k (e ▸ h)
      simp [lkup, this, lkup_put_same k f t]
    · split
      · simp [lkup]
      · simp [lkup]
theorem lkup_put_other {k x : Key} (h : x ≠ k) (f : α) : ∀ fs : List (Key × α), lkup (putF fs k f) x = lkup fs x
  | [] => by simp [putF, lkup, Ne.symm h]
  | p :: t => by
    have ih := lkup_put_other h f t
    unfold putF
    split
    · simp [lkup, ih]
    · split
      · rename_i e; simp [lkup, Ne.symm h, e]
      · simp [lkup, Ne.symm h]
theorem lkup_del_same (k : Key) : ∀ fs : List (Key × α), lkup (delF fs k) k = none
  | [] => rfl
  | p :: t => by
    have ih := lkup_del_same k t
    unfold delF at ih ⊢
    by_cases e : p.1 = k
    · simpa [e] using ih
    · simp only [List.filter_cons, ne_eq, e, not_false_eq_true, decide_true, if_true, lkup, if_false]; exact ih
theorem lkup_del_other {k x : Key} (h : x ≠ k) : ∀ fs : List (Key × α), lkup (delF fs k) x = lkup fs x
  | [] => rfl
  | p :: t => by
    have ih := lkup_del_other h t
    unfold delF at ih ⊢
    by_cases e : p.1 = k
    · have e2 : p.1 ≠ x := fun q => h (q.symm.trans e)
      have e3 : (p :: t).filter (fun p => decide (p.1 ≠ k)) = t.filter (fun p => decide (p.1 ≠ k)) := by simp [e]
      rw [e3, ih]
      simp only [lkup, if_neg e2]
    · have e3 : (p :: t).filter (fun p => decide (p.1 ≠ k)) = p :: t.filter (fun p => decide (p.1 ≠ k)) := by simp [e]
      rw [e3]
      simp only [lkup]
      rw [ih]
theorem mem_put {k : Key} {f : α} {p : Key × α} : ∀ {fs : List (Key × α)}, p ∈ putF fs k f → p = (k, f) ∨ p ∈ fs
  | [], h => by simp [putF] at h; exact Or.inl h
  | q :: t, h => by
    unfold putF at h
    split at h
    · rcases List.mem_cons.1 h with rfl | h
      · exact Or.inr (by simp)
      · exact (mem_put h).imp id fun h => by simp [h]
    · split at h
      · rcases List.mem_cons.1 h with rfl | h
        · exact Or.inl rfl
        · exact Or.inr (by simp [h])
      · rcases List.mem_cons.1 h with rfl | h
        · exact Or.inl rfl
        · exact Or.inr h
theorem sorted_put (k : Key) (f : α) : ∀ {fs : List (Key × α)}, SortedF fs → SortedF (putF fs k f)
  | [], _ => by simp [SortedF, putF]
  | p :: t, h => by
    obtain ⟨h1, h2⟩ := List.pairwise_cons.1 h
    have ih := sorted_put k f h2
    unfold putF
    split
    · rename_i hk
      refine List.pairwise_cons.2 ⟨fun q hq => ?_, ih⟩
      rcases mem_put hq with rfl | hq
      · exact hk
      · exact h1 q hq
    · rename_i hk
      split
      · rename_i e
        exact List.pairwise_cons.2 ⟨fun q hq => by have := h1 q hq; rw [e] at this; exact this, h2⟩
      · rename_i e
        have hkp : k < p.1 := by
          rcases key_tri p.1 k with q | q | q
          · exact absurd q hk
          · exact absurd q e
          · exact q
        refine List.pairwise_cons.2 ⟨fun q hq => ?_, h⟩
        rcases List.mem_cons.1 hq with rfl | hq
        · exact hkp
        · exact key_trans hkp (h1 q hq)
theorem sorted_del (k : Key) {fs : List (Key × α)} (h : SortedF fs) : SortedF (delF fs k) := h.filter _
theorem lkup_none_lt {k : Key} : ∀ {fs : List (Key × α)}, (∀ p ∈ fs, k < p.1) → lkup fs k = none
  | [], _ => rfl
  | p :: t, h => by
    have h1 := h p (by simp)
    have : p.1 ≠ k := fun e => key_irr k (by rw [e] at h1; exact h1)
    have ih := lkup_none_lt (k := k) (fs := t) fun q hq => h q (List.mem_cons_of_mem _ hq)
    simp [lkup, this, ih]
theorem lkup_mem : ∀ {fs : List (Key × α)} {k : Key} {f : α}, lkup fs k = some f → (k, f) ∈ fs
  | p :: t, k, f, h => by
    unfold lkup at h
    split at h
    · rename_i e; cases h; simp [← e]
    · exact List.mem_cons_of_mem _ (lkup_mem h)
theorem mem_lkup : ∀ {fs : List (Key × α)}, SortedF fs → ∀ {k : Key} {f : α}, (k, f) ∈ fs → lkup fs k = some f
  | p :: t, h, k, f, hm => by
    obtain ⟨h1, h2⟩ := List.pairwise_cons.1 h
    unfold lkup
    rcases List.mem_cons.1 hm with e | hm
    · subst e; simp
    · have := h1 _ hm
      rw [if_neg (fun e => key_irr k (by rw [e] at this; exact this))]
      exact mem_lkup h2 hm
theorem put_len (k : Key) (f : α) : ∀ fs : List (Key × α), (putF fs k f).length ≤ fs.length + 1
  | [] => by simp [putF]
  | p :: t => by
    have := put_len k f t
    unfold putF
    split
    · simp; omega
    · split <;> simp
theorem keys_mem {fs : List (Key × α)} (x : Key) : x ∈ fs.map (·.1) ↔ (lkup fs x).isSome = true := by
  induction fs with
  | nil => simp [lkup]
  | cons p t ih =>
    unfold lkup
    by_cases e : p.1 = x
    · simp [e]
    · simp only [List.map_cons, List.mem_cons, if_neg e]
      rw [← ih]
      constructor
      · rintro (q | q)
        · exact absurd q.symm e
        · exact q
      · exact Or.inr
end assoc
def tot (fs : List (Key × FM)) : Nat := (fs.map fun p => p.2.b.length).sum
def oldLen (fs : List (Key × FM)) (k : Key) : Nat := match lkup fs k with | some g => g.b.length | none => 0
theorem tot_put (k : Key) (f : FM) : ∀ {fs : List (Key × FM)}, SortedF fs → tot (putF fs k f) + oldLen fs k = tot fs + f.b.length
  | [], _ => by simp [putF, tot, oldLen, lkup]
  | p :: t, h => by
    obtain ⟨h1, h2⟩ := List.pairwise_cons.1 h
    have ih := tot_put k f h2
    unfold putF
    split
    · rename_i hk
      have e : p.1 ≠ k := fun e => key_irr k (e ▸ hk)
      have e1 : oldLen (p :: t) k = oldLen t k := by simp [oldLen, lkup, e]
      rw [e1]
      simp only [tot, List.map_cons, List.sum_cons] at ih ⊢
      omega
    · rename_i hk
      split
      · rename_i e
        have e1 : oldLen (p :: t) k = p.2.b.length := by simp [oldLen, lkup, e]
        rw [e1]
        simp only [tot, List.map_cons, List.sum_cons]
        omega
      · rename_i e
        have hkp : k < p.1 := by
          rcases key_tri p.1 k with q | q | q
          · exact absurd q hk
          · exact absurd q e
          · exact q
        have e1 : oldLen (p :: t) k = 0 := by
          unfold oldLen
          rw [lkup_none_lt (fun q hq => by
            rcases List.mem_cons.1 hq with rfl | hq
            · exact hkp
            · exact key_trans hkp (h1 q hq))]
        rw [e1]
        simp only [tot, List.map_cons, List.sum_cons]
        omega
theorem tot_del (k : Key) : ∀ {fs : List (Key × FM)}, SortedF fs → tot (delF fs k) + oldLen fs k = tot fs
  | [], _ => by simp [delF, tot, oldLen, lkup]
  | p :: t, h => by
    obtain ⟨h1, h2⟩ := List.pairwise_cons.1 h
    have ih := tot_del k h2
    by_cases e : p.1 = k
    · have e1 : oldLen (p :: t) k = p.2.b.length := by simp [oldLen, lkup, e]
      have e2 : oldLen t k = 0 := by
        unfold oldLen
        rw [lkup_none_lt (fun q hq => by rw [← e]; exact h1 q hq)]
      have e3 : delF (p :: t) k = delF t k := by simp [delF, e]
      rw [e1, e3]
      rw [e2] at ih
      simp only [tot, List.map_cons, List.sum_cons] at ih ⊢
      omega
    · have e1 : oldLen (p :: t) k = oldLen t k := by simp [oldLen, lkup, e]
      have e3 : delF (p :: t) k = p :: delF t k := by simp [delF, e]
      rw [e1, e3]
      simp only [tot, List.map_cons, List.sum_cons] at ih ⊢
      omega
theorem le_sum_mem : ∀ {l : List Nat} {x : Nat}, x ∈ l → x ≤ l.sum
  | y :: t, x, h => by
    rw [List.sum_cons]
    rcases List.mem_cons.1 h with rfl | h
    · omega
    · have := le_sum_mem h; omega
theorem old_le {fs : List (Key × FM)} {k : Key} {f : FM} (h : lkup fs k = some f) : f.b.length ≤ tot fs := by
  have := lkup_mem h
  have h1 : f.b.length ∈ fs.map fun p => p.2.b.length := List.mem_map.2 ⟨(k, f), this, rfl⟩
  exact le_sum_mem h1

structure DM where
  fs : List (Key × FM)
  room : Nat
  dead : Bool
  fuse : Int
  done : Nat
def good (k : Key) : Bool := !k.isEmpty && decide (k.length ≤ 100)
def DM.blow (A : DM) : DM := if A.fuse = 0 then { A with dead := true, fuse := -1 } else A
def DM.did (A : DM) : DM := { A with done := A.done + 1, fuse := if 0 < A.fuse then A.fuse - 1 else A.fuse }
def DM.ready (A : DM) (k : Key) (there : Bool) (l : List Key) : DM × Int :=
  if (good k && l.all good) = true then
    if A.blow.dead = true then (A.blow, 140) else if (there && (lkup A.blow.fs k).isNone) = true then (A.blow, 2) else (A.blow, 0)
  else (A, 1)
def DM.get (A : DM) (k : Key) : FM := (lkup A.fs k).getD default
def DM.append (A : DM) (k : Key) (b : List UInt8) : DM × Int :=
  let r := A.ready k false []
  if r.2 ≠ 0 then r
  else if (r.1.room : Int) - (tot r.1.fs : Int) < (b.length : Int) then (r.1, 141)
  else (DM.did { r.1 with fs := putF r.1.fs k ⟨(r.1.get k).b ++ b, (r.1.get k).s⟩ }, 0)
def DM.sync (A : DM) (k : Key) : DM × Int :=
  let r := A.ready k true []
  if r.2 ≠ 0 then r else (DM.did { r.1 with fs := putF r.1.fs k ⟨(r.1.get k).b, (r.1.get k).b.length⟩ }, 0)
def DM.rename (A : DM) (k to : Key) : DM × Int :=
  let r := A.ready k true [to]
  if r.2 ≠ 0 then r else (DM.did { r.1 with fs := putF (delF r.1.fs k) to (r.1.get k) }, 0)
def DM.delete (A : DM) (k : Key) : DM × Int :=
  let r := A.ready k true []
  if r.2 ≠ 0 then r else (DM.did { r.1 with fs := delF r.1.fs k }, 0)
def DM.read (A : DM) (k : Key) : List UInt8 × Int :=
  if good k = true then if A.dead = true then ([], 140) else match lkup A.fs k with | none => ([], 2) | some f => (f.b, 0) else ([], 1)
def DM.safe (A : DM) (k : Key) : Nat := (A.get k).s
def DM.cut (A : DM) (n : Int) : DM := if A.dead = true then A else { A with fuse := max n (-1) }
def more (q : Option Int) (f : FM) : Nat := match q with | some n => (max 0 (min n ((f.b.length : Int) - (f.s : Int)))).toNat | none => 0
def crash1 (q : Option Int) (f : FM) : FM := ⟨f.b.take (f.s + more q f), f.s + more q f⟩
def crashF (keep : List Int) (fs : List (Key × FM)) : List (Key × FM) := fs.mapIdx fun i p => (p.1, crash1 keep[i]? p.2)
def DM.crash (A : DM) (keep : List Int) : DM := { A with fs := crashF keep A.fs, dead := false, fuse := -1 }
def DM.put (A : DM) (k : Key) (b : List UInt8) : DM := if good k = true then { A with fs := putF A.fs k ⟨b, b.length⟩ } else A

/-- What every disk keeps. -/
structure DM.Ok (A : DM) : Prop where
  sorted : SortedF A.fs
  safe : ∀ p ∈ A.fs, p.2.s ≤ p.2.b.length
  good : ∀ p ∈ A.fs, good p.1 = true
  room : A.room ≤ 9223372036854775807
  fuse : -1 ≤ A.fuse ∧ A.fuse ≤ 9223372036854775807
/-- How great it is at most. -/
structure DM.Lim (N T : Nat) (A : DM) : Prop where
  len : A.fs.length ≤ N
  tot : tot A.fs ≤ T
  done : A.done ≤ N
theorem DM.Ok.blow {A : DM} (h : A.Ok) : A.blow.Ok := by
  unfold DM.blow
  split
  · exact ⟨h.sorted, h.safe, h.good, h.room, by show (-1 : Int) ≤ -1 ∧ (-1 : Int) ≤ _; decide⟩
  · exact h
theorem DM.Lim.blow {N T : Nat} {A : DM} (h : A.Lim N T) : A.blow.Lim N T := by
  unfold DM.blow
  split
  · exact ⟨h.len, h.tot, h.done⟩
  · exact h
theorem blow_fs (A : DM) : A.blow.fs = A.fs := by unfold DM.blow; split <;> rfl
theorem blow_room (A : DM) : A.blow.room = A.room := by unfold DM.blow; split <;> rfl
theorem blow_done (A : DM) : A.blow.done = A.done := by unfold DM.blow; split <;> rfl
theorem DM.Ok.did {A : DM} (h : A.Ok) : A.did.Ok := ⟨h.sorted, h.safe, h.good, h.room, by
  have := h.fuse
  show -1 ≤ (if 0 < A.fuse then A.fuse - 1 else A.fuse) ∧ (if 0 < A.fuse then A.fuse - 1 else A.fuse) ≤ 9223372036854775807
  split <;> omega⟩
theorem DM.Lim.did {N T : Nat} {A : DM} (h : A.Lim N T) : A.did.Lim (N + 1) T := ⟨by have := h.len; show A.fs.length ≤ _; omega, h.tot, by have := h.done; show A.done + 1 ≤ _; omega⟩
theorem ready_cases (A : DM) (k : Key) (there : Bool) (l : List Key) : A.ready k there l = (A, 1) ∨ (A.ready k there l).1 = A.blow := by
  unfold DM.ready
  split
  · right; split
    · rfl
    · split <;> rfl
  · left; rfl
theorem DM.Ok.ready {A : DM} (h : A.Ok) (k : Key) (there : Bool) (l : List Key) : (A.ready k there l).1.Ok := by
  rcases ready_cases A k there l with e | e
  · rw [e]; exact h
  · rw [e]; exact h.blow
theorem DM.Lim.ready {N T : Nat} {A : DM} (h : A.Lim N T) (k : Key) (there : Bool) (l : List Key) : (A.ready k there l).1.Lim N T := by
  rcases ready_cases A k there l with e | e
  · rw [e]; exact h
  · rw [e]; exact h.blow
theorem ready_good {A : DM} {k : Key} {there : Bool} {l : List Key} (h : (A.ready k there l).2 = 0) : good k = true ∧ l.all Go.Proofs.Ytjojomjnbiakoaa.good = true ∧ A.blow.dead = false ∧ (A.ready k there l).1 = A.blow ∧ (there = true → (lkup A.fs k).isSome = true) := by
  unfold DM.ready at h ⊢
  split at h
  · rename_i h1
    rw [Bool.and_eq_true] at h1
    split at h
    · exact absurd h (by simp)
    · rename_i h2
      split at h
      · exact absurd h (by simp)
      · rename_i h3
        rw [blow_fs] at h3
        refine ⟨h1.1, h1.2, by simpa using h2, ?_, fun e => ?_⟩
        · rw [if_pos (by rw [Bool.and_eq_true]; exact h1), if_neg h2, blow_fs, if_neg h3]
        · subst e
          cases hh : lkup A.fs k with
          | none => simp [hh] at h3
          | some f => rfl
  · exact absurd h (by simp)
theorem DM.Ok.putF {A : DM} (h : A.Ok) {k : Key} {f : FM} (hk : Go.Proofs.Ytjojomjnbiakoaa.good k = true) (hf : f.s ≤ f.b.length) : DM.Ok { A with fs := putF A.fs k f } := by
  refine ⟨sorted_put k f h.sorted, fun p hp => ?_, fun p hp => ?_, h.room, h.fuse⟩
  · rcases mem_put hp with rfl | hp
    · exact hf
    · exact h.safe p hp
  · rcases mem_put hp with rfl | hp
    · exact hk
    · exact h.good p hp
theorem DM.Ok.delF {A : DM} (h : A.Ok) (k : Key) : DM.Ok { A with fs := delF A.fs k } :=
  ⟨sorted_del k h.sorted, fun p hp => h.safe p (List.mem_filter.1 hp).1, fun p hp => h.good p (List.mem_filter.1 hp).1, h.room, h.fuse⟩
theorem DM.Ok.get {A : DM} (h : A.Ok) (k : Key) : (A.get k).s ≤ (A.get k).b.length := by
  unfold DM.get
  cases hh : lkup A.fs k with
  | none => exact Nat.le_refl _
  | some f => exact h.safe (k, f) (lkup_mem hh)
theorem DM.Lim.get {N T : Nat} {A : DM} (h : A.Lim N T) (k : Key) : (A.get k).b.length ≤ T := by
  unfold DM.get
  cases hh : lkup A.fs k with
  | none => exact Nat.zero_le _
  | some f => exact Nat.le_trans (old_le hh) h.tot
theorem oldLen_get (A : DM) (k : Key) : oldLen A.fs k = (A.get k).b.length := by
  unfold oldLen DM.get
  cases lkup A.fs k <;> rfl
theorem DM.Lim.putF {N T : Nat} {A : DM} (h : A.Lim N T) (hs : SortedF A.fs) (k : Key) (f : FM) (T' : Nat) (hT : T + f.b.length ≤ T' + (A.get k).b.length) : DM.Lim (N + 1) T' { A with fs := putF A.fs k f } := by
  refine ⟨?_, ?_, ?_⟩
  · have := put_len k f A.fs; have := h.len; show (Go.Proofs.Ytjojomjnbiakoaa.putF A.fs k f).length ≤ _; omega
  · have h1 := tot_put k f hs
    have h2 := h.tot
    rw [oldLen_get] at h1
    show Go.Proofs.Ytjojomjnbiakoaa.tot (Go.Proofs.Ytjojomjnbiakoaa.putF A.fs k f) ≤ T'
    omega
  · have := h.done; show A.done ≤ _; omega
theorem DM.Ok.append {A : DM} (h : A.Ok) (k : Key) (b : List UInt8) : (A.append k b).1.Ok := by
  unfold DM.append
  simp only
  split
  · exact h.ready k false []
  · rename_i h0
    have h0' : (A.ready k false []).2 = 0 := by omega
    split
    · exact h.ready k false []
    · exact ((h.ready k false []).putF (ready_good h0').1 (by
        have := (h.ready k false []).get k
        show ((A.ready k false []).1.get k).s ≤ (((A.ready k false []).1.get k).b ++ b).length
        rw [List.length_append]; omega)).did
theorem DM.Lim.append {N T : Nat} {A : DM} (ho : A.Ok) (h : A.Lim N T) (k : Key) (b : List UInt8) : (A.append k b).1.Lim (N + 2) (T + b.length) := by
  have hr := h.ready k false []
  have hw : DM.Lim (N + 2) (T + b.length) (A.ready k false []).1 := ⟨by have := hr.len; omega, by have := hr.tot; omega, by have := hr.done; omega⟩
  unfold DM.append
  simp only
  split
  · exact hw
  · split
    · exact hw
    · exact (hr.putF (ho.ready k false []).sorted k _ (T + b.length) (by
        show T + (((A.ready k false []).1.get k).b ++ b).length ≤ _
        rw [List.length_append]; omega)).did
theorem DM.Ok.sync {A : DM} (h : A.Ok) (k : Key) : (A.sync k).1.Ok := by
  unfold DM.sync
  simp only
  split
  · exact h.ready k true []
  · rename_i h0
    exact ((h.ready k true []).putF (ready_good (by omega : (A.ready k true []).2 = 0)).1 (Nat.le_refl _)).did
theorem DM.Lim.mono {N T N' T' : Nat} {A : DM} (h : A.Lim N T) (hN : N ≤ N') (hT : T ≤ T') : A.Lim N' T' := ⟨Nat.le_trans h.len hN, Nat.le_trans h.tot hT, Nat.le_trans h.done hN⟩
theorem DM.Lim.sync {N T : Nat} {A : DM} (ho : A.Ok) (h : A.Lim N T) (k : Key) : (A.sync k).1.Lim (N + 2) T := by
  have hr := h.ready k true []
  unfold DM.sync
  simp only
  split
  · exact hr.mono (by omega) (Nat.le_refl _)
  · exact (hr.putF (ho.ready k true []).sorted k ⟨((A.ready k true []).1.get k).b, ((A.ready k true []).1.get k).b.length⟩ T (Nat.le_refl _)).did
theorem DM.Ok.rename {A : DM} (h : A.Ok) (k to : Key) : (A.rename k to).1.Ok := by
  unfold DM.rename
  simp only
  split
  · exact h.ready k true [to]
  · rename_i h0
    have hg := (ready_good (by omega : (A.ready k true [to]).2 = 0)).2.1
    exact (((h.ready k true [to]).delF k).putF (by simpa using hg) ((h.ready k true [to]).get k)).did
theorem DM.Lim.delF {N T : Nat} {A : DM} (h : A.Lim N T) (hs : SortedF A.fs) (k : Key) : DM.Lim N (T - (A.get k).b.length) { A with fs := delF A.fs k } := by
  refine ⟨Nat.le_trans (List.length_filter_le _ _) h.len, ?_, h.done⟩
  have h1 := tot_del k hs
  have h2 := h.tot
  rw [oldLen_get] at h1
  show Go.Proofs.Ytjojomjnbiakoaa.tot (Go.Proofs.Ytjojomjnbiakoaa.delF A.fs k) ≤ _
  omega
theorem DM.Lim.rename {N T : Nat} {A : DM} (ho : A.Ok) (h : A.Lim N T) (k to : Key) : (A.rename k to).1.Lim (N + 2) T := by
  have hr := h.ready k true [to]
  unfold DM.rename
  simp only
  split
  · exact hr.mono (by omega) (Nat.le_refl _)
  · have hd := hr.delF (ho.ready k true [to]).sorted k
    have hg := hr.get k
    exact (hd.putF (sorted_del k (ho.ready k true [to]).sorted) to _ T (by omega)).did
theorem DM.Ok.delete {A : DM} (h : A.Ok) (k : Key) : (A.delete k).1.Ok := by
  unfold DM.delete
  simp only
  split
  · exact h.ready k true []
  · exact ((h.ready k true []).delF k).did
theorem DM.Lim.delete {N T : Nat} {A : DM} (ho : A.Ok) (h : A.Lim N T) (k : Key) : (A.delete k).1.Lim (N + 2) T := by
  have hr := h.ready k true []
  unfold DM.delete
  simp only
  split
  · exact hr.mono (by omega) (Nat.le_refl _)
  · exact ((hr.delF (ho.ready k true []).sorted k).mono (Nat.le_refl _) (Nat.sub_le _ _)).did.mono (by omega) (Nat.le_refl _)
theorem DM.Ok.cut {A : DM} (h : A.Ok) (n : Int) (hn : n ≤ 9223372036854775807) : (A.cut n).Ok := by
  unfold DM.cut
  split
  · exact h
  · exact ⟨h.sorted, h.safe, h.good, h.room, by show -1 ≤ max n (-1) ∧ max n (-1) ≤ _; omega⟩
theorem DM.Lim.cut {N T : Nat} {A : DM} (h : A.Lim N T) (n : Int) : (A.cut n).Lim N T := by
  unfold DM.cut
  split
  · exact h
  · exact ⟨h.len, h.tot, h.done⟩
theorem DM.Ok.put {A : DM} (h : A.Ok) (k : Key) (b : List UInt8) : (A.put k b).Ok := by
  unfold DM.put
  split
  · rename_i hk; exact h.putF hk (Nat.le_refl _)
  · exact h
theorem DM.Lim.put {N T : Nat} {A : DM} (ho : A.Ok) (h : A.Lim N T) (k : Key) (b : List UInt8) : (A.put k b).Lim (N + 2) (T + b.length) := by
  unfold DM.put
  split
  · exact (h.putF ho.sorted k ⟨b, b.length⟩ (T + b.length) (by show T + b.length ≤ _; omega)).mono (by omega) (Nat.le_refl _)
  · exact h.mono (by omega) (by omega)
theorem more_le (q : Option Int) (f : FM) (h : f.s ≤ f.b.length) : f.s + more q f ≤ f.b.length := by
  unfold more
  split
  · omega
  · omega
theorem crashF_map (keep : List Int) (fs : List (Key × FM)) : (crashF keep fs).map (·.1) = fs.map (·.1) := by
  unfold crashF
  apply List.ext_getElem
  · simp
  · intro i h1 h2
    simp
theorem crashF_len (keep : List Int) (fs : List (Key × FM)) : (crashF keep fs).length = fs.length := by unfold crashF; simp
theorem sorted_keys {α β : Type} {fs : List (Key × α)} {gs : List (Key × β)} (h : SortedF fs) (e : gs.map (·.1) = fs.map (·.1)) : SortedF gs := by
  have h1 : (fs.map (·.1)).Pairwise (· < ·) := List.pairwise_map.2 h
  rw [← e] at h1
  exact List.pairwise_map.1 h1
theorem crashF_mem {keep : List Int} {fs : List (Key × FM)} {p : Key × FM} (h : p ∈ crashF keep fs) : ∃ q ∈ fs, ∃ o, p = (q.1, crash1 o q.2) := by
  unfold crashF at h
  rw [List.mem_mapIdx] at h
  obtain ⟨i, hi, rfl⟩ := h
  exact ⟨fs[i], List.getElem_mem hi, _, rfl⟩
theorem sum_le_map : ∀ (a b : List Nat), a.length = b.length → (∀ i (h : i < a.length) (h2 : i < b.length), a[i] ≤ b[i]) → a.sum ≤ b.sum
  | [], [], _, _ => Nat.le_refl _
  | x :: a, y :: b, hl, h => by
    have h0 := h 0 (by simp) (by simp)
    have ih := sum_le_map a b (by simpa using hl) (fun i h1 h2 => h (i + 1) (Nat.succ_lt_succ h1) (Nat.succ_lt_succ h2))
    simp at h0 ⊢
    omega
theorem crashF_tot (keep : List Int) (fs : List (Key × FM)) : tot (crashF keep fs) ≤ tot fs := by
  unfold tot
  apply sum_le_map
  · simp [crashF_len]
  · intro i h1 h2
    simp [crashF, crash1]
    omega
theorem DM.Ok.crash {A : DM} (h : A.Ok) (keep : List Int) : (A.crash keep).Ok := by
  refine ⟨sorted_keys h.sorted (crashF_map keep A.fs), fun p hp => ?_, fun p hp => ?_, h.room, by show (-1 : Int) ≤ -1 ∧ (-1 : Int) ≤ _; decide⟩
  · obtain ⟨q, hq, o, rfl⟩ := crashF_mem hp
    have := more_le o q.2 (h.safe q hq)
    simp [crash1]; omega
  · obtain ⟨q, hq, o, rfl⟩ := crashF_mem hp
    exact h.good q hq
theorem DM.Lim.crash {N T : Nat} {A : DM} (h : A.Lim N T) (keep : List Int) : (A.crash keep).Lim N T :=
  ⟨by show (crashF keep A.fs).length ≤ N; rw [crashF_len]; exact h.len, Nat.le_trans (crashF_tot keep A.fs) h.tot, h.done⟩
end Go.Proofs.Ytjojomjnbiakoaa

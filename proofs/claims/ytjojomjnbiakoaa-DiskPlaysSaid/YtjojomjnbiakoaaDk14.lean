/-
  Plain laws of the disk: what is safe stays; behind a cut; what is refused.
-/
import Derived.Test.YtjojomjnbiakoaaDk13
namespace Go.Proofs.Ytjojomjnbiakoaa
open Go.RowKit
set_option linter.unusedVariables false
theorem ready_fs (A : DM) (k : Key) (there : Bool) (l : List Key) : (A.ready k there l).1.fs = A.fs := by
  rcases ready_cases A k there l with e | e
  · rw [e]
  · rw [e, blow_fs]
theorem get_eq {A B : DM} (h : A.fs = B.fs) (k : Key) : A.get k = B.get k := by unfold DM.get; rw [h]
theorem append_fs (A : DM) (k : Key) (b : List UInt8) : (A.append k b).1.fs = A.fs ∨ (A.append k b).1.fs = putF A.fs k ⟨(A.get k).b ++ b, (A.get k).s⟩ := by
  unfold DM.append
  have h := ready_fs A k false []
  have h2 := get_eq h k
  simp only
  split
  · exact Or.inl h
  · split
    · exact Or.inl h
    · right
      show putF (A.ready k false []).1.fs k _ = _
      rw [h, h2]
theorem sync_fs (A : DM) (k : Key) : (A.sync k).1.fs = A.fs ∨ (A.sync k).1.fs = putF A.fs k ⟨(A.get k).b, (A.get k).b.length⟩ := by
  unfold DM.sync
  have h := ready_fs A k true []
  have h2 := get_eq h k
  simp only
  split
  · exact Or.inl h
  · right
    show putF (A.ready k true []).1.fs k _ = _
    rw [h, h2]
theorem rename_fs (A : DM) (k t : Key) : (A.rename k t).1.fs = A.fs ∨ (A.rename k t).1.fs = putF (delF A.fs k) t (A.get k) := by
  unfold DM.rename
  have h := ready_fs A k true [t]
  have h2 := get_eq h k
  simp only
  split
  · exact Or.inl h
  · right
    show putF (delF (A.ready k true [t]).1.fs k) t _ = _
    rw [h, h2]
theorem delete_fs (A : DM) (k : Key) : (A.delete k).1.fs = A.fs ∨ (A.delete k).1.fs = delF A.fs k := by
  unfold DM.delete
  have h := ready_fs A k true []
  simp only
  split
  · exact Or.inl h
  · right
    show delF (A.ready k true []).1.fs k = _
    rw [h]
theorem put_fs (A : DM) (k : Key) (b : List UInt8) : (A.put k b).fs = A.fs ∨ (A.put k b).fs = putF A.fs k ⟨b, b.length⟩ := by
  unfold DM.put
  split
  · exact Or.inr rfl
  · exact Or.inl rfl
theorem cut_fs (A : DM) (n : Int) : (A.cut n).fs = A.fs := by
  unfold DM.cut
  split <;> rfl
theorem lkup_mapIdx (g : Nat → FM → FM) (k : Key) : ∀ (fs : List (Key × FM)), ∃ i, lkup (fs.mapIdx fun i p => (p.1, g i p.2)) k = (lkup fs k).map (g i)
  | [] => ⟨0, rfl⟩
  | p :: t => by
    obtain ⟨i, hi⟩ := lkup_mapIdx (fun i => g (i + 1)) k t
    rw [List.mapIdx_cons]
    by_cases e : p.1 = k
    · exact ⟨0, by simp [lkup, e]⟩
    · exact ⟨i + 1, by simp only [lkup, if_neg e]; exact hi⟩
/-- What is safe of f is so of g. -/
def Pres (f g : FM) : Prop := f.s ≤ g.s ∧ f.s ≤ g.b.length ∧ g.b.take f.s = f.b.take f.s
theorem Pres.refl {f : FM} (h : f.s ≤ f.b.length) : Pres f f := ⟨Nat.le_refl _, h, rfl⟩
theorem pres_crash (q : Option Int) {f : FM} (h : f.s ≤ f.b.length) : Pres f (crash1 q f) := by
  have := more_le q f h
  refine ⟨by simp [crash1], by simp [crash1]; omega, ?_⟩
  simp only [crash1]
  rw [List.take_take, Nat.min_eq_left (by omega)]
theorem pres_append (b : List UInt8) {f : FM} (h : f.s ≤ f.b.length) : Pres f ⟨f.b ++ b, f.s⟩ :=
  ⟨Nat.le_refl _, by simp; omega, by show (f.b ++ b).take f.s = _; rw [List.take_append_of_le_length h]⟩
def ActM.touches (a : ActM) (s : ByteArray) : Bool := (decide (a.kind % 8 = 2) && (decide (a.name = s) || decide (a.dst = s))) || ((decide (a.kind % 8 = 3) || decide (a.kind % 8 = 6)) && decide (a.name = s))
theorem keyB_inj {s t : ByteArray} (h : keyB s = keyB t) : s = t := by
  rw [← ofK_keyB s, ← ofK_keyB t, h]
theorem act_pres {A : DM} (ho : A.Ok) (a : ActM) (s : ByteArray) (ht : a.touches s = false) {f : FM} (hf : lkup A.fs (keyB s) = some f) : ∃ g, lkup (A.act a).1.fs (keyB s) = some g ∧ Pres f g := by
  have hs : f.s ≤ f.b.length := ho.safe (keyB s, f) (lkup_mem hf)
  have hg : A.get (keyB s) = f := by unfold DM.get; rw [hf]; rfl
  have hne : ∀ {t : ByteArray}, t ≠ s → keyB s ≠ keyB t := fun h e => h (keyB_inj e).symm
  have same : ∀ {gs : List (Key × FM)}, gs = A.fs → ∃ g, lkup gs (keyB s) = some g ∧ Pres f g := fun e => ⟨f, by rw [e, hf], Pres.refl hs⟩
  unfold ActM.touches at ht
  unfold DM.act
  split
  · rcases append_fs A (keyB a.name) a.b with e | e
    · exact same e
    · rw [e]
      by_cases q : a.name = s
      · rw [q, lkup_put_same, hg]
        exact ⟨_, rfl, pres_append _ hs⟩
      · rw [lkup_put_other (hne q)]
        exact ⟨f, hf, Pres.refl hs⟩
  · split
    · rcases sync_fs A (keyB a.name) with e | e
      · exact same e
      · rw [e]
        by_cases q : a.name = s
        · rw [q, lkup_put_same, hg]
          exact ⟨_, rfl, hs, hs, rfl⟩
        · rw [lkup_put_other (hne q)]
          exact ⟨f, hf, Pres.refl hs⟩
    · split
      · rename_i h2
        have q1 : a.name ≠ s := fun e => by simp [h2, e] at ht
        have q2 : a.dst ≠ s := fun e => by simp [h2, e] at ht
        rcases rename_fs A (keyB a.name) (keyB a.dst) with e | e
        · exact same e
        · rw [e, lkup_put_other (hne q2), lkup_del_other (hne q1)]
          exact ⟨f, hf, Pres.refl hs⟩
      · split
        · rename_i h3
          have q1 : a.name ≠ s := fun e => by simp [h3, e] at ht
          rcases delete_fs A (keyB a.name) with e | e
          · exact same e
          · rw [e, lkup_del_other (hne q1)]
            exact ⟨f, hf, Pres.refl hs⟩
        · split
          · exact same (cut_fs _ _)
          · split
            · obtain ⟨i, hi⟩ := lkup_mapIdx (fun i => crash1 a.keep[i]?) (keyB s) A.fs
              refine ⟨crash1 a.keep[i]? f, ?_, pres_crash _ hs⟩
              have : lkup (A.crash a.keep).fs (keyB s) = (lkup A.fs (keyB s)).map (crash1 a.keep[i]?) := hi
              rw [this, hf]; rfl
            · split
              · rename_i h6
                have q1 : a.name ≠ s := fun e => by simp [h6, e] at ht
                rcases put_fs A (keyB a.name) a.b with e | e
                · exact same e
                · rw [e, lkup_put_other (hne q1)]
                  exact ⟨f, hf, Pres.refl hs⟩
              · exact same rfl
theorem read_ok {A : DM} {k : Key} (h : (A.read k).2 = 0) : ∃ f, lkup A.fs k = some f ∧ (A.read k).1 = f.b := by
  unfold DM.read at h ⊢
  split at h
  · split at h
    · exact absurd h (by decide)
    · rename_i q1 q2
      rw [if_pos q1, if_neg q2]
      cases hf : lkup A.fs k with
      | none => rw [hf] at h; exact absurd h (by decide)
      | some f => exact ⟨f, rfl, rfl⟩
  · exact absurd h (by decide)
/-- P14.7. -/
theorem safe_law {A : DM} (ho : A.Ok) (a : ActM) (s : ByteArray) (ht : a.touches s = false) (h1 : (A.read (keyB s)).2 = 0) (h2 : ((A.act a).1.read (keyB s)).2 = 0) :
    A.safe (keyB s) ≤ (A.read (keyB s)).1.length ∧ A.safe (keyB s) ≤ ((A.act a).1.read (keyB s)).1.length ∧ A.safe (keyB s) ≤ (A.act a).1.safe (keyB s) ∧ ((A.act a).1.read (keyB s)).1.take (A.safe (keyB s)) = (A.read (keyB s)).1.take (A.safe (keyB s)) := by
  obtain ⟨f, hf, e1⟩ := read_ok h1
  obtain ⟨g, hg, p1, p2, p3⟩ := act_pres ho a s ht hf
  obtain ⟨g', hg', e2⟩ := read_ok h2
  rw [hg] at hg'
  cases hg'
  have s1 : A.safe (keyB s) = f.s := by unfold DM.safe DM.get; rw [hf]; rfl
  have s2 : (A.act a).1.safe (keyB s) = g.s := by unfold DM.safe DM.get; rw [hg]; rfl
  rw [e1, e2, s1, s2]
  exact ⟨ho.safe (keyB s, f) (lkup_mem hf), p2, p1, p3⟩

/-- How an operation ends. -/
structure Ends (A : DM) (r : DM × Int) : Prop where
  p : (r.2 = 0 ∧ A.blow.dead = false ∧ r.1.done = A.done + 1 ∧ r.1.dead = false ∧ r.1.fuse = if 0 < A.blow.fuse then A.blow.fuse - 1 else A.blow.fuse) ∨
    (r.2 = 140 ∧ r.1 = A.blow ∧ A.blow.dead = true) ∨ (r.2 ≠ 0 ∧ r.2 ≠ 140 ∧ (r.1 = A ∨ r.1 = A.blow ∧ A.blow.dead = false))
theorem snd_ne {B : DM} {a b : Int} (h : a ≠ b) : (B, a).2 ≠ b := h
theorem ready_ends (A : DM) (k : Key) (there : Bool) (l : List Key) : ((A.ready k there l).2 = 0 ∧ (A.ready k there l).1 = A.blow ∧ A.blow.dead = false) ∨ ((A.ready k there l).2 ≠ 0 ∧ Ends A (A.ready k there l)) := by
  unfold DM.ready
  split
  · split
    · rename_i h; exact Or.inr ⟨snd_ne (by decide), ⟨Or.inr (Or.inl ⟨rfl, rfl, h⟩)⟩⟩
    · rename_i h
      have h : A.blow.dead = false := by simpa using h
      split
      · exact Or.inr ⟨snd_ne (by decide), ⟨Or.inr (Or.inr ⟨snd_ne (by decide), snd_ne (by decide), Or.inr ⟨rfl, h⟩⟩)⟩⟩
      · exact Or.inl ⟨rfl, rfl, h⟩
  · exact Or.inr ⟨snd_ne (by decide), ⟨Or.inr (Or.inr ⟨snd_ne (by decide), snd_ne (by decide), Or.inl rfl⟩)⟩⟩
theorem did_ends {A : DM} (B : DM) (h1 : A.blow.dead = false) (hd : B.done = A.blow.done) (he : B.dead = A.blow.dead) (hf : B.fuse = A.blow.fuse) : Ends A (DM.did B, 0) :=
  ⟨Or.inl ⟨rfl, h1, by show B.done + 1 = _; rw [hd, blow_done], by show B.dead = false; rw [he, h1], by show (if 0 < B.fuse then B.fuse - 1 else B.fuse) = _; rw [hf]⟩⟩
theorem append_ends (A : DM) (k : Key) (b : List UInt8) : Ends A (A.append k b) := by
  unfold DM.append
  simp only
  rcases ready_ends A k false [] with ⟨e, e1, e2⟩ | ⟨e, h⟩
  · rw [if_neg (by simpa using e), e1]
    split
    · exact ⟨Or.inr (Or.inr ⟨snd_ne (by decide), snd_ne (by decide), Or.inr ⟨rfl, e2⟩⟩)⟩
    · exact did_ends _ e2 rfl rfl rfl
  · rw [if_pos e]; exact h
theorem sync_ends (A : DM) (k : Key) : Ends A (A.sync k) := by
  unfold DM.sync
  simp only
  rcases ready_ends A k true [] with ⟨e, e1, e2⟩ | ⟨e, h⟩
  · rw [if_neg (by simpa using e), e1]
    exact did_ends _ e2 rfl rfl rfl
  · rw [if_pos e]; exact h
theorem rename_ends (A : DM) (k t : Key) : Ends A (A.rename k t) := by
  unfold DM.rename
  simp only
  rcases ready_ends A k true [t] with ⟨e, e1, e2⟩ | ⟨e, h⟩
  · rw [if_neg (by simpa using e), e1]
    exact did_ends _ e2 rfl rfl rfl
  · rw [if_pos e]; exact h
theorem delete_ends (A : DM) (k : Key) : Ends A (A.delete k) := by
  unfold DM.delete
  simp only
  rcases ready_ends A k true [] with ⟨e, e1, e2⟩ | ⟨e, h⟩
  · rw [if_neg (by simpa using e), e1]
    exact did_ends _ e2 rfl rfl rfl
  · rw [if_pos e]; exact h
theorem act_ends (A : DM) (a : ActM) (h : a.kind % 8 < 4) : Ends A (A.act a) := by
  unfold DM.act
  split
  · exact append_ends _ _ _
  · split
    · exact sync_ends _ _
    · split
      · exact rename_ends _ _ _
      · split
        · exact delete_ends _ _
        · omega
/-- Behind a cut. -/
def CutInv (n : Nat) (A : DM) : Prop := 1 ≤ A.done ∧ ((A.dead = false ∧ 0 ≤ A.fuse ∧ A.fuse + (A.done : Int) = n + 1) ∨ (A.dead = true ∧ A.fuse = -1 ∧ A.done = n + 1))
/-- P14.8. -/
theorem cut_law {n : Nat} {A : DM} (hi : CutInv n A) (a : ActM) (hk : a.kind % 8 < 4) :
    CutInv n (A.act a).1 ∧ ((A.act a).2 = 0 ↔ (A.act a).1.done = A.done + 1) ∧ (A.act a).1.done ≤ n + 1 ∧ ((A.act a).2 = 140 → (A.act a).1.done = n + 1) ∧ ((A.act a).1.dead = true → (A.act a).2 ≠ 0) := by
  have he := (act_ends A a hk).p
  generalize A.act a = r at *
  obtain ⟨B, e⟩ := r
  obtain ⟨h1, hi⟩ := hi
  simp only at he ⊢
  have hbd : A.blow = A ∧ A.fuse ≠ 0 ∨ A.fuse = 0 ∧ A.blow = { A with dead := true, fuse := -1 } := by
    unfold DM.blow
    split
    · rename_i q; exact Or.inr ⟨q, rfl⟩
    · rename_i q; exact Or.inl ⟨rfl, q⟩
  rcases hbd with ⟨b, hz⟩ | ⟨hz, b⟩
  · rw [b] at he
    rcases he with ⟨rfl, d, dn, dd, df⟩ | ⟨rfl, rfl, d⟩ | ⟨q1, q2, q⟩
    · rcases hi with ⟨_, f0, ff⟩ | ⟨d', _⟩
      · rw [if_pos (by omega)] at df
        exact ⟨⟨by omega, Or.inl ⟨dd, by omega, by omega⟩⟩, ⟨fun _ => dn, fun _ => rfl⟩, by omega, fun h => absurd h (by decide), fun h => by rw [dd] at h; cases h⟩
      · rw [d] at d'; cases d'
    · rcases hi with ⟨d', _⟩ | ⟨_, ff, fd⟩
      · rw [d] at d'; cases d'
      · exact ⟨⟨h1, Or.inr ⟨d, ff, fd⟩⟩, ⟨fun h => absurd h (by decide), fun h => by omega⟩, by omega, fun _ => fd, fun _ => by decide⟩
    · have q : B = A := by rcases q with q | ⟨q, _⟩ <;> exact q
      subst q
      refine ⟨⟨h1, hi⟩, ⟨fun h => absurd h q1, fun h => by omega⟩, ?_, fun h => absurd h q2, fun _ => q1⟩
      rcases hi with ⟨_, f0, ff⟩ | ⟨_, _, fd⟩ <;> omega
  · rw [b] at he
    rcases hi with ⟨d0, f0, ff⟩ | ⟨_, ff, _⟩
    · rcases he with ⟨_, d, _⟩ | ⟨rfl, rfl, _⟩ | ⟨q1, q2, q⟩
      · cases d
      · exact ⟨⟨h1, Or.inr ⟨rfl, rfl, by show A.done = _; omega⟩⟩, ⟨fun h => absurd h (by decide), fun h => by have h : A.done = A.done + 1 := h; omega⟩, by show A.done ≤ _; omega, fun _ => by show A.done = _; omega, fun _ => by decide⟩
      · rcases q with rfl | ⟨_, q⟩
        · exact ⟨⟨h1, Or.inl ⟨d0, f0, ff⟩⟩, ⟨fun h => absurd h q1, fun h => by omega⟩, by omega, fun h => absurd h q2, fun _ => q1⟩
        · cases q
    · omega
/-- Rule 2. -/
theorem refused_fs {A : DM} (a : ActM) (h : (A.act a).2 ≠ 0) : (A.act a).1.fs = A.fs := by
  have hk : a.kind % 8 < 4 := by
    rcases Nat.lt_or_ge (a.kind % 8) 4 with q | q
    · exact q
    · exfalso
      apply h
      unfold DM.act
      rw [if_neg (by omega), if_neg (by omega), if_neg (by omega), if_neg (by omega)]
      split
      · rfl
      · split
        · rfl
        · split <;> rfl
  rcases (act_ends A a hk).p with ⟨e, _⟩ | ⟨_, e, _⟩ | ⟨_, _, e | ⟨e, _⟩⟩
  · exact absurd e h
  · rw [e, blow_fs]
  · rw [e]
  · rw [e, blow_fs]
end Go.Proofs.Ytjojomjnbiakoaa

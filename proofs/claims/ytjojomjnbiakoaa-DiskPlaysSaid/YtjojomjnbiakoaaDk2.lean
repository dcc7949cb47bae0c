/-
  The disk in memory: a struct, its map of files, their bytes.
-/
import Derived.Test.YtjojomjnbiakoaaDk1
import Derived.Test.YtjojomjnbiakoaaDraw
import Derived.Maps.RangeWalk
import Derived.Maps.Ext
import Derived.ArgAppend
import Derived.StringKeys
namespace Go.Proofs.Ytjojomjnbiakoaa
open Go.RowKit Go.Maps
set_option linter.unusedVariables false

/-- As it was, but for the blocks S and new ones. -/
structure Upd (S : Nat → Prop) (w w' : World) : Prop where
  os : w'.os = w.os
  tape : w'.tape = w.tape
  output : w'.output = w.output
  size : w.heap.size ≤ w'.heap.size
  block : ∀ k, k < w.heap.size → ¬ S k → w'.heap[k]? = w.heap[k]?
theorem Upd.refl (S : Nat → Prop) (w : World) : Upd S w w := ⟨rfl, rfl, rfl, Nat.le_refl _, fun _ _ _ => rfl⟩
theorem Upd.trans {S : Nat → Prop} {a b c : World} (h : Upd S a b) (h2 : Upd S b c) : Upd S a c :=
  ⟨h2.os.trans h.os, h2.tape.trans h.tape, h2.output.trans h.output, Nat.le_trans h.size h2.size, fun k hk hs => (h2.block k (Nat.lt_of_lt_of_le hk h.size) hs).trans (h.block k hk hs)⟩
theorem Upd.mono {S S' : Nat → Prop} {a b : World} (h : Upd S a b) (hs : ∀ k, S k → S' k) : Upd S' a b :=
  ⟨h.os, h.tape, h.output, h.size, fun k hk hn => h.block k hk fun q => hn (hs k q)⟩
theorem Upd.of_below {S : Nat → Prop} {w w' : World} (h : Below w.heap.size w w') : Upd S w w' := ⟨h.os, h.tape, h.output, h.size, fun k hk _ => h.block k hk⟩
theorem Upd.below {S : Nat → Prop} {K : Nat} {w w' : World} (h : Upd S w w') (hK : K ≤ w.heap.size) (hs : ∀ k, S k → K ≤ k) : Below K w w' :=
  ⟨h.os, h.tape, h.output, h.size, fun k hk => h.block k (by omega) (fun q => by have := hs k q; omega)⟩
theorem Upd.below0 {w w' : World} (h : Upd (fun _ => False) w w') : Below w.heap.size w w' := h.below (Nat.le_refl _) fun _ q => q.elim
theorem Upd.grown {S : Nat → Prop} {w w' : World} {r : Option Nat} (h : w.grownBy w' r) (hr : ∀ k, r = some k → S k) : Upd S w w' :=
  ⟨h.os, h.tape, h.output, h.size, fun k hk hn => h.block k hk (fun e => hn (hr k e.symm))⟩
theorem Upd.setCell {S : Nat → Prop} (w : World) (a : Addr) (v : Value) (hs : S a.block) : Upd S w (w.setCell a v) :=
  ⟨rfl, rfl, rfl, by simp, fun k hk hn => Below.heap_setCell _ _ _ _ (fun e => hn (by rw [e]; exact hs))⟩
theorem Upd.alloc {S : Nat → Prop} (w : World) (o : Obj) : Upd S w (w.alloc o) := Upd.of_below ((Below.refl _ _).alloc (Nat.le_refl _) _)
theorem Upd.drew {S : Nat → Prop} (w : World) : Upd S w w.drew := Upd.of_below (Below.refl _ _).drew
theorem Upd.heap {S : Nat → Prop} {w w' : World} {b : Nat} {o : Obj} (h : Upd S w w') (hs : ¬ S b) (hb : w.heap[b]? = some o) : w'.heap[b]? = some o := (h.block b (heap_lt hb) hs).trans hb
theorem Upd.cell {S : Nat → Prop} {w w' : World} {b o : Nat} {v : Value} (h : Upd S w w') (hs : ¬ S b) (hc : w.cell? ⟨b, o, none⟩ = some v) : w'.cell? ⟨b, o, none⟩ = some v := by
  have hb := h.block b (cell_lt hc) hs
  have : w'.cell? ⟨b, o, none⟩ = w.cell? ⟨b, o, none⟩ := by simp only [World.cell?, hb]
  rw [this]; exact hc

/-- No byte lies in that block. -/
def NoU8 (w : World) (b : Nat) : Prop := ∀ j (c : Nat), w.cell? ⟨b, j, none⟩ ≠ some (.int .u8 (c : Nat))
theorem Bytes.upd {S : Nat → Prop} {w w' : World} {a : Option Addr} {l : List UInt8} (h : Bytes w a l) (hu : Upd S w w') (hS : ∀ b, S b → NoU8 w b) : Bytes w' a l := by
  intro i hi
  obtain ⟨b, off, e, hc⟩ := h i hi
  exact ⟨b, off, e, hu.cell (fun q => hS b q (off + i) _ hc) hc⟩

structure FV where
  x : Option Addr
  n : Nat
  c : Nat
  s : Nat
def FV.val (f : FV) : Value := .agg #[.slice f.x f.n f.c, .int .i64 (f.s : Nat)]
/-- How a file's value reads: as itself. -/
def heldR (v : Value) : Option (DataW Value × List MemPlace) :=
  match v with
  | .agg cs => match cs.toList with
    | [.slice x n c, .int .i64 s] => if 0 ≤ s then some (.held v, []) else none
    | _ => none
  | _ => none
theorem heldR_val (f : FV) : heldR f.val = some (.held f.val, []) := by
  simp [heldR, FV.val]
theorem heldR_inv {v : Value} {y : DataW Value × List MemPlace} (h : heldR v = some y) : ∃ f : FV, v = f.val ∧ y = (.held f.val, []) := by
  unfold heldR at h
  split at h
  · rename_i cs
    split at h
    · rename_i x n c s hcs
      split at h
      · rename_i h0
        obtain ⟨k, rfl⟩ := nat_of h0
        have : cs = #[.slice x n c, .int .i64 (k : Nat)] := by
          apply Array.ext'
          rw [hcs]
        subst this
        cases h
        exact ⟨⟨x, n, c, k⟩, rfl, rfl⟩
      · cases h
    · cases h
  · cases h
theorem FV.val_inj {f g : FV} (h : f.val = g.val) : f = g := by
  obtain ⟨x, n, c, s⟩ := f
  obtain ⟨x', n', c', s'⟩ := g
  simp [FV.val] at h
  obtain ⟨⟨rfl, rfl, rfl⟩, h⟩ := h
  have : s = s' := by omega
  subst this
  rfl

theorem keyLaw : Keyed Try.prog 9 := string_keyed Try.underlying9
theorem zeroFile (w : World) : (zeroValue 63).run Try.prog w = .ok (.agg #[.slice none 0 0, .int .i64 0]) w := by kernel_rfl
def zeroFV : FV := ⟨none, 0, 0, 0⟩
theorem zeroFV_val : zeroFV.val = .agg #[.slice none 0 0, .int .i64 0] := rfl

structure FileAt (w : World) (f : FV) (m : FM) : Prop where
  n : f.n = m.b.length
  s : f.s = m.s
  le : f.n ≤ f.c
  cap : f.c ≤ maxLen
  by' : Bytes w f.x m.b
  nil : f.x = none → f.c = 0
theorem FileAt.zero (w : World) : FileAt w zeroFV default := ⟨rfl, rfl, Nat.le_refl _, by show 0 ≤ maxLen; omega, bytes_nil _ _, fun _ => rfl⟩
theorem FileAt.upd {S : Nat → Prop} {w w' : World} {f : FV} {m : FM} (h : FileAt w f m) (hu : Upd S w w') (hS : ∀ b, S b → NoU8 w b) : FileAt w' f m := ⟨h.n, h.s, h.le, h.cap, h.by'.upd hu hS, h.nil⟩

def MapSt (w : World) (bm : Nat) (fs : List (Key × FM)) : Prop :=
  ∃ D : DataW Value, w.ownsMap Try.prog 9 heldR bm (Maps.size D) D ∧ (∀ k, Maps.has D (.string k) = (lkup fs k).isSome) ∧
    ∀ k m, lkup fs k = some m → ∃ f : FV, (∀ z, D.atKey (.string k) z = .held f.val) ∧ FileAt w f m
theorem tight {w : World} {P : Program} {k : TypeId} {R : Value → Option (DataW Value × List MemPlace)} {b n : Nat} {D : DataW Value} (h : w.ownsMap P k R b n D) : w.ownsMap P k R b (Maps.size D) D := by
  obtain ⟨es, clock, hb, F, hs, rfl⟩ := h
  exact ⟨es, clock, hb, F, by simp [Maps.size, length_sorted], rfl⟩
theorem own_noU8 {w : World} {P : Program} {k : TypeId} {R : Value → Option (DataW Value × List MemPlace)} {b n : Nat} {D : DataW Value} (h : w.ownsMap P k R b n D) : NoU8 w b := by
  obtain ⟨es, clock, hb, _⟩ := h
  intro j c hc
  simp [World.cell?, hb] at hc
theorem MapSt.noU8 {w : World} {bm : Nat} {fs : List (Key × FM)} (h : MapSt w bm fs) : NoU8 w bm := by
  obtain ⟨D, h1, _⟩ := h
  exact own_noU8 h1
theorem MapSt.lt {w : World} {bm : Nat} {fs : List (Key × FM)} (h : MapSt w bm fs) : bm < w.heap.size := by
  obtain ⟨D, h1, _⟩ := h
  exact h1.lt
theorem sortedF_nodup {α : Type} {fs : List (Key × α)} (h : SortedF fs) : (fs.map (·.1)).Nodup :=
  List.pairwise_map.2 (List.Pairwise.imp (R := fun (p q : Key × α) => p.1 < q.1) (fun {a b} (hab : a.1 < b.1) (e : a.1 = b.1) => key_irr b.1 (by rw [e] at hab; exact hab)) h)
theorem keys_perm {w : World} {bm n : Nat} {D : DataW Value} {fs : List (Key × FM)} (h : w.ownsMap Try.prog 9 heldR bm n D) (hh : ∀ k, Maps.has D (.string k) = (lkup fs k).isSome) (hs : SortedF fs) : (fs.map (·.1)).Perm (strKeys D) := by
  have hc : Collected D (fun _ => false) (fs.map (·.1)) := ⟨sortedF_nodup hs, fun x => by rw [keys_mem, hh]; simp⟩
  exact hc.perm h keyLaw Try.underlying9 (fun _ => rfl)
theorem map_size {w : World} {bm n : Nat} {D : DataW Value} {fs : List (Key × FM)} (h : w.ownsMap Try.prog 9 heldR bm n D) (hh : ∀ k, Maps.has D (.string k) = (lkup fs k).isSome) (hs : SortedF fs) : Maps.size D = fs.length := by
  have h1 := (keys_perm h hh hs).length_eq
  obtain ⟨es, rfl⟩ := h.isMap
  simpa [strKeys, Maps.size] using h1.symm
theorem MapSt.upd {S : Nat → Prop} {w w' : World} {bm : Nat} {fs : List (Key × FM)} (h : MapSt w bm fs) (hu : Upd S w w') (hS : ∀ b, S b → NoU8 w b) (hb : ¬ S bm) : MapSt w' bm fs := by
  obtain ⟨D, ⟨es, clock, h1, F, hs, hD⟩, h2, h3⟩ := h
  refine ⟨D, ⟨es, clock, hu.heap hb h1, F, hs, hD⟩, h2, fun k m hm => ?_⟩
  obtain ⟨f, q1, q2⟩ := h3 k m hm
  exact ⟨f, q1, q2.upd hu hS⟩
theorem MapSt.put {w w' : World} {bm n : Nat} {D : DataW Value} {fs : List (Key × FM)} {k : Key} {f : FV} {m : FM} (h1 : w.ownsMap Try.prog 9 heldR bm n D) (h2 : ∀ k, Maps.has D (.string k) = (lkup fs k).isSome) (h3 : ∀ k m, lkup fs k = some m → ∃ f : FV, (∀ z, D.atKey (.string k) z = .held f.val) ∧ FileAt w f m)
    {n' : Nat} (hown : w'.ownsMap Try.prog 9 heldR bm n' (D.put (.string k) (.held f.val))) (hu : Upd (· = bm) w w') (hf : FileAt w f m) : MapSt w' bm (putF fs k m) := by
  have hS : ∀ b, b = bm → NoU8 w b := fun b e => by subst e; exact own_noU8 h1
  have hk : ∀ x : Key, WideAt.IsKeyLit (.string x) := fun x => trivial
  refine ⟨_, tight hown, fun x => ?_, fun x m' hx => ?_⟩
  · by_cases e : x = k
    · subst e; rw [has_put_same h1.isMap (hk x), lkup_put_same]; rfl
    · rw [has_put_other (fun q => e (by simpa using q)), lkup_put_other e]; exact h2 x
  · by_cases e : x = k
    · subst e
      rw [lkup_put_same] at hx
      cases hx
      exact ⟨f, fun z => atKey_put_same h1.isMap (hk x) _ z, hf.upd hu hS⟩
    · rw [lkup_put_other e] at hx
      obtain ⟨f', q1, q2⟩ := h3 x m' hx
      exact ⟨f', fun z => by rw [atKey_put_other (fun q => e (by simpa using q))]; exact q1 z, q2.upd hu hS⟩
theorem MapSt.del {w w' : World} {bm n : Nat} {D : DataW Value} {fs : List (Key × FM)} {k : Key} (h1 : w.ownsMap Try.prog 9 heldR bm n D) (h2 : ∀ k, Maps.has D (.string k) = (lkup fs k).isSome) (h3 : ∀ k m, lkup fs k = some m → ∃ f : FV, (∀ z, D.atKey (.string k) z = .held f.val) ∧ FileAt w f m)
    {n' : Nat} (hown : w'.ownsMap Try.prog 9 heldR bm n' (D.del (.string k))) (hu : Upd (· = bm) w w') : MapSt w' bm (delF fs k) := by
  have hS : ∀ b, b = bm → NoU8 w b := fun b e => by subst e; exact own_noU8 h1
  refine ⟨_, tight hown, fun x => ?_, fun x m' hx => ?_⟩
  · by_cases e : x = k
    · subst e; rw [has_del_same, lkup_del_same]; rfl
    · rw [has_del_other (fun q => e (by simpa using q)), lkup_del_other e]; exact h2 x
  · by_cases e : x = k
    · subst e
      rw [lkup_del_same] at hx
      cases hx
    · rw [lkup_del_other e] at hx
      obtain ⟨f', q1, q2⟩ := h3 x m' hx
      exact ⟨f', fun z => by rw [atKey_del_other (fun q => e (by simpa using q))]; exact q1 z, q2.upd hu hS⟩
theorem MapSt.made (w : World) : MapSt (w.alloc (.map #[] 0)) w.heap.size [] :=
  ⟨.map [], World.ownsMap_made _ _ _ _, fun k => rfl, fun k m h => by cases h⟩
abbrev keyB (s : ByteArray) : Key := s.data.toList

section laws
variable {ops : Array Oper} {rest : List Oper} {o : Oper} {a : Act} {Q : Exit → Act → World → Prop}
/-- 'm[k]' at the disk's map. -/
theorem look_disk (w : World) (hg : o.guard = none) (m x : Operand) (hop : o.op = Op.lookup 58 m x false) {bm : Nat} {fs : List (Key × FM)} (hm : a.eval m = .map (some bm)) (hst : MapSt w bm fs)
    (s : ByteArray) (hx : a.eval x = .string s) (hs : s.size ≤ maxLen)
    (hK : ∀ f : FV, FileAt w f ((lkup fs (keyB s)).getD default) → wpList Try.prog ops Q rest (a.put o.dst (.agg #[.slice f.x f.n f.c, .int .i64 (f.s : Nat)])) w) : wpList Try.prog ops Q (o :: rest) a w := by
  refine wpList_plain hg fun K' hK' => ?_
  obtain ⟨D, h1, h2, h3⟩ := hst
  have hkey : keyOf Try.prog 9 (.string s) = some (.string (keyB s)) := Go.WideMaps.keyOf_string_mk Try.underlying9 hs
  obtain ⟨v, ps, hrun, hv⟩ := h1.lookup keyLaw Try.underlying58 (zeroFile w) (heldR_val zeroFV) hkey
  obtain ⟨f, rfl, hy⟩ := heldR_inv hv
  unfold Oper.wp
  simp [execOp, hop, hm, hx, hrun, Result.andThen]
  refine hK' _ _ (hK f ?_)
  simp only [Prod.mk.injEq] at hy
  cases hh : lkup fs (keyB s) with
  | none =>
    have hn : Maps.has D (.string (keyB s)) = false := by rw [h2, hh]; rfl
    rw [atKey_of_not_has hn] at hy
    have he := hy.1
    simp only [DataW.held.injEq] at he
    rw [← FV.val_inj he]
    exact FileAt.zero w
  | some m =>
    obtain ⟨f', q1, q2⟩ := h3 _ _ hh
    rw [q1] at hy
    have he := hy.1
    simp only [DataW.held.injEq] at he
    rw [← FV.val_inj he]
    exact q2
/-- 'm[k]' with 'ok'. -/
theorem look_disk_ok (w : World) (hg : o.guard = none) (m x : Operand) (hop : o.op = Op.lookup 58 m x true) {bm : Nat} {fs : List (Key × FM)} (hm : a.eval m = .map (some bm)) (hst : MapSt w bm fs)
    (s : ByteArray) (hx : a.eval x = .string s) (hs : s.size ≤ maxLen)
    (hK : ∀ f : FV, FileAt w f ((lkup fs (keyB s)).getD default) → wpList Try.prog ops Q rest (a.put o.dst (.tuple #[.agg #[.slice f.x f.n f.c, .int .i64 (f.s : Nat)], .bool (lkup fs (keyB s)).isSome])) w) : wpList Try.prog ops Q (o :: rest) a w := by
  refine wpList_plain hg fun K' hK' => ?_
  obtain ⟨D, h1, h2, h3⟩ := hst
  have hkey : keyOf Try.prog 9 (.string s) = some (.string (keyB s)) := Go.WideMaps.keyOf_string_mk Try.underlying9 hs
  obtain ⟨v, ps, hrun, hv⟩ := h1.look_ok keyLaw Try.underlying58 (zeroFile w) (heldR_val zeroFV) hkey
  obtain ⟨f, rfl, hy⟩ := heldR_inv hv
  rw [h2] at hrun
  unfold Oper.wp
  simp [execOp, hop, hm, hx, hrun, Result.andThen]
  refine hK' _ _ (hK f ?_)
  simp only [Prod.mk.injEq] at hy
  cases hh : lkup fs (keyB s) with
  | none =>
    have hn : Maps.has D (.string (keyB s)) = false := by rw [h2, hh]; rfl
    rw [atKey_of_not_has hn] at hy
    have he := hy.1
    simp only [DataW.held.injEq] at he
    rw [← FV.val_inj he]
    exact FileAt.zero w
  | some m =>
    obtain ⟨f', q1, q2⟩ := h3 _ _ hh
    rw [q1] at hy
    have he := hy.1
    simp only [DataW.held.injEq] at he
    rw [← FV.val_inj he]
    exact q2
theorem MapSt.update {w : World} {bm : Nat} {fs : List (Key × FM)} (hst : MapSt w bm fs) (hso : SortedF fs) (hlen : fs.length < maxLen) (s : ByteArray) (hs : s.size ≤ maxLen) (f : FV) (mm : FM) (hf : FileAt w f mm) :
    ∃ w', (Instr.mapUpdate 58 (.map (some bm)) (.string s) f.val).run Try.prog w = .ok () w' ∧ MapSt w' bm (putF fs (keyB s) mm) ∧ Upd (· = bm) w w' := by
  obtain ⟨D, h1, h2, h3⟩ := hst
  have hkey : keyOf Try.prog 9 (.string s) = some (.string (keyB s)) := Go.WideMaps.keyOf_string_mk Try.underlying9 hs
  obtain ⟨w', hrun, hown, hgr⟩ := h1.update keyLaw Try.underlying58 (by rw [map_size h1 h2 hso]; exact hlen) hkey (heldR_val f)
  have hu : Upd (· = bm) w w' := Upd.grown hgr fun k e => by cases e; rfl
  exact ⟨w', hrun, MapSt.put h1 h2 h3 hown hu hf, hu⟩
/-- 'm[k] = v'. -/
theorem store_disk (w : World) (hg : o.guard = none) (m x v : Operand) (hop : o.op = Op.mapUpdate 58 m x v) {bm : Nat} {fs : List (Key × FM)} (hm : a.eval m = .map (some bm)) (hst : MapSt w bm fs) (hso : SortedF fs) (hlen : fs.length < maxLen)
    (s : ByteArray) (hx : a.eval x = .string s) (hs : s.size ≤ maxLen) (f : FV) (mm : FM) (hv : a.eval v = .agg #[.slice f.x f.n f.c, .int .i64 (f.s : Nat)]) (hf : FileAt w f mm)
    (hK : ∀ w', MapSt w' bm (putF fs (keyB s) mm) → Upd (· = bm) w w' → wpList Try.prog ops Q rest (a.put o.dst undef) w') : wpList Try.prog ops Q (o :: rest) a w := by
  refine wpList_plain hg fun K' hK' => ?_
  obtain ⟨w', hrun, r1, r2⟩ := hst.update hso hlen s hs f mm hf
  unfold Oper.wp
  simp only [FV.val] at hrun
  simp [execOp, hop, hm, hx, hv, hrun, Result.andThen]
  exact hK' _ _ (hK w' r1 r2)
/-- The same, in a region that draws. -/
theorem step_store_disk {E0 : Prop} {K : Act → World → Prop} (w : World) (hg : o.guard = none) (m x v : Operand) (hop : o.op = Op.mapUpdate 58 m x v) {bm : Nat} {fs : List (Key × FM)} (hm : a.eval m = .map (some bm)) (hst : MapSt w bm fs) (hso : SortedF fs) (hlen : fs.length < maxLen)
    (s : ByteArray) (hx : a.eval x = .string s) (hs : s.size ≤ maxLen) (f : FV) (mm : FM) (hv : a.eval v = .agg #[.slice f.x f.n f.c, .int .i64 (f.s : Nat)]) (hf : FileAt w f mm)
    (hK : ∀ w', MapSt w' bm (putF fs (keyB s) mm) → Upd (· = bm) w w' → K (a.put o.dst undef) w') : if Region.wanted o (yielded ops a.tmps) = true then Oper.wp Try.prog o a w K Q else E0 := by
  have hw : Region.wanted o (yielded ops a.tmps) = true := by simp [Region.wanted, hg]
  rw [if_pos hw]
  obtain ⟨w', hrun, r1, r2⟩ := hst.update hso hlen s hs f mm hf
  unfold Oper.wp
  simp only [FV.val] at hrun
  simp [execOp, hop, hm, hx, hv, hrun, Result.andThen]
  exact hK w' r1 r2
/-- 'delete(m, k)'. -/
theorem del_disk (w : World) (hg : o.guard = none) (m x : Operand) (hop : o.op = Op.call { callee := Callee.builtin Builtin.delete, args := #[m, x], argTypes := #[58, 9] }) {bm : Nat} {fs : List (Key × FM)} (hm : a.eval m = .map (some bm)) (hst : MapSt w bm fs)
    (s : ByteArray) (hx : a.eval x = .string s) (hs : s.size ≤ maxLen)
    (hK : ∀ w', MapSt w' bm (delF fs (keyB s)) → Upd (· = bm) w w' → wpList Try.prog ops Q rest (a.put o.dst (.tuple #[])) w') : wpList Try.prog ops Q (o :: rest) a w := by
  refine wpList_plain hg fun K' hK' => ?_
  obtain ⟨D, h1, h2, h3⟩ := hst
  have hkey : keyOf Try.prog 9 (.string s) = some (.string (keyB s)) := Go.WideMaps.keyOf_string_mk Try.underlying9 hs
  obtain ⟨w', hrun, hown, hgr⟩ := h1.drop keyLaw Try.underlying58 hkey o.type
  have hu : Upd (· = bm) w w' := Upd.grown hgr.grown fun k e => by cases e; rfl
  unfold Oper.wp
  simp [execOp, hop, resolve, invoke, builtin, hm, hx, hrun, Result.andThen]
  exact hK' _ _ (hK w' (MapSt.del h1 h2 h3 hown hu) hu)
end laws

def diskCells (bm : Nat) (A : DM) : Array Value := #[.map (some bm), .int .i64 (A.room : Nat), .bool A.dead, .int .i64 A.fuse, .int .i64 (A.done : Nat)]
structure DiskSt (w : World) (bd bm : Nat) (A : DM) : Prop where
  box : w.heap[bd]? = some (.cells (diskCells bm A) 60 (0, 0))
  map : MapSt w bm A.fs
  ok : A.Ok
theorem DiskSt.noU8 {w : World} {bd bm : Nat} {A : DM} (h : DiskSt w bd bm A) : NoU8 w bd := by
  intro j c hc
  have hb := h.box
  simp only [World.cell?, hb, diskCells] at hc
  match j with
  | 0 => simp at hc
  | 1 => simp at hc
  | 2 => simp at hc
  | 3 => simp at hc
  | 4 => simp at hc
  | j + 5 => simp at hc
theorem DiskSt.ne {w : World} {bd bm : Nat} {A : DM} (h : DiskSt w bd bm A) : bd ≠ bm := by
  intro e
  obtain ⟨D, ⟨es, clock, hb, _⟩, _⟩ := h.map
  have := h.box
  rw [e, hb] at this
  cases this
abbrev DS (bd bm : Nat) : Nat → Prop := fun k => k = bd ∨ k = bm
theorem DiskSt.safe {w : World} {bd bm : Nat} {A : DM} (h : DiskSt w bd bm A) : ∀ b, DS bd bm b → NoU8 w b := fun b q => by
  rcases q with rfl | rfl
  · exact h.noU8
  · exact h.map.noU8
theorem DiskSt.upd {S : Nat → Prop} {w w' : World} {bd bm : Nat} {A : DM} (h : DiskSt w bd bm A) (hu : Upd S w w') (hS : ∀ b, S b → NoU8 w b) (h1 : ¬ S bd) (h2 : ¬ S bm) : DiskSt w' bd bm A :=
  ⟨hu.heap h1 h.box, h.map.upd hu hS h2, h.ok⟩
theorem DiskSt.later {w w' : World} {bd bm : Nat} {A : DM} (h : DiskSt w bd bm A) (hb : Below w.heap.size w w') : DiskSt w' bd bm A :=
  h.upd (S := fun _ => False) (Upd.of_below hb) (fun _ q => q.elim) (fun q => q) (fun q => q)
theorem DiskSt.cells {w : World} {bd bm : Nat} {A : DM} (h : DiskSt w bd bm A) :
    (w.cell? ⟨bd, 0, none⟩ = some (.map (some bm)) ∧ w.cell? ⟨bd, 1, none⟩ = some (.int .i64 (A.room : Nat)) ∧ w.cell? ⟨bd, 2, none⟩ = some (.bool A.dead) ∧ w.cell? ⟨bd, 3, none⟩ = some (.int .i64 A.fuse) ∧ w.cell? ⟨bd, 4, none⟩ = some (.int .i64 (A.done : Nat))) ∧
    (∀ j, w.frozen? ⟨bd, j, none⟩ = false) := by
  have hb := h.box
  refine ⟨⟨?_, ?_, ?_, ?_, ?_⟩, fun j => ?_⟩
  · simp [World.cell?, hb, diskCells]
  · simp [World.cell?, hb, diskCells]
  · simp [World.cell?, hb, diskCells]
  · simp [World.cell?, hb, diskCells]
  · simp [World.cell?, hb, diskCells]
  · simp [World.frozen?, hb]
/-- The struct's cells are written. -/
theorem DiskSt.set {w w' : World} {bd bm : Nat} {A B : DM} (h : DiskSt w bd bm A) (hfs : B.fs = A.fs) (hok : B.Ok) (hu : Upd (· = bd) w w') (hbox : w'.heap[bd]? = some (.cells (diskCells bm B) 60 (0, 0))) : DiskSt w' bd bm B :=
  ⟨hbox, by rw [hfs]; exact h.map.upd hu (fun b e => by subst e; exact h.noU8) (fun e => h.ne e.symm), hok⟩
/-- The map's entries are written. -/
theorem DiskSt.remap {w w' : World} {bd bm : Nat} {A B : DM} (h : DiskSt w bd bm A) (hm : MapSt w' bm B.fs) (hc : diskCells bm B = diskCells bm A) (hok : B.Ok) (hu : Upd (· = bm) w w') : DiskSt w' bd bm B :=
  ⟨by rw [hc]; exact hu.heap (fun e => h.ne e) h.box, hm, hok⟩
/-- A local file struct lies in a new block; the disk is read, then stored to. -/
theorem local_file {w : World} {bd bm : Nat} {A : DM} (h : DiskSt w bd bm A) (x : Option Addr) (n c : Nat) (s : Int) :
    let wS := w.alloc (.cells #[.slice x n c, .int .i64 s] 63)
    (wS.drew.cell? ⟨bd, 0, none⟩ = some (.map (some bm)) ∧ wS.drew.cell? ⟨w.heap.size, 0, none⟩ = some (.slice x n c) ∧ wS.drew.cell? ⟨w.heap.size, 1, none⟩ = some (.int .i64 s)) ∧ DiskSt wS bd bm A ∧
    (∀ w', Upd (· = bm) wS.drew w' → (w'.cell? ⟨bd, 0, none⟩ = some (.map (some bm)) ∧ w'.cell? ⟨w.heap.size, 0, none⟩ = some (.slice x n c) ∧ w'.cell? ⟨w.heap.size, 1, none⟩ = some (.int .i64 s))) := by
  have hb : Below w.heap.size w (w.alloc (.cells #[.slice x n c, .int .i64 s] 63)) := (Below.refl _ _).alloc (Nat.le_refl _) _
  have hd := h.later hb
  have c0 := hd.cells.1.1
  have e0 : (w.alloc (.cells #[.slice x n c, .int .i64 s] 63)).cell? ⟨w.heap.size, 0, none⟩ = some (.slice x n c) := by have hh := heap_at w (.cells #[.slice x n c, .int .i64 s] 63); simp only [World.cell?, hh]; rfl
  have e1 : (w.alloc (.cells #[.slice x n c, .int .i64 s] 63)).cell? ⟨w.heap.size, 1, none⟩ = some (.int .i64 s) := by have hh := heap_at w (.cells #[.slice x n c, .int .i64 s] 63); simp only [World.cell?, hh]; rfl
  have hlt := hd.map.lt
  have hm : w.heap.size ≠ bm := by
    have := h.map.lt
    omega
  refine ⟨⟨c0, e0, e1⟩, hd, fun w' hu => ⟨?_, ?_, ?_⟩⟩
  · exact hu.cell (fun e => h.ne e) c0
  · exact hu.cell (fun e => hm e) e0
  · exact hu.cell (fun e => hm e) e1
end Go.Proofs.Ytjojomjnbiakoaa

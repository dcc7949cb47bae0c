/-
  Entries (structs of a text, a number, a kind and a text) in slices, as they lie in a world; how an argument's reading opens into them. No function of the program is named here.
-/
import Derived.Test.YthgbmijgoaihcaaDraw
namespace Go.Proofs.Ythgbmijgoaihcaa
open Go.RowKit Go.ChangeShapes Go.WideShapes Go.ChangeAt
set_option linter.unusedVariables false

structure Ent where
  user : ByteArray
  seq : Nat
  kind : Nat
  value : ByteArray
  deriving Inhabited

def Ent.ok (e : Ent) : Prop := e.user.size ≤ maxLen ∧ e.seq < 18446744073709551616 ∧ e.kind < 256 ∧ e.value.size ≤ maxLen

def entCells (e : Ent) : List Value := [.string e.user, .int .u64 (e.seq : Nat), .int .u8 (e.kind : Nat), .string e.value]

/-- The cells of entry e begin at that place. -/
def EntAt (w : World) (b o : Nat) (e : Ent) : Prop :=
  w.cell? ⟨b, o, none⟩ = some (.string e.user) ∧ w.cell? ⟨b, o + 1, none⟩ = some (.int .u64 (e.seq : Nat)) ∧ w.cell? ⟨b, o + 2, none⟩ = some (.int .u8 (e.kind : Nat)) ∧ w.cell? ⟨b, o + 3, none⟩ = some (.string e.value)

/-- A slice of entries that reads as l. -/
def Ents (w : World) (a : Option Addr) (l : List Ent) : Prop :=
  ∀ i (h : i < l.length), ∃ b off, a = some ⟨b, off, none⟩ ∧ EntAt w b (off + i * 4) l[i] ∧ l[i].ok

theorem EntAt.below {w w' : World} {b o : Nat} {e : Ent} (h : EntAt w b o e) (hb : Below w.heap.size w w') : EntAt w' b o e := by
  obtain ⟨h0, h1, h2, h3⟩ := h
  have hl := cell_lt h0
  exact ⟨by rw [hb.cell (p := ⟨b, o, none⟩) hl, h0], by rw [hb.cell (p := ⟨b, o + 1, none⟩) hl, h1], by rw [hb.cell (p := ⟨b, o + 2, none⟩) hl, h2], by rw [hb.cell (p := ⟨b, o + 3, none⟩) hl, h3]⟩

/-- What lies in blocks below B stays while B's blocks and later ones alone are written. -/
theorem EntAt.belowB {B : Nat} {w w' : World} {b o : Nat} {e : Ent} (h : EntAt w b o e) (hl : b < B) (hb : Below B w w') : EntAt w' b o e := by
  obtain ⟨h0, h1, h2, h3⟩ := h
  exact ⟨by rw [hb.cell (p := ⟨b, o, none⟩) hl, h0], by rw [hb.cell (p := ⟨b, o + 1, none⟩) hl, h1], by rw [hb.cell (p := ⟨b, o + 2, none⟩) hl, h2], by rw [hb.cell (p := ⟨b, o + 3, none⟩) hl, h3]⟩

theorem Ents.below {w w' : World} {a : Option Addr} {l : List Ent} (h : Ents w a l) (hb : Below w.heap.size w w') : Ents w' a l := by
  intro i hi
  obtain ⟨b, off, e, hc, ho⟩ := h i hi
  exact ⟨b, off, e, hc.below hb, ho⟩

theorem ents_nil (w : World) (a : Option Addr) : Ents w a [] := fun i h => by simp at h

theorem Ents.take {w : World} {a : Option Addr} {l : List Ent} (h : Ents w a l) (k : Nat) : Ents w a (l.take k) := by
  intro i hi
  have hi' : i < l.length := by simp at hi; omega
  obtain ⟨b, off, e, hc, ho⟩ := h i hi'
  exact ⟨b, off, e, by simpa using hc, by simpa using ho⟩
theorem Ents.drop {w : World} {a : Option Addr} {l : List Ent} (h : Ents w a l) {cap : Nat} (hl : l.length ≤ cap) (k : Nat) : Ents w (cutFrom a cap k 4) (l.drop k) := by
  intro i hi
  have hi' : k + i < l.length := by simp at hi; omega
  obtain ⟨b, off, e, hc, ho⟩ := h (k + i) hi'
  refine ⟨b, off + k * 4, ?_, ?_, by simpa using ho⟩
  · unfold cutFrom; rw [if_neg (by omega), e]; simp [addr_add]
  · have : off + k * 4 + i * 4 = off + (k + i) * 4 := by omega
    rw [this]; simpa using hc

theorem Ents.get {w : World} {b off : Nat} {l : List Ent} (h : Ents w (some ⟨b, off, none⟩) l) (i : Nat) (hi : i < l.length) : EntAt w b (off + i * 4) l[i] := by
  obtain ⟨b', off', e, hc, _⟩ := h i hi
  simp only [Option.some.injEq, Addr.mk.injEq, and_true] at e
  obtain ⟨rfl, rfl⟩ := e
  exact hc
theorem Ents.ok {w : World} {a : Option Addr} {l : List Ent} (h : Ents w a l) (e : Ent) (he : e ∈ l) : e.ok := by
  obtain ⟨i, hi, rfl⟩ := List.getElem_of_mem he
  obtain ⟨_, _, _, _, ho⟩ := h i hi
  exact ho

section reads
variable {P : Program} {w : World} {H : Type} {enc : TypeId × Value → H}

theorem trod_struct4 {base : Nat} {spare : Nat → Bool} {held : Bool} {t : TypeId} {f0 f1 f2 f3 : Field} {fuel : Nat} {c0 c1 c2 c3 : Value} {x : DataW H × List MemPlace} (ht : P.underlying t = some (.struct #[f0, f1, f2, f3])) (hc : P.cellsOf t = 4)
    (o0 : f0.offset = 0) (o1 : f1.offset = 1) (o2 : f2.offset = 2) (o3 : f3.offset = 3) (s0 : P.cellsOf f0.type = 1) (s1 : P.cellsOf f1.type = 1) (s2 : P.cellsOf f2.type = 1) (s3 : P.cellsOf f3.type = 1)
    (h : DataW.trod enc P w base spare held (fuel + 1) t [c0, c1, c2, c3] = some x) :
    ∃ y0 y1 y2 y3, DataW.trod enc P w base spare held fuel f0.type [c0] = some y0 ∧ DataW.trod enc P w base spare held fuel f1.type [c1] = some y1 ∧ DataW.trod enc P w base spare held fuel f2.type [c2] = some y2 ∧ DataW.trod enc P w base spare held fuel f3.type [c3] = some y3 ∧
      x = (.agg [y0.1, y1.1, y2.1, y3.1], y0.2 ++ (y1.2 ++ (y2.2 ++ y3.2))) := by
  simp only [DataW.trod, ht, hc, List.length_cons, List.length_nil, if_true] at h
  simp [Option.bind_eq_some_iff, o0, o1, o2, o3, s0, s1, s2, s3] at h
  obtain ⟨a0, b0, h0, L1, ⟨a1, b1, h1, L2, ⟨a2, b2, h2, L3, ⟨a3, b3, h3, rfl⟩, rfl⟩, rfl⟩, rfl⟩ := h
  exact ⟨_, _, _, _, h0, h1, h2, h3, by simp⟩

theorem cells4 {base : Nat} {a : Addr} {cs : List Value} (h : w.cells? base a 4 = some cs) :
    ∃ c0 c1 c2 c3, cs = [c0, c1, c2, c3] ∧ w.cell? (a.add 0) = some c0 ∧ w.cell? (a.add 1) = some c1 ∧ w.cell? (a.add 2) = some c2 ∧ w.cell? (a.add 3) = some c3 := by
  unfold World.cells? at h
  split at h
  · simp [List.range_succ, Option.bind_eq_some_iff] at h
    obtain ⟨x, hx, L1, ⟨y, hy, L2, ⟨z, hz, L3, ⟨u, hu, rfl⟩, rfl⟩, rfl⟩, rfl⟩ := h
    exact ⟨_, _, _, _, rfl, hx, hy, hz, hu⟩
  · cases h

theorem read_ents {base : Nat} {held : Bool} {t e q u8 u64 : TypeId} {f0 f1 f2 f3 : Field} {r : Reach} {b0 : Nat} {v : Value} {d : DataW H} {ps : List MemPlace} (ht : P.underlying t = some (.slice e)) (he : P.underlying e = some (.struct #[f0, f1, f2, f3]))
    (hc : P.cellsOf e = 4) (o0 : f0.offset = 0) (o1 : f1.offset = 1) (o2 : f2.offset = 2) (o3 : f3.offset = 3) (s0 : P.cellsOf f0.type = 1) (s1 : P.cellsOf f1.type = 1) (s2 : P.cellsOf f2.type = 1) (s3 : P.cellsOf f3.type = 1)
    (t0 : P.underlying f0.type = some .string) (t1 : P.underlying f1.type = some (.int .u64)) (t2 : P.underlying f2.type = some (.int .u8)) (t3 : P.underlying f3.type = some .string)
    {fuel : Nat} {a : Option Addr} {len cap : Nat} {x : DataW H × List MemPlace} (hf : DataW.trod enc P w base (fun _ => true) held fuel t [.slice a len cap] = some x) :
    ∃ l, len = l.length ∧ len ≤ cap ∧ cap ≤ maxLen ∧ Ents w a l ∧ (a = none → cap = 0) := by
  rcases Deep.open_slice ht hf with ⟨hcs, _⟩ | ⟨y, l, c, m, n, D, Pl, hcs, _, hl, hm, hmm, _, hx⟩
  · simp at hcs
    obtain ⟨rfl, rfl, rfl⟩ := hcs
    exact ⟨[], rfl, Nat.le_refl _, by unfold maxLen; omega, ents_nil _ _, fun _ => rfl⟩
  · simp at hcs
    obtain ⟨rfl, rfl, rfl⟩ := hcs
    simp only [if_true] at hmm
    subst hmm
    have each : ∀ i, i < m → ∃ e0 : Ent, w.cell? ((y.add (i * 4)).add 0) = some (.string e0.user) ∧ w.cell? ((y.add (i * 4)).add 1) = some (.int .u64 (e0.seq : Nat)) ∧ w.cell? ((y.add (i * 4)).add 2) = some (.int .u8 (e0.kind : Nat)) ∧ w.cell? ((y.add (i * 4)).add 3) = some (.string e0.value) ∧ e0.ok := by
      intro i hi
      obtain ⟨cs', h1, h2⟩ := hx i hi
      rw [hc] at h1
      obtain ⟨c0, c1, c2, c3, rfl, k0, k1, k2, k3⟩ := cells4 h1
      cases n with
      | zero => simp [DataW.trod] at h2
      | succ n =>
        obtain ⟨y0, y1, y2, y3, z0, z1, z2, z3, _⟩ := trod_struct4 he hc o0 o1 o2 o3 s0 s1 s2 s3 h2
        obtain ⟨u, hu, _, hus⟩ := DataW.trod_string t0 z0
        obtain ⟨sq, hsq, _, hsqw⟩ := DataW.trod_int t1 z1
        obtain ⟨kd, hkd, _, hkdw⟩ := DataW.trod_int t2 z2
        obtain ⟨vl, hvl, _, hvls⟩ := DataW.trod_string t3 z3
        simp only [List.cons.injEq, and_true] at hu hsq hkd hvl
        subst hu hsq hkd hvl
        obtain ⟨q0, q1⟩ := wf_u64 hsqw
        obtain ⟨q2, q3⟩ := wf_u8 hkdw
        obtain ⟨s', rfl⟩ := nat_of q0
        obtain ⟨k', rfl⟩ := nat_of q2
        exact ⟨⟨u, s', k', vl⟩, k0, k1, k2, k3, hus, (by omega : s' < 18446744073709551616), (by omega : k' < 256), hvls⟩
    let f : Nat → Ent := fun i => if h : i < m then (each i h).choose else ⟨⟨#[]⟩, 0, 0, ⟨#[]⟩⟩
    have hff : ∀ i (h : i < m), w.cell? ((y.add (i * 4)).add 0) = some (.string (f i).user) ∧ w.cell? ((y.add (i * 4)).add 1) = some (.int .u64 ((f i).seq : Nat)) ∧ w.cell? ((y.add (i * 4)).add 2) = some (.int .u8 ((f i).kind : Nat)) ∧ w.cell? ((y.add (i * 4)).add 3) = some (.string (f i).value) ∧ (f i).ok := by
      intro i hi
      simp only [f, hi, dif_pos]
      exact (each i hi).choose_spec
    refine ⟨(List.range len).map f, by simp, hl, hm, fun i hi => ?_, fun h => by cases h⟩
    have hi' : i < len := by simpa using hi
    obtain ⟨b, off, spot⟩ := y
    have h0 := (hff 0 (by omega)).1
    have hs : spot = none := by
      have := World.cell?_spot h0
      simpa [Addr.add] using this
    subst hs
    obtain ⟨k0, k1, k2, k3, k4⟩ := hff i (by omega)
    rw [addr_add, addr_add] at k0 k1 k2 k3
    exact ⟨b, off, rfl, by simpa using ⟨k0, k1, k2, k3⟩, by simpa using k4⟩
end reads
end Go.Proofs.Ythgbmijgoaihcaa

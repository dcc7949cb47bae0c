/-
  Slices of bytes and of slices of bytes as they lie in a world; how an argument's reading opens into them; small facts on new blocks. No function of the program is named here.
-/
import Derived.Test.YtjojomjnbiakoaaRows
import Derived.WalkKit
import Derived.WalkSpells
import Derived.WalkLawsBesides
import Derived.ProofKit
import Derived.OpenShut
import Derived.ShutString
import Derived.ChangeOld
import Derived.Below
import Derived.SizedLaws
import Derived.Lib.Hide
import Derived.Lib.SlBytesConst
import Derived.Deep.Matrix
namespace Go.Proofs.Ytjojomjnbiakoaa
open Go.RowKit Go.ChangeShapes Go.WideShapes Go.ChangeAt
set_option linter.unusedVariables false

theorem own : ownKnob Try.prog.godebug = none := by kernel_rfl
theorem laidOut : laidOutB Try.prog = true := by kernel_rfl

/-- A slice of bytes that reads as l. -/
def Bytes (w : World) (a : Option Addr) (l : List UInt8) : Prop :=
  ∀ i (h : i < l.length), ∃ b off, a = some ⟨b, off, none⟩ ∧ w.cell? ⟨b, off + i, none⟩ = some (.int .u8 (l[i].toNat : Nat))

/-- A slice of slices of bytes that reads as ls. -/
def ByteRows (w : World) (a : Option Addr) (ls : List (List UInt8)) : Prop :=
  ∀ i (h : i < ls.length), ∃ b off x cap, a = some ⟨b, off, none⟩ ∧ w.cell? ⟨b, off + i, none⟩ = some (.slice x ls[i].length cap) ∧ ls[i].length ≤ maxLen ∧ Bytes w x ls[i]

theorem cell_lt {w : World} {b o : Nat} {v : Value} (h : w.cell? ⟨b, o, none⟩ = some v) : b < w.heap.size := by
  rcases Nat.lt_or_ge b w.heap.size with h' | h'
  · exact h'
  · simp [World.cell?, Array.getElem?_eq_none h'] at h

theorem Bytes.below {w w' : World} {a : Option Addr} {l : List UInt8} (h : Bytes w a l) (hb : Below w.heap.size w w') : Bytes w' a l := by
  intro i hi
  obtain ⟨b, off, e, hc⟩ := h i hi
  exact ⟨b, off, e, by rw [hb.cell (p := ⟨b, off + i, none⟩) (cell_lt hc), hc]⟩

theorem ByteRows.below {w w' : World} {a : Option Addr} {ls : List (List UInt8)} (h : ByteRows w a ls) (hb : Below w.heap.size w w') : ByteRows w' a ls := by
  intro i hi
  obtain ⟨b, off, x, cap, e, hc, hm, hx⟩ := h i hi
  exact ⟨b, off, x, cap, e, by rw [hb.cell (p := ⟨b, off + i, none⟩) (cell_lt hc), hc], hm, hx.below hb⟩

theorem wf_u8 {n : Int} (h : (Lit.int .u8 n).wf = true) : 0 ≤ n ∧ n < 256 := by
  simp [Lit.wf, IntKind.min, IntKind.max, IntKind.signed, IntKind.bits] at h; omega
theorem wf_u32 {n : Int} (h : (Lit.int .u32 n).wf = true) : 0 ≤ n ∧ n < 4294967296 := by
  simp [Lit.wf, IntKind.min, IntKind.max, IntKind.signed, IntKind.bits] at h; omega
theorem wf_u64 {n : Int} (h : (Lit.int .u64 n).wf = true) : 0 ≤ n ∧ n < 18446744073709551616 := by
  simp [Lit.wf, IntKind.min, IntKind.max, IntKind.signed, IntKind.bits] at h; omega
theorem wf_i64 {n : Int} (h : (Lit.int .i64 n).wf = true) : -9223372036854775808 ≤ n ∧ n ≤ 9223372036854775807 := by
  simp [Lit.wf, IntKind.min, IntKind.max, IntKind.signed, IntKind.bits] at h; omega

theorem byte_of {n : Int} (h : 0 ≤ n) (h' : n < 256) : ∃ c : UInt8, n = (c.toNat : Nat) := by
  refine ⟨UInt8.ofNat n.toNat, ?_⟩
  rw [UInt8.toNat_ofNat']; omega
theorem nat_of {n : Int} (h : 0 ≤ n) : ∃ k : Nat, n = k := Int.eq_ofNat_of_zero_le h

/-- The cells of a list of bytes. -/
def cells8 (l : List UInt8) : List Value := l.map fun c => Value.int .u8 (c.toNat : Nat)
theorem cells8_length (l : List UInt8) : (cells8 l).length = l.length := by simp [cells8]
theorem cells8_one (l : List UInt8) : ∀ u ∈ cells8 l, u.oneCell' = true := by
  intro u hu
  simp only [cells8, List.mem_map] at hu
  obtain ⟨c, _, rfl⟩ := hu
  rfl
theorem cells8_append (l m : List UInt8) : cells8 (l ++ m) = cells8 l ++ cells8 m := by simp [cells8]
theorem cells8_getElem? (l : List UInt8) (i : Nat) (h : i < l.length) : (cells8 l)[i]? = some (.int .u8 (l[i].toNat : Nat)) := by simp [cells8, h]
theorem addr_add (b off j : Nat) : (⟨b, off, none⟩ : Addr).add j = ⟨b, off + j, none⟩ := by unfold Addr.add; split <;> simp_all
theorem Bytes.news {w : World} {b off : Nat} {l : List UInt8} (h : Bytes w (some ⟨b, off, none⟩) l) : ∀ j u, (cells8 l)[j]? = some u → w.cell? ((⟨b, off, none⟩ : Addr).add j) = some u := by
  intro j u hu
  have hj : j < l.length := by
    rcases Nat.lt_or_ge j l.length with h' | h'
    · exact h'
    · rw [List.getElem?_eq_none (by rw [cells8_length]; exact h')] at hu; cases hu
  obtain ⟨b', off', e, hc⟩ := h j hj
  simp only [Option.some.injEq, Addr.mk.injEq, and_true] at e
  obtain ⟨rfl, rfl⟩ := e
  rw [cells8_getElem? l j hj] at hu
  rw [addr_add, hc, ← hu]
theorem Bytes.alloc {w : World} {a : Option Addr} {l : List UInt8} (h : Bytes w a l) (o : Obj) : Bytes (w.alloc o) a l :=
  h.below ((Below.refl _ _).alloc (Nat.le_refl _) _)
theorem bytes_owns {w : World} {base E g n cap : Nat} {l : List UInt8} (h : w.ownsRow base E 1 (.slice (some ⟨g, 0, none⟩) n cap) l.length (cells8 l)) : n = l.length ∧ l.length ≤ cap ∧ cap ≤ maxLen ∧ base ≤ g ∧ Bytes w (some ⟨g, 0, none⟩) l := by
  have h' := h
  obtain ⟨h1, h2⟩ := h'
  rcases h2 with ⟨h2, _⟩ | ⟨g', cap', cur, hv, hg, hh, h3, h4, h5, h6⟩
  · cases h2
  · simp only [Value.slice.injEq, Option.some.injEq, Addr.mk.injEq, and_true] at hv
    obtain ⟨rfl, rfl, rfl⟩ := hv
    refine ⟨rfl, h3, h4, hg, fun i hi => ⟨g, 0, rfl, ?_⟩⟩
    rw [Nat.zero_add, World.ownsRow.cellAt h i (by omega), cells8_getElem? l i hi]
theorem owns_shape {w : World} {base E size n : Nat} {v : Value} {xs : List Value} (h : w.ownsRow base E size v n xs) (hn : 0 < n) : ∃ g cap, v = .slice (some ⟨g, 0, none⟩) n cap := by
  rcases h.2 with ⟨_, h2⟩ | ⟨g, cap, cur, hv, _⟩
  · omega
  · exact ⟨g, cap, hv⟩

/-- Where a slice's tail begins. -/
def cutFrom (a : Option Addr) (cap k s : Nat) : Option Addr := if cap = k then a else a.map (·.add (k * s))
theorem Bytes.take {w : World} {a : Option Addr} {l : List UInt8} (h : Bytes w a l) (k : Nat) : Bytes w a (l.take k) := by
  intro i hi
  have hi' : i < l.length := by simp at hi; omega
  obtain ⟨b, off, e, hc⟩ := h i hi'
  exact ⟨b, off, e, by simpa using hc⟩
theorem Bytes.drop {w : World} {a : Option Addr} {l : List UInt8} (h : Bytes w a l) {cap : Nat} (hl : l.length ≤ cap) (k : Nat) : Bytes w (cutFrom a cap k 1) (l.drop k) := by
  intro i hi
  have hi' : k + i < l.length := by simp at hi; omega
  obtain ⟨b, off, e, hc⟩ := h (k + i) hi'
  refine ⟨b, off + k, ?_, ?_⟩
  · unfold cutFrom; rw [if_neg (by omega), e]; simp [addr_add]
  · rw [Nat.add_assoc, hc]; simp
theorem run_cut_from {P : Program} {t e : TypeId} (ht : P.underlying t = some (.slice e)) {i0 : TypeInfo} (hi : P.info? e = some i0) (a : Option Addr) (len cap k : Nat) (kk : IntKind) (h1 : k ≤ len) (w : World) :
    (Instr.slice t (.slice a len cap) (some (.int kk (k : Nat))) none none).run P w = .ok (.slice (cutFrom a cap k i0.size) (len - k) (cap - k)) w := by
  simp [Instr.slice, run_underlying ht, Instr.sliceBounds, Instr.sliceBound, asIntOf, sizeOf, typeInfo, hi, cutFrom, h1]
theorem run_cut_to {P : Program} {t e : TypeId} (ht : P.underlying t = some (.slice e)) {i0 : TypeInfo} (hi : P.info? e = some i0) (a : Option Addr) (len cap k : Nat) (kk : IntKind) (h1 : k ≤ cap) (w : World) :
    (Instr.slice t (.slice a len cap) none (some (.int kk (k : Nat))) none).run P w = .ok (.slice a k cap) w := by
  simp [Instr.slice, run_underlying ht, Instr.sliceBounds, Instr.sliceBound, asIntOf, sizeOf, typeInfo, hi, h1]
  cases a <;> simp [Addr.add]

/-- A slice of whole numbers that reads as l. -/
def Nums (k : IntKind) (w : World) (a : Option Addr) (l : List Nat) : Prop :=
  ∀ i (h : i < l.length), ∃ b off, a = some ⟨b, off, none⟩ ∧ w.cell? ⟨b, off + i, none⟩ = some (.int k (l[i] : Nat))
theorem Nums.below {k : IntKind} {w w' : World} {a : Option Addr} {l : List Nat} (h : Nums k w a l) (hb : Below w.heap.size w w') : Nums k w' a l := by
  intro i hi
  obtain ⟨b, off, e, hc⟩ := h i hi
  exact ⟨b, off, e, by rw [hb.cell (p := ⟨b, off + i, none⟩) (cell_lt hc), hc]⟩
theorem below_own {w a b : World} {k : Nat} (h : Below w.heap.size w a) (g : a.grownBy b (some k)) (hk : w.heap.size ≤ k) : Below w.heap.size w b :=
  h.grown g h.size (by intro k' e; cases e; exact hk)

section reads
variable {P : Program} {w : World} {H : Type} {enc : TypeId × Value → H}

theorem bytes_of_ints {x : Addr} {len cap : Nat} {zs : List Int} (hl : len ≤ cap) (hz : zs.length = cap) (hc : ∀ i, i < zs.length → w.cell? (x.add i) = some (.int .u8 (zs.getD i 0)))
    (hw : ∀ n ∈ zs, (Lit.int .u8 n).wf = true) : ∃ l : List UInt8, l.length = len ∧ Bytes w (some x) l := by
  refine ⟨(zs.take len).map fun n => UInt8.ofNat n.toNat, by simp; omega, fun i hi => ?_⟩
  have hi' : i < len := by simp at hi; omega
  have h0 := hc 0 (by omega)
  obtain ⟨b, off, spot⟩ := x
  have hs : spot = none := by simpa [Addr.add] using World.cell?_spot h0
  subst hs
  refine ⟨b, off, rfl, ?_⟩
  have h1 := hc i (by omega)
  have e : (⟨b, off, none⟩ : Addr).add i = ⟨b, off + i, none⟩ := by unfold Addr.add; split <;> simp_all
  rw [e] at h1
  rw [h1]
  have hiz : i < zs.length := by omega
  have eg : zs.getD i 0 = zs[i] := by simp [List.getD_eq_getElem?_getD, hiz]
  have hb := wf_u8 (hw zs[i] (List.getElem_mem _))
  rw [eg]
  simp only [List.getElem_map, List.getElem_take, Option.some.injEq, Value.int.injEq, true_and]
  have : (UInt8.ofNat (zs[i].toNat)).toNat = zs[i].toNat := by
    rw [UInt8.toNat_ofNat']; omega
  rw [this]; omega

theorem eqs_iff {m n a b : Nat} (h : m = n ↔ a = b) : (((m : Int) == (n : Int)) == ((a : Int) == (b : Int))) = true := by
  by_cases e : a = b
  · have := h.2 e; subst e; subst this; simp
  · have : m ≠ n := fun x => e (h.1 x)
    have h1 : ((m : Int) == (n : Int)) = false := by simp; omega
    have h2 : ((a : Int) == (b : Int)) = false := by simp; omega
    rw [h1, h2]; rfl

theorem bytes_nil (w : World) (a : Option Addr) : Bytes w a [] := fun i h => by simp at h

theorem read_bytes {base : Nat} {held : Bool} {t e : TypeId} {r : Reach} {b0 : Nat} {v : Value} {d : DataW H} {ps : List MemPlace} (ht : P.underlying t = some (.slice e)) (he : P.underlying e = some (.int .u8)) (hc : P.cellsOf e = 1)
    (hval : Value.okWide P w r b0 t v) (hd : DataW.Trod enc P w base (fun _ => true) held t v d ps) :
    ∃ a cap l, v = .slice a l.length cap ∧ l.length ≤ cap ∧ cap ≤ maxLen ∧ Bytes w a l := by
  obtain ⟨a, len, cap, rfl⟩ := okWide_slice ht hval
  obtain ⟨fuel, hf⟩ := hd
  rcases open_ints ht he hc hf with ⟨hcs, _⟩ | ⟨x, l, c, zs, hcs, _, hl, hm, hz, _, hcell, hwz⟩
  · simp [Value.cells] at hcs
    obtain ⟨rfl, rfl, rfl⟩ := hcs
    exact ⟨none, 0, [], rfl, Nat.le_refl _, by unfold maxLen; omega, bytes_nil _ _⟩
  · simp [Value.cells] at hcs
    obtain ⟨rfl, rfl, rfl⟩ := hcs
    obtain ⟨l, hl', hb⟩ := bytes_of_ints hl (by simpa using hz) hcell hwz
    exact ⟨_, cap, l, by rw [hl'], by omega, hm, hb⟩

theorem read_u64s {base : Nat} {held : Bool} {t e : TypeId} {r : Reach} {b0 : Nat} {v : Value} {d : DataW H} {ps : List MemPlace} (ht : P.underlying t = some (.slice e)) (he : P.underlying e = some (.int .u64)) (hc : P.cellsOf e = 1)
    (hval : Value.okWide P w r b0 t v) (hd : DataW.Trod enc P w base (fun _ => true) held t v d ps) :
    ∃ a cap l, v = .slice a l.length cap ∧ l.length ≤ cap ∧ cap ≤ maxLen ∧ Nums .u64 w a l ∧ ∀ n ∈ l, n < 18446744073709551616 := by
  obtain ⟨a, len, cap, rfl⟩ := okWide_slice ht hval
  obtain ⟨fuel, hf⟩ := hd
  rcases open_ints ht he hc hf with ⟨hcs, _⟩ | ⟨x, l, c, zs, hcs, _, hl, hm, hz, _, hcell, hwz⟩
  · simp [Value.cells] at hcs
    obtain ⟨rfl, rfl, rfl⟩ := hcs
    exact ⟨none, 0, [], rfl, Nat.le_refl _, by unfold maxLen; omega, fun i h => by simp at h, by simp⟩
  · simp [Value.cells] at hcs
    obtain ⟨rfl, rfl, rfl⟩ := hcs
    simp at hz
    refine ⟨some x, cap, (zs.take len).map Int.toNat, by simp; omega, by simp; omega, hm, fun i hi => ?_, fun n hn => ?_⟩
    · have hi' : i < len := by simp at hi; omega
      have h0 := hcell 0 (by omega)
      obtain ⟨b, off, spot⟩ := x
      have hs : spot = none := by simpa [Addr.add] using World.cell?_spot h0
      subst hs
      have h1 := hcell i (by omega)
      rw [addr_add] at h1
      refine ⟨b, off, rfl, ?_⟩
      have hiz : i < zs.length := by omega
      have eg : zs.getD i 0 = zs[i] := by simp [List.getD_eq_getElem?_getD, hiz]
      have hb := wf_u64 (hwz zs[i] (List.getElem_mem _))
      rw [h1, eg]
      simp only [List.getElem_map, List.getElem_take, Option.some.injEq, Value.int.injEq, true_and]
      omega
    · simp only [List.mem_map] at hn
      obtain ⟨z, hz', rfl⟩ := hn
      have := wf_u64 (hwz z (List.mem_of_mem_take hz'))
      omega

theorem reach_bytes {base : Nat} {held : Bool} {t e : TypeId} {a : Option Addr} {n cap : Nat} {d : DataW H} {ps : List MemPlace} (ht : P.underlying t = some (.slice e)) (he : P.underlying e = some (.int .u8)) (hc : P.cellsOf e = 1) (hb : P.bytesOf e = 1)
    (hd : DataW.Trod enc P w base (fun _ => true) held t (.slice a n cap) d ps) (hz : ∀ n ∈ d.weights P t, n ≤ reachBytes) : cap ≤ reachBytes := by
  obtain ⟨fuel, hf⟩ := hd
  rcases open_ints ht he hc hf with ⟨hcs, _⟩ | ⟨x, l, c, zs, hcs, _, hl, hm, hzl, hx, hcell, hwz⟩
  · simp [Value.cells] at hcs
    obtain ⟨rfl, rfl, rfl⟩ := hcs
    exact Nat.zero_le _
  · simp [Value.cells] at hcs
    obtain ⟨rfl, rfl, rfl⟩ := hcs
    simp only [Prod.mk.injEq] at hx
    obtain ⟨rfl, rfl⟩ := hx
    have := hz (((lits .u8 (zs.take n) : List (DataW H)).length + (lits .u8 (zs.drop n) : List (DataW H)).length) * P.bytesOf e) (by simp [DataW.weights, ht])
    rw [hb] at this
    simp only [lits, List.length_map, List.length_take, List.length_drop] at this
    simp at hzl
    omega

theorem read_byte_rows {base : Nat} {held : Bool} {t e q : TypeId} {r : Reach} {b0 : Nat} {v : Value} {d : DataW H} {ps : List MemPlace} (ht : P.underlying t = some (.slice e)) (he : P.underlying e = some (.slice q)) (hq : P.underlying q = some (.int .u8))
    (ce : P.cellsOf e = 1) (cq : P.cellsOf q = 1) (hval : Value.okWide P w r b0 t v) (hd : DataW.Trod enc P w base (fun _ => true) held t v d ps) :
    ∃ a cap ls, v = .slice a ls.length cap ∧ ls.length ≤ cap ∧ cap ≤ maxLen ∧ ByteRows w a ls := by
  obtain ⟨a, len, cap, rfl⟩ := okWide_slice ht hval
  obtain ⟨fuel, hf⟩ := hd
  rcases Deep.open_int_rows ht he hq ce cq hf with ⟨hcs, _⟩ | ⟨x, l, c, A, L, C, Z, hcs, _, hl, hm, _, hr⟩
  · simp [Value.cells] at hcs
    obtain ⟨rfl, rfl, rfl⟩ := hcs
    exact ⟨none, 0, [], rfl, Nat.le_refl _, by unfold maxLen; omega, fun i h => by simp at h⟩
  · simp [Value.cells] at hcs
    obtain ⟨rfl, rfl, rfl⟩ := hcs
    have each : ∀ i, i < cap → ∃ l : List UInt8, l.length = L i ∧ Bytes w (A i) l := by
      intro i hi
      obtain ⟨h1, h2, h3, h4, h5, h6, h7⟩ := hr i hi
      cases hA : A i with
      | none => have := h6 hA; exact ⟨[], by simp; omega, bytes_nil _ _⟩
      | some y => exact bytes_of_ints h2 h4 (fun j hj => (h7 y hA).2 j (by omega)) h5
    let f : Nat → List UInt8 := fun i => if h : i < cap then (each i h).choose else []
    have hff : ∀ i, i < cap → (f i).length = L i ∧ Bytes w (A i) (f i) := by
      intro i hi
      simp only [f, hi, dif_pos]
      exact (each i hi).choose_spec
    refine ⟨some x, cap, (List.range len).map f, by simp, by simpa using hl, hm, fun i hi => ?_⟩
    have hi' : i < len := by simpa using hi
    obtain ⟨b, off, spot⟩ := x
    have h0 := (hr 0 (by omega)).1
    have hs : spot = none := by simpa [Addr.add] using World.cell?_spot h0
    subst hs
    have e : (⟨b, off, none⟩ : Addr).add i = ⟨b, off + i, none⟩ := by unfold Addr.add; split <;> simp_all
    obtain ⟨h1, h2, h3, _⟩ := hr i (by omega)
    have hfi := hff i (by omega)
    rw [e] at h1
    refine ⟨b, off, A i, C i, rfl, ?_, ?_, ?_⟩
    · rw [h1]; simp [hfi.1]
    · simp [hfi.1]; omega
    · simpa using hfi.2
end reads

/-! New blocks. -/
theorem heap_at (w : World) (o : Obj) : (w.alloc o).heap[w.heap.size]? = some o := by
  show (w.heap.push o)[w.heap.size]? = _
  simp
theorem heap_at' {w : World} {o : Obj} {b : Nat} (h : w.heap.size = b) : (w.alloc o).heap[b]? = some o := by subst h; exact heap_at w o
theorem heap_lt {w : World} {o' : Obj} {b : Nat} (h : w.heap[b]? = some o') : b < w.heap.size := by
  rcases Nat.lt_or_ge b w.heap.size with h' | h'
  · exact h'
  · rw [Array.getElem?_eq_none h'] at h; cases h
theorem heap_keep {w : World} {o o' : Obj} {b : Nat} (h : w.heap[b]? = some o') : (w.alloc o).heap[b]? = some o' := by
  rw [Below.heap_alloc _ _ _ (heap_lt h)]; exact h
theorem heap_below {w w' : World} {o' : Obj} {b : Nat} (h : w.heap[b]? = some o') (hb : Below w.heap.size w w') : w'.heap[b]? = some o' := by
  rw [hb.block _ (heap_lt h)]; exact h

theorem bytes_block {w : World} {b : Nat} {C : Array Value} {E : TypeId} {m : Nat × Nat} (l : List UInt8) (h : w.heap[b]? = some (.cells C E m))
    (hc : C.toList = l.map fun c => Value.int .u8 (c.toNat : Nat)) : Bytes w (some ⟨b, 0, none⟩) l := by
  intro i hi
  refine ⟨b, 0, rfl, ?_⟩
  have : C[0 + i]? = some (Value.int .u8 ((l[i]).toNat : Nat)) := by
    rw [← Array.getElem?_toList, hc]; simp [hi]
  simpa [World.cell?, h] using this

theorem rows_block {w : World} {b : Nat} {C : Array Value} {E : TypeId} {m : Nat × Nat} (ls : List (List UInt8)) (h : w.heap[b]? = some (.cells C E m))
    (hc : ∀ i (h : i < ls.length), ∃ x cap, C[i]? = some (.slice x ls[i].length cap) ∧ ls[i].length ≤ maxLen ∧ Bytes w x ls[i]) : ByteRows w (some ⟨b, 0, none⟩) ls := by
  intro i hi
  obtain ⟨x, cap, h1, h2, h3⟩ := hc i hi
  exact ⟨b, 0, x, cap, rfl, by simpa [World.cell?, h] using h1, h2, h3⟩

theorem small_len (n : Nat) (h : n ≤ 1000) : n ≤ maxLen := by unfold maxLen; omega

theorem ret_int {k : IntKind} {a b : Int} (h : a = b) : Ending.returned (.int k a) = .returned (.int k b) := by rw [h]
theorem ret_nat {k : IntKind} {a : Int} {b : Nat} (h : a = b) : Ending.returned (.int k a) = .returned (.int k (b : Nat)) := by rw [h]
theorem ret_bool {a b : Bool} (h : a = b) : Ending.returned (.bool a) = .returned (.bool b) := by rw [h]
end Go.Proofs.Ytjojomjnbiakoaa

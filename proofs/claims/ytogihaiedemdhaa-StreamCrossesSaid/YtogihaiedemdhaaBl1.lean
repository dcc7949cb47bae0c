/-
  Filters, plainly: a key's places, bits in a list of bytes; conversions between texts and bytes as laws of the walk. The one function of the program that is named is crc.Sum.
-/
import Derived.Test.YtogihaiedemdhaaCrc2
import Derived.Test.YtogihaiedemdhaaDraw
import Derived.Lib.ConvBytes
import Derived.Laws.IdiomStrings
import Derived.Laws.BytesArg
import Derived.Deep.AppendLies
namespace Go.Proofs.Ytogihaiedemdhaa
open Go.RowKit
set_option linter.unusedVariables false

/-- A text's sum. -/
def h0 (s : ByteArray) : Nat := more 0 s.data.toList
theorem h0_lt (s : ByteArray) : h0 s < 4294967296 := more_lt _ _
theorem rot15_lt (x : Nat) (h : x < 4294967296) : rot x 15 < 4294967296 := by unfold rot; omega
/-- The i-th step from h on. -/
def stp (h d : Nat) : Nat → Nat
  | 0 => h
  | i + 1 => (stp h d i + d) % 4294967296
theorem stp_lt (h d i : Nat) (hh : h < 4294967296) : stp h d i < 4294967296 := by
  cases i with
  | zero => exact hh
  | succ i => unfold stp; omega
/-- A key's first k places among m. -/
def plc (m h d : Nat) : Nat → List Nat
  | 0 => []
  | k + 1 => plc m h d k ++ [stp h d k % m]
theorem plc_length (m h d k : Nat) : (plc m h d k).length = k := by
  induction k with
  | zero => rfl
  | succ k ih => simp [plc, ih]
theorem plc_lt (m h d k : Nat) (hm : 0 < m) : ∀ p ∈ plc m h d k, p < m := by
  induction k with
  | zero => intro p hp; simp [plc] at hp
  | succ k ih =>
    intro p hp
    rcases List.mem_append.1 hp with h1 | h1
    · exact ih p h1
    · rw [List.mem_singleton.1 h1]; exact Nat.mod_lt _ hm
def bit8 (p : Nat) : UInt8 := UInt8.ofNat (2 ^ (p % 8))
theorem bit8_nat (p : Nat) : (bit8 p).toNat = 2 ^ (p % 8) := by
  unfold bit8
  rw [UInt8.toNat_ofNat']
  have h : p % 8 < 8 := Nat.mod_lt _ (by omega)
  generalize p % 8 = j at *
  have : j = 0 ∨ j = 1 ∨ j = 2 ∨ j = 3 ∨ j = 4 ∨ j = 5 ∨ j = 6 ∨ j = 7 := by omega
  rcases this with rfl | rfl | rfl | rfl | rfl | rfl | rfl | rfl <;> rfl
/-- Bit p is put into bytes. -/
def orBit (l : List UInt8) (p : Nat) : List UInt8 := l.set (p / 8) ((l[p / 8]?.getD 0) ||| bit8 p)
theorem orBit_length (l : List UInt8) (p : Nat) : (orBit l p).length = l.length := by simp [orBit]
def orBits (l : List UInt8) (ps : List Nat) : List UInt8 := ps.foldl orBit l
theorem orBits_length (ps : List Nat) : ∀ l : List UInt8, (orBits l ps).length = l.length := by
  induction ps with
  | nil => intro l; rfl
  | cons p t ih => intro l; exact (ih _).trans (orBit_length l p)
theorem orBits_snoc (l : List UInt8) (ps : List Nat) (p : Nat) : orBits l (ps ++ [p]) = orBit (orBits l ps) p := by simp [orBits]
theorem orBits_append (l : List UInt8) (ps qs : List Nat) : orBits l (ps ++ qs) = orBits (orBits l ps) qs := by simp [orBits]
/-- A key's bits are put into bytes. -/
def putKey (l : List UInt8) (s : ByteArray) (k : Nat) : List UInt8 := orBits l (plc (8 * l.length) (h0 s) (rot (h0 s) 15) k)
theorem putKey_length (l : List UInt8) (s : ByteArray) (k : Nat) : (putKey l s k).length = l.length := orBits_length _ _
def putKeys (l : List UInt8) (ks : List ByteArray) (k : Nat) : List UInt8 := ks.foldl (fun a s => putKey a s k) l
theorem putKeys_length (ks : List ByteArray) (k : Nat) : ∀ l : List UInt8, (putKeys l ks k).length = l.length := by
  induction ks with
  | nil => intro l; rfl
  | cons s t ih => intro l; exact (ih _).trans (putKey_length l s k)
theorem putKeys_snoc (l : List UInt8) (ks : List ByteArray) (i k : Nat) (h : i < ks.length) : putKeys l (ks.take (i + 1)) k = putKey (putKeys l (ks.take i) k) ks[i] k := by
  unfold putKeys; rw [List.take_succ_eq_append_getElem h, List.foldl_append]; rfl

def bitsOf (b : Int) : Nat := (max 1 (min b 64)).toNat
def probesOf (b : Int) : Nat := max 1 (min (69 * bitsOf b / 100) 30)
theorem bitsOf_rng (b : Int) : 1 ≤ bitsOf b ∧ bitsOf b ≤ 64 := by unfold bitsOf; omega
theorem probesOf_rng (b : Int) : 1 ≤ probesOf b ∧ probesOf b ≤ 30 := by unfold probesOf; omega
def lenOf (n : Nat) (b : Int) : Nat := (max 64 (n * bitsOf b) + 7) / 8
/-- The filter of keys. -/
def mkf (ks : List ByteArray) (b : Int) : List UInt8 := putKeys (List.replicate (lenOf ks.length b) 0) ks (probesOf b) ++ [UInt8.ofNat (probesOf b)]
def hasBit (l : List UInt8) (p : Nat) : Bool := ((l[p / 8]?.getD 0).toNat / 2 ^ (p % 8)) % 2 == 1
def mayOn (m : List UInt8) (s : ByteArray) (R : Nat) : Bool := (plc (8 * m.length) (h0 s) (rot (h0 s) 15) R).all fun p => hasBit m p
def mayc (m : List UInt8) (c : UInt8) (s : ByteArray) : Bool := if c.toNat = 0 ∨ 30 < c.toNat then true else mayOn m s c.toNat
/-- May the filter's keys have that one? -/
def mayf (f : List UInt8) (s : ByteArray) : Bool := if f.length < 2 then true else mayc f.dropLast (f.getLast?.getD 0) s
theorem mayf_snoc (m : List UInt8) (c : UInt8) (s : ByteArray) (h : 1 ≤ m.length) : mayf (m ++ [c]) s = mayc m c s := by
  unfold mayf
  rw [if_neg (by simp; omega)]
  simp
theorem mayf_small (f : List UInt8) (s : ByteArray) (h : f.length < 2) : mayf f s = true := by unfold mayf; rw [if_pos h]

theorem size_toList (s : ByteArray) : s.data.toList.length = s.size := by rw [Array.length_toList]; rfl

theorem and7 (p : Nat) (h : p < 4294967296) : bits BinOp.and IntKind.u32 (p : Int) 7 = ((p % 8 : Nat) : Int) := by
  have := u32_and_nat p 7 h (by omega)
  rw [show (7 : Nat) = 2 ^ 3 - 1 by rfl, Nat.and_two_pow_sub_one_eq_mod] at this
  exact this
theorem shl8 (p : Nat) : Op.shift BinOp.shl IntKind.u8 1 IntKind.u32 ((p % 8 : Nat) : Int) = pure (.int .u8 ((bit8 p).toNat : Nat)) := by
  refine (shift_shl .u8 .u32 1 ((p % 8 : Nat) : Int) (by omega) (by show ((p % 8 : Nat) : Int) ≤ 8; omega)).trans ?_
  rw [bit8_nat]
  have h : p % 8 < 8 := Nat.mod_lt _ (by omega)
  generalize p % 8 = j at *
  have : j = 0 ∨ j = 1 ∨ j = 2 ∨ j = 3 ∨ j = 4 ∨ j = 5 ∨ j = 6 ∨ j = 7 := by omega
  rcases this with rfl | rfl | rfl | rfl | rfl | rfl | rfl | rfl <;> rfl
theorem shl8w (p : Nat) : IntKind.u8.wrap (2 ^ (p % 8)) = ((bit8 p).toNat : Nat) := by
  rw [bit8_nat]
  have h : p % 8 < 8 := Nat.mod_lt _ (by omega)
  generalize p % 8 = j at *
  have : j = 0 ∨ j = 1 ∨ j = 2 ∨ j = 3 ∨ j = 4 ∨ j = 5 ∨ j = 6 ∨ j = 7 := by omega
  rcases this with rfl | rfl | rfl | rfl | rfl | rfl | rfl | rfl <;> rfl
theorem or8 (c d : UInt8) : bits BinOp.or IntKind.u8 (c.toNat : Nat) (d.toNat : Nat) = ((c ||| d).toNat : Nat) := by
  rw [u8_or_nat _ _ c.toNat_lt d.toNat_lt, UInt8.toNat_or]

/-! Laws of the walk. -/
section laws
variable {P : Program} {ops : Array Oper} {rest : List Oper} {o : Oper} {a : Act} {Q : Exit → Act → World → Prop}

theorem to_bytes_run (w : World) (st t e : TypeId) (s : ByteArray) (hst : P.underlying st = some .string) (ht : P.underlying t = some (.slice e)) (he : P.underlying e = some (.int .u8)) :
    ∃ c w', (convert st t (.string s)).run P w = .ok (.slice (some ⟨w.heap.size, 0, none⟩) s.size c) w' ∧ Below w.heap.size w w' ∧ w'.heap.size = w.heap.size + 1 ∧ Bytes w' (some ⟨w.heap.size, 0, none⟩) s.data.toList := by
  refine ⟨_, _, Lib.run_convert_string_bytes (P := P) w st t e s hst ht he, ⟨rfl, rfl, rfl, ?_, fun k hk => Lib.bytesWorld_at_old w e s k hk⟩, Lib.bytesWorld_size w e s, fun i hi => ⟨w.heap.size, 0, rfl, ?_⟩⟩
  · rw [Lib.bytesWorld_size]; omega
  · have := Lib.bytesWorld_cell w e s i (by rw [← size_toList]; exact hi)
    rw [Nat.zero_add, this]
    have hi' : i < s.data.size := by simpa using hi
    simp [List.getD_eq_getElem?_getD]
    rw [Array.getElem?_eq_getElem hi']; rfl

/-- '[]byte(s)'. -/
theorem wpList_to_bytes (w : World) (hgd : o.guard = none) (x : Operand) (st t : TypeId) (ho : o.op = .convert st t x) {e : TypeId} (hst : P.underlying st = some .string) (ht : P.underlying t = some (.slice e)) (he : P.underlying e = some (.int .u8))
    {s : ByteArray} (hx : a.eval x = .string s)
    (h : ∀ c w', Below w.heap.size w w' → w'.heap.size = w.heap.size + 1 → Bytes w' (some ⟨w.heap.size, 0, none⟩) s.data.toList → wpList P ops Q rest (a.put o.dst (.slice (some ⟨w.heap.size, 0, none⟩) s.size c)) w') : wpList P ops Q (o :: rest) a w := by
  obtain ⟨c, w', hrun, h1, h2, h3⟩ := to_bytes_run (P := P) w st t e s hst ht he
  refine wpList_plain hgd fun K hK' => ?_
  unfold Oper.wp
  simp [execOp, ho, hx, hrun, Result.andThen]
  exact hK' _ _ (h c w' h1 h2 h3)

theorem to_string_run (w : World) (st t e : TypeId) (a : Option Addr) (l : List UInt8) (cap : Nat) (hst : P.underlying st = some (.slice e)) (he : P.underlying e = some (.int .u8)) (ht : P.underlying t = some .string) (hb : Bytes w a l) :
    (convert st t (.slice a l.length cap)).run P w = .ok (.string ⟨l.toArray⟩) w := by
  cases l with
  | nil =>
    cases a with
    | none => exact run_convert_bytes_nil w st e hst he 0 cap t ht
    | some x => exact run_convert_bytes_back w st t e x cap [] hst he ht (fun j hj => absurd hj (by simp))
  | cons c l =>
    obtain ⟨b, off, rfl, _⟩ := hb 0 (by simp)
    refine run_convert_bytes_back w st t e ⟨b, off, none⟩ cap (c :: l) hst he ht (fun j hj => ?_)
    obtain ⟨b', off', e', hc⟩ := hb j hj
    simp only [Option.some.injEq, Addr.mk.injEq, and_true] at e'
    obtain ⟨rfl, rfl⟩ := e'
    rw [addr_add]; exact hc

/-- 'string(b)'. -/
theorem wpList_to_string (w : World) (hgd : o.guard = none) (x : Operand) (st t : TypeId) (ho : o.op = .convert st t x) {e : TypeId} (hst : P.underlying st = some (.slice e)) (he : P.underlying e = some (.int .u8)) (ht : P.underlying t = some .string)
    {A : Option Addr} {n cap : Nat} {l : List UInt8} (hx : a.eval x = .slice A n cap) (hn : n = l.length) (hb : Bytes w A l)
    (h : wpList P ops Q rest (a.put o.dst (.string ⟨l.toArray⟩)) w) : wpList P ops Q (o :: rest) a w := by
  subst hn
  have hrun := to_string_run (P := P) w st t e A l cap hst he ht hb
  refine wpList_plain hgd fun K hK' => ?_
  unfold Oper.wp
  simp [execOp, ho, hx, hrun, Result.andThen]
  exact hK' _ _ h

/-- 'append(out, u)', u of one cell, in a new block. -/
theorem app_cell (w : World) (hgd : o.guard = none) (s x : Operand) (t : TypeId) (ho : o.op = .call { callee := .builtin .append, args := #[s, x], argTypes := #[t, t] })
    {E : TypeId} (ht : P.underlying t = some (.slice E)) {z : Value} {by' : Nat} (hi : (P.info? E).map (fun i => (i.zero, i.size, i.bytes)) = some (some z, 1, by')) (hzc : z.cells.size = 1) (hby : by' ≤ 24)
    {K n : Nat} {v : Value} {xs : List Value} (hs : a.eval s = v) (hown : w.ownsRow K E 1 v n xs) {B : Nat} {u : Value} {fr : Nat × Nat} (hx : a.eval x = .slice (some ⟨B, 0, none⟩) 1 1) (hB : w.heap[B]? = some (.cells #[u] E fr)) (hu : u.oneCell' = true)
    (hl : n ≤ 1000000000000) (hK : K ≤ w.heap.size)
    (h : ∀ v' w', w'.ownsRow K E 1 v' (n + 1) (xs ++ [u]) → Below K w w' → v'.ownBlock ≠ none → wpList P ops Q rest (a.put o.dst v') w') : wpList P ops Q (o :: rest) a w := by
  obtain ⟨i0, hi0, hz0, hz1, hz2⟩ := info_parts hi
  have hbytes : (n + 1) * by' ≤ 140737488355328 := Nat.le_trans (Nat.mul_le_mul_left (n + 1) hby) (by omega)
  refine wpList_append_lies w hgd s x t ho K E i0 z 1 by' ht hi0 hz0 hz1 hz2 hzc (by decide) v n xs hs hown ⟨B, 0, none⟩ 1 1 [u] hx rfl
    (by have := World.news_of_block hB; simpa using this) (by intro u' hu'; simp at hu'; rw [hu']; exact hu) (by omega) (by unfold maxLen; omega) hbytes hK _ rfl ?_
  intro g cap w' h1 h2 h3 h4
  exact h _ _ h1 ((Below.refl K w).grown h2 hK (fun k hk => (hown.lt k hk).1)) (by intro hh; cases hh)

/-- 'append(out, m...)', elements of one cell. -/
theorem app_many (w : World) (hgd : o.guard = none) (s x : Operand) (t : TypeId) (ho : o.op = .call { callee := .builtin .append, args := #[s, x], argTypes := #[t, t] })
    {E : TypeId} (ht : P.underlying t = some (.slice E)) {z : Value} {by' : Nat} (hi : (P.info? E).map (fun i => (i.zero, i.size, i.bytes)) = some (some z, 1, by')) (hzc : z.cells.size = 1) (hby : by' ≤ 24)
    {K n : Nat} {v : Value} {xs : List Value} (hs : a.eval s = v) (hown : w.ownsRow K E 1 v n xs) {b off m c : Nat} {ys : List Value} (hx : a.eval x = .slice (some ⟨b, off, none⟩) m c) (hm : ys.length = m)
    (hy : ∀ j u, ys[j]? = some u → w.cell? ⟨b, off + j, none⟩ = some u) (h1 : ∀ u ∈ ys, u.oneCell' = true) (hpos : 0 < m)
    (hl : n + m ≤ 1000000000000) (hK : K ≤ w.heap.size)
    (h : ∀ v' w', w'.ownsRow K E 1 v' (n + m) (xs ++ ys) → Below K w w' → v'.ownBlock ≠ none → wpList P ops Q rest (a.put o.dst v') w') : wpList P ops Q (o :: rest) a w := by
  obtain ⟨i0, hi0, hz0, hz1, hz2⟩ := info_parts hi
  have hbytes : (n + m) * by' ≤ 140737488355328 := Nat.le_trans (Nat.mul_le_mul_left (n + m) hby) (by omega)
  refine wpList_append_lies w hgd s x t ho K E i0 z 1 by' ht hi0 hz0 hz1 hz2 hzc (by decide) v n xs hs hown ⟨b, off, none⟩ m c ys hx (by rw [hm, Nat.mul_one])
    (fun j u hu => by rw [addr_add]; exact hy j u hu) h1 hpos (by unfold maxLen; omega) hbytes hK _ rfl ?_
  intro g cap w' h2 h3 h4 h5
  exact h _ _ h2 ((Below.refl K w).grown h3 hK (fun k hk => (hown.lt k hk).1)) (by intro hh; cases hh)
end laws

theorem sum_str (b g c : Nat) (s : ByteArray) (w : World) (hs : s.size ≤ maxLen) (hc : w.cell? ⟨b, 0, none⟩ = some (.slice (some ⟨g, 0, none⟩) s.size c)) (hb : Bytes w (some ⟨g, 0, none⟩) s.data.toList) :
    Calls Try.prog 31 #[.slice (some ⟨b, 0, none⟩) 1 1] w fun e w' => e = .returned (.int .u32 (h0 s : Nat)) ∧ w = w' := by
  have := sum_any (some ⟨b, 0, none⟩) 1 [s.data.toList] w (small_len _ (by simp)) (fun i hi => by
    have : i = 0 := by simpa using hi
    subst this
    exact ⟨b, 0, some ⟨g, 0, none⟩, c, rfl, by simpa using hc, by simpa using hs, by simpa using hb⟩)
  exact this
end Go.Proofs.Ytogihaiedemdhaa

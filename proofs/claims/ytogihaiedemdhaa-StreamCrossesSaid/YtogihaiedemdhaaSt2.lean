/-
  A block of words in memory; words out of bytes.
-/
import Derived.Test.YtogihaiedemdhaaSt1
import Derived.StillTailTactics
namespace Go.Proofs.Ytogihaiedemdhaa
open Go.RowKit
set_option linter.unusedVariables false

def cellsW (l : List Nat) : List Value := l.map fun n => Value.int .u32 (n : Nat)
theorem cellsW_length (l : List Nat) : (cellsW l).length = l.length := by simp [cellsW]
theorem cellsW_one (l : List Nat) : ∀ u ∈ cellsW l, u.oneCell' = true := by
  intro u hu
  simp only [cellsW, List.mem_map] at hu
  obtain ⟨c, _, rfl⟩ := hu
  rfl
/-- Block g is just the words l. -/
def BlkW (T : TypeId) (w : World) (g : Nat) (l : List Nat) : Prop := w.heap[g]? = some (.cells (cellsW l).toArray T (0, 0))
theorem BlkW.lt {T : TypeId} {w : World} {g : Nat} {l : List Nat} (h : BlkW T w g l) : g < w.heap.size := heap_lt h
theorem BlkW.cell {T : TypeId} {w : World} {g : Nat} {l : List Nat} (h : BlkW T w g l) (i : Nat) (hi : i < l.length) : w.cell? ⟨g, i, none⟩ = some (.int .u32 (l[i] : Nat)) := by
  rw [cell_of_row w g i _ T (0, 0) h]
  simp [cellsW, hi]
theorem BlkW.free {T : TypeId} {w : World} {g : Nat} {l : List Nat} (h : BlkW T w g l) (i : Nat) : w.frozen? ⟨g, i, none⟩ = false := frozen_of_row w g i _ T h
theorem BlkW.set {T : TypeId} {w : World} {g : Nat} {l : List Nat} (h : BlkW T w g l) (i v : Nat) : BlkW T (w.setCell ⟨g, i, none⟩ (.int .u32 (v : Nat))) g (l.set i v) := by
  have := heap_setCell_same w g i _ T (.int .u32 (v : Nat)) h
  unfold BlkW
  rw [this]
  simp [cellsW]
theorem BlkW.keep {T : TypeId} {w w' : World} {g : Nat} {l : List Nat} (h : BlkW T w g l) (e : w'.heap[g]? = w.heap[g]?) : BlkW T w' g l := e.trans h
theorem BlkW.below {T : TypeId} {w w' : World} {g B : Nat} {l : List Nat} (h : BlkW T w g l) (hb : Below B w w') (hg : g < B) : BlkW T w' g l := h.keep (hb.block g hg)
theorem BlkW.later {T : TypeId} {w w' : World} {g : Nat} {l : List Nat} (h : BlkW T w g l) (hb : Below w.heap.size w w') : BlkW T w' g l := h.below hb h.lt
theorem BlkW.grown {T : TypeId} {w w' : World} {g : Nat} {l : List Nat} {row : Option Nat} (h : BlkW T w g l) (hb : w.grownBy w' row) (hg : some g ≠ row) : BlkW T w' g l := h.keep (hb.block g h.lt hg)

/-- Of all that was there block g alone may have been written. -/
def Only (g : Nat) (w w' : World) : Prop := w.grownBy w' (some g)
theorem Only.refl (g : Nat) (w : World) : Only g w w := ⟨rfl, rfl, rfl, Nat.le_refl _, fun _ _ _ => rfl⟩
theorem Only.trans {g : Nat} {a b c : World} (h : Only g a b) (k : Only g b c) : Only g a c :=
  ⟨k.os.trans h.os, k.tape.trans h.tape, k.output.trans h.output, Nat.le_trans h.size k.size, fun i hi hn => (k.block i (Nat.lt_of_lt_of_le hi h.size) hn).trans (h.block i hi hn)⟩
theorem Only.set {g : Nat} {a w : World} (h : Only g a w) (i : Nat) (u : Value) : Only g a (w.setCell ⟨g, i, none⟩ u) :=
  h.trans ⟨rfl, rfl, rfl, by simp [World.setCell], fun k hk hn => Below.heap_setCell _ _ _ _ (by intro e; exact hn (by rw [e]))⟩
theorem Only.drew {g : Nat} {a w : World} (h : Only g a w) : Only g a w.drew := h.trans ⟨rfl, rfl, rfl, Nat.le_refl _, fun _ _ _ => rfl⟩
theorem Only.drewN {g : Nat} {a w : World} (h : Only g a w) (n : Nat) : Only g a (w.drewN n) := h.trans ⟨rfl, rfl, rfl, Nat.le_refl _, fun _ _ _ => rfl⟩
theorem Only.below {g B : Nat} {a w : World} (h : Only g a w) (hB : B ≤ g) (hs : B ≤ a.heap.size) : Below B a w :=
  ⟨h.os, h.tape, h.output, h.size, fun k hk => h.block k (by omega) (by intro e; have := Option.some.inj e; omega)⟩
theorem Only.of_below {g : Nat} {a w : World} (h : Below a.heap.size a w) : Only g a w := ⟨h.os, h.tape, h.output, h.size, fun k hk _ => h.block k hk⟩
theorem Bytes.only {g : Nat} {w w' : World} {a : Option Addr} {l : List UInt8} (h : Bytes w a l) (ho : Only g w w') (hne : ∀ x, a = some x → x.block ≠ g) : Bytes w' a l := by
  intro i hi
  obtain ⟨b, off, e, hc⟩ := h i hi
  have hl := cell_lt hc
  exact ⟨b, off, e, by rw [World.cell?_of_block (a := ⟨b, off + i, none⟩) (ho.block b hl (by intro x; exact hne _ e (Option.some.inj x))), hc]⟩

def wordOf (bs : List UInt8) (i : Nat) : Nat := (bs.getD (4 * i) 0).toNat + (bs.getD (4 * i + 1) 0).toNat * 256 + (bs.getD (4 * i + 2) 0).toNat * 65536 + (bs.getD (4 * i + 3) 0).toNat * 16777216
theorem wordOf_lt (bs : List UInt8) (i : Nat) : wordOf bs i < 4294967296 := by
  unfold wordOf
  have h0 := (bs.getD (4 * i) 0).toNat_lt
  have h1 := (bs.getD (4 * i + 1) 0).toNat_lt
  have h2 := (bs.getD (4 * i + 2) 0).toNat_lt
  have h3 := (bs.getD (4 * i + 3) 0).toNat_lt
  omega
def wacc (bs : List UInt8) (i : Nat) (x0 : Nat) : Nat → Nat
  | 0 => x0
  | t + 1 => wacc bs i x0 t * 256 % 4294967296 + (bs.getD (4 * i + (3 - t)) 0).toNat
theorem wacc_lt (bs : List UInt8) (i x0 t : Nat) (h : x0 < 4294967296) : wacc bs i x0 t < 4294967296 := by
  cases t with
  | zero => exact h
  | succ t =>
    unfold wacc
    have h1 := (bs.getD (4 * i + (3 - t)) 0).toNat_lt
    omega
theorem wacc_four (bs : List UInt8) (i x0 : Nat) : wacc bs i x0 4 = wordOf bs i := by
  unfold wordOf
  have h0 := (bs.getD (4 * i) 0).toNat_lt
  have h1 := (bs.getD (4 * i + 1) 0).toNat_lt
  have h2 := (bs.getD (4 * i + 2) 0).toNat_lt
  have h3 := (bs.getD (4 * i + 3) 0).toNat_lt
  simp only [wacc, Nat.sub_zero, Nat.add_zero, show 3 - 1 = 2 by rfl, show 3 - 2 = 1 by rfl, show 3 - 3 = 0 by rfl]
  omega
def wordsTo (l : List Nat) (off : Nat) (bs : List UInt8) : Nat → List Nat
  | 0 => l
  | n + 1 => (wordsTo l off bs n).set (off + n) (wordOf bs n)
theorem wordsTo_length (l : List Nat) (off : Nat) (bs : List UInt8) (n : Nat) : (wordsTo l off bs n).length = l.length := by
  induction n with
  | zero => rfl
  | succ n ih => simp [wordsTo, ih]
theorem wordsTo_lt (l : List Nat) (off : Nat) (bs : List UInt8) (n : Nat) (h : ∀ x ∈ l, x < 4294967296) : ∀ x ∈ wordsTo l off bs n, x < 4294967296 := by
  induction n with
  | zero => exact h
  | succ n ih =>
    intro x hx
    rcases List.mem_or_eq_of_mem_set hx with h1 | h1
    · exact ih x h1
    · rw [h1]; exact wordOf_lt bs n
theorem shl8_u32 (x : Nat) (hx : x < 4294967296) (b : UInt8) : ∃ s y : Nat, Op.shift BinOp.shl IntKind.u32 (x : Int) IntKind.u64 8 = pure (.int .u32 (s : Int)) ∧ (x : Int) * 256 % 4294967296 = (s : Int) ∧ bits BinOp.or IntKind.u32 (s : Int) (b.toNat : Nat) = (y : Int) ∧ y < 4294967296 ∧ Hid (x * 256 % 4294967296 + b.toNat = y) := by
  have hb := b.toNat_lt
  refine ⟨x * 256 % 4294967296, x * 256 % 4294967296 + b.toNat, ?_, by omega, ?_, by omega, Lib.hid rfl⟩
  · refine (shift_shl .u32 .u64 (x : Int) 8 (by omega) (by decide)).trans ?_
    rw [show (2 : Int) ^ (((8 : Int)).toNat) = 256 by rfl, IntKind.wrap_u32]
    congr 3
  · rw [u32_or_nat _ _ (by omega) (by omega)]
    have := Nat.two_pow_add_eq_or_of_lt (i := 8) (b := b.toNat) (by omega) (x % 16777216)
    rw [show x * 256 % 4294967296 = 2 ^ 8 * (x % 16777216) by omega, ← this]

set_option maxRecDepth 100000 in
set_option maxHeartbeats 1600000 in
theorem words_any (X off n c S cs : Nat) (T : TypeId) (l : List Nat) (bs : List UInt8) (w : World) (hX : BlkW T w X l) (hl : ∀ x ∈ l, x < 4294967296) (hoff : off + n ≤ l.length) (hb : Bytes w (some ⟨S, 0, none⟩) bs) (hlen : 4 * n ≤ bs.length) (hlb : bs.length ≤ 1000) (hSX : S ≠ X) :
    Calls Try.prog 24 #[.slice (some ⟨X, off, none⟩) n c, .slice (some ⟨S, 0, none⟩) bs.length cs] w fun e w' => e = .returned (.tuple #[]) ∧ BlkW T w' X (wordsTo l off bs n) ∧ Only X w w' := by
  have HX := Lib.hid hX
  have HB := Lib.hid hb
  have HL := Lib.hid (fun m => wordsTo_lt l off bs m hl)
  have HLL := Lib.hid (fun m => wordsTo_length l off bs m)
  clear hX hb hl
  have hn64 : n ≤ 1000 := by omega
  go_enter Try.func24, Try.ntmps24
  go_wp2
  go_loopw [8] (fun iv wr => ∃ i : Nat, i ≤ n ∧ iv = .int .i64 i ∧ Hid (BlkW T wr X (wordsTo l off bs i)) ∧ Only X w wr) (fun iv _ => n - (intOf iv).toNat)
  case atStart => exact ⟨0, by omega, rfl, HX, Only.refl _ _⟩
  case round =>
    obtain ⟨i, hi, rfl, hblk, hwr⟩ := hrel
    by_cases hlt : i < n
    · have hin : (i : Int) < (n : Int) := by omega
      obtain ⟨x0, hx0⟩ : ∃ x0, (wordsTo l off bs i)[off + i]'(by rw [HLL.out]; omega) = x0 := ⟨_, rfl⟩
      have hx0l : x0 < 4294967296 := by rw [← hx0]; exact HL.out i _ (List.getElem_mem _)
      have hset0 : Hid (wordsTo l off bs i = (wordsTo l off bs i).set (off + i) (wacc bs i x0 0)) := Lib.hid (by
        show _ = (wordsTo l off bs i).set (off + i) x0
        rw [← hx0, List.set_getElem_self])
      have hset4 : Hid ((wordsTo l off bs i).set (off + i) (wacc bs i x0 4) = wordsTo l off bs (i + 1)) := Lib.hid (by rw [wacc_four]; rfl)
      have hml : off + i < (wordsTo l off bs i).length := by rw [HLL.out]; omega
      clear hx0
      generalize wordsTo l off bs i = m at *
      obtain ⟨p, hp1, hp2, hp3⟩ : ∃ p : Nat, 4 * (i : Int) = (p : Int) ∧ IntKind.i64.wrap (p : Int) = (p : Int) ∧ Hid (4 * i = p) := ⟨4 * i, by omega, IntWalk.i64_in _ (by omega), Lib.hid rfl⟩
      have hpl : p ≤ 4000 := by have := hp3.out; omega
      go_wp2
      go_loopw [5] (fun kv wj => ∃ t : Nat, t ≤ 4 ∧ kv = .int .i64 (3 - (t : Int)) ∧ Hid (BlkW T wj X (m.set (off + i) (wacc bs i x0 t))) ∧ Only X w wj) (fun kv _ => (intOf kv + 1).toNat)
      case atStart => exact ⟨0, by omega, rfl, by rw [← hset0.out]; exact hblk, hwr⟩
      case round =>
        obtain ⟨t, ht, rfl, hblk2, hwj⟩ := hrel
        by_cases hlt2 : t < 4
        · obtain ⟨k, hk1, hk2, hk3⟩ : ∃ k : Nat, (3 : Int) - (t : Int) = (k : Int) ∧ k ≤ 3 ∧ Hid (3 - t = k) := ⟨3 - t, by omega, by omega, Lib.hid rfl⟩
          obtain ⟨q, hq1, hq2, hq3, hq4⟩ : ∃ q : Nat, (p : Int) + (k : Int) = (q : Int) ∧ IntKind.i64.wrap (q : Int) = (q : Int) ∧ q < bs.length ∧ Hid (4 * i + (3 - t) = q) :=
            ⟨p + k, by omega, IntWalk.i64_in _ (by omega), by have := hp3.out; omega, Lib.hid (by rw [hp3.out, hk3.out])⟩
          have hbl := (HB.out.only hwj (fun x e => by cases e; exact hSX)).get q hq3
          rw [Nat.zero_add] at hbl
          have hacc := wacc_lt bs i x0 t hx0l
          have HW : Hid (wacc bs i x0 (t + 1) = wacc bs i x0 t * 256 % 4294967296 + (bs[q]).toNat) := Lib.hid (by
            show wacc bs i x0 t * 256 % 4294967296 + (bs.getD (4 * i + (3 - t)) 0).toNat = _
            rw [hq4.out]
            simp [List.getD_eq_getElem?_getD, hq3])
          generalize wacc bs i x0 t = x at *
          generalize bs[q] = b at *
          have hbb := b.toNat_lt
          obtain ⟨s, y, hs1, hs2, hor, hyl, hy⟩ := shl8_u32 x hacc b
          have hdl : off + i < (m.set (off + i) x).length := by simp; omega
          have hcd := hblk2.out.cell (off + i) hdl
          rw [List.getElem_set_self] at hcd
          have hfd := hblk2.out.free (off + i)
          have j1 : (0 : Int) ≤ (k : Int) := by omega
          have j2 : (q : Int) < (bs.length : Int) := by omega
          have j3 : (0 : Int) ≤ (q : Int) := by omega
          go_wp2
          go_still_tail 17, (by kernel_rfl)
          change wpList _ _ _ _ _ wr.drew
          go_wp2
          refine ⟨⟨t + 1, by omega, ?_, Lib.hid ?_, (hwj.set _ _).drew⟩, ?_⟩
          · go_num
          · have := hblk2.out.set (off + i) y
            rw [List.set_set] at this
            rw [HW.out, hy.out]
            exact this
          · simp [intOf]; omega
        · obtain rfl : t = 4 := by omega
          go_wp2
          exact ⟨⟨i + 1, by omega, by go_num, by rw [← hset4.out]; exact hblk2, hwj⟩, by simp [intOf]; omega⟩
    · obtain rfl : i = n := by omega
      go_wp2
      go_end0
      exact ⟨rfl, hblk.out, hwr⟩
end Go.Proofs.Ytogihaiedemdhaa

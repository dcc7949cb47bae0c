/-
  A block of the stream, plainly; a block of bytes in memory.
-/
import Derived.Test.YtogihaiedemdhaaSt4
import Derived.Test.YtogihaiedemdhaaCut
namespace Go.Proofs.Ytogihaiedemdhaa
open Go.RowKit
set_option linter.unusedVariables false

def consts16 : List Nat := [1634760805, 857760878, 2036477234, 1797285236, 0, 0, 0, 0, 0, 0, 0, 0, 0, 0, 0, 0]
/-- The words of a key, a nonce and a count. -/
def xs16 (key nonce : List UInt8) (count : Nat) : List Nat := wordsTo ((wordsTo consts16 4 key 8).set 12 count) 13 nonce 3
theorem consts_lt : ∀ x ∈ consts16, x < 4294967296 := by decide
theorem xs16_length (key nonce : List UInt8) (count : Nat) : (xs16 key nonce count).length = 16 := by
  unfold xs16; rw [wordsTo_length, List.length_set, wordsTo_length]; rfl
theorem xs16_lt (key nonce : List UInt8) (count : Nat) (h : count < 4294967296) : ∀ x ∈ xs16 key nonce count, x < 4294967296 := by
  unfold xs16
  refine wordsTo_lt _ _ _ _ (fun x hx => ?_)
  rcases List.mem_or_eq_of_mem_set hx with h1 | h1
  · exact wordsTo_lt _ _ _ _ consts_lt x h1
  · rw [h1]; exact h
def colsTo (y : List Nat) : Nat → List Nat
  | 0 => y
  | k + 1 => qr (colsTo y k) k (4 + k) (8 + k) (12 + k)
def diagTo (y : List Nat) : Nat → List Nat
  | 0 => y
  | k + 1 => qr (diagTo y k) k (4 + (k + 1) % 4) (8 + (k + 2) % 4) (12 + (k + 3) % 4)
def roundsTo (y : List Nat) : Nat → List Nat
  | 0 => y
  | k + 1 => diagTo (colsTo (roundsTo y k) 4) 4
/-- Sixteen words, each below 2^32. -/
def W16 (y : List Nat) : Prop := y.length = 16 ∧ ∀ x ∈ y, x < 4294967296
theorem W16.set {y : List Nat} (h : W16 y) (i v : Nat) (hv : v < 4294967296) : W16 (y.set i v) := ⟨by simpa using h.1, fun x hx => by
  rcases List.mem_or_eq_of_mem_set hx with h1 | h1
  · exact h.2 x h1
  · rw [h1]; exact hv⟩
theorem W16.qr {y : List Nat} (h : W16 y) (a b c d : Nat) : W16 (qr y a b c d) := by
  have m := mix_lt (y.getD a 0) (y.getD b 0) (y.getD c 0) (y.getD d 0) (getD_lt32 _ _ h.2) (getD_lt32 _ _ h.2) (getD_lt32 _ _ h.2) (getD_lt32 _ _ h.2)
  exact (((h.set a _ m.1).set b _ m.2.1).set c _ m.2.2.1).set d _ m.2.2.2
theorem W16.cols {y : List Nat} (h : W16 y) (k : Nat) : W16 (colsTo y k) := by
  induction k with
  | zero => exact h
  | succ k ih => exact ih.qr _ _ _ _
theorem W16.diag {y : List Nat} (h : W16 y) (k : Nat) : W16 (diagTo y k) := by
  induction k with
  | zero => exact h
  | succ k ih => exact ih.qr _ _ _ _
theorem W16.rounds {y : List Nat} (h : W16 y) (k : Nat) : W16 (roundsTo y k) := by
  induction k with
  | zero => exact h
  | succ k ih => exact (ih.cols 4).diag 4
theorem qr_far (y : List Nat) (a b c d i : Nat) (h1 : a ≠ i) (h2 : b ≠ i) (h3 : c ≠ i) (h4 : d ≠ i) : (qr y a b c d).getD i 0 = y.getD i 0 := by
  unfold qr
  dsimp only
  rw [getD_set_ne _ _ _ _ h4, getD_set_ne _ _ _ _ h3, getD_set_ne _ _ _ _ h2, getD_set_ne _ _ _ _ h1]
/-- Byte i of what stands behind the rounds. -/
def byteAt (y x : List Nat) (i : Nat) : UInt8 := UInt8.ofNat (add32 (y.getD (i / 4) 0) (x.getD (i / 4) 0) / 256 ^ (i % 4))
def outTo (y x : List Nat) (n : Nat) : List UInt8 := (List.range n).map (byteAt y x) ++ List.replicate (64 - n) 0
theorem outTo_length (y x : List Nat) (n : Nat) (h : n ≤ 64) : (outTo y x n).length = 64 := by simp [outTo]; omega
theorem outTo_zero (y x : List Nat) : outTo y x 0 = List.replicate 64 0 := by simp [outTo]
theorem outTo_succ (y x : List Nat) (n : Nat) (h : n < 64) : (outTo y x n).set n (byteAt y x n) = outTo y x (n + 1) := by
  unfold outTo
  rw [List.set_append_right _ _ (by simp), List.range_succ, List.map_append, List.append_assoc]
  congr 1
  simp only [List.length_map, List.length_range, Nat.sub_self, List.map_cons, List.map_nil]
  rw [show 64 - n = (64 - (n + 1)) + 1 by omega, List.replicate_succ]
  rfl
/-- 64 bytes of a key, a nonce and a count. -/
def blk (key nonce : List UInt8) (count : Nat) : List UInt8 := outTo (roundsTo (xs16 key nonce count) 10) (xs16 key nonce count) 64
theorem blk_length (key nonce : List UInt8) (count : Nat) : (blk key nonce count).length = 64 := outTo_length _ _ _ (Nat.le_refl _)

/-- Block g is just the bytes l. -/
def BlkB (T : TypeId) (w : World) (g : Nat) (l : List UInt8) : Prop := w.heap[g]? = some (.cells (cells8 l).toArray T (0, 0))
theorem BlkB.lt {T : TypeId} {w : World} {g : Nat} {l : List UInt8} (h : BlkB T w g l) : g < w.heap.size := heap_lt h
theorem BlkB.cell {T : TypeId} {w : World} {g : Nat} {l : List UInt8} (h : BlkB T w g l) (i : Nat) (hi : i < l.length) : w.cell? ⟨g, i, none⟩ = some (.int .u8 (l[i].toNat : Nat)) := by
  rw [cell_of_row w g i _ T (0, 0) h]
  simp [cells8, hi]
theorem BlkB.free {T : TypeId} {w : World} {g : Nat} {l : List UInt8} (h : BlkB T w g l) (i : Nat) : w.frozen? ⟨g, i, none⟩ = false := frozen_of_row w g i _ T h
theorem BlkB.set {T : TypeId} {w : World} {g : Nat} {l : List UInt8} (h : BlkB T w g l) (i : Nat) (v : UInt8) : BlkB T (w.setCell ⟨g, i, none⟩ (.int .u8 (v.toNat : Nat))) g (l.set i v) := by
  have := heap_setCell_same w g i _ T (.int .u8 (v.toNat : Nat)) h
  unfold BlkB
  rw [this]
  simp [cells8]
theorem BlkB.keep {T : TypeId} {w w' : World} {g : Nat} {l : List UInt8} (h : BlkB T w g l) (e : w'.heap[g]? = w.heap[g]?) : BlkB T w' g l := e.trans h
theorem BlkB.below {T : TypeId} {w w' : World} {g B : Nat} {l : List UInt8} (h : BlkB T w g l) (hb : Below B w w') (hg : g < B) : BlkB T w' g l := h.keep (hb.block g hg)
theorem BlkB.bytes {T : TypeId} {w : World} {g : Nat} {l : List UInt8} (h : BlkB T w g l) : Bytes w (some ⟨g, 0, none⟩) l := fun i hi => ⟨g, 0, rfl, by rw [Nat.zero_add]; exact h.cell i hi⟩
theorem BlkB.put {T : TypeId} {w : World} {g : Nat} {l m : List UInt8} (h : BlkB T w g l) (hl : l.length = m.length) : BlkB T (w.setCells g 0 (cells8 m)) g m := by
  have := heap_setCells g T (cells8 m) [] (cells8 l) w h (by rw [cells8_length, cells8_length, hl])
  exact this
theorem BlkB.there {T : TypeId} {w : World} {g : Nat} {l : List UInt8} (h : BlkB T w g l) : w.there g 0 l.length := by
  intro j hj
  rw [Nat.zero_add, h.cell j hj, h.free j]
  exact ⟨rfl, rfl⟩
theorem info64 : (Try.prog.info? 28).map (·.size) = some 64 := by kernel_rfl
theorem info32 : (Try.prog.info? 22).map (·.size) = some 32 := by kernel_rfl
theorem info12 : (Try.prog.info? 23).map (·.size) = some 12 := by kernel_rfl
theorem cells8_all (l : List UInt8) : (cells8 l).toArray.all (·.oneCell') = true := all_oneCell_toArray (cells8_one l)

theorem words_at (wk : World) (X off n c S cs : Nat) (T : TypeId) (l : List Nat) (bs : List UInt8) (w : World) (hw : w.heap = wk.heap) (hX : BlkW T wk X l) (hl : ∀ x ∈ l, x < 4294967296) (hoff : off + n ≤ l.length) (hb : Bytes wk (some ⟨S, 0, none⟩) bs) (m : Nat) (hm : m = bs.length) (hlen : 4 * n ≤ bs.length) (hlb : bs.length ≤ 1000) (hSX : S ≠ X) :
    Calls Try.prog 24 #[.slice (some ⟨X, off, none⟩) n c, .slice (some ⟨S, 0, none⟩) m cs] w fun e w' => e = .returned (.tuple #[]) ∧ BlkW T w' X (wordsTo l off bs n) ∧ Only X w w' := by
  subst hm
  refine words_any X off n c S cs T l bs w (by unfold BlkW at hX ⊢; rw [hw]; exact hX) hl hoff (fun i hi => ?_) hlen hlb hSX
  obtain ⟨b, o, e, hc⟩ := hb i hi
  refine ⟨b, o, e, ?_⟩
  rw [← hc]
  simp [World.cell?, hw]

theorem words_lt16 (x : List Nat) (off : Nat) (bs : List UInt8) (n : Nat) (h : W16 x) : W16 (wordsTo x off bs n) := ⟨by rw [wordsTo_length]; exact h.1, wordsTo_lt _ _ _ _ h.2⟩
theorem consts_W16 : W16 consts16 := ⟨rfl, consts_lt⟩

/-- What the walk through a block holds: the key, the nonce, the room for the result, the words. -/
def BS (w0 : World) (K N R X : Nat) (key nonce : List UInt8) (x : List Nat) (wx : World) : Prop :=
  BlkB 22 wx K key ∧ BlkB 23 wx N nonce ∧ (∃ r, BlkB 28 wx R r ∧ r.length = 64) ∧ BlkW 43 wx X x ∧ W16 x ∧ Below K w0 wx ∧ w0.heap.size = K ∧ K < N ∧ N < R ∧ R < X
theorem BS.only {w0 wx w' : World} {K N R X : Nat} {key nonce : List UInt8} {x x' : List Nat} (h : BS w0 K N R X key nonce x wx) (ho : Only X wx w') (hx : BlkW 43 w' X x') (h16 : W16 x') : BS w0 K N R X key nonce x' w' := by
  obtain ⟨h1, h2, ⟨r, h3, h4⟩, h5, h6, h7, h8, h9, h10, h11⟩ := h
  refine ⟨h1.keep (ho.block K h1.lt (by intro e; have := Option.some.inj e; omega)), h2.keep (ho.block N h2.lt (by intro e; have := Option.some.inj e; omega)), ⟨r, h3.keep (ho.block R h3.lt (by intro e; have := Option.some.inj e; omega)), h4⟩, hx, h16, h7.trans (ho.below (by omega) (Nat.le_of_lt h1.lt)), h8, h9, h10, h11⟩
theorem BS.keep {w0 wx w' : World} {K N R X : Nat} {key nonce : List UInt8} {x : List Nat} (h : BS w0 K N R X key nonce x wx) (hb : Below (X + 1) wx w') : BS w0 K N R X key nonce x w' := by
  obtain ⟨h1, h2, ⟨r, h3, h4⟩, h5, h6, h7, h8, h9, h10, h11⟩ := h
  exact ⟨h1.below hb (by omega), h2.below hb (by omega), ⟨r, h3.below hb (by omega), h4⟩, h5.below hb (by omega), h6, h7.trans (hb.mono (by omega)), h8, h9, h10, h11⟩
theorem BS.heap {w0 wx : World} {K N R X : Nat} {key nonce : List UInt8} {x : List Nat} (h : BS w0 K N R X key nonce x wx) (n : Nat) : BS w0 K N R X key nonce x (wx.drewN n) := h.keep (below_drewN (Below.refl _ _) n)
/-- .. and the words that are turned. -/
def BY (w0 : World) (K N R X Y : Nat) (key nonce : List UInt8) (x y : List Nat) (wx : World) : Prop := BS w0 K N R X key nonce x wx ∧ BlkW 43 wx Y y ∧ W16 y ∧ X < Y
theorem BY.drewN {w0 wx : World} {K N R X Y : Nat} {key nonce : List UInt8} {x y : List Nat} (h : BY w0 K N R X Y key nonce x y wx) (n : Nat) : BY w0 K N R X Y key nonce x y (wx.drewN n) := ⟨h.1.keep (below_drewN (Below.refl _ _) n), h.2.1, h.2.2⟩
theorem BY.set {w0 wx : World} {K N R X Y : Nat} {key nonce : List UInt8} {x y : List Nat} (h : BY w0 K N R X Y key nonce x y wx) (i v : Nat) (hv : v < 4294967296) : BY w0 K N R X Y key nonce x (y.set i v) (wx.setCell ⟨Y, i, none⟩ (.int .u32 (v : Nat))) := by
  obtain ⟨h1, h2, h3, h4⟩ := h
  exact ⟨h1.keep ((Below.refl _ _).setCell (by show X + 1 ≤ Y; omega) _), h2.set i v, h3.set i v hv, h4⟩
theorem BY.qr {w0 wx : World} {K N R X Y : Nat} {key nonce : List UInt8} {x y : List Nat} (h : BY w0 K N R X Y key nonce x y wx) (a b c d : Nat) {a' b' c' d' : Nat} (he : mixF (y.getD a 0) (y.getD b 0) (y.getD c 0) (y.getD d 0) = (a', b', c', d')) :
    BY w0 K N R X Y key nonce x (qr y a b c d) ((((wx.setCell ⟨Y, a, none⟩ (.int .u32 (a' : Nat))).setCell ⟨Y, b, none⟩ (.int .u32 (b' : Nat))).setCell ⟨Y, c, none⟩ (.int .u32 (c' : Nat))).setCell ⟨Y, d, none⟩ (.int .u32 (d' : Nat))) := by
  have m := mix_lt (y.getD a 0) (y.getD b 0) (y.getD c 0) (y.getD d 0) (getD_lt32 _ _ h.2.2.1.2) (getD_lt32 _ _ h.2.2.1.2) (getD_lt32 _ _ h.2.2.1.2) (getD_lt32 _ _ h.2.2.1.2)
  unfold Go.Proofs.Ytogihaiedemdhaa.qr
  rw [he] at m ⊢
  exact (((h.set a _ m.1).set b _ m.2.1).set c _ m.2.2.1).set d _ m.2.2.2
theorem BY.read {w0 wx : World} {K N R X Y : Nat} {key nonce : List UInt8} {x y : List Nat} (h : BY w0 K N R X Y key nonce x y wx) (i : Nat) (hi : i < 16) : wx.cell? ⟨Y, i, none⟩ = some (.int .u32 (y.getD i 0 : Nat)) ∧ wx.frozen? ⟨Y, i, none⟩ = false ∧ y.getD i 0 < 4294967296 :=
  ⟨h.2.1.cellD i (by rw [h.2.2.1.1]; exact hi), h.2.1.free i, getD_lt32 y i h.2.2.1.2⟩
theorem BS.set {w0 wx : World} {K N R X : Nat} {key nonce : List UInt8} {x : List Nat} (h : BS w0 K N R X key nonce x wx) (i v : Nat) (hv : v < 4294967296) : BS w0 K N R X key nonce (x.set i v) (wx.setCell ⟨X, i, none⟩ (.int .u32 (v : Nat))) :=
  h.only ((Only.refl _ _).set i _) (h.2.2.2.1.set i v) (h.2.2.2.2.1.set i v hv)
theorem BS.read {w0 wx : World} {K N R X : Nat} {key nonce : List UInt8} {x : List Nat} (h : BS w0 K N R X key nonce x wx) (i : Nat) (hi : i < 16) : wx.cell? ⟨X, i, none⟩ = some (.int .u32 (x.getD i 0 : Nat)) ∧ wx.frozen? ⟨X, i, none⟩ = false ∧ x.getD i 0 < 4294967296 :=
  ⟨h.2.2.2.1.cellD i (by rw [h.2.2.2.2.1.1]; exact hi), h.2.2.2.1.free i, getD_lt32 x i h.2.2.2.2.1.2⟩
/-- .. and the bytes that go out. -/
def BO (w0 : World) (K N R X Y O : Nat) (key nonce : List UInt8) (x y : List Nat) (o : List UInt8) (wx : World) : Prop := BY w0 K N R X Y key nonce x y wx ∧ BlkB 28 wx O o ∧ o.length = 64 ∧ Y < O
theorem BO.drewN {w0 wx : World} {K N R X Y O : Nat} {key nonce : List UInt8} {x y : List Nat} {o : List UInt8} (h : BO w0 K N R X Y O key nonce x y o wx) (n : Nat) : BO w0 K N R X Y O key nonce x y o (wx.drewN n) := ⟨h.1.drewN n, h.2⟩
theorem BO.set {w0 wx : World} {K N R X Y O : Nat} {key nonce : List UInt8} {x y : List Nat} {o : List UInt8} (h : BO w0 K N R X Y O key nonce x y o wx) (i : Nat) (v : UInt8) : BO w0 K N R X Y O key nonce x y (o.set i v) (wx.setCell ⟨O, i, none⟩ (.int .u8 (v.toNat : Nat))) := by
  obtain ⟨⟨h1, h2, h3, h4⟩, h5, h6, h7⟩ := h
  exact ⟨⟨h1.keep ((Below.refl _ _).setCell (by show X + 1 ≤ O; omega) _), h2.keep (Below.heap_setCell _ _ _ _ (by show Y ≠ O; omega)), h3, h4⟩, h5.set i v, by simpa using h6, h7⟩
theorem byte_nat (m : Nat) : ∃ b : UInt8, (m : Int) % 256 = (b.toNat : Nat) ∧ IntKind.u8.wrap (m : Int) = (b.toNat : Nat) ∧ Hid (UInt8.ofNat m = b) := by
  have h : (UInt8.ofNat m).toNat = m % 256 := by rw [UInt8.toNat_ofNat']
  exact ⟨UInt8.ofNat m, by rw [h]; omega, by rw [h, IntKind.wrap_u8]; omega, Lib.hid rfl⟩
theorem BY.diag {w0 wx : World} {K N R X Y : Nat} {key nonce : List UInt8} {x y : List Nat} (h : BY w0 K N R X Y key nonce x y wx) {a0 b0 c0 d0 : Nat} (h0 : mixF (y.getD 0 0) (y.getD 5 0) (y.getD 10 0) (y.getD 15 0) = (a0, b0, c0, d0)) {a1 b1 c1 d1 : Nat} (h1 : mixF (y.getD 1 0) (y.getD 6 0) (y.getD 11 0) (y.getD 12 0) = (a1, b1, c1, d1)) {a2 b2 c2 d2 : Nat} (h2 : mixF (y.getD 2 0) (y.getD 7 0) (y.getD 8 0) (y.getD 13 0) = (a2, b2, c2, d2)) {a3 b3 c3 d3 : Nat} (h3 : mixF (y.getD 3 0) (y.getD 4 0) (y.getD 9 0) (y.getD 14 0) = (a3, b3, c3, d3)) :
    BY w0 K N R X Y key nonce x (diagTo y 4) ((((((((((((((((wx.setCell ⟨Y, 0, none⟩ (.int .u32 (a0 : Nat))).setCell ⟨Y, 5, none⟩ (.int .u32 (b0 : Nat))).setCell ⟨Y, 10, none⟩ (.int .u32 (c0 : Nat))).setCell ⟨Y, 15, none⟩ (.int .u32 (d0 : Nat))).setCell ⟨Y, 1, none⟩ (.int .u32 (a1 : Nat))).setCell ⟨Y, 6, none⟩ (.int .u32 (b1 : Nat))).setCell ⟨Y, 11, none⟩ (.int .u32 (c1 : Nat))).setCell ⟨Y, 12, none⟩ (.int .u32 (d1 : Nat))).setCell ⟨Y, 2, none⟩ (.int .u32 (a2 : Nat))).setCell ⟨Y, 7, none⟩ (.int .u32 (b2 : Nat))).setCell ⟨Y, 8, none⟩ (.int .u32 (c2 : Nat))).setCell ⟨Y, 13, none⟩ (.int .u32 (d2 : Nat))).setCell ⟨Y, 3, none⟩ (.int .u32 (a3 : Nat))).setCell ⟨Y, 4, none⟩ (.int .u32 (b3 : Nat))).setCell ⟨Y, 9, none⟩ (.int .u32 (c3 : Nat))).setCell ⟨Y, 14, none⟩ (.int .u32 (d3 : Nat))) := by
  have e1 := h.qr 0 5 10 15 h0
  have e2 := e1.qr 1 6 11 12 (a' := a1) (b' := b1) (c' := c1) (d' := d1) (by rw [qr_far y 0 5 10 15 1 (by omega) (by omega) (by omega) (by omega), qr_far y 0 5 10 15 6 (by omega) (by omega) (by omega) (by omega), qr_far y 0 5 10 15 11 (by omega) (by omega) (by omega) (by omega), qr_far y 0 5 10 15 12 (by omega) (by omega) (by omega) (by omega)]; exact h1)
  have e3 := e2.qr 2 7 8 13 (a' := a2) (b' := b2) (c' := c2) (d' := d2) (by rw [qr_far (Go.Proofs.Ytogihaiedemdhaa.qr y 0 5 10 15) 1 6 11 12 2 (by omega) (by omega) (by omega) (by omega), qr_far (Go.Proofs.Ytogihaiedemdhaa.qr y 0 5 10 15) 1 6 11 12 7 (by omega) (by omega) (by omega) (by omega), qr_far (Go.Proofs.Ytogihaiedemdhaa.qr y 0 5 10 15) 1 6 11 12 8 (by omega) (by omega) (by omega) (by omega), qr_far (Go.Proofs.Ytogihaiedemdhaa.qr y 0 5 10 15) 1 6 11 12 13 (by omega) (by omega) (by omega) (by omega), qr_far y 0 5 10 15 2 (by omega) (by omega) (by omega) (by omega), qr_far y 0 5 10 15 7 (by omega) (by omega) (by omega) (by omega), qr_far y 0 5 10 15 8 (by omega) (by omega) (by omega) (by omega), qr_far y 0 5 10 15 13 (by omega) (by omega) (by omega) (by omega)]; exact h2)
  have e4 := e3.qr 3 4 9 14 (a' := a3) (b' := b3) (c' := c3) (d' := d3) (by rw [qr_far (Go.Proofs.Ytogihaiedemdhaa.qr (Go.Proofs.Ytogihaiedemdhaa.qr y 0 5 10 15) 1 6 11 12) 2 7 8 13 3 (by omega) (by omega) (by omega) (by omega), qr_far (Go.Proofs.Ytogihaiedemdhaa.qr (Go.Proofs.Ytogihaiedemdhaa.qr y 0 5 10 15) 1 6 11 12) 2 7 8 13 4 (by omega) (by omega) (by omega) (by omega), qr_far (Go.Proofs.Ytogihaiedemdhaa.qr (Go.Proofs.Ytogihaiedemdhaa.qr y 0 5 10 15) 1 6 11 12) 2 7 8 13 9 (by omega) (by omega) (by omega) (by omega), qr_far (Go.Proofs.Ytogihaiedemdhaa.qr (Go.Proofs.Ytogihaiedemdhaa.qr y 0 5 10 15) 1 6 11 12) 2 7 8 13 14 (by omega) (by omega) (by omega) (by omega), qr_far (Go.Proofs.Ytogihaiedemdhaa.qr y 0 5 10 15) 1 6 11 12 3 (by omega) (by omega) (by omega) (by omega), qr_far (Go.Proofs.Ytogihaiedemdhaa.qr y 0 5 10 15) 1 6 11 12 4 (by omega) (by omega) (by omega) (by omega), qr_far (Go.Proofs.Ytogihaiedemdhaa.qr y 0 5 10 15) 1 6 11 12 9 (by omega) (by omega) (by omega) (by omega), qr_far (Go.Proofs.Ytogihaiedemdhaa.qr y 0 5 10 15) 1 6 11 12 14 (by omega) (by omega) (by omega) (by omega), qr_far y 0 5 10 15 3 (by omega) (by omega) (by omega) (by omega), qr_far y 0 5 10 15 4 (by omega) (by omega) (by omega) (by omega), qr_far y 0 5 10 15 9 (by omega) (by omega) (by omega) (by omega), qr_far y 0 5 10 15 14 (by omega) (by omega) (by omega) (by omega)]; exact h3)
  exact e4
theorem mix_quiet (a b c d : Nat) (ha : a < 4294967296) (hb : b < 4294967296) (hc : c < 4294967296) (hd : d < 4294967296) : ∃ a' b' c' d' : Nat, Hid (mixF a b c d = (a', b', c', d')) ∧ Hid (∀ w, Calls Try.prog 25 #[.int .u32 a, .int .u32 b, .int .u32 c, .int .u32 d] w fun e w' => e = .returned (.tuple #[.int .u32 (a' : Nat), .int .u32 (b' : Nat), .int .u32 (c' : Nat), .int .u32 (d' : Nat)]) ∧ w' = w) :=
  ⟨_, _, _, _, Lib.hid rfl, Lib.hid (fun w => (mix_any a b c d _ _ _ _ w ha hb hc hd rfl).mono fun _ _ h => ⟨h.1, h.2.symm⟩)⟩

set_option maxRecDepth 100000 in
set_option maxHeartbeats 3200000 in
theorem block_any (key nonce : List UInt8) (count : Nat) (w : World) (hk : key.length = 32) (hn : nonce.length = 12) (hc : count < 4294967296) :
    Calls Try.prog 14 #[.agg (cells8 key).toArray, .agg (cells8 nonce).toArray, .int .u32 count] w fun e w' => e = .returned (.agg (cells8 (blk key nonce count)).toArray) ∧ Below w.heap.size w w' := by
  obtain ⟨K, hK⟩ : ∃ K, w.heap.size = K := ⟨_, rfl⟩
  obtain ⟨N, hN⟩ : ∃ N, K + 1 = N := ⟨_, rfl⟩
  obtain ⟨R, hR⟩ : ∃ R, N + 1 = R := ⟨_, rfl⟩
  obtain ⟨X, hX⟩ : ∃ X, R + 1 = X := ⟨_, rfl⟩
  have HKL := Lib.hid hk
  have HNL := Lib.hid hn
  clear hk hn
  go_enter Try.func14, Try.ntmps14
  go_upto_region 1 with (fail)
  go_cut [7] (fun s7 wx => s7 = .pointer (some ⟨X, 0, none⟩) ∧ Hid (BS w K N R X key nonce consts16 wx))
  case first =>
    go_wp2
    go_meet
    case rel =>
      subst hK
      subst hN
      subst hR
      subst hX
      refine ⟨rfl, Lib.hid ⟨heap_keep (heap_keep (heap_keep (heap_at w _))), heap_keep (heap_keep (heap_at' (by simp))), ⟨List.replicate 64 0, heap_keep (heap_at' (by simp)), by simp⟩, heap_at' (by simp), consts_W16, ?_, rfl, by omega, by omega, by omega⟩⟩
      exact ((((Below.refl _ _).alloc (Nat.le_refl _) _).alloc (by simp) _).alloc (by simp; omega) _).alloc (by simp; omega) _
  case rest =>
    obtain ⟨rfl, hB⟩ := hcut
    clear hN hR hX
    go_upto_region 2 with (fail)
    go_cut [] (fun wx => Hid (BS w K N R X key nonce (wordsTo consts16 4 key 8) wx))
    case first =>
      have HC : Hid (∀ w', w'.heap = wc.heap → Calls Try.prog 24 #[.slice (some ⟨X, 4, none⟩) 8 12, .slice (some ⟨K, 0, none⟩) 32 32] w' fun e w'' => e = .returned (.tuple #[]) ∧ BlkW 43 w'' X (wordsTo consts16 4 key 8) ∧ Only X w' w'') :=
        Lib.hid (fun w' h => words_at wc X 4 8 12 K 32 _ consts16 key w' h hB.out.2.2.2.1 consts_lt (by decide) hB.out.1.bytes 32 HKL.out.symm (by rw [HKL.out]; omega) (by rw [HKL.out]; omega) (by have := hB.out.2.2.2.2.2.2.2; omega))
      go_region_with ((with_reducible refine (HC.out _ ?_).mono ?_); rfl; rintro _ w2 ⟨rfl, hb2, ho2⟩)
      all_goals (go_wp2; go_meet)
      all_goals exact Lib.hid ((hB.out.heap 1).only ho2 hb2 (words_lt16 _ _ _ _ consts_W16))
    case rest =>
    have hB2 := hcut
    clear hcut hB
    obtain ⟨x1, hx1⟩ : ∃ x1, wordsTo consts16 4 key 8 = x1 := ⟨_, rfl⟩
    rw [hx1] at hB2
    have HX1 := Lib.hid hx1
    clear hx1
    go_upto_region 3 with (fail)
    go_cut [] (fun wx => Hid (BS w K N R X key nonce (x1.set 12 count) wx))
    case first =>
      obtain ⟨g12, f12, _⟩ := hB2.out.read 12 (by omega)
      generalize x1.getD 12 0 = v12 at *
      go_wp2
      go_meet
      case rel => exact Lib.hid (hB2.out.set 12 count hc)
    case rest =>
    have hB3 := hcut
    clear hcut hB2
    go_upto_region 4 with (fail)
    go_cut [] (fun wx => Hid (BS w K N R X key nonce (xs16 key nonce count) wx))
    case first =>
      have h16 := hB3.out.2.2.2.2.1
      have HXS : Hid (wordsTo (x1.set 12 count) 13 nonce 3 = xs16 key nonce count) := Lib.hid (by unfold xs16; rw [HX1.out])
      have HC : Hid (∀ w', w'.heap = wc.heap → Calls Try.prog 24 #[.slice (some ⟨X, 13, none⟩) 3 3, .slice (some ⟨N, 0, none⟩) 12 12] w' fun e w'' => e = .returned (.tuple #[]) ∧ BlkW 43 w'' X (wordsTo (x1.set 12 count) 13 nonce 3) ∧ Only X w' w'') :=
        Lib.hid (fun w' h => words_at wc X 13 3 3 N 12 _ (x1.set 12 count) nonce w' h hB3.out.2.2.2.1 h16.2 (by rw [h16.1]; omega) hB3.out.2.1.bytes 12 HNL.out.symm (by rw [HNL.out]; omega) (by rw [HNL.out]; omega) (by have := hB3.out.2.2.2.2.2.2.2; omega))
      have H16 := Lib.hid h16
      clear h16
      go_region_with ((with_reducible refine (HC.out _ ?_).mono ?_); rfl; rintro _ w2 ⟨rfl, hb2, ho2⟩)
      all_goals (go_wp2; go_meet)
      all_goals exact Lib.hid (by rw [← HXS.out]; exact (hB3.out.heap 1).only ho2 hb2 (words_lt16 _ _ _ _ H16.out))
    case rest =>
    have hB4 := hcut
    have HXW := Lib.hid (xs16_lt key nonce count hc)
    have HBK : Hid (blk key nonce count = outTo (roundsTo (xs16 key nonce count) 10) (xs16 key nonce count) 64) := Lib.hid rfl
    clear hcut hB3 HX1 x1
    generalize xs16 key nonce count = x at *
    go_upto_region 5 with (fail)
    go_cut [8] (fun s8 wx => ∃ Y, s8 = .pointer (some ⟨Y, 0, none⟩) ∧ Hid (BY w K N R X Y key nonce x x wx))
    case first =>
      have hXB := Lib.hid hB4.out.2.2.2.1
      have h16 := hB4.out.2.2.2.2.1
      have HSZ : Hid (some 16 = some (cellsW x).toArray.size) := Lib.hid (by simp [cellsW_length, h16.1])
      have hXs : X < wc.heap.size := hXB.out.lt
      have HZ : Hid (BlkW 43 (wc.alloc (Obj.cells #[Value.int IntKind.u32 0, Value.int IntKind.u32 0, Value.int IntKind.u32 0, Value.int IntKind.u32 0, Value.int IntKind.u32 0, Value.int IntKind.u32 0, Value.int IntKind.u32 0, Value.int IntKind.u32 0, Value.int IntKind.u32 0, Value.int IntKind.u32 0, Value.int IntKind.u32 0, Value.int IntKind.u32 0, Value.int IntKind.u32 0, Value.int IntKind.u32 0, Value.int IntKind.u32 0, Value.int IntKind.u32 0] 43)) wc.heap.size (List.replicate 16 0)) := Lib.hid (heap_at wc _)
      have HTH : Hid ((wc.alloc (Obj.cells #[Value.int IntKind.u32 0, Value.int IntKind.u32 0, Value.int IntKind.u32 0, Value.int IntKind.u32 0, Value.int IntKind.u32 0, Value.int IntKind.u32 0, Value.int IntKind.u32 0, Value.int IntKind.u32 0, Value.int IntKind.u32 0, Value.int IntKind.u32 0, Value.int IntKind.u32 0, Value.int IntKind.u32 0, Value.int IntKind.u32 0, Value.int IntKind.u32 0, Value.int IntKind.u32 0, Value.int IntKind.u32 0] 43)).there wc.heap.size 0 (cellsW x).toArray.size) := Lib.hid (by have := HZ.out.there; rw [List.length_replicate] at this; simpa [cellsW_length, h16.1] using this)
      have HFIN : Hid (BY w K N R X wc.heap.size key nonce x x ((wc.alloc (Obj.cells #[Value.int IntKind.u32 0, Value.int IntKind.u32 0, Value.int IntKind.u32 0, Value.int IntKind.u32 0, Value.int IntKind.u32 0, Value.int IntKind.u32 0, Value.int IntKind.u32 0, Value.int IntKind.u32 0, Value.int IntKind.u32 0, Value.int IntKind.u32 0, Value.int IntKind.u32 0, Value.int IntKind.u32 0, Value.int IntKind.u32 0, Value.int IntKind.u32 0, Value.int IntKind.u32 0, Value.int IntKind.u32 0] 43)).setCells wc.heap.size 0 (cellsW x))) := Lib.hid ⟨hB4.out.keep (below_setCells (by omega) _ _ _ ((Below.refl _ _).alloc (by omega) _)), HZ.out.put (by rw [List.length_replicate, h16.1]), h16, hXs⟩
      clear h16 HZ
      go_wp2_with (first
        | (refine wpList_load_row rfl 43 _ rfl X (by rfl) 43 (cellsW x).toArray (0, 0) _ hXB.out Try.underlying43 rfl (info16.trans HSZ.out) ?_)
        | (refine wpList_store_mid rfl 43 _ _ rfl wc.heap.size 0 (cellsW x).toArray (by rfl) (by rfl) HTH.out (info16.trans HSZ.out) (cellsW_all x) ?_))
      go_meet
      case rel => exact ⟨_, rfl, HFIN⟩
    case rest =>
    obtain ⟨Y, rfl, hY0⟩ := hcut
    clear hB4
    go_wp2
    go_loopw [24] (fun nv wr => ∃ i : Nat, i ≤ 10 ∧ nv = .int .i64 i ∧ Hid (BY w K N R X Y key nonce x (roundsTo x i) wr)) (fun nv _ => 10 - (intOf nv).toNat)
    case atStart => exact ⟨0, by omega, rfl, hY0⟩
    case round =>
      obtain ⟨i, hi, rfl, hYi⟩ := hrel
      by_cases hlt : i < 10
      · have i1 : (i : Int) < 10 := by omega
        obtain ⟨y0, hy0⟩ : ∃ y0, roundsTo x i = y0 := ⟨_, rfl⟩
        rw [hy0] at hYi
        have HY0 := Lib.hid hy0.symm
        clear hy0
        go_wp2
        go_loopw [26] (fun kv wr => ∃ k : Nat, k ≤ 4 ∧ kv = .int .i64 k ∧ Hid (BY w K N R X Y key nonce x (colsTo y0 k) wr)) (fun kv _ => 4 - (intOf kv).toNat)
        case atStart => exact ⟨0, by omega, rfl, hYi⟩
        case round =>
          obtain ⟨k, hk, rfl, hYk⟩ := hrel
          by_cases hlt4 : k < 4
          · have ik : (k : Int) < 4 := by omega
            obtain ⟨k4, p4, q4, r4⟩ : ∃ n : Nat, 4 + (k : Int) = (n : Int) ∧ IntKind.i64.wrap (n : Int) = (n : Int) ∧ 4 + k = n := ⟨4 + k, by omega, IntWalk.i64_in _ (by omega), rfl⟩
            obtain ⟨k8, p8, q8, r8⟩ : ∃ n : Nat, 8 + (k : Int) = (n : Int) ∧ IntKind.i64.wrap (n : Int) = (n : Int) ∧ 8 + k = n := ⟨8 + k, by omega, IntWalk.i64_in _ (by omega), rfl⟩
            obtain ⟨k12, p12, q12, r12⟩ : ∃ n : Nat, 12 + (k : Int) = (n : Int) ∧ IntKind.i64.wrap (n : Int) = (n : Int) ∧ 12 + k = n := ⟨12 + k, by omega, IntWalk.i64_in _ (by omega), rfl⟩
            have j0 : (k : Int) < 16 := by omega
            have j4 : (k4 : Int) < 16 := by omega
            have j8 : (k8 : Int) < 16 := by omega
            have j12 : (k12 : Int) < 16 := by omega
            have n1 : ¬ k = k4 := by omega
            have n2 : ¬ k = k8 := by omega
            have n3 : ¬ k = k12 := by omega
            have n4 : ¬ k4 = k8 := by omega
            have n5 : ¬ k4 = k12 := by omega
            have n6 : ¬ k8 = k12 := by omega
            have n1' : ¬ k4 = k := by omega
            have n2' : ¬ k8 = k := by omega
            have n3' : ¬ k12 = k := by omega
            have n4' : ¬ k8 = k4 := by omega
            have n5' : ¬ k12 = k4 := by omega
            have n6' : ¬ k12 = k8 := by omega
            obtain ⟨g0, f0, l0⟩ := hYk.out.read k (by omega)
            obtain ⟨g1, f1, l1⟩ := hYk.out.read k4 (by omega)
            obtain ⟨g2, f2, l2⟩ := hYk.out.read k8 (by omega)
            obtain ⟨g3, f3, l3⟩ := hYk.out.read k12 (by omega)
            obtain ⟨a', b', c', d', hm, hC⟩ := mix_quiet _ _ _ _ l0 l1 l2 l3
            have hQ := Lib.hid ((hYk.out.qr k k4 k8 k12 hm.out).drewN 1)
            have hQ2 : Hid (qr (colsTo y0 k) k k4 k8 k12 = colsTo y0 (k + 1)) := Lib.hid (by subst r4 r8 r12; rfl)
            clear hm r4 r8 r12
            generalize (colsTo y0 k).getD k 0 = v0 at *
            generalize (colsTo y0 k).getD k4 0 = v1 at *
            generalize (colsTo y0 k).getD k8 0 = v2 at *
            generalize (colsTo y0 k).getD k12 0 = v3 at *
            go_wp2
            refine cut_start 22 (fun w' => w'.cell? ⟨Y, k, none⟩ = some (.int .u32 (v0 : Nat)) ∧ w'.cell? ⟨Y, k4, none⟩ = some (.int .u32 (v1 : Nat)) ∧ w'.cell? ⟨Y, k8, none⟩ = some (.int .u32 (v2 : Nat)) ∧ w'.cell? ⟨Y, k12, none⟩ = some (.int .u32 (v3 : Nat))) (by kernel_rfl) ?_ (fun hS0 => ?_)
            · exact ⟨g0, g1, g2, g3⟩
            refine cut_pure (i := 0) (oi := { dst := some 30, op := Op.move (Operand.tmp 9), type := 3, pos := "stream.go:37", after := #[], guard := none }) (v := ?_) rfl (by kernel_rfl) (by kernel_rfl) (by kernel_rfl) (by kernel_rfl) (fun _ _ _ h => h) (Or.inl ⟨by rfl, ?hy1⟩) (by assumption) ?_
            case hy1 => (intro w; go_simp; try with_reducible rfl)
            (try simp only [Act.put, List.setIfInBounds_toArray, List.set_cons_zero, List.set_cons_succ])
            refine cut_pure (i := 1) (oi := { dst := some 31, op := Op.move (Operand.tmp 9), type := 3, pos := "stream.go:37", after := #[{ on := 29, ground := Ground.gcOnly Departure.lateStores }], guard := none }) (v := ?_) rfl (by kernel_rfl) (by kernel_rfl) (by kernel_rfl) (by kernel_rfl) (fun _ _ _ h => h) (Or.inl ⟨by rfl, ?hy2⟩) (by assumption) ?_
            case hy2 => (intro w; go_simp; try with_reducible rfl)
            (try simp only [Act.put, List.setIfInBounds_toArray, List.set_cons_zero, List.set_cons_succ])
            refine cut_pure (i := 2) (oi := { dst := some 32, op := Op.binOp BinOp.add 3 (Operand.const (Value.int IntKind.i64 4)) (Operand.tmp 31) 3, type := 3, pos := "stream.go:37", after := #[{ on := 1, ground := Ground.data }, { on := 29, ground := Ground.gcOnly Departure.lateStores }], guard := none }) (v := ?_) rfl (by kernel_rfl) (by kernel_rfl) (by kernel_rfl) (by kernel_rfl) (fun _ _ _ h => h) (Or.inl ⟨by rfl, ?hy3⟩) (by assumption) ?_
            case hy3 => (intro w; go_simp; try with_reducible rfl)
            (try simp only [Act.put, List.setIfInBounds_toArray, List.set_cons_zero, List.set_cons_succ])
            refine cut_pure (i := 3) (oi := { dst := some 33, op := Op.move (Operand.tmp 9), type := 3, pos := "stream.go:37", after := #[{ on := 31, ground := Ground.gcOnly Departure.lateStores }], guard := none }) (v := ?_) rfl (by kernel_rfl) (by kernel_rfl) (by kernel_rfl) (by kernel_rfl) (fun _ _ _ h => h) (Or.inl ⟨by rfl, ?hy4⟩) (by assumption) ?_
            case hy4 => (intro w; go_simp; try with_reducible rfl)
            (try simp only [Act.put, List.setIfInBounds_toArray, List.set_cons_zero, List.set_cons_succ])
            refine cut_pure (i := 4) (oi := { dst := some 34, op := Op.binOp BinOp.add 3 (Operand.const (Value.int IntKind.i64 8)) (Operand.tmp 33) 3, type := 3, pos := "stream.go:37", after := #[{ on := 3, ground := Ground.data }, { on := 31, ground := Ground.gcOnly Departure.lateStores }], guard := none }) (v := ?_) rfl (by kernel_rfl) (by kernel_rfl) (by kernel_rfl) (by kernel_rfl) (fun _ _ _ h => h) (Or.inl ⟨by rfl, ?hy5⟩) (by assumption) ?_
            case hy5 => (intro w; go_simp; try with_reducible rfl)
            (try simp only [Act.put, List.setIfInBounds_toArray, List.set_cons_zero, List.set_cons_succ])
            refine cut_pure (i := 5) (oi := { dst := some 35, op := Op.move (Operand.tmp 9), type := 3, pos := "stream.go:37", after := #[{ on := 33, ground := Ground.gcOnly Departure.lateStores }], guard := none }) (v := ?_) rfl (by kernel_rfl) (by kernel_rfl) (by kernel_rfl) (by kernel_rfl) (fun _ _ _ h => h) (Or.inl ⟨by rfl, ?hy6⟩) (by assumption) ?_
            case hy6 => (intro w; go_simp; try with_reducible rfl)
            (try simp only [Act.put, List.setIfInBounds_toArray, List.set_cons_zero, List.set_cons_succ])
            refine cut_pure (i := 6) (oi := { dst := some 36, op := Op.binOp BinOp.add 3 (Operand.const (Value.int IntKind.i64 12)) (Operand.tmp 35) 3, type := 3, pos := "stream.go:37", after := #[{ on := 5, ground := Ground.data }, { on := 33, ground := Ground.gcOnly Departure.lateStores }], guard := none }) (v := ?_) rfl (by kernel_rfl) (by kernel_rfl) (by kernel_rfl) (by kernel_rfl) (fun _ _ _ h => h) (Or.inl ⟨by rfl, ?hy7⟩) (by assumption) ?_
            case hy7 => (intro w; go_simp; try with_reducible rfl)
            (try simp only [Act.put, List.setIfInBounds_toArray, List.set_cons_zero, List.set_cons_succ])
            refine cut_pure (i := 7) (oi := { dst := some 37, op := Op.move (Operand.tmp 9), type := 3, pos := "stream.go:37", after := #[], guard := none }) (v := ?_) rfl (by kernel_rfl) (by kernel_rfl) (by kernel_rfl) (by kernel_rfl) (fun _ _ _ h => h) (Or.inl ⟨by rfl, ?hy8⟩) (by assumption) ?_
            case hy8 => (intro w; go_simp; try with_reducible rfl)
            (try simp only [Act.put, List.setIfInBounds_toArray, List.set_cons_zero, List.set_cons_succ])
            refine cut_pure (i := 8) (oi := { dst := some 38, op := Op.indexAddr 43 (Operand.tmp 8) (Operand.tmp 37), type := 0, pos := "stream.go:37", after := #[{ on := 7, ground := Ground.data }], guard := none }) (v := ?_) rfl (by kernel_rfl) (by kernel_rfl) (by kernel_rfl) (by kernel_rfl) (fun _ _ _ h => h) (Or.inl ⟨by rfl, ?hy9⟩) (by assumption) ?_
            case hy9 => (intro w; go_simp; try with_reducible rfl)
            (try simp only [Act.put, List.setIfInBounds_toArray, List.set_cons_zero, List.set_cons_succ])
            refine cut_pure (i := 10) (oi := { dst := some 40, op := Op.move (Operand.tmp 9), type := 3, pos := "stream.go:37", after := #[], guard := none }) (v := ?_) rfl (by kernel_rfl) (by kernel_rfl) (by kernel_rfl) (by kernel_rfl) (fun _ _ _ h => h) (Or.inl ⟨by rfl, ?hy10⟩) (by assumption) ?_
            case hy10 => (intro w; go_simp; try with_reducible rfl)
            (try simp only [Act.put, List.setIfInBounds_toArray, List.set_cons_zero, List.set_cons_succ])
            refine cut_pure (i := 11) (oi := { dst := some 41, op := Op.binOp BinOp.add 3 (Operand.const (Value.int IntKind.i64 4)) (Operand.tmp 40) 3, type := 3, pos := "stream.go:37", after := #[{ on := 10, ground := Ground.data }], guard := none }) (v := ?_) rfl (by kernel_rfl) (by kernel_rfl) (by kernel_rfl) (by kernel_rfl) (fun _ _ _ h => h) (Or.inl ⟨by rfl, ?hy11⟩) (by assumption) ?_
            case hy11 => (intro w; go_simp; try with_reducible rfl)
            (try simp only [Act.put, List.setIfInBounds_toArray, List.set_cons_zero, List.set_cons_succ])
            refine cut_pure (i := 12) (oi := { dst := some 42, op := Op.indexAddr 43 (Operand.tmp 8) (Operand.tmp 41), type := 0, pos := "stream.go:37", after := #[{ on := 11, ground := Ground.data }], guard := none }) (v := ?_) rfl (by kernel_rfl) (by kernel_rfl) (by kernel_rfl) (by kernel_rfl) (fun _ _ _ h => h) (Or.inl ⟨by rfl, ?hy12⟩) (by assumption) ?_
            case hy12 => (intro w; go_simp; try with_reducible rfl)
            (try simp only [Act.put, List.setIfInBounds_toArray, List.set_cons_zero, List.set_cons_succ])
            refine cut_pure (i := 14) (oi := { dst := some 44, op := Op.move (Operand.tmp 9), type := 3, pos := "stream.go:37", after := #[], guard := none }) (v := ?_) rfl (by kernel_rfl) (by kernel_rfl) (by kernel_rfl) (by kernel_rfl) (fun _ _ _ h => h) (Or.inl ⟨by rfl, ?hy13⟩) (by assumption) ?_
            case hy13 => (intro w; go_simp; try with_reducible rfl)
            (try simp only [Act.put, List.setIfInBounds_toArray, List.set_cons_zero, List.set_cons_succ])
            refine cut_pure (i := 15) (oi := { dst := some 45, op := Op.binOp BinOp.add 3 (Operand.const (Value.int IntKind.i64 8)) (Operand.tmp 44) 3, type := 3, pos := "stream.go:37", after := #[{ on := 14, ground := Ground.data }], guard := none }) (v := ?_) rfl (by kernel_rfl) (by kernel_rfl) (by kernel_rfl) (by kernel_rfl) (fun _ _ _ h => h) (Or.inl ⟨by rfl, ?hy14⟩) (by assumption) ?_
            case hy14 => (intro w; go_simp; try with_reducible rfl)
            (try simp only [Act.put, List.setIfInBounds_toArray, List.set_cons_zero, List.set_cons_succ])
            refine cut_pure (i := 16) (oi := { dst := some 46, op := Op.indexAddr 43 (Operand.tmp 8) (Operand.tmp 45), type := 0, pos := "stream.go:37", after := #[{ on := 15, ground := Ground.data }], guard := none }) (v := ?_) rfl (by kernel_rfl) (by kernel_rfl) (by kernel_rfl) (by kernel_rfl) (fun _ _ _ h => h) (Or.inl ⟨by rfl, ?hy15⟩) (by assumption) ?_
            case hy15 => (intro w; go_simp; try with_reducible rfl)
            (try simp only [Act.put, List.setIfInBounds_toArray, List.set_cons_zero, List.set_cons_succ])
            refine cut_pure (i := 18) (oi := { dst := some 48, op := Op.move (Operand.tmp 9), type := 3, pos := "stream.go:37", after := #[], guard := none }) (v := ?_) rfl (by kernel_rfl) (by kernel_rfl) (by kernel_rfl) (by kernel_rfl) (fun _ _ _ h => h) (Or.inl ⟨by rfl, ?hy16⟩) (by assumption) ?_
            case hy16 => (intro w; go_simp; try with_reducible rfl)
            (try simp only [Act.put, List.setIfInBounds_toArray, List.set_cons_zero, List.set_cons_succ])
            refine cut_pure (i := 19) (oi := { dst := some 49, op := Op.binOp BinOp.add 3 (Operand.const (Value.int IntKind.i64 12)) (Operand.tmp 48) 3, type := 3, pos := "stream.go:37", after := #[{ on := 18, ground := Ground.data }], guard := none }) (v := ?_) rfl (by kernel_rfl) (by kernel_rfl) (by kernel_rfl) (by kernel_rfl) (fun _ _ _ h => h) (Or.inl ⟨by rfl, ?hy17⟩) (by assumption) ?_
            case hy17 => (intro w; go_simp; try with_reducible rfl)
            (try simp only [Act.put, List.setIfInBounds_toArray, List.set_cons_zero, List.set_cons_succ])
            refine cut_pure (i := 20) (oi := { dst := some 50, op := Op.indexAddr 43 (Operand.tmp 8) (Operand.tmp 49), type := 0, pos := "stream.go:37", after := #[{ on := 19, ground := Ground.data }], guard := none }) (v := ?_) rfl (by kernel_rfl) (by kernel_rfl) (by kernel_rfl) (by kernel_rfl) (fun _ _ _ h => h) (Or.inl ⟨by rfl, ?hy18⟩) (by assumption) ?_
            case hy18 => (intro w; go_simp; try with_reducible rfl)
            (try simp only [Act.put, List.setIfInBounds_toArray, List.set_cons_zero, List.set_cons_succ])
            refine cut_take (i := 9) (oi := { dst := some 39, op := Op.load 24 (Operand.tmp 38), type := 24, pos := "stream.go:37", after := #[{ on := 8, ground := Ground.data }], guard := none }) (v := ?_) rfl (by kernel_rfl) (by kernel_rfl) (by kernel_rfl) (by kernel_rfl) (fun _ _ _ h => h) (Or.inl ⟨by rfl, ?hy19⟩) (by assumption) ?_
            case hy19 => (intro w hSw; (try dsimp only at hSw); go_simp; try with_reducible rfl)
            (try simp only [Act.put, List.setIfInBounds_toArray, List.set_cons_zero, List.set_cons_succ])
            refine cut_take (i := 13) (oi := { dst := some 43, op := Op.load 24 (Operand.tmp 42), type := 24, pos := "stream.go:37", after := #[{ on := 12, ground := Ground.data }], guard := none }) (v := ?_) rfl (by kernel_rfl) (by kernel_rfl) (by kernel_rfl) (by kernel_rfl) (fun _ _ _ h => h) (Or.inl ⟨by rfl, ?hy20⟩) (by assumption) ?_
            case hy20 => (intro w hSw; (try dsimp only at hSw); go_simp; try with_reducible rfl)
            (try simp only [Act.put, List.setIfInBounds_toArray, List.set_cons_zero, List.set_cons_succ])
            refine cut_take (i := 17) (oi := { dst := some 47, op := Op.load 24 (Operand.tmp 46), type := 24, pos := "stream.go:37", after := #[{ on := 16, ground := Ground.data }], guard := none }) (v := ?_) rfl (by kernel_rfl) (by kernel_rfl) (by kernel_rfl) (by kernel_rfl) (fun _ _ _ h => h) (Or.inl ⟨by rfl, ?hy21⟩) (by assumption) ?_
            case hy21 => (intro w hSw; (try dsimp only at hSw); go_simp; try with_reducible rfl)
            (try simp only [Act.put, List.setIfInBounds_toArray, List.set_cons_zero, List.set_cons_succ])
            refine cut_take (i := 21) (oi := { dst := some 51, op := Op.load 24 (Operand.tmp 50), type := 24, pos := "stream.go:37", after := #[{ on := 20, ground := Ground.data }], guard := none }) (v := ?_) rfl (by kernel_rfl) (by kernel_rfl) (by kernel_rfl) (by kernel_rfl) (fun _ _ _ h => h) (Or.inl ⟨by rfl, ?hy22⟩) (by assumption) ?_
            case hy22 => (intro w hSw; (try dsimp only at hSw); go_simp; try with_reducible rfl)
            (try simp only [Act.put, List.setIfInBounds_toArray, List.set_cons_zero, List.set_cons_succ])
            refine cut_step (by kernel_rfl) (o := { dst := some 52, op := Op.call { callee := Callee.value (Operand.func 25), args := #[Operand.tmp 39, Operand.tmp 43, Operand.tmp 47, Operand.tmp 51], argTypes := #[24, 24, 24, 24] }, type := 46, pos := "stream.go:37", after := #[{ on := 9, ground := Ground.data }, { on := 13, ground := Ground.data }, { on := 17, ground := Ground.data }, { on := 21, ground := Ground.data }], guard := none }) rfl (fun K hK => ?_)
            go_simp
            refine (hC.out _).mono ?_
            rintro _ _ ⟨rfl, rfl⟩
            (try dsimp only)
            refine Shut.out hK _ _ ?_
            clear hK K
            (try simp only [Act.put, List.setIfInBounds_toArray, List.set_cons_zero, List.set_cons_succ])
            clear hS0
            refine wpAny_take (i := 23) (oi := { dst := some 29, op := Op.move (Operand.tmp 52), type := 46, pos := "stream.go:37", after := #[{ on := 22, ground := Ground.data }], guard := none }) (v := ?_) rfl (by kernel_rfl) (by kernel_rfl) (by kernel_rfl) (fun _ _ _ h => h) (Or.inl ⟨by rfl, ?hy24⟩) ?_
            case hy24 => (intro w; go_simp; try with_reducible rfl)
            (try simp only [Act.put, List.setIfInBounds_toArray, List.set_cons_zero, List.set_cons_succ])
            refine wpAny_take (i := 24) (oi := { dst := some 53, op := Op.extract (Operand.tmp 29) 0, type := 24, pos := "stream.go:37", after := #[{ on := 23, ground := Ground.data }], guard := none }) (v := ?_) rfl (by kernel_rfl) (by kernel_rfl) (by kernel_rfl) (fun _ _ _ h => h) (Or.inl ⟨by rfl, ?hy25⟩) ?_
            case hy25 => (intro w; go_simp; try with_reducible rfl)
            (try simp only [Act.put, List.setIfInBounds_toArray, List.set_cons_zero, List.set_cons_succ])
            refine wpAny_take (i := 25) (oi := { dst := some 54, op := Op.extract (Operand.tmp 29) 1, type := 24, pos := "stream.go:37", after := #[{ on := 23, ground := Ground.data }, { on := 29, ground := Ground.gcOnly Departure.lateStores }], guard := none }) (v := ?_) rfl (by kernel_rfl) (by kernel_rfl) (by kernel_rfl) (fun _ _ _ h => h) (Or.inl ⟨by rfl, ?hy26⟩) ?_
            case hy26 => (intro w; go_simp; try with_reducible rfl)
            (try simp only [Act.put, List.setIfInBounds_toArray, List.set_cons_zero, List.set_cons_succ])
            refine wpAny_take (i := 26) (oi := { dst := some 55, op := Op.extract (Operand.tmp 29) 2, type := 24, pos := "stream.go:37", after := #[{ on := 23, ground := Ground.data }, { on := 31, ground := Ground.gcOnly Departure.lateStores }], guard := none }) (v := ?_) rfl (by kernel_rfl) (by kernel_rfl) (by kernel_rfl) (fun _ _ _ h => h) (Or.inl ⟨by rfl, ?hy27⟩) ?_
            case hy27 => (intro w; go_simp; try with_reducible rfl)
            (try simp only [Act.put, List.setIfInBounds_toArray, List.set_cons_zero, List.set_cons_succ])
            refine wpAny_take (i := 27) (oi := { dst := some 56, op := Op.extract (Operand.tmp 29) 3, type := 24, pos := "stream.go:37", after := #[{ on := 23, ground := Ground.data }, { on := 33, ground := Ground.gcOnly Departure.lateStores }], guard := none }) (v := ?_) rfl (by kernel_rfl) (by kernel_rfl) (by kernel_rfl) (fun _ _ _ h => h) (Or.inl ⟨by rfl, ?hy28⟩) ?_
            case hy28 => (intro w; go_simp; try with_reducible rfl)
            (try simp only [Act.put, List.setIfInBounds_toArray, List.set_cons_zero, List.set_cons_succ])
            refine wpAny_take (i := 28) (oi := { dst := some 57, op := Op.indexAddr 43 (Operand.tmp 8) (Operand.tmp 30), type := 0, pos := "stream.go:37", after := #[{ on := 0, ground := Ground.data }, { on := 0, ground := Ground.phase }, { on := 1, ground := Ground.textOnly Departure.lateStores }, { on := 2, ground := Ground.textOnly Departure.lateStores }, { on := 3, ground := Ground.textOnly Departure.lateStores }, { on := 4, ground := Ground.textOnly Departure.lateStores }, { on := 5, ground := Ground.textOnly Departure.lateStores }, { on := 6, ground := Ground.textOnly Departure.lateStores }, { on := 7, ground := Ground.phase }, { on := 8, ground := Ground.phase }, { on := 9, ground := Ground.phase }, { on := 10, ground := Ground.phase }, { on := 11, ground := Ground.phase }, { on := 12, ground := Ground.phase }, { on := 13, ground := Ground.phase }, { on := 14, ground := Ground.phase }, { on := 15, ground := Ground.phase }, { on := 16, ground := Ground.phase }, { on := 17, ground := Ground.phase }, { on := 18, ground := Ground.phase }, { on := 19, ground := Ground.phase }, { on := 20, ground := Ground.phase }, { on := 21, ground := Ground.phase }, { on := 22, ground := Ground.phase }, { on := 23, ground := Ground.phase }, { on := 24, ground := Ground.phase }, { on := 25, ground := Ground.textOnly Departure.lateStores }, { on := 26, ground := Ground.textOnly Departure.lateStores }, { on := 27, ground := Ground.textOnly Departure.lateStores }], guard := none }) (v := ?_) rfl (by kernel_rfl) (by kernel_rfl) (by kernel_rfl) (fun _ _ _ h => h) (Or.inl ⟨by rfl, ?hy29⟩) ?_
            case hy29 => (intro w; go_simp; try with_reducible rfl)
            (try simp only [Act.put, List.setIfInBounds_toArray, List.set_cons_zero, List.set_cons_succ])
            refine any_step (i := 29) (by kernel_rfl) (o := { dst := none, op := Op.store 24 (Operand.tmp 57) (Operand.tmp 53), type := 0, pos := "stream.go:37", after := #[{ on := 28, ground := Ground.data }, { on := 24, ground := Ground.data }, { on := 22, ground := Ground.chain }, { on := 0, ground := Ground.phase }, { on := 1, ground := Ground.textOnly Departure.lateStores }, { on := 2, ground := Ground.textOnly Departure.lateStores }, { on := 3, ground := Ground.textOnly Departure.lateStores }, { on := 4, ground := Ground.textOnly Departure.lateStores }, { on := 5, ground := Ground.textOnly Departure.lateStores }, { on := 6, ground := Ground.textOnly Departure.lateStores }, { on := 7, ground := Ground.phase }, { on := 8, ground := Ground.phase }, { on := 9, ground := Ground.phase }, { on := 10, ground := Ground.phase }, { on := 11, ground := Ground.phase }, { on := 12, ground := Ground.phase }, { on := 13, ground := Ground.phase }, { on := 14, ground := Ground.phase }, { on := 15, ground := Ground.phase }, { on := 16, ground := Ground.phase }, { on := 17, ground := Ground.phase }, { on := 18, ground := Ground.phase }, { on := 19, ground := Ground.phase }, { on := 20, ground := Ground.phase }, { on := 21, ground := Ground.phase }, { on := 22, ground := Ground.phase }, { on := 23, ground := Ground.phase }, { on := 24, ground := Ground.phase }, { on := 25, ground := Ground.textOnly Departure.lateStores }, { on := 26, ground := Ground.textOnly Departure.lateStores }, { on := 27, ground := Ground.textOnly Departure.lateStores }], guard := none }) rfl (fun K hK => ?_)
            go_simp
            (try dsimp only)
            refine Shut.out hK _ _ ?_
            clear hK K
            (try simp only [Act.put, List.setIfInBounds_toArray, List.set_cons_zero, List.set_cons_succ])
            refine wpAny_take (i := 30) (oi := { dst := some 58, op := Op.indexAddr 43 (Operand.tmp 8) (Operand.tmp 32), type := 0, pos := "stream.go:37", after := #[{ on := 2, ground := Ground.data }, { on := 0, ground := Ground.phase }, { on := 1, ground := Ground.phase }, { on := 2, ground := Ground.phase }, { on := 3, ground := Ground.textOnly Departure.lateStores }, { on := 4, ground := Ground.textOnly Departure.lateStores }, { on := 5, ground := Ground.textOnly Departure.lateStores }, { on := 6, ground := Ground.textOnly Departure.lateStores }, { on := 7, ground := Ground.phase }, { on := 8, ground := Ground.phase }, { on := 9, ground := Ground.phase }, { on := 10, ground := Ground.phase }, { on := 11, ground := Ground.phase }, { on := 12, ground := Ground.phase }, { on := 13, ground := Ground.phase }, { on := 14, ground := Ground.phase }, { on := 15, ground := Ground.phase }, { on := 16, ground := Ground.phase }, { on := 17, ground := Ground.phase }, { on := 18, ground := Ground.phase }, { on := 19, ground := Ground.phase }, { on := 20, ground := Ground.phase }, { on := 21, ground := Ground.phase }, { on := 22, ground := Ground.phase }, { on := 23, ground := Ground.phase }, { on := 24, ground := Ground.phase }, { on := 25, ground := Ground.phase }, { on := 26, ground := Ground.textOnly Departure.lateStores }, { on := 27, ground := Ground.textOnly Departure.lateStores }, { on := 28, ground := Ground.phase }, { on := 29, ground := Ground.phase }], guard := none }) (v := ?_) rfl (by kernel_rfl) (by kernel_rfl) (by kernel_rfl) (fun _ _ _ h => h) (Or.inl ⟨by rfl, ?hy31⟩) ?_
            case hy31 => (intro w; go_simp; try with_reducible rfl)
            (try simp only [Act.put, List.setIfInBounds_toArray, List.set_cons_zero, List.set_cons_succ])
            refine any_step (i := 31) (by kernel_rfl) (o := { dst := none, op := Op.store 24 (Operand.tmp 58) (Operand.tmp 54), type := 0, pos := "stream.go:37", after := #[{ on := 30, ground := Ground.data }, { on := 25, ground := Ground.data }, { on := 29, ground := Ground.chain }, { on := 0, ground := Ground.phase }, { on := 1, ground := Ground.phase }, { on := 2, ground := Ground.phase }, { on := 3, ground := Ground.textOnly Departure.lateStores }, { on := 4, ground := Ground.textOnly Departure.lateStores }, { on := 5, ground := Ground.textOnly Departure.lateStores }, { on := 6, ground := Ground.textOnly Departure.lateStores }, { on := 7, ground := Ground.phase }, { on := 8, ground := Ground.phase }, { on := 9, ground := Ground.phase }, { on := 10, ground := Ground.phase }, { on := 11, ground := Ground.phase }, { on := 12, ground := Ground.phase }, { on := 13, ground := Ground.phase }, { on := 14, ground := Ground.phase }, { on := 15, ground := Ground.phase }, { on := 16, ground := Ground.phase }, { on := 17, ground := Ground.phase }, { on := 18, ground := Ground.phase }, { on := 19, ground := Ground.phase }, { on := 20, ground := Ground.phase }, { on := 21, ground := Ground.phase }, { on := 22, ground := Ground.phase }, { on := 23, ground := Ground.phase }, { on := 24, ground := Ground.phase }, { on := 25, ground := Ground.phase }, { on := 26, ground := Ground.textOnly Departure.lateStores }, { on := 27, ground := Ground.textOnly Departure.lateStores }, { on := 28, ground := Ground.phase }, { on := 29, ground := Ground.phase }], guard := none }) rfl (fun K hK => ?_)
            go_simp
            (try dsimp only)
            refine Shut.out hK _ _ ?_
            clear hK K
            (try simp only [Act.put, List.setIfInBounds_toArray, List.set_cons_zero, List.set_cons_succ])
            refine wpAny_take (i := 32) (oi := { dst := some 59, op := Op.indexAddr 43 (Operand.tmp 8) (Operand.tmp 34), type := 0, pos := "stream.go:37", after := #[{ on := 4, ground := Ground.data }, { on := 0, ground := Ground.phase }, { on := 1, ground := Ground.phase }, { on := 2, ground := Ground.phase }, { on := 3, ground := Ground.phase }, { on := 4, ground := Ground.phase }, { on := 5, ground := Ground.textOnly Departure.lateStores }, { on := 6, ground := Ground.textOnly Departure.lateStores }, { on := 7, ground := Ground.phase }, { on := 8, ground := Ground.phase }, { on := 9, ground := Ground.phase }, { on := 10, ground := Ground.phase }, { on := 11, ground := Ground.phase }, { on := 12, ground := Ground.phase }, { on := 13, ground := Ground.phase }, { on := 14, ground := Ground.phase }, { on := 15, ground := Ground.phase }, { on := 16, ground := Ground.phase }, { on := 17, ground := Ground.phase }, { on := 18, ground := Ground.phase }, { on := 19, ground := Ground.phase }, { on := 20, ground := Ground.phase }, { on := 21, ground := Ground.phase }, { on := 22, ground := Ground.phase }, { on := 23, ground := Ground.phase }, { on := 24, ground := Ground.phase }, { on := 25, ground := Ground.phase }, { on := 26, ground := Ground.phase }, { on := 27, ground := Ground.textOnly Departure.lateStores }, { on := 28, ground := Ground.phase }, { on := 29, ground := Ground.phase }, { on := 30, ground := Ground.phase }, { on := 31, ground := Ground.phase }], guard := none }) (v := ?_) rfl (by kernel_rfl) (by kernel_rfl) (by kernel_rfl) (fun _ _ _ h => h) (Or.inl ⟨by rfl, ?hy33⟩) ?_
            case hy33 => (intro w; go_simp; try with_reducible rfl)
            (try simp only [Act.put, List.setIfInBounds_toArray, List.set_cons_zero, List.set_cons_succ])
            refine any_step (i := 33) (by kernel_rfl) (o := { dst := none, op := Op.store 24 (Operand.tmp 59) (Operand.tmp 55), type := 0, pos := "stream.go:37", after := #[{ on := 32, ground := Ground.data }, { on := 26, ground := Ground.data }, { on := 31, ground := Ground.chain }, { on := 0, ground := Ground.phase }, { on := 1, ground := Ground.phase }, { on := 2, ground := Ground.phase }, { on := 3, ground := Ground.phase }, { on := 4, ground := Ground.phase }, { on := 5, ground := Ground.textOnly Departure.lateStores }, { on := 6, ground := Ground.textOnly Departure.lateStores }, { on := 7, ground := Ground.phase }, { on := 8, ground := Ground.phase }, { on := 9, ground := Ground.phase }, { on := 10, ground := Ground.phase }, { on := 11, ground := Ground.phase }, { on := 12, ground := Ground.phase }, { on := 13, ground := Ground.phase }, { on := 14, ground := Ground.phase }, { on := 15, ground := Ground.phase }, { on := 16, ground := Ground.phase }, { on := 17, ground := Ground.phase }, { on := 18, ground := Ground.phase }, { on := 19, ground := Ground.phase }, { on := 20, ground := Ground.phase }, { on := 21, ground := Ground.phase }, { on := 22, ground := Ground.phase }, { on := 23, ground := Ground.phase }, { on := 24, ground := Ground.phase }, { on := 25, ground := Ground.phase }, { on := 26, ground := Ground.phase }, { on := 27, ground := Ground.textOnly Departure.lateStores }, { on := 28, ground := Ground.phase }, { on := 29, ground := Ground.phase }, { on := 30, ground := Ground.phase }, { on := 31, ground := Ground.phase }], guard := none }) rfl (fun K hK => ?_)
            go_simp
            (try dsimp only)
            refine Shut.out hK _ _ ?_
            clear hK K
            (try simp only [Act.put, List.setIfInBounds_toArray, List.set_cons_zero, List.set_cons_succ])
            refine wpAny_take (i := 34) (oi := { dst := some 60, op := Op.indexAddr 43 (Operand.tmp 8) (Operand.tmp 36), type := 0, pos := "stream.go:37", after := #[{ on := 6, ground := Ground.data }, { on := 0, ground := Ground.phase }, { on := 1, ground := Ground.phase }, { on := 2, ground := Ground.phase }, { on := 3, ground := Ground.phase }, { on := 4, ground := Ground.phase }, { on := 5, ground := Ground.phase }, { on := 6, ground := Ground.phase }, { on := 7, ground := Ground.phase }, { on := 8, ground := Ground.phase }, { on := 9, ground := Ground.phase }, { on := 10, ground := Ground.phase }, { on := 11, ground := Ground.phase }, { on := 12, ground := Ground.phase }, { on := 13, ground := Ground.phase }, { on := 14, ground := Ground.phase }, { on := 15, ground := Ground.phase }, { on := 16, ground := Ground.phase }, { on := 17, ground := Ground.phase }, { on := 18, ground := Ground.phase }, { on := 19, ground := Ground.phase }, { on := 20, ground := Ground.phase }, { on := 21, ground := Ground.phase }, { on := 22, ground := Ground.phase }, { on := 23, ground := Ground.phase }, { on := 24, ground := Ground.phase }, { on := 25, ground := Ground.phase }, { on := 26, ground := Ground.phase }, { on := 27, ground := Ground.phase }, { on := 28, ground := Ground.phase }, { on := 29, ground := Ground.phase }, { on := 30, ground := Ground.phase }, { on := 31, ground := Ground.phase }, { on := 32, ground := Ground.phase }, { on := 33, ground := Ground.phase }], guard := none }) (v := ?_) rfl (by kernel_rfl) (by kernel_rfl) (by kernel_rfl) (fun _ _ _ h => h) (Or.inl ⟨by rfl, ?hy35⟩) ?_
            case hy35 => (intro w; go_simp; try with_reducible rfl)
            (try simp only [Act.put, List.setIfInBounds_toArray, List.set_cons_zero, List.set_cons_succ])
            refine any_step (i := 35) (by kernel_rfl) (o := { dst := none, op := Op.store 24 (Operand.tmp 60) (Operand.tmp 56), type := 0, pos := "stream.go:37", after := #[{ on := 34, ground := Ground.data }, { on := 27, ground := Ground.data }, { on := 33, ground := Ground.chain }, { on := 0, ground := Ground.phase }, { on := 1, ground := Ground.phase }, { on := 2, ground := Ground.phase }, { on := 3, ground := Ground.phase }, { on := 4, ground := Ground.phase }, { on := 5, ground := Ground.phase }, { on := 6, ground := Ground.phase }, { on := 7, ground := Ground.phase }, { on := 8, ground := Ground.phase }, { on := 9, ground := Ground.phase }, { on := 10, ground := Ground.phase }, { on := 11, ground := Ground.phase }, { on := 12, ground := Ground.phase }, { on := 13, ground := Ground.phase }, { on := 14, ground := Ground.phase }, { on := 15, ground := Ground.phase }, { on := 16, ground := Ground.phase }, { on := 17, ground := Ground.phase }, { on := 18, ground := Ground.phase }, { on := 19, ground := Ground.phase }, { on := 20, ground := Ground.phase }, { on := 21, ground := Ground.phase }, { on := 22, ground := Ground.phase }, { on := 23, ground := Ground.phase }, { on := 24, ground := Ground.phase }, { on := 25, ground := Ground.phase }, { on := 26, ground := Ground.phase }, { on := 27, ground := Ground.phase }, { on := 28, ground := Ground.phase }, { on := 29, ground := Ground.phase }, { on := 30, ground := Ground.phase }, { on := 31, ground := Ground.phase }, { on := 32, ground := Ground.phase }, { on := 33, ground := Ground.phase }], guard := none }) rfl (fun K hK => ?_)
            go_simp
            (try dsimp only)
            refine Shut.out hK _ _ ?_
            clear hK K
            (try simp only [Act.put, List.setIfInBounds_toArray, List.set_cons_zero, List.set_cons_succ])
            refine wpAny_done (by kernel_rfl) ?_ _
            go_wp2
            exact ⟨⟨k + 1, by omega, by go_num, by rw [← hQ2.out]; exact hQ⟩, by simp [intOf]; omega⟩
          · obtain rfl : k = 4 := by omega
            obtain ⟨g0, f0, l0⟩ := hYk.out.read 0 (by omega)
            obtain ⟨g1, f1, l1⟩ := hYk.out.read 1 (by omega)
            obtain ⟨g2, f2, l2⟩ := hYk.out.read 2 (by omega)
            obtain ⟨g3, f3, l3⟩ := hYk.out.read 3 (by omega)
            obtain ⟨g4, f4, l4⟩ := hYk.out.read 4 (by omega)
            obtain ⟨g5, f5, l5⟩ := hYk.out.read 5 (by omega)
            obtain ⟨g6, f6, l6⟩ := hYk.out.read 6 (by omega)
            obtain ⟨g7, f7, l7⟩ := hYk.out.read 7 (by omega)
            obtain ⟨g8, f8, l8⟩ := hYk.out.read 8 (by omega)
            obtain ⟨g9, f9, l9⟩ := hYk.out.read 9 (by omega)
            obtain ⟨g10, f10, l10⟩ := hYk.out.read 10 (by omega)
            obtain ⟨g11, f11, l11⟩ := hYk.out.read 11 (by omega)
            obtain ⟨g12, f12, l12⟩ := hYk.out.read 12 (by omega)
            obtain ⟨g13, f13, l13⟩ := hYk.out.read 13 (by omega)
            obtain ⟨g14, f14, l14⟩ := hYk.out.read 14 (by omega)
            obtain ⟨g15, f15, l15⟩ := hYk.out.read 15 (by omega)
            obtain ⟨a0, b0, c0, d0, hm0, hC0⟩ := mix_quiet _ _ _ _ l0 l5 l10 l15
            obtain ⟨a1, b1, c1, d1, hm1, hC1⟩ := mix_quiet _ _ _ _ l1 l6 l11 l12
            obtain ⟨a2, b2, c2, d2, hm2, hC2⟩ := mix_quiet _ _ _ _ l2 l7 l8 l13
            obtain ⟨a3, b3, c3, d3, hm3, hC3⟩ := mix_quiet _ _ _ _ l3 l4 l9 l14
            have hQ := Lib.hid (hYk.out.diag hm0.out hm1.out hm2.out hm3.out)
            have hQ2 : Hid (diagTo (colsTo y0 4) 4 = roundsTo x (i + 1)) := Lib.hid (by show _ = diagTo (colsTo (roundsTo x i) 4) 4; rw [← HY0.out])
            clear hm0 hm1 hm2 hm3
            generalize (colsTo y0 4).getD 0 0 = v0 at *
            generalize (colsTo y0 4).getD 1 0 = v1 at *
            generalize (colsTo y0 4).getD 2 0 = v2 at *
            generalize (colsTo y0 4).getD 3 0 = v3 at *
            generalize (colsTo y0 4).getD 4 0 = v4 at *
            generalize (colsTo y0 4).getD 5 0 = v5 at *
            generalize (colsTo y0 4).getD 6 0 = v6 at *
            generalize (colsTo y0 4).getD 7 0 = v7 at *
            generalize (colsTo y0 4).getD 8 0 = v8 at *
            generalize (colsTo y0 4).getD 9 0 = v9 at *
            generalize (colsTo y0 4).getD 10 0 = v10 at *
            generalize (colsTo y0 4).getD 11 0 = v11 at *
            generalize (colsTo y0 4).getD 12 0 = v12 at *
            generalize (colsTo y0 4).getD 13 0 = v13 at *
            generalize (colsTo y0 4).getD 14 0 = v14 at *
            generalize (colsTo y0 4).getD 15 0 = v15 at *
            go_wp2_with (first | ((with_reducible refine (hC0.out _).mono ?_); rintro _ _ ⟨rfl, rfl⟩) | ((with_reducible refine (hC1.out _).mono ?_); rintro _ _ ⟨rfl, rfl⟩) | ((with_reducible refine (hC2.out _).mono ?_); rintro _ _ ⟨rfl, rfl⟩) | ((with_reducible refine (hC3.out _).mono ?_); rintro _ _ ⟨rfl, rfl⟩))
            exact ⟨⟨i + 1, by omega, by go_num, by rw [← hQ2.out]; exact hQ⟩, by simp [intOf]; omega⟩

      · obtain rfl : i = 10 := by omega
        have i1 : ¬ (10 : Int) < 10 := by omega
        obtain ⟨y, hy⟩ : ∃ y, roundsTo x 10 = y := ⟨_, rfl⟩
        rw [hy] at hYi HBK
        clear hy
        have hYs : Y < wr.heap.size := hYi.out.2.1.lt
        have hO0 : Hid (BO w K N R X Y wr.heap.size key nonce x y (outTo y x 0) (wr.alloc (Obj.cells #[Value.int IntKind.u8 0, Value.int IntKind.u8 0, Value.int IntKind.u8 0, Value.int IntKind.u8 0, Value.int IntKind.u8 0, Value.int IntKind.u8 0, Value.int IntKind.u8 0, Value.int IntKind.u8 0, Value.int IntKind.u8 0, Value.int IntKind.u8 0, Value.int IntKind.u8 0, Value.int IntKind.u8 0, Value.int IntKind.u8 0, Value.int IntKind.u8 0, Value.int IntKind.u8 0, Value.int IntKind.u8 0, Value.int IntKind.u8 0, Value.int IntKind.u8 0, Value.int IntKind.u8 0, Value.int IntKind.u8 0, Value.int IntKind.u8 0, Value.int IntKind.u8 0, Value.int IntKind.u8 0, Value.int IntKind.u8 0, Value.int IntKind.u8 0, Value.int IntKind.u8 0, Value.int IntKind.u8 0, Value.int IntKind.u8 0, Value.int IntKind.u8 0, Value.int IntKind.u8 0, Value.int IntKind.u8 0, Value.int IntKind.u8 0, Value.int IntKind.u8 0, Value.int IntKind.u8 0, Value.int IntKind.u8 0, Value.int IntKind.u8 0, Value.int IntKind.u8 0, Value.int IntKind.u8 0, Value.int IntKind.u8 0, Value.int IntKind.u8 0, Value.int IntKind.u8 0, Value.int IntKind.u8 0, Value.int IntKind.u8 0, Value.int IntKind.u8 0, Value.int IntKind.u8 0, Value.int IntKind.u8 0, Value.int IntKind.u8 0, Value.int IntKind.u8 0, Value.int IntKind.u8 0, Value.int IntKind.u8 0, Value.int IntKind.u8 0, Value.int IntKind.u8 0, Value.int IntKind.u8 0, Value.int IntKind.u8 0, Value.int IntKind.u8 0, Value.int IntKind.u8 0, Value.int IntKind.u8 0, Value.int IntKind.u8 0, Value.int IntKind.u8 0, Value.int IntKind.u8 0, Value.int IntKind.u8 0, Value.int IntKind.u8 0, Value.int IntKind.u8 0, Value.int IntKind.u8 0] 28))) := Lib.hid (by
          obtain ⟨h1, h2, h3, h4⟩ := hYi.out
          exact ⟨⟨h1.keep ((Below.refl _ _).alloc (by omega) _), heap_keep h2, h3, h4⟩, by rw [outTo_zero]; exact heap_at wr _, by rw [outTo_zero]; simp, hYs⟩)
        obtain ⟨O, hO⟩ : ∃ O, wr.heap.size = O := ⟨_, rfl⟩
        rw [hO] at hO0
        go_wp2
        obtain ⟨wo, hwo⟩ : ∃ wo, wr.alloc (Obj.cells #[Value.int IntKind.u8 0, Value.int IntKind.u8 0, Value.int IntKind.u8 0, Value.int IntKind.u8 0, Value.int IntKind.u8 0, Value.int IntKind.u8 0, Value.int IntKind.u8 0, Value.int IntKind.u8 0, Value.int IntKind.u8 0, Value.int IntKind.u8 0, Value.int IntKind.u8 0, Value.int IntKind.u8 0, Value.int IntKind.u8 0, Value.int IntKind.u8 0, Value.int IntKind.u8 0, Value.int IntKind.u8 0, Value.int IntKind.u8 0, Value.int IntKind.u8 0, Value.int IntKind.u8 0, Value.int IntKind.u8 0, Value.int IntKind.u8 0, Value.int IntKind.u8 0, Value.int IntKind.u8 0, Value.int IntKind.u8 0, Value.int IntKind.u8 0, Value.int IntKind.u8 0, Value.int IntKind.u8 0, Value.int IntKind.u8 0, Value.int IntKind.u8 0, Value.int IntKind.u8 0, Value.int IntKind.u8 0, Value.int IntKind.u8 0, Value.int IntKind.u8 0, Value.int IntKind.u8 0, Value.int IntKind.u8 0, Value.int IntKind.u8 0, Value.int IntKind.u8 0, Value.int IntKind.u8 0, Value.int IntKind.u8 0, Value.int IntKind.u8 0, Value.int IntKind.u8 0, Value.int IntKind.u8 0, Value.int IntKind.u8 0, Value.int IntKind.u8 0, Value.int IntKind.u8 0, Value.int IntKind.u8 0, Value.int IntKind.u8 0, Value.int IntKind.u8 0, Value.int IntKind.u8 0, Value.int IntKind.u8 0, Value.int IntKind.u8 0, Value.int IntKind.u8 0, Value.int IntKind.u8 0, Value.int IntKind.u8 0, Value.int IntKind.u8 0, Value.int IntKind.u8 0, Value.int IntKind.u8 0, Value.int IntKind.u8 0, Value.int IntKind.u8 0, Value.int IntKind.u8 0, Value.int IntKind.u8 0, Value.int IntKind.u8 0, Value.int IntKind.u8 0, Value.int IntKind.u8 0] 28) = wo := ⟨_, rfl⟩
        rw [hwo] at hO0 ⊢
        clear hwo hO hYi hYs
        go_loopw [135] (fun nv wr => ∃ i : Nat, i ≤ 16 ∧ nv = .int .i64 i ∧ Hid (BO w K N R X Y O key nonce x y (outTo y x (4 * i)) wr)) (fun nv _ => 16 - (intOf nv).toNat)
        case atStart => exact ⟨0, by omega, rfl, hO0⟩
        case round =>
          obtain ⟨i, hi, rfl, hOi⟩ := hrel
          by_cases hlti : i < 16
          · have i2 : (i : Int) < 16 := by omega
            obtain ⟨g1, _, l1⟩ := hOi.out.1.read i hlti
            obtain ⟨g2, _, l2⟩ := hOi.out.1.1.read i hlti
            have hBA : Hid (∀ k, k < 4 → byteAt y x (4 * i + k) = UInt8.ofNat (add32 (y.getD i 0) (x.getD i 0) / 256 ^ k)) := Lib.hid (fun k hk => by
              unfold byteAt
              rw [show (4 * i + k) / 4 = i by omega, show (4 * i + k) % 4 = k by omega])
            generalize y.getD i 0 = vy at *
            generalize x.getD i 0 = vx at *
            obtain ⟨s, p1, p2, q1, r1⟩ := sum_nat vy vx
            obtain ⟨p, hp1, hp2, hp3⟩ : ∃ p : Nat, 4 * (i : Int) = (p : Int) ∧ IntKind.i64.wrap (p : Int) = (p : Int) ∧ 4 * i = p := ⟨4 * i, by omega, IntWalk.i64_in _ (by omega), rfl⟩
            have hp60 : p ≤ 60 := by omega
            go_wp2
            go_quiet (fail)
            go_wp2
            rw [hp3] at hOi hBA
            rw [r1.out] at hBA
            go_loopw [12, 145] (fun nv kv wj => ∃ k : Nat, k ≤ 4 ∧ nv = .int .u32 (s / 256 ^ k : Nat) ∧ kv = .int .i64 k ∧ Hid (BO w K N R X Y O key nonce x y (outTo y x (p + k)) wj)) (fun _ kv _ => 4 - (intOf kv).toNat)
            case atStart => exact ⟨0, by omega, by simp, rfl, Lib.hid (hOi.out.drewN nq)⟩
            case round =>
              obtain ⟨k, hk, rfl, rfl, hOk⟩ := hrel
              by_cases hltk : k < 4
              · have ik : (k : Int) < 4 := by omega
                obtain ⟨m, hm⟩ : ∃ m, s / 256 ^ k = m := ⟨_, rfl⟩
                have hml : m < 4294967296 := by rw [← hm]; exact Nat.lt_of_le_of_lt (Nat.div_le_self _ _) q1
                have hm2 : Hid (s / 256 ^ (k + 1) = m / 256) := Lib.hid (by rw [← hm, Nat.pow_succ, Nat.div_div_eq_div_mul])
                have hb0 := hBA.out k hltk
                rw [hm] at hb0 ⊢
                clear hm
                obtain ⟨b, hb1, hb2, hb3⟩ := byte_nat m
                rw [hb3.out] at hb0
                obtain ⟨q, hq1, hq2, hq3, hq4⟩ : ∃ q : Nat, (p : Int) + (k : Int) = (q : Int) ∧ IntKind.i64.wrap (q : Int) = (q : Int) ∧ q < 64 ∧ Hid (p + k = q) := ⟨p + k, by omega, IntWalk.i64_in _ (by omega), by omega, Lib.hid rfl⟩
                rw [hq4.out] at hb0 hOk
                have j1 : (q : Int) < 64 := by omega
                have hfin : Hid (BO w K N R X Y O key nonce x y (outTo y x (q + 1)) (wr.setCell ⟨O, q, none⟩ (.int .u8 (b.toNat : Nat)))) := Lib.hid (by
                  have := hOk.out.set q b
                  rw [← hb0, outTo_succ _ _ _ hq3] at this
                  rw [← hb0]
                  exact this)
                have hcl := hOk.out.2.1.cell q (by rw [hOk.out.2.2.1]; exact hq3)
                generalize (outTo y x q)[q]'(by rw [hOk.out.2.2.1]; exact hq3) = ob at hcl
                have hfr := hOk.out.2.1.free q
                clear hb0
                go_wp2
                exact ⟨⟨k + 1, by omega, by rw [hm2.out]; go_num, by go_num, by rw [show p + (k + 1) = q + 1 by have := hq4.out; omega]; exact hfin⟩, by simp [intOf]; omega⟩
              · obtain rfl : k = 4 := by omega
                have ik : ¬ (4 : Int) < 4 := by omega
                go_wp2
                exact ⟨⟨i + 1, by omega, by go_num, by rw [show 4 * (i + 1) = p + 4 by omega]; exact hOk⟩, by simp [intOf]; omega⟩
          · obtain rfl : i = 16 := by omega
            have i2 : ¬ (16 : Int) < 16 := by omega
            have hfin := hOi.out
            have hBK2 : Hid (blk key nonce count = outTo y x 64) := HBK
            obtain ⟨o, ho⟩ : ∃ o, outTo y x 64 = o := ⟨_, rfl⟩
            rw [ho] at hBK2
            rw [show 4 * 16 = 64 by rfl, ho] at hfin
            have HBO := Lib.hid hfin.2.1
            obtain ⟨r, hr, hr64⟩ := hfin.1.1.2.2.1
            have HRB := Lib.hid hr
            have ho64 := hfin.2.2.1
            have HSZ : Hid (some 64 = some (cells8 o).toArray.size) := Lib.hid (by simp [cells8_length, ho64])
            have HTH : Hid (wr.there R 0 (cells8 o).toArray.size) := Lib.hid (by have := hr.there; rw [hr64] at this; simpa [cells8_length, ho64] using this)
            have HRL : Hid (r.length = o.length) := Lib.hid (by rw [hr64, ho64])
            have HBW : Hid (Below K w wr ∧ K ≤ R) := Lib.hid ⟨hfin.1.1.2.2.2.2.2.1, by have := hfin.1.1.2.2.2.2.2.2; omega⟩
            clear hfin hr hr64 ho64 ho HBK hOi
            go_wp2_with (first
              | (refine wpList_load_row rfl 28 _ rfl O (by rfl) 28 (cells8 o).toArray (0, 0) _ HBO.out Try.underlying28 rfl (info64.trans HSZ.out) ?_)
              | (refine wpList_store_mid rfl 28 _ _ rfl R 0 (cells8 o).toArray (by rfl) (by rfl) HTH.out (info64.trans HSZ.out) (cells8_all o) ?_))
            refine bodyPost_ret (results_cell_row rfl _ _ R 28 (cells8 o).toArray (0, 0) _ (by rfl) (HRB.out.put HRL.out) Try.underlying28 rfl (info64.trans HSZ.out)) rfl ?_
            exact ⟨by rw [hBK2.out], below_setCells HBW.out.2 _ _ _ HBW.out.1⟩
end Go.Proofs.Ytogihaiedemdhaa

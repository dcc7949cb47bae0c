import Derived.Test.YtjjeoodcbffibaaT3
namespace Go.Proofs.Ytjjeoodcbffibaa
open Go.RowKit
set_option linter.unusedVariables false

theorem half_inj {x y : Nat} (hx : x < 4294967296) (hy : y < 4294967296) (h : half x = half y) : x = y := by
  have top : ∀ z : Nat, z < 2147483648 → (z ^^^ 2197175160).testBit 31 = true := by
    intro z hz
    rw [Nat.testBit_xor, Nat.testBit_lt_two_pow (i := 31) (by omega)]
    decide
  have low : ∀ z : Nat, z < 2147483648 → z.testBit 31 = false := fun z hz => Nat.testBit_lt_two_pow (by omega)
  have can : ∀ a b : Nat, a ^^^ 2197175160 = b ^^^ 2197175160 → a = b := by
    intro a b hab
    have h1 : (a ^^^ 2197175160) ^^^ 2197175160 = (b ^^^ 2197175160) ^^^ 2197175160 := by rw [hab]
    simpa [Nat.xor_assoc] using h1
  unfold half at h
  split at h <;> split at h
  · have := can _ _ h; omega
  · have h1 := top (x / 2) (by omega); rw [h, low _ (by omega)] at h1; cases h1
  · have h1 := top (y / 2) (by omega); rw [← h, low _ (by omega)] at h1; cases h1
  · omega
theorem halves_inj (n : Nat) {x y : Nat} (hx : x < 4294967296) (hy : y < 4294967296) (h : halves n x = halves n y) : x = y := by
  induction n with
  | zero => exact h
  | succ n ih => exact ih (half_inj (halves_lt _ _ hx) (halves_lt _ _ hy) h)
theorem byte_xor_lt {x : Nat} (c : UInt8) (hx : x < 4294967296) : x ^^^ c.toNat < 4294967296 :=
  Nat.xor_lt_two_pow (n := 32) hx (by have := c.toNat_lt; omega)
theorem feed_inj {x y : Nat} (c : UInt8) (hx : x < 4294967296) (hy : y < 4294967296) (h : feed x c = feed y c) : x = y := by
  have h1 := halves_inj 8 (byte_xor_lt c hx) (byte_xor_lt c hy) h
  have h2 : (x ^^^ c.toNat) ^^^ c.toNat = (y ^^^ c.toNat) ^^^ c.toNat := by rw [h1]
  simpa [Nat.xor_assoc] using h2
theorem feed_byte {x : Nat} {c d : UInt8} (hx : x < 4294967296) (h : feed x c = feed x d) : c = d := by
  have h1 := halves_inj 8 (byte_xor_lt c hx) (byte_xor_lt d hx) h
  have h2 : x ^^^ (x ^^^ c.toNat) = x ^^^ (x ^^^ d.toNat) := by rw [h1]
  rw [← Nat.xor_assoc, ← Nat.xor_assoc, Nat.xor_self, Nat.zero_xor, Nat.zero_xor] at h2
  exact UInt8.toNat_inj.1 h2
theorem feeds_inj (l : List UInt8) : ∀ {x y : Nat}, x < 4294967296 → y < 4294967296 → feeds x l = feeds y l → x = y := by
  induction l with
  | nil => intro x y _ _ h; exact h
  | cons c l ih => intro x y hx hy h; exact feed_inj c hx hy (ih (feed_lt _ _ hx) (feed_lt _ _ hy) h)
theorem feeds_append (x : Nat) (l m : List UInt8) : feeds x (l ++ m) = feeds (feeds x l) m := by simp [feeds, List.foldl_append]

theorem more_one (a b : Nat) (l : List UInt8) (ha : a < 4294967296) (hb : b < 4294967296) : more a l = more b l ↔ a = b := by
  constructor
  · intro h
    have h1 := feeds_lt l (4294967295 - a) (by omega)
    have h2 := feeds_lt l (4294967295 - b) (by omega)
    unfold more at h
    have := feeds_inj l (x := 4294967295 - a) (y := 4294967295 - b) (by omega) (by omega) (by omega)
    omega
  · rintro rfl; rfl
theorem more_append (l m : List UInt8) : more (more 0 l) m = more 0 (l ++ m) := by
  have h1 := feeds_lt l 4294967295 (by omega)
  unfold more
  rw [feeds_append]
  have : 4294967295 - (4294967295 - feeds (4294967295 - 0) l) = feeds (4294967295 - 0) l := by simp; omega
  rw [this]
theorem more_set (l : List UInt8) (k : Nat) (c : UInt8) (h : k < l.length) : more 0 (l.set k c) = more 0 l ↔ c = l[k] := by
  constructor
  · intro e
    have h1 := feeds_lt l 4294967295 (by omega)
    have h2 := feeds_lt (l.set k c) 4294967295 (by omega)
    unfold more at e
    have e2 : feeds 4294967295 (l.set k c) = feeds 4294967295 l := by simp at e; omega
    have s1 : l.set k c = l.take k ++ (c :: l.drop (k + 1)) := by rw [List.set_eq_take_append_cons_drop]; simp [h]
    have s2 : l = l.take k ++ (l[k] :: l.drop (k + 1)) := by simp
    have h3 := feeds_lt (l.take k) 4294967295 (by omega)
    rw [s1] at e2
    have e3 : feeds 4294967295 (l.take k ++ (c :: l.drop (k + 1))) = feeds 4294967295 (l.take k ++ (l[k] :: l.drop (k + 1))) := by rw [← s2]; exact e2
    rw [feeds_append, feeds_append] at e3
    exact feed_byte h3 (feeds_inj _ (feed_lt _ _ h3) (feed_lt _ _ h3) e3)
  · rintro rfl; simp

set_option maxHeartbeats 400000 in
theorem law_next (a b : Nat) (c : UInt8) (w : World) (ha : a < 4294967296) (hb : b < 4294967296) :
    Calls Try.prog 7 #[.int .u32 a, .int .u32 b, .int .u8 (c.toNat : Nat)] w fun e w' => e = .returned (.bool true) ∧ Below w.heap.size w w' := by
  have hm := more_one a b [c] ha hb
  have H1 := Lib.hid hm; clear hm
  go_enter Try.func7, Try.ntmps7
  go_wp2_with fail
  refine (shown_any _).mono ?_
  rintro e w1 ⟨rfl, hw1⟩
  go_wp2_with fail
  refine (more_any _ _ _ [c] _ ha (small_len _ (by simp)) (bytes_block [c] (heap_at' rfl) rfl)).mono ?_
  rintro e w' ⟨rfl, rfl⟩
  go_wp2_with fail
  refine (more_any _ _ _ [c] _ hb (small_len _ (by simp)) (bytes_block [c] (heap_at' (by simp)) rfl)).mono ?_
  rintro e w' ⟨rfl, rfl⟩
  go_wp2_with fail
  go_ret
  refine ⟨ret_bool ?_, (hw1.alloc hw1.size _).alloc (Nat.le_trans hw1.size (by simp)) _⟩
  exact eqs_iff H1.out
end Go.Proofs.Ytjjeoodcbffibaa

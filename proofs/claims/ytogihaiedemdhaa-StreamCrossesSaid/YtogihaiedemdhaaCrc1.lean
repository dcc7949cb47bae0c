import Derived.Test.YtogihaiedemdhaaBase
namespace Go.Proofs.Ytogihaiedemdhaa
open Go.RowKit
set_option linter.unusedVariables false

def half (x : Nat) : Nat := if x % 2 = 1 then (x / 2) ^^^ 2197175160 else x / 2
theorem half_lt (x : Nat) (h : x < 4294967296) : half x < 4294967296 := by
  unfold half; split
  · exact Nat.xor_lt_two_pow (n := 32) (by omega) (by omega)
  · omega
def halves : Nat → Nat → Nat
  | 0, x => x
  | n + 1, x => half (halves n x)
theorem halves_lt (n x : Nat) (h : x < 4294967296) : halves n x < 4294967296 := by
  induction n with
  | zero => exact h
  | succ n ih => exact half_lt _ ih

theorem ret_u32 {a b : Int} (h : a = b) : Ending.returned (.int .u32 a) = .returned (.int .u32 b) := by rw [h]

set_option maxHeartbeats 400000 in
theorem half_any (x : Nat) (w : World) (hx : x < 4294967296) :
    Calls Try.prog 36 #[.int .u32 x] w fun e w' => e = .returned (.int .u32 (half x)) ∧ w = w' := by
  by_cases h : x % 2 = 1
  · have h1 : ((x : Int) % 2 == 1) = true := by simp; omega
    have hv : bits BinOp.xor IntKind.u32 ((x : Int) / 2) 2197175160 = (half x : Int) := by
      unfold half; rw [if_pos h]; exact u32_xor_nat (x / 2) 2197175160 (by omega) (by omega)
    have HV := Lib.hid hv; clear hv
    go_enter Try.func36, Try.ntmps36
    go_wp2
    go_ret
    exact ⟨ret_u32 HV.out, rfl⟩
  · have h1 : ((x : Int) % 2 == 1) = false := by simp; omega
    go_enter Try.func36, Try.ntmps36
    go_wp2
    go_ret
    exact ⟨ret_u32 (by unfold half; rw [if_neg h]; omega), rfl⟩

theorem and1 (y : Nat) (h : y < 4294967296) : bits BinOp.and IntKind.u32 (y : Int) 1 = ((y % 2 : Nat) : Int) := by
  have := u32_and_nat y 1 h (by omega)
  rw [Nat.and_one_is_mod] at this; exact this

theorem nib_step (y : Nat) (h : y < 4294967296) :
    bits BinOp.xor IntKind.u32 ((y : Int) / 2) (bits BinOp.and IntKind.u32 2197175160 (-bits BinOp.and IntKind.u32 (y : Int) 1 % 4294967296)) = (half y : Nat) := by
  rw [and1 y h]
  unfold half
  by_cases e : y % 2 = 1
  · rw [if_pos e, e]
    have h1 : bits BinOp.and IntKind.u32 2197175160 (-((1 : Nat) : Int) % 4294967296) = ((2197175160 : Nat) : Int) := by decide +kernel
    rw [h1]
    exact u32_xor_nat (y / 2) 2197175160 (by omega) (by omega)
  · have e0 : y % 2 = 0 := by omega
    rw [if_neg e, e0]
    have h1 : bits BinOp.and IntKind.u32 2197175160 (-((0 : Nat) : Int) % 4294967296) = ((0 : Nat) : Int) := by decide +kernel
    rw [h1]
    have := u32_xor_nat (y / 2) 0 (by omega) (by omega)
    rw [Nat.xor_zero] at this; exact this

set_option maxHeartbeats 400000 in
theorem nib_any (x : Nat) (w : World) (hx : x < 4294967296) :
    Calls Try.prog 37 #[.int .u32 x] w fun e w' => e = .returned (.int .u32 (halves 4 x)) ∧ w = w' := by
  go_enter Try.func37, Try.ntmps37
  go_wp2
  go_loop [0, 3] (fun v i => ∃ k : Nat, k ≤ 4 ∧ v = .int .u32 (halves k x : Nat) ∧ i = .int .i64 k) (fun _ i => 4 - (intOf i).toNat)
  case atStart => exact ⟨0, by omega, rfl, rfl⟩
  case round =>
    obtain ⟨k, hk, rfl, rfl⟩ := hrel
    have hb := halves_lt k x hx
    by_cases hlt : k < 4
    · go_wp2
      have hv : bits BinOp.xor IntKind.u32 (↑(halves k x) / 2) (bits BinOp.and IntKind.u32 2197175160 (-bits BinOp.and IntKind.u32 (↑(halves k x)) 1 % 4294967296)) = (halves (k + 1) x : Nat) := nib_step _ hb
      refine ⟨⟨k + 1, by omega, by rw [hv], by go_num⟩, by simp [intOf]; omega⟩
    · obtain rfl : k = 4 := by omega
      go_wp2
      go_ret
      exact ⟨rfl, rfl⟩

def feed (x : Nat) (c : UInt8) : Nat := halves 8 (x ^^^ c.toNat)
def feeds (x : Nat) (l : List UInt8) : Nat := l.foldl feed x
theorem feed_lt (x : Nat) (c : UInt8) (h : x < 4294967296) : feed x c < 4294967296 :=
  halves_lt _ _ (Nat.xor_lt_two_pow (n := 32) h (by have := c.toNat_lt; omega))
theorem feeds_lt (l : List UInt8) : ∀ x, x < 4294967296 → feeds x l < 4294967296 := by
  induction l with
  | nil => intro x h; exact h
  | cons c l ih => intro x h; exact ih _ (feed_lt x c h)
def more (s : Nat) (l : List UInt8) : Nat := 4294967295 - feeds (4294967295 - s) l

theorem nib_at (v : Int) (x : Nat) (w : World) (hv : v = x) (hx : x < 4294967296) :
    Calls Try.prog 37 #[.int .u32 v] w fun e w' => e = .returned (.int .u32 (halves 4 x)) ∧ w = w' := by
  subst hv; exact nib_any x w hx

theorem halves_add (m n x : Nat) : halves m (halves n x) = halves (m + n) x := by
  induction m with
  | zero => simp [halves]
  | succ m ih => rw [show m + 1 + n = (m + n) + 1 by omega]; simp only [halves, ih]

theorem feeds_snoc (x : Nat) (l : List UInt8) (k : Nat) (h : k < l.length) : feeds x (l.take (k + 1)) = feed (feeds x (l.take k)) l[k] := by
  rw [List.take_succ_eq_append_getElem h]; simp only [feeds, List.foldl_append, List.foldl_cons, List.foldl_nil]

theorem not32 (s : Nat) (h : s < 4294967296) : bits BinOp.xor IntKind.u32 IntKind.u32.max (s : Int) = ((4294967295 - s : Nat) : Int) := by
  have e : IntKind.u32.max = ((4294967295 : Nat) : Int) := by decide +kernel
  rw [e, u32_xor_nat 4294967295 s (by omega) h]
  have : (4294967295 - s : Nat) = 4294967295 ^^^ s := by
    have h2 : (4294967295 - s) = (~~~ (BitVec.ofNat 32 s)).toNat := by
      rw [BitVec.toNat_not]; simp; omega
    have h3 : (~~~ (BitVec.ofNat 32 s)) = (BitVec.ofNat 32 4294967295) ^^^ BitVec.ofNat 32 s := by
      rw [show BitVec.ofNat 32 4294967295 = BitVec.allOnes 32 by decide]; exact BitVec.not_def
    rw [h2, h3, BitVec.toNat_xor]; simp
    rw [Nat.mod_eq_of_lt h]
  rw [this]

theorem ret_u32' {a : Int} {b : Nat} (h : a = b) : Ending.returned (.int .u32 a) = .returned (.int .u32 b) := by rw [h]

set_option maxHeartbeats 400000 in
theorem more_any (s : Nat) (a : Option Addr) (cap : Nat) (l : List UInt8) (w : World) (hs : s < 4294967296) (hl : l.length ≤ maxLen) (hb : Bytes w a l) :
    Calls Try.prog 35 #[.int .u32 s, .slice a l.length cap] w fun e w' => e = .returned (.int .u32 (more s l)) ∧ w = w' := by
  unfold maxLen at hl
  go_enter Try.func35, Try.ntmps35
  go_wp2
  go_loop [5, 12] (fun v i => ∃ k : Nat, k ≤ l.length ∧ v = .int .u32 (feeds (4294967295 - s) (l.take k) : Nat) ∧ i = .int .i64 k) (fun _ i => l.length - (intOf i).toNat)
  case atStart => exact ⟨0, by omega, by rw [not32 s hs]; rfl, rfl⟩
  case round =>
    obtain ⟨k, hk, rfl, rfl⟩ := hrel
    have hx := feeds_lt (l.take k) (4294967295 - s) (by omega)
    by_cases hlt : k < l.length
    · obtain ⟨b, off, rfl, hc⟩ := hb k hlt
      have hcb := (l[k]).toNat_lt
      go_wp2_with fail
      refine (nib_at _ (feeds (4294967295 - s) (l.take k) ^^^ l[k].toNat) _ (u32_xor_nat _ _ hx (by omega)) (Nat.xor_lt_two_pow (n := 32) hx (by omega))).mono ?_
      rintro e w' ⟨rfl, rfl⟩
      go_wp2_with fail
      refine (nib_at _ _ _ rfl (halves_lt _ _ (Nat.xor_lt_two_pow (n := 32) hx (by omega)))).mono ?_
      rintro e w' ⟨rfl, rfl⟩
      go_wp2_with fail
      refine ⟨⟨k + 1, by omega, ?_, by go_num⟩, by simp [intOf]; omega⟩
      rw [halves_add, feeds_snoc _ _ _ hlt]; rfl
    · obtain rfl : k = l.length := by omega
      rw [List.take_length] at *
      go_wp2
      go_ret
      exact ⟨ret_u32' (not32 _ hx), rfl⟩
end Go.Proofs.Ytogihaiedemdhaa

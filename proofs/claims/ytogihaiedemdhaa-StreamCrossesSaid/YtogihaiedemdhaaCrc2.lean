import Derived.Test.YtogihaiedemdhaaCrc1
namespace Go.Proofs.Ytogihaiedemdhaa
open Go.RowKit
set_option linter.unusedVariables false

def sums (s : Nat) (ls : List (List UInt8)) : Nat := ls.foldl more s
theorem more_lt (s : Nat) (l : List UInt8) : more s l < 4294967296 := by unfold more; omega
theorem sums_lt (ls : List (List UInt8)) : ∀ s, s < 4294967296 → sums s ls < 4294967296 := by
  induction ls with
  | nil => intro s h; exact h
  | cons c l ih => intro s h; exact ih _ (more_lt s c)
theorem sums_snoc (x : Nat) (l : List (List UInt8)) (k : Nat) (h : k < l.length) : sums x (l.take (k + 1)) = more (sums x (l.take k)) l[k] := by
  rw [List.take_succ_eq_append_getElem h]; simp only [sums, List.foldl_append, List.foldl_cons, List.foldl_nil]

set_option maxHeartbeats 400000 in
theorem sum_any (a : Option Addr) (cap : Nat) (ls : List (List UInt8)) (w : World) (hl : ls.length ≤ maxLen) (hb : ByteRows w a ls) :
    Calls Try.prog 31 #[.slice a ls.length cap] w fun e w' => e = .returned (.int .u32 (sums 0 ls)) ∧ w = w' := by
  unfold maxLen at hl
  go_enter Try.func31, Try.ntmps31
  go_wp2
  go_loop [3, 8] (fun v i => ∃ k : Nat, k ≤ ls.length ∧ v = .int .u32 (sums 0 (ls.take k) : Nat) ∧ i = .int .i64 k) (fun _ i => ls.length - (intOf i).toNat)
  case atStart => exact ⟨0, by omega, rfl, rfl⟩
  case round =>
    obtain ⟨k, hk, rfl, rfl⟩ := hrel
    have hx := sums_lt (ls.take k) 0 (by omega)
    by_cases hlt : k < ls.length
    · obtain ⟨b, off, x, cap', rfl, hc, hm, hbb⟩ := hb k hlt
      go_wp2_with fail
      refine (more_any _ _ _ _ _ hx hm hbb).mono ?_
      rintro e w' ⟨rfl, rfl⟩
      go_wp2_with fail
      refine ⟨⟨k + 1, by omega, ?_, by go_num⟩, by simp [intOf]; omega⟩
      rw [sums_snoc _ _ _ hlt]
    · obtain rfl : k = ls.length := by omega
      rw [List.take_length] at *
      go_wp2
      go_ret
      exact ⟨rfl, rfl⟩

set_option maxHeartbeats 400000 in
theorem ref_any (s : Nat) (a : Option Addr) (cap : Nat) (l : List UInt8) (w : World) (hs : s < 4294967296) (hl : l.length ≤ maxLen) (hb : Bytes w a l) :
    Calls Try.prog 34 #[.int .u32 s, .slice a l.length cap] w fun e w' => e = .returned (.int .u32 (more s l)) ∧ w = w' := by
  unfold maxLen at hl
  go_enter Try.func34, Try.ntmps34
  go_wp2
  go_loop [5, 6] (fun v i => ∃ k : Nat, k ≤ l.length ∧ v = .int .u32 (feeds (4294967295 - s) (l.take k) : Nat) ∧ i = .int .i64 k) (fun _ i => l.length - (intOf i).toNat)
  case atStart => exact ⟨0, by omega, by simp [feeds]; omega, rfl⟩
  case round =>
    obtain ⟨k, hk, rfl, rfl⟩ := hrel
    have hx := feeds_lt (l.take k) (4294967295 - s) (by omega)
    by_cases hlt : k < l.length
    · obtain ⟨b, off, rfl, hc⟩ := hb k hlt
      have hcb := (l[k]).toNat_lt
      go_wp2_with fail
      have hy : feeds (4294967295 - s) (List.take k l) ^^^ l[k].toNat < 4294967296 := Nat.xor_lt_two_pow (n := 32) hx (by omega)
      rw [u32_xor_nat _ _ hx (by omega)]
      go_loop [5, 7] (fun v i => ∃ j : Nat, j ≤ 8 ∧ v = .int .u32 (halves j (feeds (4294967295 - s) (List.take k l) ^^^ l[k].toNat) : Nat) ∧ i = .int .i64 j) (fun _ i => 8 - (intOf i).toNat)
      case atStart => exact ⟨0, by omega, rfl, rfl⟩
      case round =>
        obtain ⟨j, hj, rfl, rfl⟩ := hrel
        by_cases hlt8 : j < 8
        · go_wp2_with fail
          refine (half_any _ _ (halves_lt j _ hy)).mono ?_
          rintro e w' ⟨rfl, rfl⟩
          go_wp2_with fail
          exact ⟨⟨j + 1, by omega, rfl, by go_num⟩, by simp [intOf]; omega⟩
        · obtain rfl : j = 8 := by omega
          go_wp2_with fail
          refine ⟨⟨k + 1, by omega, ?_, by go_num⟩, by simp [intOf]; omega⟩
          rw [feeds_snoc _ _ _ hlt]; rfl
    · obtain rfl : k = l.length := by omega
      rw [List.take_length] at *
      go_wp2
      go_ret
      exact ⟨ret_u32' (by unfold more; omega), rfl⟩


def rot (x k : Nat) : Nat := x % 2 ^ (32 - k) * 2 ^ k + x / 2 ^ (32 - k)
def mask (n : Nat) : Nat := (rot n 17 + 2726488792) % 4294967296
def unmask (n : Nat) : Nat := rot ((n + (4294967296 - 2726488792)) % 4294967296) 15

theorem rot17_or (x : Nat) (hx : x < 4294967296) : bits BinOp.or IntKind.u32 ((x : Int) * 131072 % 4294967296) ((x : Int) / 32768) = (rot x 17 : Nat) := by
  have h1 : (x : Int) * 131072 % 4294967296 = ((131072 * (x % 32768) : Nat) : Int) := by omega
  have h2 : (x : Int) / 32768 = ((x / 32768 : Nat) : Int) := by omega
  rw [h1, h2, u32_or_nat _ _ (by omega) (by omega)]
  have := Nat.two_pow_add_eq_or_of_lt (i := 17) (b := x / 32768) (by omega) (x % 32768)
  have e : rot x 17 = 131072 * (x % 32768) + x / 32768 := by unfold rot; omega
  rw [e]; rw [show (131072 : Nat) = 2 ^ 17 by rfl, this]

theorem rot15_or (x : Nat) (hx : x < 4294967296) : bits BinOp.or IntKind.u32 ((x : Int) * 32768 % 4294967296) ((x : Int) / 131072) = (rot x 15 : Nat) := by
  have h1 : (x : Int) * 32768 % 4294967296 = ((32768 * (x % 131072) : Nat) : Int) := by omega
  have h2 : (x : Int) / 131072 = ((x / 131072 : Nat) : Int) := by omega
  rw [h1, h2, u32_or_nat _ _ (by omega) (by omega)]
  have := Nat.two_pow_add_eq_or_of_lt (i := 15) (b := x / 131072) (by omega) (x % 131072)
  have e : rot x 15 = 32768 * (x % 131072) + x / 131072 := by unfold rot; omega
  rw [e]; rw [show (32768 : Nat) = 2 ^ 15 by rfl, this]

set_option maxHeartbeats 400000 in
theorem rot17_any (v : Int) (x : Nat) (w : World) (hv : v = x) (hx : x < 4294967296) :
    Calls Try.prog 32 #[.int .u32 v, .int .i64 17] w fun e w' => e = .returned (.int .u32 (rot x 17)) ∧ w = w' := by
  subst hv
  have hk : bits BinOp.and .u64 17 31 = 17 := by decide +kernel
  go_enter Try.func32, Try.ntmps32
  go_wp2
  go_ret
  exact ⟨ret_u32' (rot17_or x hx), rfl⟩

set_option maxHeartbeats 400000 in
theorem rot15_any (v : Int) (x : Nat) (w : World) (hv : v = x) (hx : x < 4294967296) :
    Calls Try.prog 32 #[.int .u32 v, .int .i64 15] w fun e w' => e = .returned (.int .u32 (rot x 15)) ∧ w = w' := by
  subst hv
  have hk : bits BinOp.and .u64 15 31 = 15 := by decide +kernel
  go_enter Try.func32, Try.ntmps32
  go_wp2
  go_ret
  exact ⟨ret_u32' (rot15_or x hx), rfl⟩

end Go.Proofs.Ytogihaiedemdhaa

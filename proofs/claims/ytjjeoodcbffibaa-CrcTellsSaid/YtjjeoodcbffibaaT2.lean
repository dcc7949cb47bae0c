import Derived.Test.YtjjeoodcbffibaaT1
namespace Go.Proofs.Ytjjeoodcbffibaa
open Go.RowKit
set_option linter.unusedVariables false

def sums (s : Nat) (ls : List (List UInt8)) : Nat := ls.foldl more s
theorem more_lt (s : Nat) (l : List UInt8) : more s l < 4294967296 := by unfold more; omega
theorem sums_lt (ls : List (List UInt8)) : ∀ s, s < 4294967296 → sums s ls < 4294967296 := by
  induction ls with
  | nil => intro s h; exact h
  | cons c l ih => intro s h; exact ih _ (more_lt s c)
theorem sums_snoc (x : Nat) (l : List (List UInt8)) (k : Nat) (h : k < l.length) : sums x (l.take (k + 1)) = more (sums x (l.take k)) l[k] := by
  rw [List.take_succ_eq_append_getElem h]; simp only [sums, List.foldl_append, List.foldl_cons, List.foldl_nil]

set_option maxHeartbeats 400000 in
theorem sum_any (a : Option Addr) (cap : Nat) (ls : List (List UInt8)) (w : World) (hl : ls.length ≤ maxLen) (hb : ByteRows w a ls) :
    Calls Try.prog 12 #[.slice a ls.length cap] w fun e w' => e = .returned (.int .u32 (sums 0 ls)) ∧ w = w' := by
  unfold maxLen at hl
  go_enter Try.func12, Try.ntmps12
  go_wp2
  go_loop [3, 8] (fun v i => ∃ k : Nat, k ≤ ls.length ∧ v = .int .u32 (sums 0 (ls.take k) : Nat) ∧ i = .int .i64 k) (fun _ i => ls.length - (intOf i).toNat)
  case atStart => exact ⟨0, by omega, rfl, rfl⟩
  case round =>
    obtain ⟨k, hk, rfl, rfl⟩ := hrel
    have hx := sums_lt (ls.take k) 0 (by omega)
    by_cases hlt : k < ls.length
    · obtain ⟨b, off, x, cap', rfl, hc, hm, hbb⟩ := hb k hlt
      go_wp2_with fail
      refine (more_any _ _ _ _ _ hx hm hbb).mono ?_
      rintro e w' ⟨rfl, rfl⟩
      go_wp2_with fail
      refine ⟨⟨k + 1, by omega, ?_, by go_num⟩, by simp [intOf]; omega⟩
      rw [sums_snoc _ _ _ hlt]
    · obtain rfl : k = ls.length := by omega
      rw [List.take_length] at *
      go_wp2
      go_ret
      exact ⟨rfl, rfl⟩

set_option maxHeartbeats 400000 in
theorem ref_any (s : Nat) (a : Option Addr) (cap : Nat) (l : List UInt8) (w : World) (hs : s < 4294967296) (hl : l.length ≤ maxLen) (hb : Bytes w a l) :
    Calls Try.prog 11 #[.int .u32 s, .slice a l.length cap] w fun e w' => e = .returned (.int .u32 (more s l)) ∧ w = w' := by
  unfold maxLen at hl
  go_enter Try.func11, Try.ntmps11
  go_wp2
  go_loop [5, 6] (fun v i => ∃ k : Nat, k ≤ l.length ∧ v = .int .u32 (feeds (4294967295 - s) (l.take k) : Nat) ∧ i = .int .i64 k) (fun _ i => l.length - (intOf i).toNat)
  case atStart => exact ⟨0, by omega, by simp [feeds]; omega, rfl⟩
  case round =>
    obtain ⟨k, hk, rfl, rfl⟩ := hrel
    have hx := feeds_lt (l.take k) (4294967295 - s) (by omega)
    by_cases hlt : k < l.length
    · obtain ⟨b, off, rfl, hc⟩ := hb k hlt
      have hcb := (l[k]).toNat_lt
      go_wp2_with fail
      have hy : feeds (4294967295 - s) (List.take k l) ^^^ l[k].toNat < 4294967296 := Nat.xor_lt_two_pow (n := 32) hx (by omega)
      rw [u32_xor_nat _ _ hx (by omega)]
      go_loop [5, 7] (fun v i => ∃ j : Nat, j ≤ 8 ∧ v = .int .u32 (halves j (feeds (4294967295 - s) (List.take k l) ^^^ l[k].toNat) : Nat) ∧ i = .int .i64 j) (fun _ i => 8 - (intOf i).toNat)
      case atStart => exact ⟨0, by omega, rfl, rfl⟩
      case round =>
        obtain ⟨j, hj, rfl, rfl⟩ := hrel
        by_cases hlt8 : j < 8
        · go_wp2_with fail
          refine (half_any _ _ (halves_lt j _ hy)).mono ?_
          rintro e w' ⟨rfl, rfl⟩
          go_wp2_with fail
          exact ⟨⟨j + 1, by omega, rfl, by go_num⟩, by simp [intOf]; omega⟩
        · obtain rfl : j = 8 := by omega
          go_wp2_with fail
          refine ⟨⟨k + 1, by omega, ?_, by go_num⟩, by simp [intOf]; omega⟩
          rw [feeds_snoc _ _ _ hlt]; rfl
    · obtain rfl : k = l.length := by omega
      rw [List.take_length] at *
      go_wp2
      go_ret
      exact ⟨ret_u32' (by unfold more; omega), rfl⟩


theorem kc_at (w : World) (C : Array Value) (n c b : Nat) (hb : w.heap.size = b) :
    Sem.run Try.prog (convert 23 23 (.slice (some ⟨b, 0, none⟩) n c)) (w.alloc (.cells C 5)) = .ok (.slice (some ⟨b, 0, none⟩) n c) (w.alloc (.cells C 5 (C.size, C.size + 1))) := by
  subst hb; exact Lib.run_convert_bytes_const (P := Try.prog) w 23 5 C n c Try.underlying23 Try.underlying5

theorem four_le (n : Nat) (h : n ≤ 5) : n ≤ maxLen := by unfold maxLen; omega

theorem shown_rows (w : World) : ByteRows (((w.alloc (Obj.cells #[Value.int IntKind.u8 49, Value.int IntKind.u8 50, Value.int IntKind.u8 51, Value.int IntKind.u8 52] 5 (4, 5))).alloc
          (Obj.cells #[Value.int IntKind.u8 53, Value.int IntKind.u8 54, Value.int IntKind.u8 55, Value.int IntKind.u8 56, Value.int IntKind.u8 57] 5 (5, 6))).alloc
      (Obj.cells #[Value.slice (some { block := w.heap.size, off := 0 }) 4 4, Value.slice (some { block := w.heap.size + 1, off := 0 }) 5 5] 23)) (some ⟨w.heap.size + 1 + 1, 0, none⟩) [[49, 50, 51, 52], [53, 54, 55, 56, 57]] := by
  refine rows_block _ (heap_at' (by simp)) ?_
  intro i hi
  match i, hi with
  | 0, _ => exact ⟨_, _, rfl, four_le _ (by simp), bytes_block _ (heap_keep (heap_keep (heap_at' rfl))) rfl⟩
  | 1, _ => exact ⟨_, _, rfl, four_le _ (by simp), bytes_block _ (heap_keep (heap_at' (by simp))) rfl⟩


def rot (x k : Nat) : Nat := x % 2 ^ (32 - k) * 2 ^ k + x / 2 ^ (32 - k)
def mask (n : Nat) : Nat := (rot n 17 + 2726488792) % 4294967296
def unmask (n : Nat) : Nat := rot ((n + (4294967296 - 2726488792)) % 4294967296) 15

theorem rot17_or (x : Nat) (hx : x < 4294967296) : bits BinOp.or IntKind.u32 ((x : Int) * 131072 % 4294967296) ((x : Int) / 32768) = (rot x 17 : Nat) := by
  have h1 : (x : Int) * 131072 % 4294967296 = ((131072 * (x % 32768) : Nat) : Int) := by omega
  have h2 : (x : Int) / 32768 = ((x / 32768 : Nat) : Int) := by omega
  rw [h1, h2, u32_or_nat _ _ (by omega) (by omega)]
  have := Nat.two_pow_add_eq_or_of_lt (i := 17) (b := x / 32768) (by omega) (x % 32768)
  have e : rot x 17 = 131072 * (x % 32768) + x / 32768 := by unfold rot; omega
  rw [e]; rw [show (131072 : Nat) = 2 ^ 17 by rfl, this]

theorem rot15_or (x : Nat) (hx : x < 4294967296) : bits BinOp.or IntKind.u32 ((x : Int) * 32768 % 4294967296) ((x : Int) / 131072) = (rot x 15 : Nat) := by
  have h1 : (x : Int) * 32768 % 4294967296 = ((32768 * (x % 131072) : Nat) : Int) := by omega
  have h2 : (x : Int) / 131072 = ((x / 131072 : Nat) : Int) := by omega
  rw [h1, h2, u32_or_nat _ _ (by omega) (by omega)]
  have := Nat.two_pow_add_eq_or_of_lt (i := 15) (b := x / 131072) (by omega) (x % 131072)
  have e : rot x 15 = 32768 * (x % 131072) + x / 131072 := by unfold rot; omega
  rw [e]; rw [show (32768 : Nat) = 2 ^ 15 by rfl, this]

set_option maxHeartbeats 400000 in
theorem rot17_any (v : Int) (x : Nat) (w : World) (hv : v = x) (hx : x < 4294967296) :
    Calls Try.prog 19 #[.int .u32 v, .int .i64 17] w fun e w' => e = .returned (.int .u32 (rot x 17)) ∧ w = w' := by
  subst hv
  have hk : bits BinOp.and .u64 17 31 = 17 := by decide +kernel
  go_enter Try.func19, Try.ntmps19
  go_wp2
  go_ret
  exact ⟨ret_u32' (rot17_or x hx), rfl⟩

set_option maxHeartbeats 400000 in
theorem rot15_any (v : Int) (x : Nat) (w : World) (hv : v = x) (hx : x < 4294967296) :
    Calls Try.prog 19 #[.int .u32 v, .int .i64 15] w fun e w' => e = .returned (.int .u32 (rot x 15)) ∧ w = w' := by
  subst hv
  have hk : bits BinOp.and .u64 15 31 = 15 := by decide +kernel
  go_enter Try.func19, Try.ntmps19
  go_wp2
  go_ret
  exact ⟨ret_u32' (rot15_or x hx), rfl⟩

set_option maxHeartbeats 400000 in
theorem mask_any (x : Nat) (w : World) (hx : x < 4294967296) :
    Calls Try.prog 13 #[.int .u32 x] w fun e w' => e = .returned (.int .u32 (mask x)) ∧ w = w' := by
  go_enter Try.func13, Try.ntmps13
  go_wp2_with fail
  refine (rot17_any _ x _ rfl hx).mono ?_
  rintro e w' ⟨rfl, rfl⟩
  go_wp2_with fail
  go_ret
  exact ⟨ret_u32' (by unfold mask; omega), rfl⟩

set_option maxHeartbeats 400000 in
theorem unmask_any (x : Nat) (w : World) (hx : x < 4294967296) :
    Calls Try.prog 15 #[.int .u32 x] w fun e w' => e = .returned (.int .u32 (unmask x)) ∧ w = w' := by
  go_enter Try.func15, Try.ntmps15
  go_wp2_with fail
  refine (rot15_any _ ((x + (4294967296 - 2726488792)) % 4294967296) _ (by omega) (by omega)).mono ?_
  rintro e w' ⟨rfl, rfl⟩
  go_wp2_with fail
  go_ret
  exact ⟨rfl, rfl⟩

set_option maxHeartbeats 400000 in
theorem rmask_any (x : Nat) (w : World) (hx : x < 4294967296) :
    Calls Try.prog 14 #[.int .u32 x] w fun e w' => e = .returned (.int .u32 (mask x)) ∧ w = w' := by
  go_enter Try.func14, Try.ntmps14
  go_wp2_with fail
  go_ret
  exact ⟨ret_u32' (by unfold mask rot; omega), rfl⟩

set_option maxHeartbeats 400000 in
theorem runmask_any (x : Nat) (w : World) (hx : x < 4294967296) :
    Calls Try.prog 16 #[.int .u32 x] w fun e w' => e = .returned (.int .u32 (unmask x)) ∧ w = w' := by
  go_enter Try.func16, Try.ntmps16
  go_wp2_with fail
  go_ret
  exact ⟨ret_u32' (by unfold unmask rot; omega), rfl⟩

set_option maxHeartbeats 400000 in
theorem shown_any (w : World) : Calls Try.prog 9 #[] w fun e w' => e = .returned (.bool true) ∧ Below w.heap.size w w' := by
  have kc := kc_at
  have s1 : sums 0 [[49, 50, 51, 52], [53, 54, 55, 56, 57]] = 3808858755 := by decide +kernel
  have s2 : more 0 [0] = 1383945041 := by decide +kernel
  have s3 : mask 0 = 2726488792 := by decide +kernel
  have H1 := Lib.hid s1; clear s1
  have H2 := Lib.hid s2; clear s2
  have H3 := Lib.hid s3; clear s3
  go_enter Try.func9, Try.ntmps9
  go_wp2_with fail
  refine (sum_any _ _ [[49, 50, 51, 52], [53, 54, 55, 56, 57]] _ (by decide) (shown_rows w)).mono ?_
  rintro e w' ⟨rfl, rfl⟩
  rw [H1.out]
  go_wp2_with fail
  refine (mask_any 0 _ (by omega)).mono ?_
  rintro e w' ⟨rfl, rfl⟩
  rw [H3.out]
  go_wp2_with fail
  refine (more_any 0 _ _ [0] _ (by omega) (by decide) (bytes_block [0] (heap_at' (by simp)) rfl)).mono ?_
  rintro e w' ⟨rfl, rfl⟩
  rw [H2.out]
  go_wp2_with fail
  go_ret
  exact ⟨rfl, ((((Below.refl _ _).alloc (Nat.le_refl _) _).alloc (by simp) _).alloc (by simp; omega) _).alloc (by simp; omega) _⟩
end Go.Proofs.Ytjjeoodcbffibaa

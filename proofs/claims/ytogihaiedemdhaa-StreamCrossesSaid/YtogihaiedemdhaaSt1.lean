/-
  The stream's quarter, plainly; rotations; mix.
-/
import Derived.Test.YtogihaiedemdhaaBl4
namespace Go.Proofs.Ytogihaiedemdhaa
open Go.RowKit
set_option linter.unusedVariables false

def add32 (x y : Nat) : Nat := (x + y) % 4294967296
theorem add32_lt (x y : Nat) : add32 x y < 4294967296 := Nat.mod_lt _ (by omega)
/-- The words that stand behind one quarter. -/
def mixF (a b c d : Nat) : Nat × Nat × Nat × Nat :=
  let a1 := add32 a b
  let d1 := rot (d ^^^ a1) 16
  let c1 := add32 c d1
  let b1 := rot (b ^^^ c1) 12
  let a2 := add32 a1 b1
  let d2 := rot (d1 ^^^ a2) 8
  let c2 := add32 c1 d2
  let b2 := rot (b1 ^^^ c2) 7
  (a2, b2, c2, d2)

theorem rot16_or (x : Nat) (hx : x < 4294967296) : bits BinOp.or IntKind.u32 ((x : Int) * 65536 % 4294967296) ((x : Int) / 65536) = (rot x 16 : Nat) := by
  have h1 : (x : Int) * 65536 % 4294967296 = ((65536 * (x % 65536) : Nat) : Int) := by omega
  have h2 : (x : Int) / 65536 = ((x / 65536 : Nat) : Int) := by omega
  rw [h1, h2, u32_or_nat _ _ (by omega) (by omega)]
  have := Nat.two_pow_add_eq_or_of_lt (i := 16) (b := x / 65536) (by omega) (x % 65536)
  have e : rot x 16 = 65536 * (x % 65536) + x / 65536 := by unfold rot; omega
  rw [e]; rw [show (65536 : Nat) = 2 ^ 16 by rfl, this]
theorem rot16_lt (x : Nat) (hx : x < 4294967296) : rot x 16 < 4294967296 := by unfold rot; omega

set_option maxHeartbeats 400000 in
theorem rot16_any (v : Int) (x : Nat) (w : World) (hv : v = x) (hx : x < 4294967296) :
    Calls Try.prog 32 #[.int .u32 v, .int .i64 16] w fun e w' => e = .returned (.int .u32 (rot x 16)) ∧ w = w' := by
  subst hv
  have hk : bits BinOp.and .u64 16 31 = 16 := by decide +kernel
  go_enter Try.func32, Try.ntmps32
  go_wp2
  go_ret
  exact ⟨ret_u32' (rot16_or x hx), rfl⟩

set_option maxHeartbeats 400000 in
theorem turn16_any (v : Int) (x : Nat) (w : World) (hv : v = x) (hx : x < 4294967296) :
    Calls Try.prog 33 #[.int .u32 v, .int .i64 16] w fun e w' => e = .returned (.int .u32 (rot x 16)) ∧ ∃ n, w' = w.drewN n := by
  subst hv
  obtain ⟨p, hp1, hp2⟩ : ∃ p : Nat, IntKind.u32.wrap ((x : Int) * 65536) = (p : Int) ∧ (x : Int) * 65536 % 4294967296 = (p : Int) := ⟨(x * 65536) % 4294967296, by rw [IntKind.wrap_u32]; omega, by omega⟩
  obtain ⟨q, hq1⟩ : ∃ q : Nat, (x : Int) / 65536 = (q : Int) := ⟨x / 65536, by omega⟩
  have hor := rot16_or x hx
  rw [hp2, hq1] at hor
  have hs1 : Op.shift BinOp.shl IntKind.u32 (x : Int) IntKind.i64 16 = pure (.int .u32 (p : Int)) := by
    refine (shift_shl .u32 .i64 (x : Int) 16 (by omega) (by decide)).trans ?_
    rw [show (2 : Int) ^ (((16 : Int)).toNat) = 65536 by rfl, hp1]
  have hs2 : Op.shift BinOp.shr IntKind.u32 (x : Int) IntKind.i64 16 = pure (.int .u32 (q : Int)) := by
    refine (shift_shr .u32 .i64 (x : Int) 16 (by omega) (by decide)).trans ?_
    rw [show (2 : Int) ^ (((16 : Int)).toNat) = 65536 by rfl, hq1]
  clear hp2
  go_enter Try.func33, Try.ntmps33
  go_wp2
  go_quiet (fail)
  go_wp2
  go_ret
  exact ⟨rfl, _, rfl⟩

theorem rot12_or (x : Nat) (hx : x < 4294967296) : bits BinOp.or IntKind.u32 ((x : Int) * 4096 % 4294967296) ((x : Int) / 1048576) = (rot x 12 : Nat) := by
  have h1 : (x : Int) * 4096 % 4294967296 = ((4096 * (x % 1048576) : Nat) : Int) := by omega
  have h2 : (x : Int) / 1048576 = ((x / 1048576 : Nat) : Int) := by omega
  rw [h1, h2, u32_or_nat _ _ (by omega) (by omega)]
  have := Nat.two_pow_add_eq_or_of_lt (i := 12) (b := x / 1048576) (by omega) (x % 1048576)
  have e : rot x 12 = 4096 * (x % 1048576) + x / 1048576 := by unfold rot; omega
  rw [e]; rw [show (4096 : Nat) = 2 ^ 12 by rfl, this]
theorem rot12_lt (x : Nat) (hx : x < 4294967296) : rot x 12 < 4294967296 := by unfold rot; omega

set_option maxHeartbeats 400000 in
theorem rot12_any (v : Int) (x : Nat) (w : World) (hv : v = x) (hx : x < 4294967296) :
    Calls Try.prog 32 #[.int .u32 v, .int .i64 12] w fun e w' => e = .returned (.int .u32 (rot x 12)) ∧ w = w' := by
  subst hv
  have hk : bits BinOp.and .u64 12 31 = 12 := by decide +kernel
  go_enter Try.func32, Try.ntmps32
  go_wp2
  go_ret
  exact ⟨ret_u32' (rot12_or x hx), rfl⟩

set_option maxHeartbeats 400000 in
theorem turn12_any (v : Int) (x : Nat) (w : World) (hv : v = x) (hx : x < 4294967296) :
    Calls Try.prog 33 #[.int .u32 v, .int .i64 12] w fun e w' => e = .returned (.int .u32 (rot x 12)) ∧ ∃ n, w' = w.drewN n := by
  subst hv
  obtain ⟨p, hp1, hp2⟩ : ∃ p : Nat, IntKind.u32.wrap ((x : Int) * 4096) = (p : Int) ∧ (x : Int) * 4096 % 4294967296 = (p : Int) := ⟨(x * 4096) % 4294967296, by rw [IntKind.wrap_u32]; omega, by omega⟩
  obtain ⟨q, hq1⟩ : ∃ q : Nat, (x : Int) / 1048576 = (q : Int) := ⟨x / 1048576, by omega⟩
  have hor := rot12_or x hx
  rw [hp2, hq1] at hor
  have hs1 : Op.shift BinOp.shl IntKind.u32 (x : Int) IntKind.i64 12 = pure (.int .u32 (p : Int)) := by
    refine (shift_shl .u32 .i64 (x : Int) 12 (by omega) (by decide)).trans ?_
    rw [show (2 : Int) ^ (((12 : Int)).toNat) = 4096 by rfl, hp1]
  have hs2 : Op.shift BinOp.shr IntKind.u32 (x : Int) IntKind.i64 20 = pure (.int .u32 (q : Int)) := by
    refine (shift_shr .u32 .i64 (x : Int) 20 (by omega) (by decide)).trans ?_
    rw [show (2 : Int) ^ (((20 : Int)).toNat) = 1048576 by rfl, hq1]
  clear hp2
  go_enter Try.func33, Try.ntmps33
  go_wp2
  go_quiet (fail)
  go_wp2
  go_ret
  exact ⟨rfl, _, rfl⟩

theorem rot8_or (x : Nat) (hx : x < 4294967296) : bits BinOp.or IntKind.u32 ((x : Int) * 256 % 4294967296) ((x : Int) / 16777216) = (rot x 8 : Nat) := by
  have h1 : (x : Int) * 256 % 4294967296 = ((256 * (x % 16777216) : Nat) : Int) := by omega
  have h2 : (x : Int) / 16777216 = ((x / 16777216 : Nat) : Int) := by omega
  rw [h1, h2, u32_or_nat _ _ (by omega) (by omega)]
  have := Nat.two_pow_add_eq_or_of_lt (i := 8) (b := x / 16777216) (by omega) (x % 16777216)
  have e : rot x 8 = 256 * (x % 16777216) + x / 16777216 := by unfold rot; omega
  rw [e]; rw [show (256 : Nat) = 2 ^ 8 by rfl, this]
theorem rot8_lt (x : Nat) (hx : x < 4294967296) : rot x 8 < 4294967296 := by unfold rot; omega

set_option maxHeartbeats 400000 in
theorem rot8_any (v : Int) (x : Nat) (w : World) (hv : v = x) (hx : x < 4294967296) :
    Calls Try.prog 32 #[.int .u32 v, .int .i64 8] w fun e w' => e = .returned (.int .u32 (rot x 8)) ∧ w = w' := by
  subst hv
  have hk : bits BinOp.and .u64 8 31 = 8 := by decide +kernel
  go_enter Try.func32, Try.ntmps32
  go_wp2
  go_ret
  exact ⟨ret_u32' (rot8_or x hx), rfl⟩

set_option maxHeartbeats 400000 in
theorem turn8_any (v : Int) (x : Nat) (w : World) (hv : v = x) (hx : x < 4294967296) :
    Calls Try.prog 33 #[.int .u32 v, .int .i64 8] w fun e w' => e = .returned (.int .u32 (rot x 8)) ∧ ∃ n, w' = w.drewN n := by
  subst hv
  obtain ⟨p, hp1, hp2⟩ : ∃ p : Nat, IntKind.u32.wrap ((x : Int) * 256) = (p : Int) ∧ (x : Int) * 256 % 4294967296 = (p : Int) := ⟨(x * 256) % 4294967296, by rw [IntKind.wrap_u32]; omega, by omega⟩
  obtain ⟨q, hq1⟩ : ∃ q : Nat, (x : Int) / 16777216 = (q : Int) := ⟨x / 16777216, by omega⟩
  have hor := rot8_or x hx
  rw [hp2, hq1] at hor
  have hs1 : Op.shift BinOp.shl IntKind.u32 (x : Int) IntKind.i64 8 = pure (.int .u32 (p : Int)) := by
    refine (shift_shl .u32 .i64 (x : Int) 8 (by omega) (by decide)).trans ?_
    rw [show (2 : Int) ^ (((8 : Int)).toNat) = 256 by rfl, hp1]
  have hs2 : Op.shift BinOp.shr IntKind.u32 (x : Int) IntKind.i64 24 = pure (.int .u32 (q : Int)) := by
    refine (shift_shr .u32 .i64 (x : Int) 24 (by omega) (by decide)).trans ?_
    rw [show (2 : Int) ^ (((24 : Int)).toNat) = 16777216 by rfl, hq1]
  clear hp2
  go_enter Try.func33, Try.ntmps33
  go_wp2
  go_quiet (fail)
  go_wp2
  go_ret
  exact ⟨rfl, _, rfl⟩

theorem rot7_or (x : Nat) (hx : x < 4294967296) : bits BinOp.or IntKind.u32 ((x : Int) * 128 % 4294967296) ((x : Int) / 33554432) = (rot x 7 : Nat) := by
  have h1 : (x : Int) * 128 % 4294967296 = ((128 * (x % 33554432) : Nat) : Int) := by omega
  have h2 : (x : Int) / 33554432 = ((x / 33554432 : Nat) : Int) := by omega
  rw [h1, h2, u32_or_nat _ _ (by omega) (by omega)]
  have := Nat.two_pow_add_eq_or_of_lt (i := 7) (b := x / 33554432) (by omega) (x % 33554432)
  have e : rot x 7 = 128 * (x % 33554432) + x / 33554432 := by unfold rot; omega
  rw [e]; rw [show (128 : Nat) = 2 ^ 7 by rfl, this]
theorem rot7_lt (x : Nat) (hx : x < 4294967296) : rot x 7 < 4294967296 := by unfold rot; omega

set_option maxHeartbeats 400000 in
theorem rot7_any (v : Int) (x : Nat) (w : World) (hv : v = x) (hx : x < 4294967296) :
    Calls Try.prog 32 #[.int .u32 v, .int .i64 7] w fun e w' => e = .returned (.int .u32 (rot x 7)) ∧ w = w' := by
  subst hv
  have hk : bits BinOp.and .u64 7 31 = 7 := by decide +kernel
  go_enter Try.func32, Try.ntmps32
  go_wp2
  go_ret
  exact ⟨ret_u32' (rot7_or x hx), rfl⟩

set_option maxHeartbeats 400000 in
theorem turn7_any (v : Int) (x : Nat) (w : World) (hv : v = x) (hx : x < 4294967296) :
    Calls Try.prog 33 #[.int .u32 v, .int .i64 7] w fun e w' => e = .returned (.int .u32 (rot x 7)) ∧ ∃ n, w' = w.drewN n := by
  subst hv
  obtain ⟨p, hp1, hp2⟩ : ∃ p : Nat, IntKind.u32.wrap ((x : Int) * 128) = (p : Int) ∧ (x : Int) * 128 % 4294967296 = (p : Int) := ⟨(x * 128) % 4294967296, by rw [IntKind.wrap_u32]; omega, by omega⟩
  obtain ⟨q, hq1⟩ : ∃ q : Nat, (x : Int) / 33554432 = (q : Int) := ⟨x / 33554432, by omega⟩
  have hor := rot7_or x hx
  rw [hp2, hq1] at hor
  have hs1 : Op.shift BinOp.shl IntKind.u32 (x : Int) IntKind.i64 7 = pure (.int .u32 (p : Int)) := by
    refine (shift_shl .u32 .i64 (x : Int) 7 (by omega) (by decide)).trans ?_
    rw [show (2 : Int) ^ (((7 : Int)).toNat) = 128 by rfl, hp1]
  have hs2 : Op.shift BinOp.shr IntKind.u32 (x : Int) IntKind.i64 25 = pure (.int .u32 (q : Int)) := by
    refine (shift_shr .u32 .i64 (x : Int) 25 (by omega) (by decide)).trans ?_
    rw [show (2 : Int) ^ (((25 : Int)).toNat) = 33554432 by rfl, hq1]
  clear hp2
  go_enter Try.func33, Try.ntmps33
  go_wp2
  go_quiet (fail)
  go_wp2
  go_ret
  exact ⟨rfl, _, rfl⟩

theorem results_tmp4 {fn : Func} {t u v x : Tmp} (h : fn.results = #[.tmp t, .tmp u, .tmp v, .tmp x]) (tmps : Array Value) (P : Program) (w : World) :
    (results fn tmps).run P w = .ok (.tuple #[tmps.getD t undef, tmps.getD u undef, tmps.getD v undef, tmps.getD x undef]) w := by simp [results, h]

theorem sum_nat (a b : Nat) : ∃ s : Nat, ((a : Int) + (b : Int)) % 4294967296 = (s : Int) ∧ IntKind.u32.wrap ((a : Int) + (b : Int)) = (s : Int) ∧ s < 4294967296 ∧ Hid (add32 a b = s) :=
  ⟨add32 a b, by unfold add32; omega, by rw [IntKind.wrap_u32]; unfold add32; omega, add32_lt a b, Lib.hid rfl⟩
theorem xor_nat (a b : Nat) (ha : a < 4294967296) (hb : b < 4294967296) : ∃ s : Nat, bits BinOp.xor IntKind.u32 (a : Int) (b : Int) = (s : Int) ∧ s < 4294967296 ∧ Hid (a ^^^ b = s) :=
  ⟨a ^^^ b, u32_xor_nat a b ha hb, Nat.xor_lt_two_pow (n := 32) ha hb, Lib.hid rfl⟩
theorem mix_lt (a b c d : Nat) (ha : a < 4294967296) (hb : b < 4294967296) (hc : c < 4294967296) (hd : d < 4294967296) : (mixF a b c d).1 < 4294967296 ∧ (mixF a b c d).2.1 < 4294967296 ∧ (mixF a b c d).2.2.1 < 4294967296 ∧ (mixF a b c d).2.2.2 < 4294967296 := by
  have x16 : ∀ x y, x < 4294967296 → y < 4294967296 → rot (x ^^^ y) 16 < 4294967296 := fun x y h1 h2 => rot16_lt _ (Nat.xor_lt_two_pow (n := 32) h1 h2)
  have x12 : ∀ x y, x < 4294967296 → y < 4294967296 → rot (x ^^^ y) 12 < 4294967296 := fun x y h1 h2 => rot12_lt _ (Nat.xor_lt_two_pow (n := 32) h1 h2)
  have x8 : ∀ x y, x < 4294967296 → y < 4294967296 → rot (x ^^^ y) 8 < 4294967296 := fun x y h1 h2 => rot8_lt _ (Nat.xor_lt_two_pow (n := 32) h1 h2)
  have x7 : ∀ x y, x < 4294967296 → y < 4294967296 → rot (x ^^^ y) 7 < 4294967296 := fun x y h1 h2 => rot7_lt _ (Nat.xor_lt_two_pow (n := 32) h1 h2)
  unfold mixF
  dsimp only
  have a1 := add32_lt a b
  generalize add32 a b = A at *
  have d1 := x16 d A hd a1
  generalize rot (d ^^^ A) 16 = D at *
  have c1 := add32_lt c D
  generalize add32 c D = C at *
  have b1 := x12 b C hb c1
  generalize rot (b ^^^ C) 12 = B at *
  have a2 := add32_lt A B
  generalize add32 A B = A2 at *
  have d2 := x8 D A2 d1 a2
  generalize rot (D ^^^ A2) 8 = D2 at *
  have c2 := add32_lt C D2
  generalize add32 C D2 = C2 at *
  exact ⟨a2, x7 B C2 b1 c2, c2, d2⟩

set_option maxHeartbeats 800000 in
theorem mix_any (a b c d : Nat) (a' b' c' d' : Nat) (w : World) (ha : a < 4294967296) (hb : b < 4294967296) (hc : c < 4294967296) (hd : d < 4294967296) (he : mixF a b c d = (a', b', c', d')) :
    Calls Try.prog 25 #[.int .u32 a, .int .u32 b, .int .u32 c, .int .u32 d] w fun e w' => e = .returned (.tuple #[.int .u32 (a' : Nat), .int .u32 (b' : Nat), .int .u32 (c' : Nat), .int .u32 (d' : Nat)]) ∧ w = w' := by
  obtain ⟨a1, p1, p1', q1, r1⟩ := sum_nat a b
  obtain ⟨x1, p2, q2, r2⟩ := xor_nat d a1 hd q1
  have h1 := fun w => rot16_any x1 x1 w rfl q2
  have l1 := rot16_lt x1 q2
  obtain ⟨d1, r3⟩ : ∃ d1, rot x1 16 = d1 := ⟨_, rfl⟩
  rw [r3] at h1 l1
  have H1 := Lib.hid h1
  have R3 := Lib.hid r3
  obtain ⟨c1, p4, p4', q4, r4⟩ := sum_nat c d1
  obtain ⟨x2, p5, q5, r5⟩ := xor_nat b c1 hb q4
  have h2 := fun w => rot12_any x2 x2 w rfl q5
  have l2 := rot12_lt x2 q5
  obtain ⟨b1, r6⟩ : ∃ b1, rot x2 12 = b1 := ⟨_, rfl⟩
  rw [r6] at h2 l2
  have H2 := Lib.hid h2
  have R6 := Lib.hid r6
  obtain ⟨a2, p7, p7', q7, r7⟩ := sum_nat a1 b1
  obtain ⟨x3, p8, q8, r8⟩ := xor_nat d1 a2 l1 q7
  have h3 := fun w => rot8_any x3 x3 w rfl q8
  have l3 := rot8_lt x3 q8
  obtain ⟨d2, r9⟩ : ∃ d2, rot x3 8 = d2 := ⟨_, rfl⟩
  rw [r9] at h3 l3
  have H3 := Lib.hid h3
  have R9 := Lib.hid r9
  obtain ⟨c2, p10, p10', q10, r10⟩ := sum_nat c1 d2
  obtain ⟨x4, p11, q11, r11⟩ := xor_nat b1 c2 l2 q10
  have h4 := fun w => rot7_any x4 x4 w rfl q11
  obtain ⟨b2, r12⟩ : ∃ b2, rot x4 7 = b2 := ⟨_, rfl⟩
  rw [r12] at h4
  have H4 := Lib.hid h4
  have hfin : a2 = a' ∧ b2 = b' ∧ c2 = c' ∧ d2 = d' := by
    unfold mixF at he
    dsimp only at he
    rw [r1.out, r2.out, R3.out, r4.out, r5.out, R6.out, r7.out, r8.out, R9.out, r10.out, r11.out, r12] at he
    simpa using he
  obtain ⟨rfl, rfl, rfl, rfl⟩ := hfin
  clear h1 h2 h3 h4 r3 r6 r9 r12 he p1' p4' p7' p10'
  go_enter Try.func25, Try.ntmps25
  go_wp2_with (first
    | ((with_reducible refine (H1.out _).mono ?_); rintro _ _ ⟨rfl, rfl⟩)
    | ((with_reducible refine (H2.out _).mono ?_); rintro _ _ ⟨rfl, rfl⟩)
    | ((with_reducible refine (H3.out _).mono ?_); rintro _ _ ⟨rfl, rfl⟩)
    | ((with_reducible refine (H4.out _).mono ?_); rintro _ _ ⟨rfl, rfl⟩))
  refine bodyPost_ret (results_tmp4 rfl _ _ _) rfl ?_
  exact ⟨rfl, rfl⟩
end Go.Proofs.Ytogihaiedemdhaa

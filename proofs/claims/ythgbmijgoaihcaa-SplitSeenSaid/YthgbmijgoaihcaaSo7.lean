/-
  The sort of numbers of 64 bits: how many bits a number has; the pattern's breaking.
-/
import Derived.Test.YthgbmijgoaihcaaSo5
import Derived.OneCell
namespace Go.Proofs.Ythgbmijgoaihcaa
open Go.RowKit Go.Sort
set_option linter.unusedVariables false

/-- v is how many bits x has. -/
def Bits (x v : Nat) : Prop := x < 2 ^ v ∧ (0 < x → 2 ^ v ≤ 2 * x) ∧ v ≤ 9
def Lenq (x : Nat) (e : Ending) : Prop := ∃ v : Nat, e = .returned (.int .i64 (v : Nat)) ∧ Bits x v
def tabOk (t : ByteArray) : Bool := decide (t.size = 256) && (List.range 256).all fun x => decide (x < 2 ^ (t.get! x).toNat) && (x == 0 || decide (2 ^ (t.get! x).toNat ≤ 2 * x)) && decide ((t.get! x).toNat ≤ 9)
theorem tab_bits (t : ByteArray) (ht : tabOk t = true) (x : Nat) (hx : x < 256) (h : x < t.size) : Bits x (t[x]'h).toNat := by
  unfold tabOk at ht
  rw [Bool.and_eq_true, List.all_eq_true] at ht
  have h1 := ht.2 x (by simp; exact hx)
  have e : t.get! x = t[x] := by
    have h' : x < t.data.size := h
    show t.data[x]! = t.data[x]
    exact getElem!_pos t.data x h'
  rw [e] at h1
  simp only [Bool.and_eq_true, Bool.or_eq_true, decide_eq_true_eq, beq_iff_eq] at h1
  exact ⟨h1.1.1, fun hp => by rcases h1.1.2 with h2 | h2; omega; exact h2, h1.2⟩
theorem wrap_byte (c : UInt8) : wrap64 (c.toNat : Int) = (c.toNat : Int) := by
  have := c.toNat_lt
  unfold wrap64; omega

set_option maxRecDepth 100000 in
set_option maxHeartbeats 1600000 in
theorem len64_any (x : Nat) (hx : x < 512) (w : World) :
    Calls Try.prog 74 #[.int .u64 (x : Nat)] w fun e w' => Lenq x e ∧ w = w' := by
  have h1 : ¬ (4294967296 : Int) ≤ (x : Int) := by omega
  have h2 : ¬ (65536 : Int) ≤ (x : Int) := by omega
  by_cases h256 : x < 256
  · have h3 : ¬ (256 : Int) ≤ (x : Int) := by omega
    go_enter Try.func74, Try.ntmps74
    go_wp2
    go_ret
    exact ⟨⟨_, ret_i (by rw [wrap_byte, wrap_byte]), tab_bits _ (by decide +kernel) x h256 _⟩, rfl⟩
  · have h3 : (256 : Int) ≤ (x : Int) := by omega
    have h4 : (x : Int) / 256 = 1 := by omega
    have HB : Hid (Bits x 9) := Lib.hid ⟨by omega, fun _ => by omega, by omega⟩
    go_enter Try.func74, Try.ntmps74
    go_wp2
    go_ret
    exact ⟨⟨9, ret_i (by decide +kernel), HB.out⟩, rfl⟩
theorem len_any (x : Nat) (hx : x < 512) (w : World) :
    Calls Try.prog 63 #[.int .u64 (x : Nat)] w fun e w' => Lenq x e ∧ w = w' := by
  have HL := Lib.hid (len64_any x hx w)
  go_enter Try.func63, Try.ntmps63
  go_wp2_with fail
  refine HL.out.mono ?_
  rintro _ w1 ⟨⟨v, rfl, hv⟩, rfl⟩
  have HV := Lib.hid hv
  clear hv
  go_wp2
  go_ret
  exact ⟨⟨v, rfl, HV.out⟩, rfl⟩
def Pow (x : Nat) (e : Ending) : Prop := ∃ m : Nat, e = .returned (.int .u64 (m : Nat)) ∧ x < m ∧ m ≤ 2 * x ∧ m ≤ 512
theorem npow_any (x : Nat) (h0 : 0 < x) (hx : x < 512) (w : World) :
    Calls Try.prog 76 #[.int .i64 (x : Nat)] w fun e w' => Pow x e ∧ w = w' := by
  have HL := Lib.hid (len_any x hx w)
  go_enter Try.func76, Try.ntmps76
  go_wp2_with fail
  refine HL.out.mono ?_
  rintro _ w1 ⟨⟨v, rfl, hv⟩, rfl⟩
  have hv9 := hv.2.2
  have HP : Hid (Pow x (.returned (.int .u64 ((2 ^ v : Nat) : Nat)))) := Lib.hid ⟨2 ^ v, rfl, hv.1, hv.2.1 h0, Nat.pow_le_pow_right (by omega) hv9⟩
  clear hv
  have hr : v = 0 ∨ v = 1 ∨ v = 2 ∨ v = 3 ∨ v = 4 ∨ v = 5 ∨ v = 6 ∨ v = 7 ∨ v = 8 ∨ v = 9 := by omega
  rcases hr with rfl | rfl | rfl | rfl | rfl | rfl | rfl | rfl | rfl | rfl
  all_goals
    go_wp2
    go_ret
    exact ⟨HP.out, rfl⟩
theorem xor_nat (a b : Nat) (ha : a < 18446744073709551616) (hb : b < 18446744073709551616) : ∃ c : Nat, c < 18446744073709551616 ∧ bits BinOp.xor IntKind.u64 (a : Int) (b : Int) = (c : Int) :=
  ⟨a ^^^ b, Nat.xor_lt_two_pow (n := 64) ha hb, u64_xor_nat a b ha hb⟩
theorem mul_nat (a k : Nat) : ∃ c : Nat, c < 18446744073709551616 ∧ IntKind.u64.wrap ((a : Int) * (k : Int)) = (c : Int) :=
  ⟨a * k % 18446744073709551616, Nat.mod_lt _ (by omega), by rw [IntKind.wrap_u64]; omega⟩

def U64e (e : Ending) : Prop := ∃ x : Nat, x < 18446744073709551616 ∧ e = .returned (.int .u64 (x : Nat))
def BoxU (w : World) (B : Nat) (x : Nat) : Prop := w.heap[B]? = some (.cells #[.int .u64 (x : Nat)] 93 (0, 0))
set_option maxRecDepth 100000 in
set_option maxHeartbeats 1600000 in
theorem next_any (B : Nat) (x : Nat) (hx : x < 18446744073709551616) (w : World) (hB : BoxU w B x) :
    Calls Try.prog 77 #[.pointer (some ⟨B, 0, none⟩)] w fun e w' => U64e e ∧ (∃ y : Nat, y < 18446744073709551616 ∧ BoxU w' B y) ∧ But B w w' := by
  have hc : w.cell? ⟨B, 0, none⟩ = some (.int .u64 (x : Nat)) := cell_of_one hB
  have hf : w.frozen? ⟨B, 0, none⟩ = false := free_of_one hB
  obtain ⟨a1, ha1, e1⟩ := mul_nat x 8192
  obtain ⟨y1, hy1, e2⟩ := xor_nat x a1 hx ha1
  obtain ⟨a2, ha2, e3⟩ : ∃ a2 : Nat, a2 < 18446744073709551616 ∧ (y1 : Int) / 128 = (a2 : Int) := ⟨y1 / 128, by omega, by omega⟩
  obtain ⟨y2, hy2, e4⟩ := xor_nat y1 a2 hy1 ha2
  obtain ⟨a3, ha3, e5⟩ := mul_nat y2 131072
  obtain ⟨y3, hy3, e6⟩ := xor_nat y2 a3 hy2 ha3
  have e1' : IntKind.u64.wrap ((x : Int) * 8192) = (a1 : Int) := e1
  have e5' : IntKind.u64.wrap ((y2 : Int) * 131072) = (a3 : Int) := e5
  clear e1 e5
  have HB := Lib.hid hB
  have HY := Lib.hid (And.intro hx (And.intro hy1 (And.intro hy2 hy3)))
  clear hB hx hy1 hy2 hy3 ha1 ha2 ha3
  go_enter Try.func77, Try.ntmps77
  go_wp2
  go_region
  go_wp2
  go_region
  go_wp2
  go_region
  have c3 := cell_of_one (one_setCell (u := .int .u64 (y3 : Nat)) (one_setCell (u := .int .u64 (y2 : Nat)) (one_setCell (u := .int .u64 (y1 : Nat)) HB.out)))
  go_wp2
  go_ret
  exact ⟨⟨y3, HY.out.2.2.2, rfl⟩, ⟨y3, HY.out.2.2.2, one_setCell (one_setCell (one_setCell HB.out))⟩, ((((((But.refl _ _).setCell _ _).setCell _ _).setCell _ _).drew).drew).drew⟩
end Go.Proofs.Ythgbmijgoaihcaa

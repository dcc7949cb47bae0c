/-
  The reference's word; a quarter of sixteen words, plainly.
-/
import Derived.Test.YtogihaiedemdhaaSt2
namespace Go.Proofs.Ytogihaiedemdhaa
open Go.RowKit
set_option linter.unusedVariables false

set_option maxRecDepth 100000 in
set_option maxHeartbeats 1600000 in
theorem word_any (S cs p i : Nat) (bs : List UInt8) (w : World) (hp : 4 * i = p) (hb : Bytes w (some ⟨S, 0, none⟩) bs) (hlen : p + 4 ≤ bs.length) (hlb : bs.length ≤ 1000) :
    Calls Try.prog 26 #[.slice (some ⟨S, 0, none⟩) bs.length cs, .int .i64 p] w fun e w' => e = .returned (.int .u32 (wordOf bs i : Nat)) ∧ ∃ n, w' = w.drewN n := by
  have hg : ∀ j (h : p + j < bs.length), bs.getD (4 * i + j) 0 = bs[p + j] := fun j h => by
    rw [hp]; simp [List.getD_eq_getElem?_getD, h]
  have g0 := hg 0 (by omega)
  rw [Nat.add_zero] at g0
  have HW : Hid (wordOf bs i = (bs[p]'(by omega)).toNat + (bs[p + 1]'(by omega)).toNat * 256 + (bs[p + 2]'(by omega)).toNat * 65536 + (bs[p + 3]'(by omega)).toNat * 16777216) := Lib.hid (by
    unfold wordOf
    rw [g0, hg 1 (by omega), hg 2 (by omega), hg 3 (by omega)]
    rfl)
  have c0 := hb.get p (by omega)
  have c1 := hb.get (p + 1) (by omega)
  have c2 := hb.get (p + 2) (by omega)
  have c3 := hb.get (p + 3) (by omega)
  rw [Nat.zero_add] at c0 c1 c2 c3
  clear hg g0 hb
  generalize (bs[p]'(by omega)) = b0 at *
  generalize (bs[p + 1]'(by omega)) = b1 at *
  generalize (bs[p + 2]'(by omega)) = b2 at *
  generalize (bs[p + 3]'(by omega)) = b3 at *
  have l0 := b0.toNat_lt
  have l1 := b1.toNat_lt
  have l2 := b2.toNat_lt
  have l3 := b3.toNat_lt
  generalize b0.toNat = n0 at *
  generalize b1.toNat = n1 at *
  generalize b2.toNat = n2 at *
  generalize b3.toNat = n3 at *
  obtain ⟨p1, d1, e1, f1⟩ : ∃ q : Nat, (p : Int) + 1 = (q : Int) ∧ IntKind.i64.wrap (q : Int) = (q : Int) ∧ p + 1 = q := ⟨p + 1, by omega, IntWalk.i64_in _ (by omega), rfl⟩
  obtain ⟨p2, d2, e2, f2⟩ : ∃ q : Nat, (p : Int) + 2 = (q : Int) ∧ IntKind.i64.wrap (q : Int) = (q : Int) ∧ p + 2 = q := ⟨p + 2, by omega, IntWalk.i64_in _ (by omega), rfl⟩
  obtain ⟨p3, d3, e3, f3⟩ : ∃ q : Nat, (p : Int) + 3 = (q : Int) ∧ IntKind.i64.wrap (q : Int) = (q : Int) ∧ p + 3 = q := ⟨p + 3, by omega, IntWalk.i64_in _ (by omega), rfl⟩
  have hbl : (bs.length : Int) ≤ 1000 := by omega
  have i0 : (p : Int) < (bs.length : Int) := by omega
  have i1 : (p1 : Int) < (bs.length : Int) := by omega
  have i2 : (p2 : Int) < (bs.length : Int) := by omega
  have i3 : (p3 : Int) < (bs.length : Int) := by omega
  rw [f1] at c1
  rw [f2] at c2
  rw [f3] at c3
  obtain ⟨m1, k1, t1, v1⟩ : ∃ q : Nat, (n1 : Int) * 256 = (q : Int) ∧ IntKind.u32.wrap (q : Int) = (q : Int) ∧ Hid (n1 * 256 = q) := ⟨n1 * 256, by omega, by rw [IntKind.wrap_u32]; omega, Lib.hid rfl⟩
  obtain ⟨m2, k2, t2, v2⟩ : ∃ q : Nat, (n2 : Int) * 65536 = (q : Int) ∧ IntKind.u32.wrap (q : Int) = (q : Int) ∧ Hid (n2 * 65536 = q) := ⟨n2 * 65536, by omega, by rw [IntKind.wrap_u32]; omega, Lib.hid rfl⟩
  obtain ⟨m3, k3, t3, v3⟩ : ∃ q : Nat, (n3 : Int) * 16777216 = (q : Int) ∧ IntKind.u32.wrap (q : Int) = (q : Int) ∧ Hid (n3 * 16777216 = q) := ⟨n3 * 16777216, by omega, by rw [IntKind.wrap_u32]; omega, Lib.hid rfl⟩
  have hm1 : m1 ≤ 65280 := by have := v1.out; omega
  have hm2 : m2 ≤ 16711680 := by have := v2.out; omega
  have hm3 : m3 ≤ 4278190080 := by have := v3.out; omega
  obtain ⟨s1, a1, a1', a1''⟩ : ∃ q : Nat, (n0 : Int) + (m1 : Int) = (q : Int) ∧ IntKind.u32.wrap (q : Int) = (q : Int) ∧ Hid (n0 + m1 = q) := ⟨n0 + m1, by omega, by rw [IntKind.wrap_u32]; omega, Lib.hid rfl⟩
  obtain ⟨s2, a2, a2', a2''⟩ : ∃ q : Nat, (s1 : Int) + (m2 : Int) = (q : Int) ∧ IntKind.u32.wrap (q : Int) = (q : Int) ∧ Hid (s1 + m2 = q) := ⟨s1 + m2, by omega, by rw [IntKind.wrap_u32]; have := a1''.out; omega, Lib.hid rfl⟩
  obtain ⟨s3, a3, a3', a3''⟩ : ∃ q : Nat, (s2 : Int) + (m3 : Int) = (q : Int) ∧ IntKind.u32.wrap (q : Int) = (q : Int) ∧ Hid (s2 + m3 = q) := ⟨s2 + m3, by omega, by rw [IntKind.wrap_u32]; have := a1''.out; have := a2''.out; omega, Lib.hid rfl⟩
  clear f1 f2 f3
  go_enter Try.func26, Try.ntmps26
  go_wp2
  go_quiet (fail)
  go_wp2
  go_ret
  refine ⟨ret_u32' ?_, _, rfl⟩
  rw [HW.out, v1.out, v2.out, v3.out, a1''.out, a2''.out, a3''.out]

def qadd (y : List Nat) (i j : Nat) : List Nat := y.set i (add32 (y.getD i 0) (y.getD j 0))
def qrot (y : List Nat) (i j k : Nat) : List Nat := y.set i (rot (y.getD i 0 ^^^ y.getD j 0) k)
/-- One quarter, word by word. -/
def qseq (y : List Nat) (a b c d : Nat) : List Nat := qrot (qadd (qrot (qadd (qrot (qadd (qrot (qadd y a b) d a 16) c d) b c 12) a b) d a 8) c d) b c 7
/-- One quarter, four words at once. -/
def qr (y : List Nat) (a b c d : Nat) : List Nat :=
  let m := mixF (y.getD a 0) (y.getD b 0) (y.getD c 0) (y.getD d 0)
  (((y.set a m.1).set b m.2.1).set c m.2.2.1).set d m.2.2.2
theorem qadd_length (y : List Nat) (i j : Nat) : (qadd y i j).length = y.length := by simp [qadd]
theorem qrot_length (y : List Nat) (i j k : Nat) : (qrot y i j k).length = y.length := by simp [qrot]
theorem qr_length (y : List Nat) (a b c d : Nat) : (qr y a b c d).length = y.length := by simp [qr]
theorem getD_set_same (y : List Nat) (i v : Nat) (h : i < y.length) : (y.set i v).getD i 0 = v := by simp [List.getD_eq_getElem?_getD, h]
theorem getD_set_ne (y : List Nat) (i j v : Nat) (h : i ≠ j) : (y.set i v).getD j 0 = y.getD j 0 := by simp [List.getD_eq_getElem?_getD, List.getElem?_set_ne h]
theorem set_comm_set (y : List Nat) (i j u v x : Nat) (h : i ≠ j) : ((y.set i u).set j x).set i v = (y.set j x).set i v := by
  rw [List.set_comm u x h, List.set_set]
theorem qseq_eq (y : List Nat) (a b c d : Nat) (ha : a < y.length) (hb : b < y.length) (hc : c < y.length) (hd : d < y.length) (ab : a ≠ b) (ac : a ≠ c) (ad : a ≠ d) (bc : b ≠ c) (bd : b ≠ d) (cd : c ≠ d) : qseq y a b c d = qr y a b c d := by
  have hx : ∀ i : Nat, (qseq y a b c d)[i]? = (qr y a b c d)[i]? := by
    intro i
    unfold qseq qr qadd qrot mixF
    simp only [getD_set_same, getD_set_ne, List.length_set, ha, hb, hc, hd, ab, ac, ad, bc, bd, cd, ab.symm, ac.symm, ad.symm, bc.symm, bd.symm, cd.symm, ne_eq, not_false_eq_true]
    simp only [List.getElem?_set, List.length_set]
    by_cases h1 : a = i <;> by_cases h2 : b = i <;> by_cases h3 : c = i <;> by_cases h4 : d = i <;> simp_all
  exact List.ext_getElem? (fun i => hx i)
end Go.Proofs.Ytogihaiedemdhaa

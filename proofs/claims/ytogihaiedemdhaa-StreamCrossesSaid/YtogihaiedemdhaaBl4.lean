/-
  bloom.May: may a filter's keys have that one?
-/
import Derived.Test.YtogihaiedemdhaaBl3
import Derived.Deep.QuietTactic
import Derived.BigQuiet
namespace Go.Proofs.Ytogihaiedemdhaa
open Go.RowKit
set_option linter.unusedVariables false

theorem Bytes.get {w : World} {b off : Nat} {l : List UInt8} (h : Bytes w (some ⟨b, off, none⟩) l) (i : Nat) (hi : i < l.length) : w.cell? ⟨b, off + i, none⟩ = some (.int .u8 (l[i].toNat : Nat)) := by
  obtain ⟨b', off', e, hc⟩ := h i hi
  simp only [Option.some.injEq, Addr.mk.injEq, and_true] at e
  obtain ⟨rfl, rfl⟩ := e
  exact hc
theorem below_drewN {B : Nat} {a w : World} (h : Below B a w) (n : Nat) : Below B a (w.drewN n) := ⟨h.os, h.tape, h.output, h.size, h.block⟩

theorem shr8 (c : UInt8) (r : Nat) (h : r < 8) : Op.shift BinOp.shr IntKind.u8 (c.toNat : Nat) IntKind.u32 (r : Int) = pure (.int .u8 ((c.toNat / 2 ^ r : Nat) : Int)) := by
  refine (shift_shr .u8 .u32 (c.toNat : Nat) (r : Int) (by omega) (by show (r : Int) ≤ 8; omega)).trans ?_
  simp
theorem and1u8 (v : Nat) (h : v < 256) : bits BinOp.and IntKind.u8 (v : Int) 1 = ((v % 2 : Nat) : Int) := by
  have := u8_and_nat v 1 h (by omega)
  rw [Nat.and_one_is_mod] at this
  exact this


set_option maxRecDepth 100000 in
set_option maxHeartbeats 1600000 in
theorem may_row (b off cap N : Nat) (m : List UInt8) (c : UInt8) (s : ByteArray) (w : World) (hN : m.length = N) (hN1 : 1 ≤ N) (hN2 : N ≤ 1000000) (hcap : N + 1 ≤ cap) (hcm : cap ≤ maxLen) (hs : s.size ≤ maxLen) (hb : Bytes w (some ⟨b, off, none⟩) (m ++ [c])) :
    Calls Try.prog 20 #[.slice (some ⟨b, off, none⟩) (N + 1) cap, .string s] w fun e w' => e = .returned (.bool (mayc m c s)) ∧ Below w.heap.size w w' := by
  have hlast : w.cell? ⟨b, off + N, none⟩ = some (.int .u8 (c.toNat : Nat)) := by
    have := hb.get N (by simp; omega)
    rw [this]
    simp [← hN]
  have hcl := c.toNat_lt
  have n1 : ((N : Int) + 1) - 1 = (N : Int) := by omega
  have n2 : (N : Int) < (N : Int) + 1 := by omega
  have n3 : (0 : Int) ≤ (N : Int) := by omega
  have n4 : IntKind.i64.wrap (N : Int) = (N : Int) := IntWalk.i64_in _ (by omega)
  have n5 : (N : Int) ≤ (cap : Int) := by omega
  have n6 : decide ((N : Int) + 1 < 2) = false := by simp; omega
  have hcm' : cap ≤ 9223372036854775807 := by unfold maxLen at hcm; omega
  have HB := Lib.hid hb
  have HLN := Lib.hid hN
  have HM : Hid (mayc m c s = if c.toNat = 0 ∨ 30 < c.toNat then true else mayOn m s c.toNat) := Lib.hid rfl
  clear hb hN
  generalize hR : c.toNat = R at *
  clear hR
  by_cases hk : R = 0 ∨ 30 < R
  · rw [if_pos hk] at HM
    rcases hk with hk | hk
    · subst hk
      go_enter Try.func20, Try.ntmps20
      go_wp2
      go_ret
      exact ⟨ret_bool HM.out.symm, Below.refl _ _⟩
    · have e1 : ((R : Int) == 0) = false := by simp; omega
      have e2 : (30 : Int) < (R : Int) := by omega
      go_enter Try.func20, Try.ntmps20
      go_wp2
      go_ret
      exact ⟨ret_bool HM.out.symm, Below.refl _ _⟩
  · rw [if_neg hk] at HM
    have e1 : ((R : Int) == 0) = false := by simp; omega
    have e2 : ¬ (30 : Int) < (R : Int) := by omega
    have hR : R ≤ 30 := by omega
    clear hk
    have hh := h0_lt s
    have hd := rot15_lt (h0 s) hh
    go_enter Try.func20, Try.ntmps20
    go_wp2
    go_quiet (fail)
    go_wp2_with (first
      | (refine wpList_to_bytes (w.drewN nq) rfl _ 9 32 rfl (e := 5) Try.underlying9 Try.underlying32 Try.underlying5 (s := s) (by rfl) ?_; intro c1 w1 hb1 hz1 hB1)
      | ((with_reducible refine (sum_str (w.heap.size + 1) w.heap.size c1 s _ hs ?_ ?_).mono ?_); (first | exact World.cell?_alloc_mark _ _ _ _ _ | go_simp); exact hB1.alloc _; rintro _ _ ⟨rfl, rfl⟩)
      | ((with_reducible refine (rot15_any _ (h0 s) _ rfl hh).mono ?_); rintro _ _ ⟨rfl, rfl⟩))
    have hbw : Below w.heap.size w (w1.alloc (.cells #[.slice (some ⟨w.heap.size, 0, none⟩) s.size c1] 32)) := (Below.trans (below_drewN (Below.refl _ _) nq) hb1).alloc hb1.size _
    generalize w1.alloc (.cells #[.slice (some ⟨w.heap.size, 0, none⟩) s.size c1] 32) = w2 at *
    clear hB1 hb1 hz1
    go_loopw [7, 49] (fun h i wr => ∃ j : Nat, j ≤ R ∧ h = .int .u32 (stp (h0 s) (rot (h0 s) 15) j : Nat) ∧ i = .int .u8 j ∧ Hid (((plc (8 * N) (h0 s) (rot (h0 s) 15) j).all fun p => hasBit m p) = true) ∧ Below w.heap.size w wr) (fun _ i _ => R - (intOf i).toNat)
    case atStart => exact ⟨0, by omega, rfl, rfl, Lib.hid rfl, hbw⟩
    case round =>
      obtain ⟨j, hj, rfl, rfl, hall, hwr⟩ := hrel
      by_cases hlt : j < R
      · have hx := stp_lt (h0 s) (rot (h0 s) 15) j hh
        have HP : Hid (plc (8 * N) (h0 s) (rot (h0 s) 15) (j + 1) = plc (8 * N) (h0 s) (rot (h0 s) 15) j ++ [stp (h0 s) (rot (h0 s) 15) j % (8 * N)]) := Lib.hid rfl
        have HS : Hid (stp (h0 s) (rot (h0 s) 15) (j + 1) = (stp (h0 s) (rot (h0 s) 15) j + rot (h0 s) 15) % 4294967296) := Lib.hid rfl
        have HF : Hid (hasBit m (stp (h0 s) (rot (h0 s) 15) j % (8 * N)) = false → mayOn m s R = false) := Lib.hid (by
          intro hf
          unfold mayOn
          rw [HLN.out]
          apply Bool.eq_false_iff.2
          intro ha
          rw [List.all_eq_true] at ha
          have hmem : ∀ n, j < n → stp (h0 s) (rot (h0 s) 15) j % (8 * N) ∈ plc (8 * N) (h0 s) (rot (h0 s) 15) n := by
            intro n
            induction n with
            | zero => intro h; omega
            | succ n ih =>
              intro h
              show _ ∈ plc (8 * N) (h0 s) (rot (h0 s) 15) n ++ [_]
              by_cases e : j = n
              · subst e; simp
              · exact List.mem_append_left _ (ih (by omega))
          have := ha _ (hmem R hlt)
          rw [hf] at this
          cases this)
        generalize stp (h0 s) (rot (h0 s) 15) j = x at *
        have hp := Nat.mod_lt x (show 0 < 8 * N by omega)
        have hq : x % (8 * N) / 8 < N := by omega
        have hcast : ((x % (8 * N) : Nat) : Int) = (x : Int) % (8 * (N : Int)) := by simp
        obtain ⟨r, hr, hr8, hrv⟩ : ∃ r : Nat, bits BinOp.and IntKind.u32 ((x : Int) % (8 * (N : Int))) 7 = (r : Int) ∧ r < 8 ∧ Hid (x % (8 * N) % 8 = r) :=
          ⟨x % (8 * N) % 8, by rw [← hcast]; exact and7 _ (by omega), Nat.mod_lt _ (by omega), Lib.hid rfl⟩
        have i1 : (0 : Int) ≤ (x : Int) % (8 * (N : Int)) / 8 := by rw [← hcast]; omega
        have i2 : (x : Int) % (8 * (N : Int)) / 8 < (N : Int) := by rw [← hcast]; omega
        have hmq : x % (8 * N) / 8 < m.length := by rw [HLN.out]; exact hq
        have hcell := (HB.out.below hwr).get (x % (8 * N) / 8) (by simp; omega)
        rw [List.getElem_append_left hmq] at hcell
        have HH : Hid (hasBit m (x % (8 * N)) = ((m[x % (8 * N) / 8].toNat / 2 ^ r % 2) == 1)) := Lib.hid (by
          unfold hasBit
          rw [List.getElem?_eq_getElem hmq, hrv.out]
          rfl)
        generalize m[x % (8 * N) / 8] = cq at *
        have hcq := cq.toNat_lt
        obtain ⟨v, hsh, hsw, hvb, hv256⟩ : ∃ v : Nat, Op.shift BinOp.shr IntKind.u8 (cq.toNat : Nat) IntKind.u32 (r : Int) = pure (.int .u8 (v : Int)) ∧ (cq.toNat : Int) / 2 ^ r = (v : Int) ∧ Hid (v = cq.toNat / 2 ^ r) ∧ v < 256 :=
          ⟨cq.toNat / 2 ^ r, shr8 _ _ hr8, by simp, Lib.hid rfl, Nat.lt_of_le_of_lt (Nat.div_le_self _ _) (by omega)⟩
        obtain ⟨z, hz1, hz2, hzb⟩ : ∃ z : Nat, bits BinOp.and IntKind.u8 (v : Int) 1 = (z : Int) ∧ z < 2 ∧ Hid (z = v % 2) := ⟨v % 2, and1u8 v hv256, by omega, Lib.hid rfl⟩
        clear hcast
        by_cases h1 : z = 1
        · have e3 : ((z : Int) == 0) = false := by simp; omega
          have HZ := Lib.hid h1
          clear h1
          go_wp2
          refine ⟨⟨j + 1, by omega, by rw [HS.out]; go_num, by go_num, Lib.hid ?_, hwr⟩, by simp [intOf]; omega⟩
          rw [HP.out, List.all_append, hall.out]
          simp [HH.out, ← hvb.out, ← hzb.out, HZ.out]
        · have e3 : ((z : Int) == 0) = true := by simp; omega
          have HZ := Lib.hid h1
          clear h1
          go_wp2
          go_ret
          refine ⟨ret_bool ?_, hwr⟩
          rw [HM.out, HF.out]
          rw [HH.out, ← hvb.out, ← hzb.out]
          simpa using HZ.out
      · obtain rfl : j = R := by omega
        go_wp2
        go_ret
        refine ⟨ret_bool ?_, hwr⟩
        rw [HM.out]
        unfold mayOn
        rw [HLN.out]
        exact hall.out.symm
theorem may_any (a : Option Addr) (cap : Nat) (f : List UInt8) (s : ByteArray) (w : World) (hl : f.length ≤ 1000001) (hcap : f.length ≤ cap) (hcm : cap ≤ maxLen) (hs : s.size ≤ maxLen) (hb : Bytes w a f) :
    Calls Try.prog 20 #[.slice a f.length cap, .string s] w fun e w' => e = .returned (.bool (mayf f s)) ∧ Below w.heap.size w w' := by
  by_cases h2 : f.length < 2
  · have HM := Lib.hid (mayf_small f s h2)
    have d0 : decide (f.length < 2) = true := by simp; omega
    have d1 : decide ((f.length : Int) < 2) = true := by simp; omega
    go_enter Try.func20, Try.ntmps20
    go_wp2
    go_ret
    exact ⟨ret_bool HM.out.symm, Below.refl _ _⟩
  · obtain ⟨m, c, rfl⟩ : ∃ m c, f = m ++ [c] := ⟨f.dropLast, f.getLast (by intro e; subst e; simp at h2), (List.dropLast_concat_getLast _).symm⟩
    obtain ⟨b, off, rfl, _⟩ := hb 0 (by omega)
    have hlen : (m ++ [c]).length = m.length + 1 := by simp
    rw [mayf_snoc m c s (by omega), hlen]
    exact may_row b off cap m.length m c s w rfl (by omega) (by omega) (by omega) hcm hs hb
end Go.Proofs.Ytogihaiedemdhaa

/-
  bloom.Make: the filter of keys.
-/
import Derived.Test.YtogihaiedemdhaaBl2
namespace Go.Proofs.Ytogihaiedemdhaa
open Go.RowKit
set_option linter.unusedVariables false

/-- A slice of texts that reads as ks. -/
def Strs (w : World) (a : Option Addr) (ks : List ByteArray) : Prop :=
  ∀ i (h : i < ks.length), ∃ b off, a = some ⟨b, off, none⟩ ∧ w.cell? ⟨b, off + i, none⟩ = some (.string ks[i]) ∧ ks[i].size ≤ maxLen
theorem Strs.below {w w' : World} {a : Option Addr} {ks : List ByteArray} (h : Strs w a ks) (hb : Below w.heap.size w w') : Strs w' a ks := by
  intro i hi
  obtain ⟨b, off, e, hc, hm⟩ := h i hi
  exact ⟨b, off, e, by rw [hb.cell (p := ⟨b, off + i, none⟩) (cell_lt hc), hc], hm⟩
theorem Strs.take {w : World} {a : Option Addr} {ks : List ByteArray} (h : Strs w a ks) (k : Nat) : Strs w a (ks.take k) := by
  intro i hi
  have hi' : i < ks.length := by simp at hi; omega
  obtain ⟨b, off, e, hc, hm⟩ := h i hi'
  exact ⟨b, off, e, by simpa using hc, by simpa using hm⟩

set_option maxRecDepth 100000 in
set_option maxHeartbeats 1600000 in
theorem make_any (a : Option Addr) (cap : Nat) (ks : List ByteArray) (b : Int) (w : World) (hn : ks.length ≤ 10000) (hb : -9223372036854775808 ≤ b ∧ b ≤ 9223372036854775807) (hs : Strs w a ks) :
    Calls Try.prog 17 #[.slice a ks.length cap, .int .i64 b] w fun e w' => ∃ v, e = .returned v ∧ w'.ownsRow w.heap.size 5 1 v (mkf ks b).length (cells8 (mkf ks b)) ∧ Below w.heap.size w w' := by
  obtain ⟨V, hV, hV1, hV2⟩ : ∃ V : Nat, V = bitsOf b ∧ 1 ≤ V ∧ V ≤ 64 := ⟨_, rfl, (bitsOf_rng b).1, (bitsOf_rng b).2⟩
  obtain ⟨R, hR, hR1, hR2⟩ : ∃ R : Nat, R = probesOf b ∧ 1 ≤ R ∧ R ≤ 30 := ⟨_, rfl, (probesOf_rng b).1, (probesOf_rng b).2⟩
  obtain ⟨q, hq1, hq2⟩ : ∃ q : Int, (if 64 < b then 64 else b) = q ∧ (if 1 < q then q else 1) = (V : Int) := ⟨_, rfl, by rw [hV]; unfold bitsOf; split <;> split <;> omega⟩
  obtain ⟨u, hu1, hu2⟩ : ∃ u : Int, (if 30 < (V : Int) * 69 / 100 then 30 else (V : Int) * 69 / 100) = u ∧ (if 1 < u then u else 1) = (R : Int) := ⟨_, rfl, by rw [hR]; unfold probesOf; rw [← hV]; split <;> split <;> omega⟩
  obtain ⟨M, hM1, hM2, hM3⟩ : ∃ M : Nat, (ks.length : Int) * (V : Int) = (M : Int) ∧ M ≤ 640000 ∧ Hid (M = ks.length * V) :=
    ⟨ks.length * V, by simp, by have := Nat.mul_le_mul hn hV2; omega, Lib.hid rfl⟩
  obtain ⟨T, hT1, hT2, hT3⟩ : ∃ T : Nat, (if 64 < (M : Int) then (M : Int) else 64) = (T : Int) ∧ T ≤ 640000 ∧ T = max 64 M := ⟨max 64 M, by split <;> omega, by omega, rfl⟩
  obtain ⟨N, hN1, hN2, hN3⟩ : ∃ N : Nat, ((T : Int) + 7) / 8 = (N : Int) ∧ N ≤ 100000 ∧ 1 ≤ N := ⟨(T + 7) / 8, by omega, by omega, by omega⟩
  obtain ⟨C, hC1, hC2, hC3⟩ : ∃ C : Nat, (M : Int) / 8 + 10 = (C : Int) ∧ C ≤ 100000 ∧ N ≤ C := ⟨M / 8 + 10, by omega, by omega, by omega⟩
  have hNl : N = lenOf ks.length b := by unfold lenOf; rw [← hV, ← hM3.out]; omega
  have HN := Lib.hid hNl
  have HRp := Lib.hid hR
  clear hV hR hT3 hb hNl
  obtain ⟨i0, hi0, hz0, hz1, hz2⟩ := info_parts Try.infoB
  obtain ⟨Z, hZ, hmk⟩ : ∃ Z : Array Value, (Z.size = C ∧ Z.toList.take N = cells8 (List.replicate N 0)) ∧ ∀ w : World, (Instr.makeSlice 32 (.int .i64 (N : Int)) (.int .i64 (C : Int))).run Try.prog w = .ok (.slice (some ⟨w.heap.size, 0, none⟩) N C) (w.alloc (.cells Z 5)) := by
    refine ⟨madeCells #[.int .u8 0] C, ⟨size_madeCells _ _, ?_⟩, fun w => ?_⟩
    · rw [toList_madeCells_one, List.take_replicate, Nat.min_eq_left hC3]
      simp [cells8]
    · have := run_make (P := Try.prog) w 32 5 i0 _ Try.underlying32 hi0 hz0 .i64 .i64 N C (by omega) (by omega) (by rw [hz2]; omega) (by omega)
      rw [hz1, show (Value.int .u8 0).cells = #[Value.int .u8 0] from rfl, Nat.mul_one, Int.toNat_natCast, Int.toNat_natCast] at this
      simpa using this
  have HZ := Lib.hid hZ
  clear hZ hi0 hz0 hz1 hz2 i0
  have hlen : ks.length ≤ 10000 := hn
  have HS := Lib.hid hs
  clear hs
  go_enter Try.func17, Try.ntmps17
  go_wp2_with fail
  have hO0 : (w.alloc (Obj.cells Z 5)).ownsRow w.heap.size 5 1 (.slice (some ⟨w.heap.size, 0, none⟩) N C) N (cells8 (putKeys (List.replicate N 0) (ks.take 0) R)) := by
    refine ⟨by simp [cells8, putKeys], .inr ⟨w.heap.size, C, Z, rfl, Nat.le_refl _, heap_at w _, hC3, by unfold maxLen; omega, by rw [HZ.out.1, Nat.mul_one], ?_⟩⟩
    rw [Nat.mul_one, HZ.out.2]; rfl
  have HO0 := Lib.hid hO0
  have hbw : Below w.heap.size w (w.alloc (Obj.cells Z 5)) := (Below.refl _ _).alloc (Nat.le_refl _) _
  clear hO0 HZ hmk hM1 hT1 hq1 hq2 hu1 hu2 hN1 hC1
  generalize w.alloc (Obj.cells Z 5) = w2 at *
  go_loopw [33] (fun i wr => ∃ k : Nat, k ≤ ks.length ∧ i = .int .i64 k ∧ Hid (wr.ownsRow w.heap.size 5 1 (.slice (some ⟨w.heap.size, 0, none⟩) N C) N (cells8 (putKeys (List.replicate N 0) (ks.take k) R))) ∧ Below w.heap.size w wr) (fun i _ => ks.length - (intOf i).toNat)
  case atStart => exact ⟨0, by omega, rfl, HO0, hbw⟩
  case round =>
    obtain ⟨k, hk, rfl, hown, hwr⟩ := hrel
    by_cases hlt : k < ks.length
    · obtain ⟨bb, off, rfl, hc, hkm⟩ := (HS.out.below hwr) k hlt
      have HP : Hid (putKeys (List.replicate N 0) (ks.take (k + 1)) R = putKey (putKeys (List.replicate N 0) (ks.take k) R) ks[k] R) := Lib.hid (putKeys_snoc _ _ _ _ hlt)
      have hpl : (putKeys (List.replicate N 0) (ks.take k) R).length = N := by rw [putKeys_length, List.length_replicate]
      generalize putKeys (List.replicate N 0) (ks.take k) R = m at *
      have hin : (k : Int) < (ks.length : Int) := by omega
      have hR : R ≤ 100 := by omega
      have hNb : N ≤ 100000000 := by omega
      go_wp2_with ((with_reducible refine (set_any w.heap.size w.heap.size N C m ks[k] R wr hown.out hpl hN3 hNb hR hkm hwr.size).mono ?_); rintro _ w3 ⟨rfl, ho3, hb3⟩; have HO3 := Lib.hid ho3; clear ho3)
      exact ⟨⟨k + 1, by omega, by go_num, by rw [HP.out]; exact HO3, hwr.trans hb3⟩, by simp [intOf]; omega⟩
    · obtain rfl : k = ks.length := by omega
      rw [List.take_length] at hown
      have hpl : (putKeys (List.replicate N 0) ks R).length = N := by rw [putKeys_length, List.length_replicate]
      have HE : Hid (mkf ks b = putKeys (List.replicate N 0) ks R ++ [UInt8.ofNat R]) := Lib.hid (by unfold mkf; rw [← HN.out, ← HRp.out])
      have HR8 : Hid ((cells8 [UInt8.ofNat R]) = [.int .u8 (R : Nat)]) := Lib.hid (by
        simp [cells8]
        omega)
      generalize putKeys (List.replicate N 0) ks R = m at *
      have hNb : N ≤ 1000000000000 := by omega
      go_wp2_with (at_builtin; refine app_cell _ rfl _ _ 32 rfl Try.underlying32 Try.infoB rfl (by omega) rfl (hown.out.alloc _) rfl (heap_at wr _) rfl hNb (Nat.le_trans hwr.size (by simp)) ?_; intro v' w4 hown4 hb4 _; have HO4 := Lib.hid hown4; clear hown4)
      go_ret
      refine ⟨_, rfl, ?_, hwr.trans (((Below.refl _ _).alloc hwr.size _).trans hb4)⟩
      have h4 := HO4.out
      rw [HE.out, cells8_append, HR8.out, List.length_append, hpl]
      exact h4
end Go.Proofs.Ytogihaiedemdhaa

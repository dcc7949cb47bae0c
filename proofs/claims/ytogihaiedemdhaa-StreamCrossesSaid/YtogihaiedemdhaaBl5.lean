/-
  The reference's places, Bits, Make.
-/
import Derived.Test.YtogihaiedemdhaaBl4
namespace Go.Proofs.Ytogihaiedemdhaa
open Go.RowKit
set_option linter.unusedVariables false

theorem Try.infoW : (Try.prog.info? 24).map (fun i => (i.zero, i.size, i.bytes)) = some (some (.int .u32 0), 1, 4) := by kernel_rfl
def cells32 (l : List Nat) : List Value := l.map fun n => Value.int .u32 (n : Nat)
theorem cells32_length (l : List Nat) : (cells32 l).length = l.length := by simp [cells32]

theorem rmore_at (s : Nat) (v : Int) (x : Addr) (n c : Nat) (l : List UInt8) (w : World) (hv : v = s) (hn : n = l.length) (hs : s < 4294967296) (hl : l.length ≤ maxLen) (hb : Bytes w (some x) l) :
    Calls Try.prog 34 #[.int .u32 v, .slice (some x) n c] w fun e w' => e = .returned (.int .u32 (more s l : Nat)) ∧ w = w' := by
  subst hv hn; exact ref_any s (some x) c l w hs hl hb

set_option maxRecDepth 100000 in
set_option maxHeartbeats 800000 in
theorem places_any (s : ByteArray) (m k : Nat) (w : World) (hs : s.size ≤ maxLen) (hm : 0 < m) (hm2 : m < 4294967296) (hk : k ≤ 100) :
    Calls Try.prog 30 #[.string s, .int .u32 m, .int .i64 k] w fun e w' => ∃ v, e = .returned v ∧ w'.ownsRow w.heap.size 24 1 v k (cells32 (plc m (h0 s) (rot (h0 s) 15) k)) ∧ Below w.heap.size w w' := by
  have hh := h0_lt s
  have hd := rot15_lt (h0 s) hh
  have hrot : (h0 s : Int) / 131072 + (h0 s : Int) % 131072 * 32768 = (rot (h0 s) 15 : Nat) := by unfold rot; omega
  have hsl : s.data.toList.length ≤ maxLen := by rw [size_toList]; exact hs
  have HH : Hid (more 0 s.data.toList = h0 s) := Lib.hid rfl
  go_enter Try.func30, Try.ntmps30
  go_wp2_with (refine wpList_to_bytes w rfl _ 9 32 rfl (e := 5) Try.underlying9 Try.underlying32 Try.underlying5 (s := s) (by rfl) ?_; intro c w1 hb1 hz1 hB1)
  refine (rmore_at 0 0 ⟨w.heap.size, 0, none⟩ s.size c s.data.toList _ (by rfl) (size_toList s).symm (by omega) hsl hB1).mono ?_
  rintro _ _ ⟨rfl, rfl⟩
  rw [HH.out]
  go_wp2
  clear hrot
  go_loopw [7, 9, 10] (fun h v i wr => ∃ j : Nat, j ≤ k ∧ h = .int .u32 (stp (h0 s) (rot (h0 s) 15) j : Nat) ∧ i = .int .i64 j ∧ Hid (wr.ownsRow w.heap.size 24 1 v j (cells32 (plc m (h0 s) (rot (h0 s) 15) j))) ∧ Below w.heap.size w wr) (fun _ _ i _ => k - (intOf i).toNat)
  case atStart => exact ⟨0, by omega, rfl, rfl, Lib.hid (World.ownsRow_nil _ _ _ _), hb1⟩
  case round =>
    obtain ⟨j, hj, rfl, rfl, hown, hwr⟩ := hrel
    by_cases hlt : j < k
    · have hx := stp_lt (h0 s) (rot (h0 s) 15) j hh
      have HP : Hid (plc m (h0 s) (rot (h0 s) 15) (j + 1) = plc m (h0 s) (rot (h0 s) 15) j ++ [stp (h0 s) (rot (h0 s) 15) j % m]) := Lib.hid rfl
      have HS : Hid (stp (h0 s) (rot (h0 s) 15) (j + 1) = (stp (h0 s) (rot (h0 s) 15) j + rot (h0 s) 15) % 4294967296) := Lib.hid rfl
      generalize stp (h0 s) (rot (h0 s) 15) j = x at *
      have hj2 : j ≤ 1000000000000 := by omega
      obtain ⟨p, hp1, hp2⟩ : ∃ p : Nat, (x : Int) % (m : Int) = (p : Int) ∧ Hid (x % m = p) := ⟨x % m, by simp, Lib.hid rfl⟩
      have hm0 : (m : Int) ≠ 0 := by omega
      have hm1 : ((m : Int) == 0) = false := by simp; omega
      go_wp2_with (at_builtin; refine app_cell _ rfl _ _ 45 rfl Try.underlying45 Try.infoW rfl (by omega) rfl (hown.out.alloc _) rfl (heap_at wr _) rfl hj2 (Nat.le_trans hwr.size (by simp)) ?_; intro v' w4 hown4 hb4 _; have HO4 := Lib.hid hown4; clear hown4)
      refine ⟨⟨j + 1, by omega, by rw [HS.out]; go_num, by go_num, Lib.hid ?_, hwr.trans (((Below.refl _ _).alloc hwr.size _).trans hb4)⟩, by simp [intOf]; omega⟩
      have h4 := HO4.out
      rw [HP.out, hp2.out]
      simpa [cells32] using h4
    · obtain rfl : j = k := by omega
      go_wp2
      go_ret
      exact ⟨_, rfl, hown.out, hwr⟩

theorem places_at (s : ByteArray) (m k : Nat) (v : Int) (w : World) (hv : v = m) (hs : s.size ≤ maxLen) (hm : 0 < m) (hm2 : m < 4294967296) (hk : k ≤ 100) :
    Calls Try.prog 30 #[.string s, .int .u32 v, .int .i64 k] w fun e w' => ∃ v, e = .returned v ∧ w'.ownsRow w.heap.size 24 1 v k (cells32 (plc m (h0 s) (rot (h0 s) 15) k)) ∧ Below w.heap.size w w' := by
  subst hv; exact places_any s m k w hs hm hm2 hk
theorem ret_two {k l : IntKind} {a b c d : Int} (h1 : a = c) (h2 : b = d) : Ending.returned (.tuple #[.int k a, .int l b]) = .returned (.tuple #[.int k c, .int l d]) := by rw [h1, h2]
set_option maxHeartbeats 400000 in
theorem bits_any (b : Int) (w : World) (hb1 : -9223372036854775808 ≤ b) (hb2 : b ≤ 9223372036854775807) :
    Calls Try.prog 29 #[.int .i64 b] w fun e w' => e = .returned (.tuple #[.int .i64 (bitsOf b : Nat), .int .i64 (probesOf b : Nat)]) ∧ w = w' := by
  have HB : Hid ((bitsOf b : Int) = max 1 (min b 64) ∧ (probesOf b : Int) = max 1 (min (69 * max 1 (min b 64) / 100) 30)) := Lib.hid (by
    have e : (bitsOf b : Int) = max 1 (min b 64) := by unfold bitsOf; omega
    refine ⟨e, ?_⟩
    unfold probesOf
    omega)
  go_enter Try.func29, Try.ntmps29
  go_wp2
  all_goals
    go_ret2
    obtain ⟨h1, h2⟩ := HB.out
    refine ⟨ret_two (k := .i64) (l := .i64) ?_ ?_, rfl⟩
    · omega
    · omega
end Go.Proofs.Ytogihaiedemdhaa

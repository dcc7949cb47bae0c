/-
  bloom.set: a key's bits are put into the call's own bytes.
-/
import Derived.Test.YtogihaiedemdhaaBl1
namespace Go.Proofs.Ytogihaiedemdhaa
open Go.RowKit
set_option linter.unusedVariables false

theorem Try.infoB : (Try.prog.info? 5).map (fun i => (i.zero, i.size, i.bytes)) = some (some (.int .u8 0), 1, 1) := by kernel_rfl

theorem cells8_set (l : List UInt8) (k : Nat) (c : UInt8) : (cells8 l).set k (.int .u8 (c.toNat : Nat)) = cells8 (l.set k c) := by simp [cells8]

set_option maxRecDepth 100000 in
set_option maxHeartbeats 800000 in
theorem set_any (K g n cap : Nat) (l : List UInt8) (s : ByteArray) (k : Nat) (w : World) (hown : w.ownsRow K 5 1 (.slice (some ⟨g, 0, none⟩) n cap) n (cells8 l)) (hl : l.length = n) (hn1 : 1 ≤ n) (hn2 : n ≤ 100000000) (hk : k ≤ 100)
    (hs : s.size ≤ maxLen) (hK : K ≤ w.heap.size) :
    Calls Try.prog 28 #[.slice (some ⟨g, 0, none⟩) n cap, .string s, .int .i64 k] w fun e w' => e = .returned (.tuple #[]) ∧ w'.ownsRow K 5 1 (.slice (some ⟨g, 0, none⟩) n cap) n (cells8 (putKey l s k)) ∧ Below K w w' := by
  have hKg : K ≤ g ∧ g < w.heap.size := hown.lt g rfl
  have HO := Lib.hid hown
  clear hown
  have HL := Lib.hid hl
  clear hl
  have hh := h0_lt s
  have hd := rot15_lt (h0 s) hh
  go_enter Try.func28, Try.ntmps28
  go_wp2_with (first
    | (refine wpList_to_bytes w rfl _ 9 32 rfl (e := 5) Try.underlying9 Try.underlying32 Try.underlying5 (s := s) (by rfl) ?_; intro c w1 hb1 hz1 hB1)
    | ((with_reducible refine (sum_str (w.heap.size + 1) w.heap.size c s _ hs ?_ ?_).mono ?_); (first | exact World.cell?_alloc_mark _ _ _ _ _ | go_simp); exact hB1.alloc _; rintro _ _ ⟨rfl, rfl⟩)
    | ((with_reducible refine (rot15_any _ (h0 s) _ rfl hh).mono ?_); rintro _ _ ⟨rfl, rfl⟩))
  have hbw : Below K w (w1.alloc (.cells #[.slice (some ⟨w.heap.size, 0, none⟩) s.size c] 32)) := (hb1.mono hK).alloc (by omega) _
  have HO1 : Hid ((w1.alloc (.cells #[.slice (some ⟨w.heap.size, 0, none⟩) s.size c] 32)).ownsRow K 5 1 (.slice (some ⟨g, 0, none⟩) n cap) n (cells8 l)) := Lib.hid (World.ownsRow.alloc (HO.out.kept ⟨hb1.os, hb1.tape, hb1.output, hb1.size, fun k hk _ => hb1.block k hk⟩ (row := none) (by simp [Value.ownBlock])) _)
  generalize w1.alloc (.cells #[.slice (some ⟨w.heap.size, 0, none⟩) s.size c] 32) = w2 at *
  clear hB1 HO
  go_loopw [6, 16] (fun h i wr => ∃ j : Nat, j ≤ k ∧ h = .int .u32 (stp (h0 s) (rot (h0 s) 15) j : Nat) ∧ i = .int .i64 j ∧ Hid (wr.ownsRow K 5 1 (.slice (some ⟨g, 0, none⟩) n cap) n (cells8 (orBits l (plc (8 * n) (h0 s) (rot (h0 s) 15) j)))) ∧ Below K w wr) (fun _ i _ => k - (intOf i).toNat)
  case atStart => exact ⟨0, by omega, rfl, rfl, HO1, hbw⟩
  case round =>
    obtain ⟨j, hj, rfl, rfl, hown, hwr⟩ := hrel
    by_cases hlt : j < k
    · have hx := stp_lt (h0 s) (rot (h0 s) 15) j hh
      have HP : Hid (plc (8 * n) (h0 s) (rot (h0 s) 15) (j + 1) = plc (8 * n) (h0 s) (rot (h0 s) 15) j ++ [stp (h0 s) (rot (h0 s) 15) j % (8 * n)]) := Lib.hid rfl
      have HS : Hid (stp (h0 s) (rot (h0 s) 15) (j + 1) = (stp (h0 s) (rot (h0 s) 15) j + rot (h0 s) 15) % 4294967296) := Lib.hid rfl
      generalize stp (h0 s) (rot (h0 s) 15) j = x at *
      have hp := Nat.mod_lt x (show 0 < 8 * n by omega)
      have hq : x % (8 * n) / 8 < n := by omega
      have hcast : ((x % (8 * n) : Nat) : Int) = (x : Int) % (8 * (n : Int)) := by simp
      obtain ⟨r, hr, hr8, hrv⟩ : ∃ r : Nat, bits BinOp.and IntKind.u32 ((x : Int) % (8 * (n : Int))) 7 = (r : Int) ∧ r < 8 ∧ Hid (x % (8 * n) % 8 = r) :=
        ⟨x % (8 * n) % 8, by rw [← hcast]; exact and7 _ (by omega), Nat.mod_lt _ (by omega), Lib.hid rfl⟩
      have i1 : (0 : Int) ≤ (x : Int) % (8 * (n : Int)) / 8 := by rw [← hcast]; omega
      have i2 : (x : Int) % (8 * (n : Int)) / 8 < (n : Int) := by rw [← hcast]; omega
      have hlen : (orBits l (plc (8 * n) (h0 s) (rot (h0 s) 15) j)).length = n := by rw [orBits_length, HL.out]
      have HB : Hid (orBits l (plc (8 * n) (h0 s) (rot (h0 s) 15) (j + 1)) = orBit (orBits l (plc (8 * n) (h0 s) (rot (h0 s) 15) j)) (x % (8 * n))) := Lib.hid (by rw [HP.out, orBits_snoc])
      generalize orBits l (plc (8 * n) (h0 s) (rot (h0 s) 15) j) = m at *
      have hcell := hown.out.cellAt (x % (8 * n) / 8) (by omega)
      rw [cells8_getElem? m _ (by omega)] at hcell
      have hfr := hown.out.frozenAt (x % (8 * n) / 8)
      obtain ⟨v, hsh, hsw, hvb⟩ : ∃ v : Nat, Op.shift BinOp.shl IntKind.u8 1 IntKind.u32 (r : Int) = pure (.int .u8 (v : Int)) ∧ IntKind.u8.wrap (2 ^ r) = (v : Int) ∧ Hid (v = (bit8 (x % (8 * n))).toNat) :=
        ⟨(bit8 (x % (8 * n))).toNat, by rw [← hrv.out]; exact shl8 _, by rw [← hrv.out]; exact shl8w _, Lib.hid rfl⟩
      obtain ⟨c', hor, hcv⟩ : ∃ c' : UInt8, bits BinOp.or IntKind.u8 ((m[x % (8 * n) / 8]'(by omega)).toNat : Nat) (v : Int) = (c'.toNat : Nat) ∧ Hid (orBit m (x % (8 * n)) = m.set (x % (8 * n) / 8) c') :=
        ⟨m[x % (8 * n) / 8]'(by omega) ||| bit8 (x % (8 * n)), by rw [hvb.out]; exact or8 _ _, Lib.hid (by unfold orBit; rw [List.getElem?_eq_getElem (by omega)]; rfl)⟩
      clear hcast
      go_wp2
      refine ⟨⟨j + 1, by omega, by rw [HS.out]; go_num, by go_num, Lib.hid ?_, hwr.setCell hKg.1 _⟩, by simp [intOf]; omega⟩
      have := (hown.out.stored (x % (8 * n) / 8) (.int .u8 (c'.toNat : Nat))).1
      rw [cells8_set] at this
      rw [HB.out, hcv.out]
      exact this
    · obtain rfl : j = k := by omega
      go_wp2
      go_end0
      refine ⟨rfl, ?_, hwr⟩
      unfold putKey
      rw [HL.out]
      exact hown.out
end Go.Proofs.Ytogihaiedemdhaa

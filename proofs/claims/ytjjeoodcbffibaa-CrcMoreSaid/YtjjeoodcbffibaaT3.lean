import Derived.Test.YtjjeoodcbffibaaT2
namespace Go.Proofs.Ytjjeoodcbffibaa
open Go.RowKit
set_option linter.unusedVariables false

theorem rot_lt17 (x : Nat) (h : x < 4294967296) : rot x 17 < 4294967296 := by unfold rot; omega
theorem rot_lt15 (x : Nat) (h : x < 4294967296) : rot x 15 < 4294967296 := by unfold rot; omega
theorem rot_17_15 (x : Nat) (h : x < 4294967296) : rot (rot x 17) 15 = x := by
  unfold rot
  simp only [Nat.reducePow, Nat.reduceSub]
  have h1 : (x % 32768 * 131072 + x / 32768) % 131072 = x / 32768 := by omega
  have h2 : (x % 32768 * 131072 + x / 32768) / 131072 = x % 32768 := by omega
  rw [h1, h2]; omega
theorem rot_15_17 (x : Nat) (h : x < 4294967296) : rot (rot x 15) 17 = x := by
  unfold rot
  simp only [Nat.reducePow, Nat.reduceSub]
  have h1 : (x % 131072 * 32768 + x / 131072) % 32768 = x / 131072 := by omega
  have h2 : (x % 131072 * 32768 + x / 131072) / 32768 = x % 131072 := by omega
  rw [h1, h2]; omega
theorem unmask_mask (x : Nat) (h : x < 4294967296) : unmask (mask x) = x := by
  have h1 := rot_lt17 x h
  unfold unmask mask
  rw [show ((rot x 17 + 2726488792) % 4294967296 + (4294967296 - 2726488792)) % 4294967296 = rot x 17 by omega]
  exact rot_17_15 x h
theorem mask_unmask (x : Nat) (h : x < 4294967296) : mask (unmask x) = x := by
  unfold unmask mask
  rw [rot_15_17 _ (by omega)]; omega

set_option maxHeartbeats 400000 in
theorem law_more (s : Nat) (a : Option Addr) (cap : Nat) (l : List UInt8) (w : World) (hs : s < 4294967296) (hl : l.length ≤ maxLen) (hb : Bytes w a l) :
    Calls Try.prog 3 #[.int .u32 s, .slice a l.length cap] w fun e w' => e = .returned (.bool true) ∧ Below w.heap.size w w' := by
  go_enter Try.func3, Try.ntmps3
  go_wp2_with fail
  refine (shown_any _).mono ?_
  rintro e w1 ⟨rfl, hw1⟩
  go_wp2_with fail
  refine (more_any _ _ _ _ _ hs hl (hb.below hw1)).mono ?_
  rintro e w' ⟨rfl, rfl⟩
  go_wp2_with fail
  refine (ref_any _ _ _ _ _ hs hl (hb.below hw1)).mono ?_
  rintro e w' ⟨rfl, rfl⟩
  go_wp2_with fail
  go_ret
  exact ⟨rfl, hw1⟩

set_option maxHeartbeats 400000 in
theorem law_masks (x : Nat) (w : World) (hx : x < 4294967296) :
    Calls Try.prog 8 #[.int .u32 x] w fun e w' => e = .returned (.bool true) ∧ Below w.heap.size w w' := by
  have m1 : mask x < 4294967296 := by unfold mask; omega
  have m2 : unmask x < 4294967296 := by unfold unmask rot; omega
  have e1 := unmask_mask x hx
  have e2 := mask_unmask x hx
  have H1 := Lib.hid e1; clear e1
  have H2 := Lib.hid e2; clear e2
  go_enter Try.func8, Try.ntmps8
  go_wp2_with fail
  refine (shown_any _).mono ?_
  rintro e w1 ⟨rfl, hw1⟩
  go_wp2_with fail
  refine (mask_any _ _ hx).mono ?_
  rintro e w' ⟨rfl, rfl⟩
  go_wp2_with fail
  refine (rmask_any _ _ hx).mono ?_
  rintro e w' ⟨rfl, rfl⟩
  go_wp2_with fail
  refine (unmask_any _ _ hx).mono ?_
  rintro e w' ⟨rfl, rfl⟩
  go_wp2_with fail
  refine (runmask_any _ _ hx).mono ?_
  rintro e w' ⟨rfl, rfl⟩
  go_wp2_with fail
  refine (mask_any _ _ hx).mono ?_
  rintro e w' ⟨rfl, rfl⟩
  go_wp2_with fail
  refine (unmask_any _ _ m1).mono ?_
  rintro e w' ⟨rfl, rfl⟩
  rw [H1.out]
  go_wp2_with fail
  refine (unmask_any _ _ hx).mono ?_
  rintro e w' ⟨rfl, rfl⟩
  go_wp2_with fail
  refine (mask_any _ _ m2).mono ?_
  rintro e w' ⟨rfl, rfl⟩
  rw [H2.out]
  go_wp2_with fail
  go_ret
  exact ⟨rfl, hw1⟩
end Go.Proofs.Ytjjeoodcbffibaa

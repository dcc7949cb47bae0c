/-
  The examples at the head of the statements; BloomMays.
-/
import Derived.Test.YtogihaiedemdhaaBl7
namespace Go.Proofs.Ytogihaiedemdhaa
open Go.RowKit
set_option linter.unusedVariables false

theorem mk0 : mkf [] 10 = [0, 0, 0, 0, 0, 0, 0, 0, 6] := by decide +kernel
theorem may0 : mayf [0, 0, 0, 0, 0, 0, 0, 0, 6] ⟨#[97]⟩ = false := by decide +kernel
theorem may1 : mayf [6] ⟨#[97]⟩ = true := by decide +kernel

set_option maxRecDepth 100000 in
set_option maxHeartbeats 800000 in
theorem shown_any (w : World) :
    Calls Try.prog 16 #[] w fun e w' => e = .returned (.bool true) ∧ Below w.heap.size w w' := by
  have hmake := make_any none 0 [] 10 w (by simp) (by omega) (fun i hi => absurd hi (by simp))
  rw [mk0] at hmake
  have HMK : Hid (Calls Try.prog 17 #[.slice none 0 0, .int .i64 10] w fun e w' => ∃ v, e = .returned v ∧ w'.ownsRow w.heap.size 5 1 v 9 (cells8 [0, 0, 0, 0, 0, 0, 0, 0, 6]) ∧ Below w.heap.size w w') := Lib.hid hmake
  clear hmake
  have hm9 := fun (g c : Nat) (w : World) (h1 : 9 ≤ c) (h2 : c ≤ maxLen) (h3 : Bytes w (some ⟨g, 0, none⟩) [0, 0, 0, 0, 0, 0, 0, 0, 6]) => may_any (some ⟨g, 0, none⟩) c [0, 0, 0, 0, 0, 0, 0, 0, 6] ⟨#[97]⟩ w (by simp) h1 h2 (by unfold maxLen; decide) h3
  have hm1 := fun (g : Nat) (w : World) (h3 : Bytes w (some ⟨g, 0, none⟩) [6]) => may_any (some ⟨g, 0, none⟩) 1 [6] ⟨#[97]⟩ w (by simp) (by simp) (by unfold maxLen; omega) (by unfold maxLen; decide) h3
  rw [may0] at hm9
  rw [may1] at hm1
  have HM9 : Hid (∀ (g c : Nat) (w : World), 9 ≤ c → c ≤ maxLen → Bytes w (some ⟨g, 0, none⟩) [0, 0, 0, 0, 0, 0, 0, 0, 6] → Calls Try.prog 20 #[.slice (some ⟨g, 0, none⟩) 9 c, .string ⟨#[97]⟩] w fun e w' => e = .returned (.bool false) ∧ Below w.heap.size w w') := Lib.hid hm9
  have HM1 : Hid (∀ (g : Nat) (w : World), Bytes w (some ⟨g, 0, none⟩) [6] → Calls Try.prog 20 #[.slice (some ⟨g, 0, none⟩) 1 1, .string ⟨#[97]⟩] w fun e w' => e = .returned (.bool true) ∧ Below w.heap.size w w') := Lib.hid hm1
  clear hm9 hm1
  go_enter Try.func16, Try.ntmps16
  go_wp2_with (first
    | ((with_reducible refine HMK.out.mono ?_); rintro _ w1 ⟨v1, rfl, ho1, hb1⟩; obtain ⟨g, c, rfl, hg⟩ := ho1.form (by omega); obtain ⟨_, hc9, hcm, _, hB1⟩ := bytes_owns (l := [0, 0, 0, 0, 0, 0, 0, 0, 6]) ho1; have HB1 := Lib.hid hB1; have h9c : 9 ≤ c := hc9; clear ho1 hB1 hc9)
    | (refine wpList_to_string w1 rfl _ 32 9 rfl (e := 5) Try.underlying32 Try.underlying5 Try.underlying9 (A := some ⟨g, 0, none⟩) (n := 9) (cap := c) (l := [0, 0, 0, 0, 0, 0, 0, 0, 6]) (by rfl) rfl HB1.out ?_)
    | ((with_reducible refine (HM9.out g c w1 h9c hcm HB1.out).mono ?_); rintro _ w2 ⟨rfl, hb2⟩)
    | ((with_reducible refine (HM1.out w2.heap.size _ ?_).mono ?_); exact bytes_block [6] (heap_at w2 _) rfl; rintro _ w3 ⟨rfl, hb3⟩))
  go_ret
  exact ⟨rfl, hb1.trans ((hb2.mono hb1.size).trans (((Below.refl _ _).alloc (Nat.le_trans hb1.size hb2.size) _).trans (hb3.mono (Nat.le_trans hb1.size (Nat.le_trans hb2.size (by simp))))))⟩
end Go.Proofs.Ytogihaiedemdhaa

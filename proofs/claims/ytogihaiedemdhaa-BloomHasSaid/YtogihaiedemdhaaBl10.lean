/-
  BloomHas.
-/
import Derived.Test.YtogihaiedemdhaaBl9
import Derived.Test.YtogihaiedemdhaaBlP
namespace Go.Proofs.Ytogihaiedemdhaa
open Go.RowKit
set_option linter.unusedVariables false

set_option maxRecDepth 100000 in
set_option maxHeartbeats 1600000 in
theorem law_has (a : Option Addr) (cap : Nat) (ks : List ByteArray) (b : Int) (w : World) (hcap : ks.length ≤ cap) (hcm : cap ≤ maxLen) (hb : -9223372036854775808 ≤ b ∧ b ≤ 9223372036854775807) (hs : Strs w a ks) :
    Calls Try.prog 6 #[.slice a ks.length cap, .int .i64 b] w fun e w' => e = .returned (.bool true) ∧ Below w.heap.size w w' := by
  have HFW := Lib.hid (fun w => few_any a cap ks w hcap hcm)
  have hsX := hs.take 10000
  have hXl : (ks.take 10000).length ≤ 10000 := by simp; omega
  generalize ks.take 10000 = X at *
  have HMK : Hid (∀ w', Below w.heap.size w w' → Calls Try.prog 17 #[.slice a X.length cap, .int .i64 b] w' (MadeB w' (mkf X b))) := Lib.hid (fun w' h => make_any a cap X b w' hXl hb (hsX.below h))
  have hF := mkf_pos X b
  have hFl : (mkf X b).length ≤ 1000001 := by have := lenOf_le X.length b hXl; rw [mkf_length]; omega
  have HH := Lib.hid (mkf_has X b)
  have HS := Lib.hid hsX
  generalize mkf X b = F at *
  clear hs hsX hcap hcm hb
  go_enter Try.func6, Try.ntmps6
  go_wp2_with (first
    | ((with_reducible refine (shown_any w).mono ?_); rintro _ w1 ⟨rfl, hb1⟩)
    | ((with_reducible refine (HMK.out w1 hb1).mono ?_); intro e2 w2 hm2; obtain ⟨g2, c2, rfl, hl2, hc2, hB2, hb2⟩ := hm2.open hF; have HB := Lib.hid hB2; have hw2 := Lib.hid (hb1.trans (hb2.mono hb1.size)); clear hm2 hB2)
    | ((with_reducible refine (HFW.out _).mono ?_); rintro _ _ ⟨rfl, rfl⟩))
  go_loopw [17] (fun i wr => ∃ k : Nat, k ≤ X.length ∧ i = .int .i64 k ∧ Below w2.heap.size w2 wr) (fun i _ => X.length - (intOf i).toNat)
  case atStart => exact ⟨0, by omega, rfl, Below.refl _ _⟩
  case round =>
    obtain ⟨k, hk, rfl, hwr⟩ := hrel
    have hwB : Below w.heap.size w wr := hw2.out.trans (hwr.mono hw2.out.size)
    by_cases hlt : k < X.length
    · obtain ⟨bb, off, rfl, hc, hkm⟩ := (HS.out.below hwB) k hlt
      have hm := HH.out X[k] (List.getElem_mem hlt)
      have hin : (k : Int) < (X.length : Int) := by omega
      generalize X[k] = key at *
      have c20 := fun w hb => may_any (some ⟨g2, 0, none⟩) c2 F key w hFl hl2 hc2 hkm hb
      rw [hm] at c20
      have C20 := Lib.hid c20
      clear c20 hm
      go_wp2_with ((with_reducible refine (C20.out wr (HB.out.below hwr)).mono ?_); rintro _ w3 ⟨rfl, hb3⟩)
      exact ⟨⟨k + 1, by omega, by go_num, hwr.trans (hb3.mono hwr.size)⟩, by simp [intOf]; omega⟩
    · obtain rfl : k = X.length := by omega
      have hin : ¬ (X.length : Int) < (X.length : Int) := by omega
      go_wp2
      go_ret
      exact ⟨rfl, hwB⟩
end Go.Proofs.Ytogihaiedemdhaa

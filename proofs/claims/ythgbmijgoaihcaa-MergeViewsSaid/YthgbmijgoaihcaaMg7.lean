/-
  The reference's Range.
-/
import Derived.Test.YthgbmijgoaihcaaMg5
namespace Go.Proofs.Ythgbmijgoaihcaa
open Go.RowKit
set_option linter.unusedVariables false

set_option maxRecDepth 100000 in
set_option maxHeartbeats 1600000 in
theorem rrange_any (a : Option Addr) (cap : Nat) (l : List Pr) (lo hi : ByteArray) (w : World) (hl2 : l.length ≤ 2932031007400) (hb : Prs w a l) :
    Calls Try.prog 32 #[.slice a l.length cap, .string lo, .string hi] w fun e w' => ∃ v, e = .returned v ∧ OwnP w' w.heap.size v (l.filter (inR lo hi)) ∧ Below w.heap.size w w' := by
  obtain ⟨K, HK⟩ : ∃ K, Hid (w.heap.size = K) := ⟨_, Lib.hid rfl⟩
  rw [HK.out]
  go_enter Try.func32, Try.ntmps32
  go_wp2
  go_loopw [7, 8] (fun ov iv wr => ∃ k : Nat, k ≤ l.length ∧ iv = .int .i64 k ∧ Hid (OwnP wr K ov ((l.take k).filter (inR lo hi))) ∧ Below K w wr) (fun _ iv _ => l.length - (intOf iv).toNat)
  case atStart => exact ⟨0, by omega, rfl, Lib.hid (OwnP.nil _ _), by rw [← HK.out]; exact Below.refl _ _⟩
  case round =>
    obtain ⟨k, hk, rfl, hown, hwr⟩ := hrel
    have hKw : K ≤ wr.heap.size := by have := hwr.size; rw [HK.out] at this; exact this
    by_cases hlt : k < l.length
    · obtain ⟨b, off, rfl, c0, c1⟩ := (hb.below (w' := wr) (by rw [HK.out]; exact hwr)) k hlt
      have hin : (k : Int) < (l.length : Int) := by omega
      have HF := Lib.hid (filter_take (inR lo hi) l k hlt)
      have hlo : ((l.take k).filter (inR lo hi)).length + 1 ≤ 4398046511104 := by
        have h1 := List.length_filter_le (inR lo hi) (l.take k)
        rw [List.length_take] at h1
        omega
      generalize l[k] = x at *
      generalize (l.take k).filter (inR lo hi) = out at *
      obtain ⟨xk, xv⟩ := x
      dsimp only at *
      cases q1 : Op.bytesLess xk.toList lo.toList with
      | true =>
        have HR : Hid ((l.take (k + 1)).filter (inR lo hi) = out) := Lib.hid (HF.out.trans (by simp [inR, q1]))
        clear HF
        go_wp2
        exact ⟨⟨k + 1, by omega, by go_num, Lib.hid (by rw [HR.out]; exact hown.out), hwr⟩, by simp [intOf]; omega⟩
      | false =>
        cases q2 : hi.toList.isEmpty with
        | true =>
          have q2'' : hi.toList = [] := List.isEmpty_iff.1 q2
          have HR : Hid ((l.take (k + 1)).filter (inR lo hi) = out ++ [(xk, xv)]) := Lib.hid (HF.out.trans (by rw [if_pos (by unfold inR; dsimp only; rw [q1]; simp only [Bool.not_false, Bool.true_and]; rw [q2, Bool.true_or])]))
          clear HF
          go_wp2_with (at_builtin; refine app_pr _ rfl _ _ 39 rfl Try.underlying39 infoPr rfl rfl (OwnP.later hown.out ((Below.refl wr.heap.size wr).alloc (Nat.le_refl _) _)) (e := (xk, xv)) rfl (heap_at' (by simp)) hlo (Nat.le_trans hKw (by simp)) ?_; intro v' w2 hown2 hb2)
          have hbe : Below K wr w2 := (((Below.refl wr.heap.size wr).alloc (Nat.le_refl _) _).mono hKw).trans hb2
          exact ⟨⟨k + 1, by omega, by go_num, Lib.hid (by rw [HR.out]; exact hown2), hwr.trans hbe⟩, by simp [intOf]; omega⟩
        | false =>
          have q2'' : ¬ hi.toList = [] := fun h => by rw [h] at q2; cases q2
          cases q3 : Op.bytesLess xk.toList hi.toList with
          | true =>
            have HR : Hid ((l.take (k + 1)).filter (inR lo hi) = out ++ [(xk, xv)]) := Lib.hid (HF.out.trans (by rw [if_pos (by unfold inR; dsimp only; rw [q1]; simp only [Bool.not_false, Bool.true_and]; rw [q2, q3, Bool.false_or])]))
            clear HF
            go_wp2_with (at_builtin; refine app_pr _ rfl _ _ 39 rfl Try.underlying39 infoPr rfl rfl (OwnP.later hown.out ((Below.refl wr.heap.size wr).alloc (Nat.le_refl _) _)) (e := (xk, xv)) rfl (heap_at' (by simp)) hlo (Nat.le_trans hKw (by simp)) ?_; intro v' w2 hown2 hb2)
            have hbe : Below K wr w2 := (((Below.refl wr.heap.size wr).alloc (Nat.le_refl _) _).mono hKw).trans hb2
            exact ⟨⟨k + 1, by omega, by go_num, Lib.hid (by rw [HR.out]; exact hown2), hwr.trans hbe⟩, by simp [intOf]; omega⟩
          | false =>
            have HR : Hid ((l.take (k + 1)).filter (inR lo hi) = out) := Lib.hid (HF.out.trans (by rw [if_neg (by unfold inR; dsimp only; rw [q1, q2, q3]; decide), List.append_nil]))
            clear HF
            go_wp2
            exact ⟨⟨k + 1, by omega, by go_num, Lib.hid (by rw [HR.out]; exact hown.out), hwr⟩, by simp [intOf]; omega⟩
    · obtain rfl : k = l.length := by omega
      have hin : ¬ (l.length : Int) < (l.length : Int) := by omega
      rw [List.take_length] at hown
      go_wp2
      go_ret
      exact ⟨_, rfl, hown.out, hwr⟩
end Go.Proofs.Ythgbmijgoaihcaa

/-
  BloomMore.
-/
import Derived.Test.YtogihaiedemdhaaBl9
import Derived.Test.YtogihaiedemdhaaBlP
namespace Go.Proofs.Ytogihaiedemdhaa
open Go.RowKit
set_option linter.unusedVariables false

set_option maxRecDepth 100000 in
set_option maxHeartbeats 1600000 in
theorem law_more (a : Option Addr) (cap : Nat) (f : List UInt8) (a2 : Option Addr) (cap2 : Nat) (more : List UInt8) (s : ByteArray) (w : World) (hcap : f.length ≤ cap) (hcm : cap ≤ maxLen) (hm2 : more.length ≤ maxLen) (hs : s.size ≤ maxLen) (hb : Bytes w a f) (hb2 : Bytes w a2 more) :
    Calls Try.prog 7 #[.slice a f.length cap, .slice a2 more.length cap2, .string s] w fun e w' => e = .returned (.bool true) ∧ Below w.heap.size w w' := by
  have hfm : f.length ≤ maxLen := Nat.le_trans hcap hcm
  have hfm' : f.length ≤ 9223372036854775807 := by unfold maxLen at hfm; omega
  have hmm' : more.length ≤ 9223372036854775807 := by unfold maxLen at hm2; omega
  have HB := Lib.hid hb
  have HB2 := Lib.hid hb2
  clear hb hb2
  by_cases h2 : f.length < 2
  · have d0 : decide (f.length < 2) = true := by simp; omega
    have d1 : decide ((f.length : Int) < 2) = true := by simp; omega
    go_enter Try.func7, Try.ntmps7
    go_wp2_with ((with_reducible refine (shown_any w).mono ?_); rintro _ w1 ⟨rfl, hb1⟩)
    go_ret
    exact ⟨rfl, hb1⟩
  have d0 : decide ((f.length : Int) < 2) = false := by simp; omega
  have d0' : decide (f.length < 2) = false := by simp; omega
  by_cases hlt : 100000 < f.length
  · have d1 : (100000 : Int) < (f.length : Int) := by omega
    go_enter Try.func7, Try.ntmps7
    go_wp2_with ((with_reducible refine (shown_any w).mono ?_); rintro _ w1 ⟨rfl, hb1⟩)
    go_ret
    exact ⟨rfl, hb1⟩
  have d1 : ¬ (100000 : Int) < (f.length : Int) := by omega
  have hl : f.length ≤ 1000001 := by omega
  by_cases hmay : mayf f s = true
  case neg =>
    have hmay' : mayf f s = false := by simpa using hmay
    have c20 := fun w hb => may_any a cap f s w hl hcap hcm hs hb
    rw [hmay'] at c20
    have C20 := Lib.hid c20
    clear c20 hmay hmay'
    go_enter Try.func7, Try.ntmps7
    go_wp2_with (first
      | ((with_reducible refine (shown_any w).mono ?_); rintro _ w1 ⟨rfl, hb1⟩)
      | ((with_reducible refine (C20.out w1 (HB.out.below hb1)).mono ?_); rintro _ w2 ⟨rfl, hb2⟩))
    go_ret
    exact ⟨rfl, hb1.trans (hb2.mono hb1.size)⟩
  have c20 := fun w hb => may_any a cap f s w hl hcap hcm hs hb
  rw [hmay] at c20
  have C20 := Lib.hid c20
  have HMX := Lib.hid (mayf_mix f more f.length s hmay)
  clear c20 hmay
  have hpos : 0 < f.length := by omega
  obtain ⟨b, off, rfl, _⟩ := HB.out 0 hpos
  have h0l : 0 + f.length ≤ 1000000000000 := by omega
  go_enter Try.func7, Try.ntmps7
  go_wp2_with (first
    | ((with_reducible refine (shown_any w).mono ?_); rintro _ w1 ⟨rfl, hb1⟩)
    | ((with_reducible refine (C20.out w1 (HB.out.below hb1)).mono ?_); rintro _ w2 ⟨rfl, hb2⟩; have hw2 := Lib.hid (hb1.trans (hb2.mono hb1.size)))
    | (at_builtin; refine app_many _ rfl _ _ 32 rfl Try.underlying32 Try.infoB rfl (by omega) (K := w2.heap.size) rfl (World.ownsRow_made (base := w2.heap.size) (e := 5) (size := 1) w2 #[] 0 (Nat.le_refl _) (small_len _ (by omega)) rfl) (b := b) (off := off) (m := f.length) (c := cap) (ys := cells8 f) rfl (cells8_length f) (fun j u hu => by have := (((HB.out.below hw2.out).alloc (.cells #[] 5)).news j u hu); rwa [addr_add] at this) (cells8_one f) hpos h0l (by simp) ?_; intro v3 w3 hown3 hb3 _; rw [List.nil_append, Nat.zero_add] at hown3; obtain ⟨g, c, rfl, hg⟩ := hown3.form hpos; have HO3 := Lib.hid hown3; clear hown3))
  have hw3 : Below w.heap.size w w3 := hw2.out.trans (((Below.refl _ _).alloc hw2.out.size _).trans (hb3.mono hw2.out.size))
  have hwg : w.heap.size ≤ g := Nat.le_trans hw2.out.size hg.1
  have HO0 : Hid (w3.ownsRow w2.heap.size 5 1 (.slice (some ⟨g, 0, none⟩) f.length c) f.length (cells8 (mixTo f more 0))) := Lib.hid (by rw [mixTo_zero]; exact HO3.out)
  clear HO3
  go_loopw [31] (fun i wr => ∃ k : Nat, k ≤ f.length ∧ i = .int .i64 k ∧ Hid (wr.ownsRow w2.heap.size 5 1 (.slice (some ⟨g, 0, none⟩) f.length c) f.length (cells8 (mixTo f more k))) ∧ Below w.heap.size w wr) (fun i _ => f.length - (intOf i).toNat)
  case atStart => exact ⟨0, by omega, rfl, HO0, hw3⟩
  case round =>
    obtain ⟨k, hk, rfl, hown, hwr⟩ := hrel
    by_cases hlt : k < f.length
    · have hin : (k : Int) < (f.length : Int) := by omega
      by_cases hc : k < more.length ∧ k + 1 < f.length
      · obtain ⟨hc1, hc2⟩ := hc
        have HST := Lib.hid (mixTo_step f more k hc1 hc2)
        have hml : k < (mixTo f more k).length := by rw [mixTo_length]; exact hlt
        have hcell := hown.out.cellAt k (by omega)
        rw [cells8_getElem? _ k hml, mixTo_get f more k k hlt, if_neg (by omega)] at hcell
        have hfr := hown.out.frozenAt k
        obtain ⟨b2, o2, rfl, hcm2⟩ := (HB2.out.below hwr) k hc1
        have j1 : (k : Int) < (more.length : Int) := by omega
        have j2 : (k : Int) + 1 < (f.length : Int) := by omega
        have j3 : (0 : Int) ≤ (k : Int) := by omega
        obtain ⟨c', hor, hcv⟩ : ∃ c' : UInt8, bits BinOp.or IntKind.u8 ((f[k]'hlt).toNat : Nat) ((more[k]'hc1).toNat : Nat) = (c'.toNat : Nat) ∧ Hid (mixTo f more (k + 1) = (mixTo f more k).set k c') :=
          ⟨f[k] ||| more[k], or8 _ _, HST⟩
        generalize (f[k]'hlt).toNat = cv at *
        generalize (more[k]'hc1).toNat = dv at *
        go_wp2
        go_still_tail 10, (by kernel_rfl)
        change wpList _ _ _ _ _ wr.drew
        go_wp2
        have h5 := hown.out.stored k (.int .u8 (c'.toNat : Nat))
        rw [cells8_set] at h5
        refine ⟨⟨k + 1, by omega, by go_num, Lib.hid ?_, (hwr.setCell (by show _ ≤ g; omega) _).drew⟩, by simp [intOf]; omega⟩
        rw [hcv.out]
        exact World.ownsRow.drew h5.1
      · have HST := Lib.hid (mixTo_skip f more k hc)
        by_cases hc1 : k < more.length
        · have j1 : (k : Int) < (more.length : Int) := by omega
          have j2 : ¬ (k : Int) + 1 < (f.length : Int) := by omega
          go_wp2
          exact ⟨⟨k + 1, by omega, by go_num, by rw [HST.out]; exact hown, hwr⟩, by simp [intOf]; omega⟩
        · have j1 : decide ((k : Int) < (more.length : Int)) = false := by simp; omega
          have j2 : decide (k < more.length) = false := by simp; omega
          go_wp2
          exact ⟨⟨k + 1, by omega, by go_num, by rw [HST.out]; exact hown, hwr⟩, by simp [intOf]; omega⟩
    · obtain rfl : k = f.length := by omega
      have hin : ¬ (f.length : Int) < (f.length : Int) := by omega
      have hXl := mixTo_length f more f.length
      obtain ⟨q0, q1, q2, _, q3⟩ := bytes_owns (l := mixTo f more f.length) (by rw [hXl]; exact hown.out)
      have c20 := may_any (some ⟨g, 0, none⟩) c (mixTo f more f.length) s wr (by omega) (by omega) q2 hs q3
      rw [HMX.out, hXl] at c20
      have C21 := Lib.hid c20
      clear c20 hXl q0 q1 q2 q3
      go_wp2_with ((with_reducible refine C21.out.mono ?_); rintro _ w5 ⟨rfl, hb5⟩)
      go_ret
      exact ⟨rfl, hwr.trans (hb5.mono hwr.size)⟩
end Go.Proofs.Ytogihaiedemdhaa

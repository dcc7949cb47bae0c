/-
  Plain laws of filters: bits once in stay in; what a filter is hangs on the set of its keys and their number.
-/
import Derived.Test.YtogihaiedemdhaaBl1
namespace Go.Proofs.Ytogihaiedemdhaa
open Go.RowKit
set_option linter.unusedVariables false

theorem hasBit_eq (l : List UInt8) (q : Nat) : hasBit l q = (l[q / 8]?.getD 0).toNat.testBit (q % 8) := by
  unfold hasBit
  rw [Nat.testBit_eq_decide_div_mod_eq]
  rfl
theorem hasBit_orBit (l : List UInt8) (p q : Nat) (hq : q / 8 < l.length) : hasBit (orBit l p) q = (hasBit l q || decide (p = q)) := by
  rw [hasBit_eq, hasBit_eq]
  unfold orBit
  by_cases h : p / 8 = q / 8
  · rw [h, List.getElem?_set_self hq, List.getElem?_eq_getElem hq]
    simp only [Option.getD_some]
    rw [UInt8.toNat_or, bit8_nat, Nat.testBit_or, Nat.testBit_two_pow]
    congr 1
    by_cases e : p = q
    · simp [e]
    · have : p % 8 ≠ q % 8 := by omega
      simp [e, this]
  · rw [List.getElem?_set_ne h]
    have : p ≠ q := by intro e; subst e; exact h rfl
    simp [this]
theorem hasBit_orBits (ps : List Nat) : ∀ (l : List UInt8) (q : Nat), q / 8 < l.length → hasBit (orBits l ps) q = (hasBit l q || decide (q ∈ ps)) := by
  induction ps with
  | nil => intro l q h; simp [orBits]
  | cons p t ih =>
    intro l q h
    have := ih (orBit l p) q (by rw [orBit_length]; exact h)
    show hasBit (orBits (orBit l p) t) q = _
    rw [this, hasBit_orBit l p q h, Bool.or_assoc]
    congr 1
    by_cases e : p = q
    · subst e; simp
    · have e' : q ≠ p := fun x => e x.symm
      simp [e, e']
theorem hasBit_putKeys (ks : List ByteArray) (k : Nat) : ∀ (l : List UInt8) (q : Nat), q / 8 < l.length → (hasBit (putKeys l ks k) q = true ↔ hasBit l q = true ∨ ∃ s ∈ ks, q ∈ plc (8 * l.length) (h0 s) (rot (h0 s) 15) k) := by
  induction ks with
  | nil => intro l q h; simp [putKeys]
  | cons s t ih =>
    intro l q h
    have := ih (putKey l s k) q (by rw [putKey_length]; exact h)
    show hasBit (putKeys (putKey l s k) t k) q = true ↔ _
    rw [this, putKey_length]
    unfold putKey
    rw [hasBit_orBits _ l q h]
    simp [or_assoc]
theorem bytes_ext (l m : List UInt8) (h : l.length = m.length) (hb : ∀ q, q / 8 < l.length → (hasBit l q = true ↔ hasBit m q = true)) : l = m := by
  apply List.ext_getElem h
  intro i h1 h2
  apply UInt8.toNat_inj.1
  apply Nat.eq_of_testBit_eq
  intro j
  by_cases hj : j < 8
  · have := hb (8 * i + j) (by omega)
    rw [hasBit_eq, hasBit_eq] at this
    have e1 : (8 * i + j) / 8 = i := by omega
    have e2 : (8 * i + j) % 8 = j := by omega
    rw [e1, e2, List.getElem?_eq_getElem h1, List.getElem?_eq_getElem h2] at this
    simp only [Option.getD_some] at this
    rw [Bool.eq_iff_iff]
    exact this
  · have hp : 2 ^ 8 ≤ 2 ^ j := Nat.pow_le_pow_right (by omega) (by omega)
    rw [Nat.testBit_lt_two_pow (Nat.lt_of_lt_of_le l[i].toNat_lt hp), Nat.testBit_lt_two_pow (Nat.lt_of_lt_of_le m[i].toNat_lt hp)]
theorem mkf_same (ks ks' : List ByteArray) (b : Int) (hl : ks.length = ks'.length) (h : ∀ s, s ∈ ks ↔ s ∈ ks') : mkf ks b = mkf ks' b := by
  unfold mkf
  rw [hl]
  congr 1
  refine bytes_ext _ _ (by rw [putKeys_length, putKeys_length]) (fun q hq => ?_)
  rw [putKeys_length] at hq
  rw [hasBit_putKeys _ _ _ _ hq, hasBit_putKeys _ _ _ _ hq]
  simp only [h]
theorem probes8 (b : Int) : (UInt8.ofNat (probesOf b)).toNat = probesOf b := by
  have := probesOf_rng b
  rw [UInt8.toNat_ofNat']
  omega
theorem lenOf_pos (n : Nat) (b : Int) : 1 ≤ lenOf n b := by unfold lenOf; omega
theorem lenOf_le (n : Nat) (b : Int) (h : n ≤ 10000) : lenOf n b ≤ 100000 := by
  have h2 := (bitsOf_rng b).2
  have h3 : n * bitsOf b ≤ 640000 := by have := Nat.mul_le_mul h h2; omega
  unfold lenOf
  omega
theorem mkf_length (ks : List ByteArray) (b : Int) : (mkf ks b).length = lenOf ks.length b + 1 := by
  unfold mkf
  rw [List.length_append, putKeys_length, List.length_replicate]
  rfl
/-- Of each of its keys a filter says that it may be. -/
theorem mkf_has (ks : List ByteArray) (b : Int) (s : ByteArray) (hs : s ∈ ks) : mayf (mkf ks b) s = true := by
  have hp := probesOf_rng b
  have hpos := lenOf_pos ks.length b
  unfold mkf
  rw [mayf_snoc _ _ _ (by rw [putKeys_length, List.length_replicate]; exact hpos)]
  unfold mayc
  rw [probes8, if_neg (by omega)]
  unfold mayOn
  rw [putKeys_length, List.length_replicate, List.all_eq_true]
  intro p hm
  have hlt := plc_lt _ _ _ _ (by omega) p hm
  rw [hasBit_putKeys _ _ _ _ (by rw [List.length_replicate]; omega)]
  refine Or.inr ⟨s, hs, ?_⟩
  rw [List.length_replicate]
  exact hm
/-- More bits take no key away. -/
theorem mayf_more (m n : List UInt8) (c : UInt8) (s : ByteArray) (hl : m.length = n.length) (h1 : 1 ≤ m.length) (h : ∀ q, q / 8 < m.length → hasBit m q = true → hasBit n q = true) (hm : mayf (m ++ [c]) s = true) : mayf (n ++ [c]) s = true := by
  rw [mayf_snoc _ _ _ h1] at hm
  rw [mayf_snoc _ _ _ (by omega)]
  unfold mayc at hm ⊢
  split at hm
  · next hc => rw [if_pos hc]
  · next hc =>
    rw [if_neg hc]
    unfold mayOn at hm ⊢
    rw [List.all_eq_true] at hm ⊢
    rw [← hl]
    intro p hp
    have hlt := plc_lt _ _ _ _ (by omega) p hp
    exact h p (by omega) (hm p hp)
/-- Bytes, each with some other byte's bits besides. -/
theorem hasBit_or (m n : List UInt8) (hl : m.length = n.length) (h : ∀ i (h : i < m.length), ∃ d, n[i]'(by omega) = m[i] ||| d) : ∀ q, q / 8 < m.length → hasBit m q = true → hasBit n q = true := by
  intro q hq hm
  rw [hasBit_eq] at hm ⊢
  obtain ⟨d, hd⟩ := h (q / 8) hq
  rw [List.getElem?_eq_getElem hq] at hm
  rw [List.getElem?_eq_getElem (by omega), hd]
  simp only [Option.getD_some] at hm ⊢
  rw [UInt8.toNat_or, Nat.testBit_or, hm]
  rfl

/-- The first k bytes but the last of all, each with another list's bits besides. -/
def mixTo (f more : List UInt8) (k : Nat) : List UInt8 := f.mapIdx fun i c => if i < k ∧ i < more.length ∧ i + 1 < f.length then c ||| more[i]?.getD 0 else c
theorem mixTo_length (f more : List UInt8) (k : Nat) : (mixTo f more k).length = f.length := by simp [mixTo]
theorem mixTo_zero (f more : List UInt8) : mixTo f more 0 = f := by
  apply List.ext_getElem (mixTo_length _ _ _)
  intro i h1 h2
  simp [mixTo]
theorem mixTo_get (f more : List UInt8) (k i : Nat) (h : i < f.length) : (mixTo f more k)[i]'(by rw [mixTo_length]; exact h) = if i < k ∧ i < more.length ∧ i + 1 < f.length then f[i] ||| more[i]?.getD 0 else f[i] := by
  simp [mixTo]
theorem mixTo_skip (f more : List UInt8) (k : Nat) (h : ¬ (k < more.length ∧ k + 1 < f.length)) : mixTo f more (k + 1) = mixTo f more k := by
  apply List.ext_getElem (by rw [mixTo_length, mixTo_length])
  intro i h1 h2
  rw [mixTo_length] at h1
  rw [mixTo_get _ _ _ _ h1, mixTo_get _ _ _ _ h1]
  by_cases hi : i = k
  · subst hi
    rw [if_neg (fun x => h x.2), if_neg (fun x => h x.2)]
  · have : (i < k + 1) ↔ i < k := by omega
    simp only [this]
theorem mixTo_step (f more : List UInt8) (k : Nat) (h1 : k < more.length) (h2 : k + 1 < f.length) : mixTo f more (k + 1) = (mixTo f more k).set k (f[k]'(by omega) ||| more[k]) := by
  apply List.ext_getElem (by rw [List.length_set, mixTo_length, mixTo_length])
  intro i h3 h4
  rw [mixTo_length] at h3
  rw [mixTo_get _ _ _ _ h3, List.getElem_set]
  by_cases hi : k = i
  · subst hi
    rw [if_pos ⟨by omega, h1, h2⟩, if_pos rfl, List.getElem?_eq_getElem h1]
    rfl
  · rw [if_neg hi, mixTo_get _ _ _ _ h3]
    have : (i < k + 1) ↔ i < k := by omega
    simp only [this]
theorem mayf_mix (f more : List UInt8) (k : Nat) (s : ByteArray) (h : mayf f s = true) : mayf (mixTo f more k) s = true := by
  by_cases h2 : f.length < 2
  · exact mayf_small _ _ (by rw [mixTo_length]; exact h2)
  obtain ⟨m, c, hf⟩ : ∃ m c, f = m ++ [c] := ⟨f.dropLast, f.getLast (by intro e; subst e; simp at h2), (List.dropLast_concat_getLast _).symm⟩
  have hfl : f.length = m.length + 1 := by rw [hf]; simp
  obtain ⟨n, c', hn⟩ : ∃ n c', mixTo f more k = n ++ [c'] := ⟨(mixTo f more k).dropLast, (mixTo f more k).getLast (by intro e; have := mixTo_length f more k; rw [e] at this; simp at this; omega), (List.dropLast_concat_getLast _).symm⟩
  have hnl : n.length = m.length := by
    have := congrArg List.length hn
    rw [mixTo_length, hfl] at this
    simp at this; omega
  have hget : ∀ i (h : i < f.length), (n ++ [c'])[i]'(by simp; omega) = if i < k ∧ i < more.length ∧ i + 1 < f.length then f[i] ||| more[i]?.getD 0 else f[i] := by
    intro i hi
    rw [← mixTo_get f more k i hi]
    congr 1
    exact hn.symm
  have hc : c' = c := by
    have := hget m.length (by omega)
    rw [if_neg (by omega)] at this
    simpa [hnl, hf, List.getElem_append_right] using this
  rw [hn, hc]
  rw [hf] at h
  refine mayf_more m n c s hnl.symm (by omega) (hasBit_or m n hnl.symm (fun i hi => ?_)) h
  have := hget i (by omega)
  rw [List.getElem_append_left (by omega)] at this
  have hfi : f[i]'(by omega) = m[i] := by simp [hf, List.getElem_append_left hi]
  rw [this, hfi]
  split
  · exact ⟨_, rfl⟩
  · exact ⟨0, by simp⟩
end Go.Proofs.Ytogihaiedemdhaa

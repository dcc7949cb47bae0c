/-
  The reference's Merge, walked.
-/
import Derived.Test.YthgbmijgoaihcaaMg26
import Derived.Test.YthgbmijgoaihcaaEnt3
namespace Go.Proofs.Ythgbmijgoaihcaa
open Go.RowKit
set_option linter.unusedVariables false

theorem fold_len (ls : List (List Ent)) : ∀ k, (foldR ls k).length ≤ ((ls.take k).map (·.length)).sum
  | 0 => by simp [foldR]
  | k + 1 => by
    have ih := fold_len ls k
    have h1 := twoR_len (ls.getD k []) (foldR ls k)
    have h2 : foldR ls (k + 1) = twoR (foldR ls k) (ls.getD k []) := rfl
    rw [h2]
    rcases Nat.lt_or_ge k ls.length with q | q
    · rw [List.take_succ_eq_append_getElem q, List.map_append, List.sum_append]
      have : ls.getD k [] = ls[k] := by simp [List.getD_eq_getElem?_getD, q]
      rw [this] at h1 ⊢
      simp only [List.map_cons, List.map_nil, List.sum_cons, List.sum_nil]
      omega
    · rw [List.take_of_length_le (by omega)]
      rw [List.take_of_length_le q] at ih
      have : ls.getD k [] = [] := by simp [List.getD_eq_getElem?_getD, q]
      rw [this] at h1 ⊢
      simp at h1
      omega
theorem sum_take_le (l : List Nat) : ∀ k, (l.take k).sum ≤ l.sum := by
  induction l with
  | nil => intro k; simp
  | cons x t ih =>
    intro k
    cases k with
    | zero => simp
    | succ k => simp [ih k]
def refM (ls : List (List Ent)) : List Ent := if ls.all rises = true then foldR ls ls.length else []
theorem refM_merge (ls : List (List Ent)) : IsMerge ls (refM ls) := by
  unfold refM
  split
  · rename_i h; exact fold_merge ls h
  · rename_i h; unfold IsMerge; rw [if_neg h]

set_option maxRecDepth 100000 in
set_option maxHeartbeats 1600000 in
theorem refMerge_any (a : Option Addr) (cap : Nat) (ls : List (List Ent)) (w : World) (hl : ls.length ≤ 5864062014805) (hb : EntRows w a ls) (T : Nat) (hT : T ≤ 2932031007400) (htot : (ls.map (·.length)).sum ≤ T) :
    Calls Try.prog 35 #[.slice a ls.length cap] w fun e w' => ∃ v, e = .returned v ∧ OwnE 33 w' w.heap.size v (refM ls) ∧ Below w.heap.size w w' := by
  obtain ⟨K, HK⟩ : ∃ K, Hid (w.heap.size = K) := ⟨_, Lib.hid rfl⟩
  rw [HK.out]
  have HB := Lib.hid hb
  obtain ⟨n, hn⟩ : ∃ n, ls.length = n := ⟨_, rfl⟩
  have HN := Lib.hid hn
  have HTOT := Lib.hid htot
  rw [hn] at hl ⊢
  clear hb hn htot
  go_enter Try.func35, Try.ntmps35
  go_wp2_with fail
  go_loopw [3, 4] (fun ov kv wr => ∃ k : Nat, k ≤ n ∧ kv = .int .i64 k ∧ Hid (OwnE 33 wr K ov (foldR ls k)) ∧ Hid ((ls.take k).all rises = true) ∧ Below K w wr) (fun _ kv _ => n - (intOf kv).toNat)
  case atStart => exact ⟨0, by omega, rfl, Lib.hid (OwnE.nil _ _ _), Lib.hid (by simp), Below.refl _ _⟩
  case round =>
    obtain ⟨k, hk, rfl, HO, HA, hwr⟩ := hrel
    obtain ⟨wA, rfl⟩ : ∃ wA, wA = wr := ⟨_, rfl⟩
    have hKw : K ≤ wA.heap.size := by have := hwr.size; rw [HK.out] at this; exact this
    have HWR := Lib.hid hwr
    by_cases hlt : k < n
    · have hlt' : k < ls.length := by have := HN.out; omega
      obtain ⟨b, off, x, c, rfl, hc, hxl, hxm, hx⟩ := (HB.out.below (w' := wA) (by rw [HK.out]; exact hwr)) k hlt'
      have hink : (k : Int) < (n : Int) := by omega
      have hk0 : (0 : Int) ≤ (k : Int) := by omega
      have HL : Hid (ls.getD k [] = ls[k]) := Lib.hid (by simp [List.getD_eq_getElem?_getD, hlt'])
      have HT : Hid ((ls.take (k + 1)).all rises = ((ls.take k).all rises && rises ls[k])) := Lib.hid (by rw [List.take_succ_eq_append_getElem hlt', List.all_append, List.all_cons, List.all_nil, Bool.and_true])
      have HSUM : Hid ((foldR ls k).length + ls[k].length ≤ T) := Lib.hid (by
        have h1 := fold_len ls k
        have h2 := sum_take_le (ls.map (·.length)) (k + 1)
        have h3 := HTOT.out
        rw [← List.map_take, List.take_succ_eq_append_getElem hlt', List.map_append, List.sum_append] at h2
        simp only [List.map_cons, List.map_nil, List.sum_cons, List.sum_nil] at h2
        omega)
      have HF : Hid (rises ls[k] = false → refM ls = []) := Lib.hid (fun h => by
        unfold refM
        rw [if_neg]
        intro hall
        rw [List.all_eq_true] at hall
        rw [hall _ (List.getElem_mem hlt')] at h
        cases h)
      have HFS : Hid (foldR ls (k + 1) = twoR (foldR ls k) ls[k]) := Lib.hid (by rw [← HL.out]; rfl)
      generalize ls[k] = y at *
      generalize foldR ls k = out at *
      have HX := Lib.hid hx
      obtain ⟨yo, co, rfl, hol, hom, hox, _⟩ := HO.out.read
      have HOX := Lib.hid hox
      have HR := Lib.hid (rrises_any x c y wA (Nat.le_trans hxl hxm) hx)
      obtain ⟨rb, hrb⟩ : ∃ rb, rises y = rb := ⟨_, rfl⟩
      rw [hrb] at HR HT HF
      clear hx hox hwr hrb
      go_wp2_with fail
      refine HR.out.mono ?_
      rintro _ w1 ⟨rfl, hb1⟩
      have hc1 := cell_later2 hb1 hc
      have HW1 := Lib.hid (HWR.out.trans (hb1.mono hKw))
      have hK1 : K ≤ w1.heap.size := Nat.le_trans hKw hb1.size
      have HX1 := Lib.hid (HX.out.below hb1)
      have HO1 := Lib.hid (HOX.out.below hb1)
      clear hb1 hc
      cases rb with
      | false =>
        have HF' := Lib.hid (HF.out rfl)
        clear HF
        go_wp2
        go_ret
        exact ⟨_, rfl, by rw [HF'.out]; exact OwnE.nil _ _ _, HW1.out⟩
      | true =>
        have HTW := Lib.hid (two_any yo co out x c y w1 hol hom (by have := HSUM.out; omega) HO1.out HX1.out)
        go_wp2_with fail
        refine HTW.out.mono ?_
        rintro _ w2 ⟨v2, rfl, ho2, hb2⟩
        have HO2 := Lib.hid (ho2.mono hK1)
        have HW2 := Lib.hid (HW1.out.trans (hb2.mono hK1))
        clear ho2 hb2
        go_wp2
        exact ⟨⟨k + 1, by omega, by go_num, Lib.hid (by rw [HFS.out]; exact HO2.out), Lib.hid (by rw [HT.out, HA.out]; rfl), HW2.out⟩, by simp [intOf]; omega⟩
    · obtain rfl : k = n := by omega
      have HE : Hid (refM ls = foldR ls k) := Lib.hid (by
        have h1 := HA.out
        have h2 := HN.out
        unfold refM
        rw [List.take_of_length_le (by omega)] at h1
        rw [if_pos h1, h2])
      clear hwr
      go_wp2
      go_ret
      exact ⟨_, rfl, by rw [HE.out]; exact HO.out, HWR.out⟩
end Go.Proofs.Ythgbmijgoaihcaa

/-
  slices.Sort at numbers of 64 bits: up to 500.
-/
import Derived.Test.YthgbmijgoaihcaaSo9
namespace Go.Proofs.Ythgbmijgoaihcaa
open Go.RowKit Go.Sort
set_option linter.unusedVariables false

set_option maxRecDepth 100000 in
theorem ins_nil (w : World) : Calls Try.prog 65 #[.slice none 0 0, .int .i64 0, .int .i64 0] w fun e w' => e = .returned (.tuple #[]) ∧ w = w' := by
  go_enter Try.func65, Try.ntmps65
  go_wp2
  go_loop [6] (fun vi => vi = .int .i64 1) (fun _ => 0)
  case atStart => rfl
  case round =>
    subst hrel
    go_wp2
    go_end0
    exact ⟨rfl, rfl⟩
set_option maxRecDepth 100000 in
theorem pdq_nil (w : World) (lim : Nat) : Calls Try.prog 62 #[.slice none 0 0, .int .i64 0, .int .i64 0, .int .i64 lim] w fun e w' => e = .returned (.tuple #[]) ∧ w = w' := by
  go_enter Try.func62, Try.ntmps62
  go_wp2
  go_loop [1, 2, 3, 8, 9] (fun va vb _ _ _ => va = .int .i64 0 ∧ vb = .int .i64 0) (fun _ _ _ _ _ => 0)
  case atStart => exact ⟨rfl, rfl⟩
  case round =>
    obtain ⟨rfl, rfl⟩ := hrel
    go_wp2_with fail
    refine (ins_nil w).mono ?_
    rintro _ w2 ⟨rfl, rfl⟩
    go_wp2
    (try simp only [Exit.inBlock, Exit.then]); refine bodyPost_ret (results_none rfl _ _ _) rfl ?_
    exact ⟨rfl, rfl⟩
theorem extract_all (d : Array Nat) (n : Nat) (h : d.size = n) : (d.extract 0 n).toList = d.toList := by subst h; simp
theorem row_of_owns {w : World} {base g n cap : Nat} {ms : List Nat} (hn : n = ms.length) (h : w.ownsRow base 31 1 (.slice (some ⟨g, 0, none⟩) n cap) n (u64Cells ms)) : RowU w g 0 cap ms.toArray ∧ base ≤ g ∧ n ≤ cap ∧ cap ≤ maxLen := by
  subst hn
  rcases h.2 with ⟨h2, _⟩ | ⟨g', cap', cur, hv, hg, hh, h3, h4, h5, h6⟩
  · cases h2
  · cases hv
    refine ⟨⟨cur, hh, by omega, by simp; exact h3, fun i hi => ?_⟩, hg, h3, h4⟩
    have hi' : i < ms.length := by simpa using hi
    have h7 : cur.toList[i]? = (u64Cells ms)[i]? := by
      rw [← h6, List.getElem?_take]
      rw [if_pos (by omega)]
    rw [Nat.zero_add, ← Array.getElem?_toList, h7]
    simp [u64Cells, hi']
theorem owns_of_row {w : World} {base g cap : Nat} {d : Array Nat} (h : RowU w g 0 cap d) (hg : base ≤ g) (hc : d.size ≤ cap) (hm : cap ≤ maxLen) : w.ownsRow base 31 1 (.slice (some ⟨g, 0, none⟩) d.size cap) d.size (u64Cells d.toList) := by
  obtain ⟨cur, h1, h2, h3, h4⟩ := h
  refine ⟨by simp [u64Cells], Or.inr ⟨g, cap, cur, rfl, hg, h1, hc, hm, by omega, ?_⟩⟩
  apply List.ext_getElem?
  intro i
  rw [List.getElem?_take]
  by_cases hi : i < d.size
  · rw [if_pos (by omega)]
    have := h4 i hi
    rw [Nat.zero_add] at this
    rw [Array.getElem?_toList, this]
    simp [u64Cells, hi]
  · rw [if_neg (by omega), List.getElem?_eq_none (by simp [u64Cells]; omega)]

set_option maxRecDepth 100000 in
set_option maxHeartbeats 1600000 in
theorem sorts : Sorts := by
  intro ms v w base hlen hms hbase hown
  have hLen := Lib.hid (len_any ms.length (by omega) w)
  obtain ⟨n, HN⟩ : ∃ n, Hid (ms.length = n) := ⟨_, Lib.hid rfl⟩
  rw [HN.out] at hown hlen hLen ⊢
  rcases hown.2 with ⟨rfl, hz⟩ | ⟨g, cap, cur, rfl, _⟩
  · subst hz
    have hnil : ms = [] := List.eq_nil_of_length_eq_zero HN.out
    subst hnil
    have HO := Lib.hid hown
    clear hown
    go_enter Try.func56, Try.ntmps56
    go_wp2_with fail
    refine hLen.out.mono ?_
    rintro _ w1 ⟨⟨l, rfl, _⟩, rfl⟩
    go_wp2_with fail
    refine (pdq_nil w l).mono ?_
    rintro _ w2 ⟨rfl, rfl⟩
    go_wp2
    go_end0
    exact ⟨rfl, [], List.Perm.refl _, List.Pairwise.nil, HO.out, Below.refl _ _⟩
  · obtain ⟨hrow, hg, hc, hcm⟩ := row_of_owns HN.out.symm hown
    have hsz : ms.toArray.size = n := by simp; exact HN.out
    have HP := Lib.hid (fun (l : Nat) (hl : l ≤ 1000) => pdq_any g 0 cap cap n hlen n 0 n l ms.toArray w hsz hrow (by omega) (by omega) (Nat.le_refl _) hl (Or.inl rfl))
    have HG : Hid (g < w.heap.size) := Lib.hid hrow.lt
    clear hown hrow
    go_enter Try.func56, Try.ntmps56
    go_wp2_with fail
    refine hLen.out.mono ?_
    rintro _ w1 ⟨⟨l, rfl, hl⟩, rfl⟩
    have HL : Hid (l ≤ 1000) := Lib.hid (by have := hl.2.2; omega)
    clear hl
    go_wp2_with fail
    refine (HP.out l HL.out).mono ?_
    rintro _ w2 ⟨rfl, d', hp, hs⟩
    have HD := Lib.hid (And.intro hp hs)
    clear hp hs
    go_wp2
    go_end0
    obtain ⟨hp, hs⟩ := HD.out
    refine ⟨rfl, d'.toList, ?_, ?_, ?_, hp.but.below hg HG.out⟩
    · have h1 := hp.perm.2.2
      rw [extract_all _ _ hp.sz, extract_all _ _ hsz] at h1
      exact h1
    · rw [List.pairwise_iff_getElem]
      intro i j hi hj hij
      have hi' : i < d'.size := by simpa using hi
      have hj' : j < d'.size := by simpa using hj
      have h1 := hs i j (Nat.zero_le _) hij (by rw [← hp.sz]; exact hj')
      rw [getElem!_pos d' i hi', getElem!_pos d' j hj'] at h1
      unfold ltN at h1
      have h2 := of_decide_eq_false h1
      simp only [Array.getElem_toList]
      omega
    · have h1 := owns_of_row hp.row hg (by rw [hp.sz]; exact hc) hcm
      rw [hp.sz] at h1
      exact h1
end Go.Proofs.Ythgbmijgoaihcaa

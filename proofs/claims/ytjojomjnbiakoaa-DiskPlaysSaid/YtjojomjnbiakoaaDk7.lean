/-
  The disk's names; a clone of bytes; read, put, copy, new.
-/
import Derived.Test.YtjojomjnbiakoaaDk6
import Derived.Test.YtjojomjnbiakoaaLib
import Derived.Deep.AppendLies
namespace Go.Proofs.Ytjojomjnbiakoaa
open Go.RowKit Go.Maps
set_option linter.unusedVariables false

def ofK (k : Key) : ByteArray := ⟨k.toArray⟩
theorem keyB_ofK (k : Key) : keyB (ofK k) = k := by simp [keyB, ofK]
theorem ofK_keyB (s : ByteArray) : ofK (keyB s) = s := by simp [keyB, ofK]
theorem ofK_size (k : Key) : (ofK k).size = k.length := by simp [ofK, ByteArray.size]
theorem good_len {k : Key} (h : good k = true) : k.length ≤ 100 := by
  unfold good at h
  simp at h
  exact h.2
theorem sorted_le {fs : List (Key × FM)} (h : SortedF fs) : (fs.map (·.1)).Pairwise fun a b => leB a b = true := by
  refine List.pairwise_map.2 (List.Pairwise.imp (R := fun (p q : Key × FM) => p.1 < q.1) (fun {a b} (hab : a.1 < b.1) => ?_) h)
  simp only [leB, decide_eq_true_eq]
  exact List.not_lt.1 (fun q => key_irr _ (key_trans hab q))
theorem sort_keys {fs : List (Key × FM)} {ss : List Key} (h : SortedF fs) (hp : (fs.map (·.1)).Perm ss) : ss.mergeSort leB = fs.map (·.1) := by
  rw [← mergeSort_of_perm hp]
  exact List.mergeSort_of_pairwise (sorted_le h)
theorem strs_own {w : World} {base : Nat} {v : Value} {ks : List Key} (hk : ∀ k ∈ ks, k.length ≤ maxLen) (h : w.ownsRow base 9 1 v ks.length (ks.map Go.Proofs.encStr)) : ∃ x c, v = .slice x ks.length c ∧ Strs w x (ks.map ofK) ∧ ks.length ≤ maxLen := by
  have h' := h
  obtain ⟨h1, h2⟩ := h'
  rcases h2 with ⟨rfl, h2⟩ | ⟨g, cap, cur, rfl, hg, hh, h3, h4, h5, h6⟩
  · have : ks = [] := List.eq_nil_of_length_eq_zero h2
    subst this
    exact ⟨none, 0, rfl, strs_nil _ _, by unfold maxLen; simp⟩
  · refine ⟨some ⟨g, 0, none⟩, cap, rfl, fun i hi => ⟨g, 0, rfl, ?_, ?_⟩, by omega⟩
    · have hi' : i < ks.length := by simpa using hi
      rw [Nat.zero_add, World.ownsRow.cellAt h i (by omega)]
      simp [hi', Go.Proofs.encStr, ofK]
    · have hi' : i < ks.length := by simpa using hi
      simp only [List.getElem_map]
      rw [ofK_size]
      exact hk _ (List.getElem_mem hi')
set_option maxRecDepth 100000 in
set_option maxHeartbeats 800000 in
theorem names_any (bd bm : Nat) (A : DM) (w : World) (hn : A.fs.length ≤ 1000000) (h : DiskSt w bd bm A) :
    Calls Try.prog 27 #[.pointer (some ⟨bd, 0, none⟩)] w fun e w' => ∃ x c, e = .returned (.slice x A.fs.length c) ∧ Strs w' x (A.fs.map fun p => ofK p.1) ∧ Below w.heap.size w w' := by
  obtain ⟨⟨c0, c1, c2, c3, c4⟩, _⟩ := h.cells
  have hso := h.ok.sorted
  have hgd := h.ok.good
  obtain ⟨D, h1, h2, h3⟩ := h.map
  have hsz := map_size h1 h2 hso
  have HK := Lib.hid (maps_Keys_47 (some bm) w)
  have HS := Lib.hid (slices_Sorted_keys_46_47 bm _ D heldR w h1 (by rw [hsz]; unfold maxLen; omega) (by rw [hsz]; omega))
  have HE : Hid (∀ (ss : List Key) (w' : World) (v : Value) (B : Nat), ss.Perm (strKeys D) → w'.ownsRow B 9 1 v ss.length ((ss.mergeSort (fun x y => decide (x ≤ y))).map Go.Proofs.encStr) → ∃ x c, v = .slice x A.fs.length c ∧ Strs w' x (A.fs.map fun p => ofK p.1)) := Lib.hid (fun ss w' v B hp how => by
    have hp2 := (keys_perm h1 h2 hso).trans hp.symm
    have e1 : ss.mergeSort (fun x y => decide (x ≤ y)) = A.fs.map (·.1) := sort_keys hso hp2
    have e2 : ss.length = (A.fs.map (·.1)).length := hp2.length_eq.symm
    rw [e1, e2] at how
    obtain ⟨x, c, rfl, q, _⟩ := strs_own (fun k hk => by
      obtain ⟨p, hp', rfl⟩ := List.mem_map.1 hk
      have := good_len (hgd p hp')
      unfold maxLen; omega) how
    refine ⟨x, c, by simp, ?_⟩
    rw [List.map_map] at q
    exact q)
  clear h h1 h2 h3 hso hgd hsz
  go_enter Try.func27, Try.ntmps27
  go_wp2_with fail
  refine (callsIn_wide.1 HK.out).mono ?_
  rintro _ w1 ⟨rfl, rfl⟩
  go_wp2_with fail
  refine (callsIn_wide.1 HS.out).mono ?_
  rintro _ w2 ⟨v, ss, rfl, hp, how, _, hb⟩
  obtain ⟨x, c, rfl, hx⟩ := HE.out ss w2 v _ hp how
  have HX := Lib.hid hx
  have HB : Hid (Below w.heap.size w w2) := Lib.hid (((Below.refl w.heap.size w).alloc (Nat.le_refl _) _).trans (hb.mono (by simp)))
  clear hp how hb hx
  go_wp2
  go_ret
  exact ⟨x, c, rfl, HX.out, HB.out⟩

section laws
variable {ops : Array Oper} {rest : List Oper} {o : Oper} {a : Act} {Q : Exit → Act → World → Prop}
/-- 'append([]byte{}, b...)'. -/
theorem app_own8 (w : World) (hgd : o.guard = none) (s x : Operand) (ho : o.op = .call { callee := .builtin .append, args := #[s, x], argTypes := #[27, 27] })
    {K : Nat} {v : Value} (hs : a.eval s = v) (hown : w.ownsRow K 5 1 v 0 []) {y : Option Addr} {b : List UInt8} {c m : Nat} (hm : m = b.length) (hb : Bytes w y b) (hx : a.eval x = .slice y m c) (hsz : b.length ≤ 140737488355328) (hK : K ≤ w.heap.size)
    (h : ∀ v' w', w'.ownsRow K 5 1 v' b.length (cells8 b) → Below K w w' → wpList Try.prog ops Q rest (a.put o.dst v') w') : wpList Try.prog ops Q (o :: rest) a w := by
  obtain ⟨i0, hi0, hz0, hz1, hz2⟩ := info_parts infoU8
  subst hm
  by_cases hb0 : b = []
  · subst hb0
    obtain ⟨y0, n0, c0, rfl, hn0, hz⟩ : ∃ y0 n0 c0, v = .slice y0 n0 c0 ∧ n0 = 0 ∧ (y0 = none → c0 = 0) := by
      rcases hown.2 with ⟨rfl, _⟩ | ⟨g, cap, cur, rfl, _⟩
      · exact ⟨none, 0, 0, rfl, rfl, fun _ => rfl⟩
      · exact ⟨some ⟨g, 0, none⟩, 0, cap, rfl, rfl, fun e => by cases e⟩
    subst hn0
    exact app_zero hgd s x 27 ho 5 i0 Try.underlying27 hi0 y0 0 c0 (Nat.zero_le _) hz hs hx (h _ _ hown (Below.refl _ _))
  · have hpos : 0 < b.length := List.length_pos_iff.2 hb0
    obtain ⟨b1, o1, rfl, _⟩ := hb 0 hpos
    refine wpList_append_lies w hgd s x 27 ho K 5 i0 (.int .u8 0) 1 1 Try.underlying27 hi0 hz0 hz1 hz2 rfl (by decide) v 0 [] hs hown ⟨b1, o1, none⟩ b.length c (cells8 b) hx (by rw [cells8_length]; omega) hb.news (cells8_one _) hpos (by unfold maxLen; omega) (by omega) hK _ rfl ?_
    intro g cap w' h1 h2 h3 h4
    exact h _ _ (by simpa using h1) ((Below.refl K w).grown h2 hK (fun k hk => (hown.lt k hk).1))
end laws
/-- Bytes of the call's own. -/
theorem own8_read {w : World} {K : Nat} {v : Value} {l : List UInt8} (h : w.ownsRow K 5 1 v l.length (cells8 l)) : ∃ x c, v = .slice x l.length c ∧ l.length ≤ c ∧ c ≤ maxLen ∧ Bytes w x l ∧ (x = none → c = 0) := by
  have h' := h
  rcases h'.2 with ⟨rfl, hn⟩ | ⟨g, cap, cur, rfl, hg, hh, h3, h4, h5, h6⟩
  · have : l = [] := List.eq_nil_of_length_eq_zero hn
    subst this
    exact ⟨none, 0, rfl, Nat.le_refl _, by unfold maxLen; omega, bytes_nil _ _, fun _ => rfl⟩
  · obtain ⟨_, q2, q3, _, q5⟩ := bytes_owns h
    exact ⟨_, cap, rfl, q2, q3, q5, fun e => by cases e⟩
set_option maxRecDepth 100000 in
set_option maxHeartbeats 800000 in
theorem clone8_any (x : Option Addr) (c : Nat) (l : List UInt8) (w : World) (hl : l.length ≤ 140737488355328) (hb : Bytes w x l) (hnil : x = none → c = 0) :
    Calls Try.prog 30 #[.slice x l.length c] w fun e w' => ∃ v, e = .returned v ∧ w'.ownsRow w.heap.size 5 1 v l.length (cells8 l) ∧ Below w.heap.size w w' := by
  cases x with
  | none =>
    have hn : l = [] := by
      cases l with
      | nil => rfl
      | cons x t => obtain ⟨b, off, e, _⟩ := hb 0 (by simp); cases e
    subst hn
    obtain rfl := hnil rfl
    have he : ∀ w : World, (binOp .eql 27 (.slice none 0 0) (.slice none 0 0)).run Try.prog w = .ok (.bool true) w := fun _ => rfl
    go_enter Try.func30, Try.ntmps30
    go_wp2
    go_ret
    exact ⟨_, rfl, World.ownsRow_nil _ _ _ _, Below.refl _ _⟩
  | some ad =>
    have HB : Hid (Below w.heap.size w (w.alloc (.cells #[] 27))) := Lib.hid ((Below.refl _ _).alloc (Nat.le_refl _) _)
    have HBA : Hid (Bytes (w.alloc (.cells #[] 5)) (some ad) l) := Lib.hid (hb.below ((Below.refl _ _).alloc (Nat.le_refl _) _))
    have HOWN : Hid ((w.alloc (.cells #[] 5)).ownsRow w.heap.size 5 1 (.slice (some ⟨w.heap.size, 0, none⟩) 0 0) 0 []) := Lib.hid (World.ownsRow_lit (base := w.heap.size) (e := 5) (size := 1) w #[] 0 (Nat.le_refl _) (by unfold maxLen; omega) rfl)
    have he : ∀ w : World, (binOp .eql 27 (.slice (some ad) l.length c) (.slice none 0 0)).run Try.prog w = .ok (.bool false) w := fun _ => rfl
    clear hb
    go_enter Try.func30, Try.ntmps30
    go_wp2_with (at_builtin; refine app_own8 _ rfl _ _ rfl (K := w.heap.size) rfl HOWN.out rfl HBA.out rfl hl (by simp) ?_; intro v' w5 hown5 hb5)
    go_ret
    exact ⟨_, rfl, hown5, ((Below.refl w.heap.size w).alloc (Nat.le_refl _) _).trans hb5⟩
end Go.Proofs.Ytjojomjnbiakoaa

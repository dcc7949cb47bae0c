import Derived.Test.YtjjeoodcbffibaaT4
import Derived.Deep.RegionHeld3
namespace Go.Proofs.Ytjjeoodcbffibaa
open Go.RowKit
set_option linter.unusedVariables false

set_option maxHeartbeats 400000 in
theorem law_sums (a : Option Addr) (cap : Nat) (ls : List (List UInt8)) (w : World) (hl : ls.length ≤ maxLen) (hb : ByteRows w a ls) :
    Calls Try.prog 4 #[.slice a ls.length cap] w fun e w' => e = .returned (.bool true) ∧ Below w.heap.size w w' := by
  have hl' := hl
  unfold maxLen at hl
  go_enter Try.func4, Try.ntmps4
  go_wp2_with fail
  refine (shown_any _).mono ?_
  rintro e w1 ⟨rfl, hw1⟩
  have hb1 := hb.below hw1
  go_wp2_with fail
  go_loop [4, 9] (fun v i => ∃ k : Nat, k ≤ ls.length ∧ v = .int .u32 (sums 0 (ls.take k) : Nat) ∧ i = .int .i64 k) (fun _ i => ls.length - (intOf i).toNat)
  case atStart => exact ⟨0, by omega, rfl, rfl⟩
  case round =>
    obtain ⟨k, hk, rfl, rfl⟩ := hrel
    have hx := sums_lt (ls.take k) 0 (by omega)
    by_cases hlt : k < ls.length
    · obtain ⟨b, off, x, cap', rfl, hc, hm, hbb⟩ := hb1 k hlt
      go_wp2_with fail
      refine (ref_any _ _ _ _ _ hx hm hbb).mono ?_
      rintro e w' ⟨rfl, rfl⟩
      go_wp2_with fail
      refine ⟨⟨k + 1, by omega, ?_, by go_num⟩, by simp [intOf]; omega⟩
      rw [sums_snoc _ _ _ hlt]
    · obtain rfl : k = ls.length := by omega
      rw [List.take_length] at *
      go_wp2_with fail
      refine (sum_any _ _ _ _ hl' hb1).mono ?_
      rintro e w' ⟨rfl, rfl⟩
      go_wp2_with fail
      go_ret
      exact ⟨ret_bool (by simp), hw1⟩

theorem sum_rows1 (b : Nat) (x : Option Addr) (cap n : Nat) (l : List UInt8) (w : World) (hn : n = l.length) (hl : l.length ≤ maxLen) (hc : w.cell? ⟨b, 0, none⟩ = some (.slice x n cap)) (hb : Bytes w x l) :
    Calls Try.prog 12 #[.slice (some ⟨b, 0, none⟩) 1 1] w fun e w' => e = .returned (.int .u32 (more 0 l)) ∧ w = w' := by
  subst hn
  have := sum_any (some ⟨b, 0, none⟩) 1 [l] w (small_len _ (by simp)) (fun i hi => by
    have : i = 0 := by simpa using hi
    subst this
    exact ⟨b, 0, x, cap, rfl, by simpa using hc, by simpa using hl, by simpa using hb⟩)
  exact this
theorem sum_rows2 (b : Nat) (x y : Option Addr) (cap cap' n n' r : Nat) (l m : List UInt8) (w : World) (hr : more (more 0 l) m = r) (hn : n = l.length) (hn' : n' = m.length) (hl : l.length ≤ maxLen) (hm : m.length ≤ maxLen) (hc : w.cell? ⟨b, 0, none⟩ = some (.slice x n cap)) (hc' : w.cell? ⟨b, 1, none⟩ = some (.slice y n' cap')) (hb : Bytes w x l) (hb' : Bytes w y m) :
    Calls Try.prog 12 #[.slice (some ⟨b, 0, none⟩) 2 2] w fun e w' => e = .returned (.int .u32 (r : Nat)) ∧ w = w' := by
  subst hn hn' hr
  have := sum_any (some ⟨b, 0, none⟩) 2 [l, m] w (small_len _ (by simp)) (fun i hi => by
    match i, hi with
    | 0, _ => exact ⟨b, 0, x, cap, rfl, by simpa using hc, by simpa using hl, by simpa using hb⟩
    | 1, _ => exact ⟨b, 0, y, cap', rfl, by simpa using hc', by simpa using hm, by simpa using hb'⟩)
  exact this
theorem sum_rows3 (b : Nat) (x : Option Addr) (cap n : Nat) (l : List UInt8) (w : World) (hn : n = l.length) (hl : l.length ≤ maxLen) (h0 : w.cell? ⟨b, 0, none⟩ = some (.slice none 0 0)) (hc : w.cell? ⟨b, 1, none⟩ = some (.slice x n cap)) (h2 : w.cell? ⟨b, 2, none⟩ = some (.slice none 0 0)) (hb : Bytes w x l) :
    Calls Try.prog 12 #[.slice (some ⟨b, 0, none⟩) 3 3] w fun e w' => e = .returned (.int .u32 (more 0 l)) ∧ w = w' := by
  subst hn
  have := sum_any (some ⟨b, 0, none⟩) 3 [[], l, []] w (small_len _ (by simp)) (fun i hi => by
    match i, hi with
    | 0, _ => exact ⟨b, 0, none, 0, rfl, by simpa using h0, small_len _ (by simp), by simpa using bytes_nil _ _⟩
    | 1, _ => exact ⟨b, 0, x, cap, rfl, by simpa using hc, by simpa using hl, by simpa using hb⟩
    | 2, _ => exact ⟨b, 0, none, 0, rfl, by simpa using h2, small_len _ (by simp), by simpa using bytes_nil _ _⟩)
  have e : sums 0 [[], l, []] = more 0 l := by
    have h1 : more 0 [] = 0 := by decide +kernel
    have h3 : more (more 0 l) [] = more 0 l := by rw [more_append, List.append_nil]
    simp [sums, h1, h3]
  rw [e] at this
  exact this

theorem more_at (v : Int) (s : Nat) (a : Option Addr) (cap n r : Nat) (l : List UInt8) (w : World) (hr : more s l = r) (hv : v = s) (hs : s < 4294967296) (hn : n = l.length) (hl : l.length ≤ maxLen) (hb : Bytes w a l) :
    Calls Try.prog 10 #[.int .u32 v, .slice a n cap] w fun e w' => e = .returned (.int .u32 (r : Nat)) ∧ w = w' := by
  subst hv hn hr; exact more_any s a cap l w hs hl hb

theorem parts_keep {a x : Option Addr} {w0 w w' : World} {l l1 l2 : List UInt8} (h : Bytes w a l ∧ Bytes w a l1 ∧ Bytes w x l2 ∧ Below w0.heap.size w0 w) (hb : Below w.heap.size w w') :
    Bytes w' a l ∧ Bytes w' a l1 ∧ Bytes w' x l2 ∧ Below w0.heap.size w0 w' :=
  ⟨h.1.below hb, h.2.1.below hb, h.2.2.1.below hb, h.2.2.2.trans (hb.mono h.2.2.2.size)⟩

theorem Try.info5 : (Try.prog.info? 5).map (fun i => (i.zero, i.size, i.bytes)) = some (some (.int .u8 0), 1, 1) := by kernel_rfl

set_option maxHeartbeats 800000 in
theorem law_parts (a : Option Addr) (cap : Nat) (l : List UInt8) (cut : Nat) (w : World) (hl : l.length ≤ cap) (hcap : cap ≤ 140737488351232) (hb : Bytes w a l) (hcut : cut < 18446744073709551616) :
    Calls Try.prog 5 #[.slice a l.length cap, .int .u64 cut] w fun e w' => e = .returned (.bool true) ∧ Below w.heap.size w w' := by
  obtain ⟨i0, hi, hz0, hz1, hz2⟩ := info_parts Try.info5
  obtain ⟨k, hk, hkl⟩ : ∃ k : Nat, (cut : Int) % ((l.length : Int) + 1) = (k : Int) ∧ k < l.length + 1 :=
    ⟨cut % (l.length + 1), by simp, Nat.mod_lt _ (by omega)⟩
  have hki : (k : Int) ≤ (l.length : Int) := by omega
  have r1 := fun w : World => run_cut_from Try.underlying23 hi a l.length cap k .i64 (by omega) w
  have r2 := fun w : World => run_cut_to Try.underlying23 hi a l.length cap k .i64 (by omega) w
  rw [hz1] at r1
  clear hz0 hz1 hz2 hi
  have hlm : l.length ≤ maxLen := by unfold maxLen; omega
  have hb1 := hb.take k
  have hb2 := hb.drop hl k
  have h1 : (l.take k).length = k := by simp; omega
  have h2 : (l.drop k).length = l.length - k := by simp
  have hm : more (more 0 (l.take k)) (l.drop k) = more 0 l := by rw [more_append, List.take_append_drop]
  have HM := Lib.hid hm
  clear hm
  go_enter Try.func5, Try.ntmps5
  go_wp2_with fail
  refine (sum_rows1 _ a cap _ l _ rfl hlm ?_ ?_).mono ?_
  · go_simp
  · exact hb.alloc _
  rintro e w' ⟨rfl, rfl⟩
  go_wp2_with fail
  have hw1 : Below w.heap.size w (w.alloc (Obj.cells #[Value.slice a l.length cap] 23)) := (Below.refl _ _).alloc (Nat.le_refl _) _
  have hS0 := parts_keep ⟨hb, hb1, hb2, Below.refl _ _⟩ hw1
  generalize w.alloc (Obj.cells #[Value.slice a l.length cap] 23) = W1 at hS0 ⊢
  clear hb hb1 hb2 hw1
  have h1m : (l.take k).length ≤ maxLen := by omega
  have h2m : (l.drop k).length ≤ maxLen := by omega
  have H1 := Lib.hid h1.symm
  have H2 := Lib.hid h2.symm
  clear h1 h2
  go_region_held3 (fun w' => Bytes w' a l ∧ Bytes w' a (l.take k) ∧ Bytes w' (cutFrom a cap k 1) (l.drop k) ∧ Below w.heap.size w w')
    ((first | assumption | exact parts_keep (by assumption) (by assumption) | exact parts_keep (by assumption) (Below.refl _ _).drew | exact parts_keep (by assumption) ((Below.refl _ _).alloc (Nat.le_refl _) _)))
    (first
      | (go_at_call 9; (with_reducible refine (shown_any _).mono ?_); rintro e w1 ⟨rfl, hw1⟩)
      | (go_at_call 10; (with_reducible refine (more_at _ _ _ _ _ (more 0 l) (l.drop k) _ HM.out rfl (more_lt _ _) H2.out h2m ?_).mono ?_); exact And.left (And.right (And.right (by assumption))); rintro e w1 ⟨rfl, rfl⟩)
      | (go_at_call 12; (with_reducible refine (sum_rows2 _ a (cutFrom a cap k 1) cap (cap - k) k (l.length - k) (more 0 l) (l.take k) (l.drop k) _ HM.out H1.out H2.out h1m h2m ?_ ?_ ?_ ?_).mono ?_); go_simp; go_simp; exact And.left (And.right (by assumption)); exact And.left (And.right (And.right (by assumption))); rintro e w1 ⟨rfl, rfl⟩)
      | (go_at_call 12; (with_reducible refine (sum_rows3 _ a cap _ l _ rfl hlm ?_ ?_ ?_ ?_).mono ?_); go_simp; go_simp; go_simp; exact And.left (by assumption); rintro e w1 ⟨rfl, rfl⟩)
      | (go_at_call 12; (with_reducible refine (sum_rows1 _ a cap k (l.take k) _ H1.out h1m ?_ ?_).mono ?_); go_simp; exact And.left (And.right (by assumption)); rintro e w1 ⟨rfl, rfl⟩))
  all_goals
    go_wp2_with fail
    go_ret
    exact ⟨rfl, And.right (And.right (And.right (by assumption)))⟩
end Go.Proofs.Ytjjeoodcbffibaa

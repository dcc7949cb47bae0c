import Derived.Test.YtjjeoodcbffibaaT4
import Derived.Deep.RegionHeld3
namespace Go.Proofs.Ytjjeoodcbffibaa
open Go.RowKit
set_option linter.unusedVariables false
theorem Try.info5 : (Try.prog.info? 5).map (fun i => (i.zero, i.size, i.bytes)) = some (some (.int .u8 0), 1, 1) := by kernel_rfl

theorem sum_one (b : Nat) (x : Option Addr) (cap : Nat) (l : List UInt8) (w : World) (hl : l.length ≤ maxLen) (hc : w.cell? ⟨b, 0, none⟩ = some (.slice x l.length cap)) (hb : Bytes w x l) :
    Calls Try.prog 12 #[.slice (some ⟨b, 0, none⟩) 1 1] w fun e w' => e = .returned (.int .u32 (more 0 l)) ∧ w = w' := by
  have := sum_any (some ⟨b, 0, none⟩) 1 [l] w (small_len _ (by simp)) (fun i hi => by
    have : i = 0 := by simpa using hi
    subst this
    exact ⟨b, 0, x, cap, rfl, by simpa using hc, by simpa using hl, by simpa using hb⟩)
  exact this

theorem cells8_set (l : List UInt8) (k : Nat) (c : UInt8) : (cells8 l).set k (.int .u8 (c.toNat : Nat)) = cells8 (l.set k c) := by simp [cells8]
theorem tells_keep {b off k g : Nat} {w0 w w' : World} {l m : List UInt8} {v : Value} (h : w.cell? ⟨b, off + k, none⟩ = some v ∧ Bytes w (some ⟨b, off, none⟩) l ∧ Bytes w (some ⟨g, 0, none⟩) m ∧ Below w0.heap.size w0 w)
    (hb : Below w.heap.size w w') : w'.cell? ⟨b, off + k, none⟩ = some v ∧ Bytes w' (some ⟨b, off, none⟩) l ∧ Bytes w' (some ⟨g, 0, none⟩) m ∧ Below w0.heap.size w0 w' :=
  ⟨by rw [hb.cell (p := ⟨b, off + k, none⟩) (cell_lt h.1), h.1], h.2.1.below hb, h.2.2.1.below hb, h.2.2.2.trans (hb.mono h.2.2.2.size)⟩

theorem sum_oneA {b off k g b1 cap : Nat} {w0 w : World} {l : List UInt8} {c : UInt8} {v : Value} (hl : l.length ≤ maxLen) (h : w.cell? ⟨b, off + k, none⟩ = some v ∧ Bytes w (some ⟨b, off, none⟩) l ∧ Bytes w (some ⟨g, 0, none⟩) (l.set k c) ∧ Below w0.heap.size w0 w)
    (hc : w.cell? ⟨b1, 0, none⟩ = some (.slice (some ⟨g, 0, none⟩) l.length cap)) :
    Calls Try.prog 12 #[.slice (some ⟨b1, 0, none⟩) 1 1] w fun e w' => e = .returned (.int .u32 (more 0 (l.set k c))) ∧ w = w' :=
  sum_one b1 _ cap (l.set k c) w (by simpa using hl) (by simpa using hc) h.2.2.1
theorem sum_oneB {b off k g b1 cap : Nat} {w0 w : World} {l m : List UInt8} {v : Value} (hl : l.length ≤ maxLen) (h : w.cell? ⟨b, off + k, none⟩ = some v ∧ Bytes w (some ⟨b, off, none⟩) l ∧ Bytes w (some ⟨g, 0, none⟩) m ∧ Below w0.heap.size w0 w)
    (hc : w.cell? ⟨b1, 0, none⟩ = some (.slice (some ⟨b, off, none⟩) l.length cap)) :
    Calls Try.prog 12 #[.slice (some ⟨b1, 0, none⟩) 1 1] w fun e w' => e = .returned (.int .u32 (more 0 l)) ∧ w = w' :=
  sum_one b1 _ cap l w hl hc h.2.1

set_option maxHeartbeats 400000 in
theorem law_tells (a : Option Addr) (cap : Nat) (l : List UInt8) (at_ : Nat) (c : UInt8) (w : World) (hl : l.length ≤ 140737488351232) (hb : Bytes w a l) (hat : at_ < 18446744073709551616) :
    Calls Try.prog 6 #[.slice a l.length cap, .int .u64 at_, .int .u8 (c.toNat : Nat)] w fun e w' => e = .returned (.bool true) ∧ Below w.heap.size w w' := by
  obtain ⟨i0, hi, hz0, hz1, hz2⟩ := info_parts Try.info5
  by_cases h0 : l.length = 0
  · have e0 : ((l.length : Int) == 0) = true := by simp [h0]
    go_enter Try.func6, Try.ntmps6
    go_wp2_with fail
    refine (shown_any _).mono ?_
    rintro e w1 ⟨rfl, hw1⟩
    go_wp2_with fail
    go_ret
    exact ⟨rfl, hw1⟩
  · have e0 : ((l.length : Int) == 0) = false := by simp; intro h; simp [h] at h0
    obtain ⟨b, off, rfl, hc0⟩ := hb 0 (by omega)
    obtain ⟨k, hk, hkl⟩ : ∃ k : Nat, (at_ : Int) % (l.length : Int) = (k : Int) ∧ k < l.length :=
      ⟨at_ % l.length, by simp, Nat.mod_lt _ (by omega)⟩
    go_enter Try.func6, Try.ntmps6
    go_wp2_with fail
    refine (shown_any _).mono ?_
    rintro e w1 ⟨rfl, hw1⟩
    go_wp2_with (at_builtin; refine wpList_append_own _ rfl _ _ 23 rfl w1.heap.size 5 i0 (.int .u8 0) 1 1 Try.underlying23 hi hz0 hz1 hz2 rfl (by decide) _ _ _ rfl (World.ownsRow_made (base := w1.heap.size) (e := 5) (size := 1) w1 #[] 0 (Nat.le_refl _) (small_len _ (by omega)) rfl) ⟨b, off, none⟩ l.length cap (cells8 l) rfl (by simp [cells8]) ((hb.below hw1).alloc _).news (cells8_one l) (by unfold maxLen; omega) (by omega) (by simp) ?_; intro v' w2 hown hgrow _)
    rw [List.nil_append, Nat.zero_add] at hown
    obtain ⟨g, cap2, hv⟩ := owns_shape hown (by omega)
    rw [hv] at hown ⊢
    have hcell := hown.cellAt k (by omega)
    rw [cells8_getElem? l k hkl] at hcell
    have hfr := hown.frozenAt k
    have hki : (k : Int) < (l.length : Int) := by omega
    clear hi hz0 hz1 hz2
    go_wp2_with fail
    go_simp
    go_wp2_with fail
    have hb1 := hb.below hw1
    have hg1 : w1.heap.size ≤ g := (bytes_owns hown).2.2.2.1
    have hb12 : Below w1.heap.size w1 w2 := ((Below.refl _ _).alloc (Nat.le_refl _) _).grown hgrow (by simp) (by intro k hk; cases hk; exact Nat.le_refl _)
    have hbs : Below w1.heap.size w1 (w2.setCell ⟨g, k, none⟩ (Value.int .u8 (c.toNat : Nat))) := hb12.setCell hg1 _
    have hb3 : Bytes (w2.setCell ⟨g, k, none⟩ (Value.int .u8 (c.toNat : Nat))) (some ⟨b, off, none⟩) l := hb1.below hbs
    have hst := (hown.stored k (.int .u8 (c.toNat : Nat))).1
    have hb4 : Bytes (w2.setCell ⟨g, k, none⟩ (Value.int .u8 (c.toNat : Nat))) (some ⟨g, 0, none⟩) (l.set k c) := by
      rw [cells8_set] at hst
      exact (bytes_owns (l := l.set k c) (by simpa using hst)).2.2.2.2
    have hbel : Below w.heap.size w (w2.setCell ⟨g, k, none⟩ (Value.int .u8 (c.toNat : Nat))) := hw1.trans (hbs.mono hw1.size)
    generalize w2.setCell ⟨g, k, none⟩ (Value.int .u8 (c.toNat : Nat)) = w3 at *
    have hc3 : w3.cell? ⟨b, off + k, none⟩ = some (.int .u8 (l[k].toNat : Nat)) := by
      obtain ⟨b', off', e, h⟩ := hb3 k hkl
      simp only [Option.some.injEq, Addr.mk.injEq, and_true] at e
      obtain ⟨rfl, rfl⟩ := e
      exact h
    clear hfr hcell hown hgrow hc0 hb1 hw1 hst hb12 hbs
    have hlm : l.length ≤ maxLen := by unfold maxLen; omega
    have HM := Lib.hid (more_set l k c hkl)
    have hS0 : w3.cell? ⟨b, off + k, none⟩ = some (.int .u8 (l[k].toNat : Nat)) ∧ Bytes w3 (some ⟨b, off, none⟩) l ∧ Bytes w3 (some ⟨g, 0, none⟩) (l.set k c) ∧ Below w.heap.size w w3 := ⟨hc3, hb3, hb4, hbel⟩
    clear hc3 hb3 hb4 hbel
    go_region_held3 (fun w' => w'.cell? ⟨b, off + k, none⟩ = some (.int .u8 (l[k].toNat : Nat)) ∧ Bytes w' (some ⟨b, off, none⟩) l ∧ Bytes w' (some ⟨g, 0, none⟩) (l.set k c) ∧ Below w.heap.size w w')
      ((first | assumption | exact tells_keep ‹_› (Below.refl _ _).drew | exact tells_keep ‹_› ((Below.refl _ _).alloc (Nat.le_refl _) _)))
      (first
        | (go_at_call 12; refine (sum_oneA (b := b) (off := off) (k := k) (g := g) (l := l) (c := c) (w0 := w) (v := .int .u8 (l[k].toNat : Nat)) (cap := cap2) hlm ?_ ?_).mono ?_; assumption; go_simp; rintro e w' ⟨rfl, rfl⟩)
        | (go_at_call 12; refine (sum_oneB (b := b) (off := off) (k := k) (g := g) (l := l) (m := l.set k c) (w0 := w) (v := .int .u8 (l[k].toNat : Nat)) (cap := cap) hlm ?_ ?_).mono ?_; assumption; go_simp; rintro e w' ⟨rfl, rfl⟩))
    all_goals
      go_wp2_with fail
      go_ret
      refine ⟨ret_bool (eqs_iff ?_), And.right (And.right (And.right (by assumption)))⟩
      rw [HM.out, UInt8.toNat_inj]
end Go.Proofs.Ytjjeoodcbffibaa

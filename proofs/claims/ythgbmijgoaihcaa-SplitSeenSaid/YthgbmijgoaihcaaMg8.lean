/-
  Numbers of 64 bits in memory; slices.Values, slices.AppendSeq, slices.Collect at them.
-/
import Derived.Test.YthgbmijgoaihcaaMg2
import Derived.RangeFuncBox
import Derived.RangeFuncLeaves
import Derived.Shelf.Abstract
import Derived.OwnWalkIn
import Derived.TacticsInMore
import Derived.LoopNIn
import Derived.LoopIn
import Derived.Maps.AppendAt
namespace Go.Proofs.Ythgbmijgoaihcaa
open Go.RowKit Go.Shelf
set_option linter.unusedVariables false

/-- A slice of numbers that reads as l. -/
def U64s (w : World) (a : Option Addr) (l : List Nat) : Prop :=
  ∀ i (h : i < l.length), ∃ b off, a = some ⟨b, off, none⟩ ∧ w.cell? ⟨b, off + i, none⟩ = some (.int .u64 (l[i] : Nat))
theorem U64s.below {w w' : World} {a : Option Addr} {l : List Nat} (h : U64s w a l) (hb : Below w.heap.size w w') : U64s w' a l := by
  intro i hi
  obtain ⟨b, off, e, hc⟩ := h i hi
  exact ⟨b, off, e, by rw [hb.cell (p := ⟨b, off + i, none⟩) (cell_lt hc), hc]⟩
theorem u64s_nil (w : World) (a : Option Addr) : U64s w a [] := fun i h => by simp at h
theorem infoU : (Try.prog.info? 31).map (fun i => (i.zero, i.size, i.bytes)) = some (some (.int .u64 0), 1, 8) := by kernel_rfl

attribute [local go_sem] Oper.semAt_some

def upto (f : Nat → Nat) (k : Nat) : List Nat := (List.range k).map f
theorem upto_succ (f : Nat → Nat) (k : Nat) : upto f (k + 1) = upto f k ++ [f k] := by simp [upto, List.range_succ]
theorem upto_length (f : Nat → Nat) (k : Nat) : (upto f k).length = k := by simp [upto]
theorem upto_all (l : List Nat) : upto (fun i => l.getD i 0) l.length = l := by
  apply List.ext_getElem
  · simp [upto]
  · intro i h1 h2
    simp [upto, List.getD_eq_getElem?_getD, h2]

set_option maxRecDepth 100000 in
set_option maxHeartbeats 2000000 in
/-- slices.Values's closure. -/
theorem values1_in (F : Fence) (n : Nat) (h7 : F.fn 57) (hro : F.round = none) (hn : 1 ≤ n) (l Bs n₀ : Nat) (a : Option Addr) (len cap : Nat) (f : Nat → Nat) (hlen : len ≤ maxLen) (J Jx : List Nat → World → Prop)
    (hY : ∀ pre x W, J pre W → pre.length < len → YieldAt F (n - 1) Try.prog l #[.int .u64 (x : Nat)] W fun e W' =>
      (e = .returned (.bool true) ∧ J (pre ++ [x]) W' ∧ Below n₀ W W') ∨ (e = .returned (.bool false) ∧ Jx (pre ++ [x]) W'))
    (W : World) (hBs : W.cell? ⟨Bs, 0, none⟩ = some (.slice a len cap)) (hc : ∀ j, j < len → ∃ b off, a = some ⟨b, off, none⟩ ∧ b < n₀ ∧ W.cell? ⟨b, off + j, none⟩ = some (.int .u64 (f j : Nat))) (h0 : J [] W) :
    CallsIn F n Try.prog 57 #[.func (.yield l) #[] #[], .pointer (some ⟨Bs, 0, none⟩)] W fun e W' => (∃ v, e = .returned v) ∧
      ((∃ ys, ys = upto f len ∧ J ys W') ∨ (∃ pre, True ∧ Jx pre W')) := by
  unfold maxLen at hlen
  refine callsIn_of_wp Try.func57 rfl h7 ?_ hro
  simp only [Try.ntmps57, List.size_toArray, List.length_cons, List.length_nil, Nat.reduceAdd, Nat.reduceSub, Array.replicate_succ, Array.replicate_zero, List.push_toArray, List.append_toArray, List.nil_append, List.cons_append]
  gi_wp2
  gi_loopw [7] (fun i wr => ∃ k : Nat, k ≤ len ∧ i = .int .i64 k ∧ J (upto f k) wr ∧ Below n₀ W wr)
    (fun i _ => len - (intOf i).toNat)
  case atStart => exact ⟨0, Nat.zero_le _, rfl, h0, Below.refl _ _⟩
  case round =>
    obtain ⟨k, hk, rfl, hJs, hnx⟩ := hrel
    by_cases hlt : k < len
    · obtain ⟨b, off, rfl, hb, hcc⟩ := hc k hlt
      have hcx : wr.cell? ⟨b, off + k, none⟩ = some (.int .u64 (f k : Nat)) := (hnx.cell (p := ⟨b, off + k, none⟩) hb).trans hcc
      have HU := Lib.hid (upto_succ f k)
      clear hc hcc
      generalize f k = x at *
      obtain ⟨fn, tmps, assign, body, hy, hR⟩ := hY _ x wr hJs (by rw [upto_length]; exact hlt)
      gi_wp2
      refine hR.mono ?_
      rintro e W3 (⟨rfl, hJ3, hk3⟩ | ⟨rfl, hJx3⟩)
      · gi_wp2
        go_roundw
        case rel => exact ⟨k + 1, by omega, by simp, by rw [HU.out]; exact hJ3, hnx.trans hk3⟩
        case measure => simp [intOf]; omega
      · gi_wp2
        refine bodyPost_ret (results_none rfl _ _ _) rfl ?_
        exact ⟨⟨_, rfl⟩, .inr ⟨_, trivial, hJx3⟩⟩
    · obtain rfl : k = len := by omega
      gi_wp2
      go_end0
      exact ⟨⟨_, rfl⟩, .inl ⟨_, rfl, hJs⟩⟩

theorem values_any (a : Option Addr) (len cap : Nat) (w : World) :
    Calls Try.prog 44 #[.slice a len cap] w fun e w' => e = .returned (.func (.func 57) #[] #[.pointer (some ⟨w.heap.size, 0, none⟩)]) ∧ w' = w.alloc (.cells #[.slice a len cap] 35) := by
  go_enter Try.func44, Try.ntmps44
  go_wp2
  go_ret
  exact ⟨rfl, rfl⟩

theorem values_stops (F : Fence) (n : Nat) (h7 : F.fn 57) (hro : F.round = none) (hn : 1 ≤ n) (Bs n₀ : Nat) (a : Option Addr) (cap : Nat) (ms : List Nat) (hlen : ms.length ≤ maxLen) (w : World) (hBs : Bs < w.heap.size) (hn₀ : n₀ ≤ w.heap.size)
    (hc : w.cell? ⟨Bs, 0, none⟩ = some (.slice a ms.length cap)) (hI : U64s w a ms) (hI2 : ∀ x, a = some x → ms ≠ [] → x.block < n₀) :
    SeqStopsK F n Try.prog 57 #[.pointer (some ⟨Bs, 0, none⟩)] (fun x : Nat => #[Value.int .u64 (x : Nat)]) (Below n₀) (fun ys => ys = ms) (fun _ => True) ms.length w := fun l J Jx W hW _ _ hY h0 => by
  have hc' := (hW.cell (p := ⟨Bs, 0, none⟩) hBs).trans hc
  refine (values1_in F n h7 hro hn l Bs n₀ a ms.length cap (fun i => ms.getD i 0) hlen J Jx hY W hc' ?_ h0).mono ?_
  · intro j hj
    obtain ⟨b, off, rfl, hcc⟩ := hI.below hW j hj
    refine ⟨b, off, rfl, hI2 _ rfl (fun h => by rw [h] at hj; simp at hj), ?_⟩
    rw [hcc]; simp [List.getD_eq_getElem?_getD, hj]
  · rintro e W' ⟨he, ⟨ys, rfl, hj⟩ | ⟨pre, _, hj⟩⟩
    · exact ⟨he, .inl ⟨_, upto_all ms, hj⟩⟩
    · exact ⟨he, .inr ⟨_, trivial, hj⟩⟩

def u64Cells (l : List Nat) : List Value := l.map fun (x : Nat) => Value.int .u64 (x : Nat)

set_option maxRecDepth 100000 in
set_option maxHeartbeats 2000000 in
theorem appendSeq_any (Bs : Nat) (a : Option Addr) (cap : Nat) (ms : List Nat) (hlen : ms.length ≤ 17592186044400) (w : World) (hBs : Bs < w.heap.size)
    (hc : w.cell? ⟨Bs, 0, none⟩ = some (.slice a ms.length cap)) (hI : U64s w a ms) :
    Calls Try.prog 61 #[.slice none 0 0, .func (.func 57) #[] #[.pointer (some ⟨Bs, 0, none⟩)]] w fun e W' => ∃ v, e = .returned v ∧ W'.ownsRow w.heap.size 31 1 v ms.length (u64Cells ms) ∧ Below w.heap.size w W' := by
  refine (callsIn_wide (n := 6)).1 ?_
  have hro : (Fence.wide).round = none := rfl
  have h1 : 1 ≤ 6 := by omega
  have hlm : ms.length ≤ maxLen := by unfold maxLen; omega
  obtain ⟨i0, hi, hz0, hz1, hz2⟩ := info_parts infoU
  refine callsIn_of_wp_marks Try.func61 rfl trivial ?_ hro
  simp only [Try.ntmps61, List.size_toArray, List.length_cons, List.length_nil, Nat.reduceAdd, Nat.reduceSub, Array.replicate_succ, Array.replicate_zero, List.push_toArray, List.append_toArray, List.nil_append, List.cons_append]
  gi_wp2
  have bO := Boxed.new w 35 (.slice none 0 0)
  have hB0 : Below w.heap.size w (w.alloc (.cells #[.slice none 0 0] 35)) := (Below.refl _ w).alloc (Nat.le_refl _) _
  have hBx : ∀ x, a = some x → ms ≠ [] → x.block < w.heap.size := fun x hx hne => by
    obtain ⟨b, off, e, h⟩ := hI 0 (List.length_pos_iff.2 hne)
    rw [hx] at e; cases e
    exact cell_lt h
  refine wpIn_rangeFunc_ownG hro h1 (gf := 57) (lb := #[.pointer (some ⟨Bs, 0, none⟩)]) rfl trivial (enters_of Try.func57 (by kernel_rfl) rfl)
    (values_stops Fence.wide 5 trivial hro (by omega) Bs w.heap.size a cap ms hlm (w.alloc (.cells #[.slice none 0 0] 35)) (by simp; omega) (by simp) ((hB0.cell (p := ⟨Bs, 0, none⟩) hBs).trans hc) (hI.below hB0) hBx) belowK_t (belowK_b (by simp)) (Below.refl _ _) (fun _ => rfl)
    (fun pre W => (∃ v, Boxed W w.heap.size 35 v ∧ W.ownsRow w.heap.size 31 1 v pre.length (u64Cells pre) ∧ True) ∧ Below w.heap.size w W)
    (fun _ _ _ => False)
    (OwnFrom.and (Own.from (holdsRow_own w.heap.size w.heap.size 35 31 1 (fun pre : List Nat => pre.length) (fun pre => u64Cells pre) (fun _ _ => True)) _) (ownFrom_below (Nat.le_refl _) (by simp)))
    (fun _ _ _ _ _ hs _ _ => hs)
    ⟨⟨_, bO, World.ownsRow_nil _ _ _ _, trivial⟩, hB0⟩
    (fun x => { tmps := #[.slice none 0 0, .func (.func 57) #[] #[.pointer (some ⟨Bs, 0, none⟩)], .pointer (some ⟨w.heap.size, 0, none⟩), undef, .slice none 0 0, .int .u64 (x : Nat), .func (.func 57) #[] #[.pointer (some ⟨Bs, 0, none⟩)], .int .u64 (x : Nat), undef, undef, undef, undef, undef], defers := [] }) ?assign ?body ?done ?stop
  case assign =>
    intro l x W K hK
    gi_wp2
    exact hK
  case body =>
    rintro l pre x W ⟨⟨v, hv, hrow, _⟩, hB⟩ hlt
    have hc := hv.cell
    gi_wp2_with (gi_at_builtin; refine wpListIn_append_own _ rfl _ _ 35 rfl w.heap.size 31 i0 (.int .u64 0) 1 8 Try.underlying35 hi hz0 hz1 hz2 rfl (by decide) _ _ _ rfl (hrow.alloc _) ⟨W.heap.size, 0, none⟩ 1 1 [.int .u64 (x : Nat)] rfl rfl (cell_one_new _ _ _) (by simp [Value.oneCell']) (by omega) (by omega) (by have := hB.size; simp; omega) ?_; intro v' w1 hown' hgrow _; obtain ⟨g', cap', rfl⟩ := ownsRow_succ hown'; obtain ⟨hv1, hv2, hr2, hk2, hb2⟩ := hv.appended (by decide) hrow hB.size (Nat.le_refl _) hown' hgrow; have hc1 := hv1.cell; have hf1 := hv1.frozen)
    exact ⟨hk2.from _, hb2, ⟨_, hv2, by simpa [u64Cells] using hr2, trivial⟩, hB.trans hb2⟩
  case done =>
    rintro D ys W hD rfl ⟨⟨v, hv, hrow, _⟩, hB⟩ hK
    have hc := hv.cell
    gi_wp2
    refine ⟨by simp, .inl ⟨_, _, rfl, run_takeDeferred hK, ?_⟩⟩
    exact ⟨_, results_tmp rfl _ _ _, v, rfl, ownsRow_putObj hrow _ hK rfl, hB.trans (belowK_b (w := w) (Nat.le_refl _) W D _ _ (by simp at hD; omega) hK rfl rfl)⟩
  case stop =>
    rintro D c pre W _ _ h _
    exact h.elim

theorem collect_any (Bs : Nat) (a : Option Addr) (cap : Nat) (ms : List Nat) (hlen : ms.length ≤ 17592186044400) (w : World) (hBs : Bs < w.heap.size)
    (hc : w.cell? ⟨Bs, 0, none⟩ = some (.slice a ms.length cap)) (hI : U64s w a ms) :
    Calls Try.prog 55 #[.func (.func 57) #[] #[.pointer (some ⟨Bs, 0, none⟩)]] w fun e W' => ∃ v, e = .returned v ∧ W'.ownsRow w.heap.size 31 1 v ms.length (u64Cells ms) ∧ Below w.heap.size w W' := by
  have HA := Lib.hid (appendSeq_any Bs a cap ms hlen w hBs hc hI)
  clear hc hI
  go_enter Try.func55, Try.ntmps55
  go_wp2_with (first
    | ((with_reducible refine HA.out.mono ?_); rintro _ w1 ⟨v, rfl, ho, hb⟩))
  go_ret
  exact ⟨_, rfl, ho, hb⟩
end Go.Proofs.Ythgbmijgoaihcaa

/-
  The examples; the first law.
-/
import Derived.Test.YthgbmijgoaihcaaSplit5
import Derived.Test.YthgbmijgoaihcaaEnt3
namespace Go.Proofs.Ythgbmijgoaihcaa
open Go.RowKit
set_option linter.unusedVariables false

theorem ents_block {w : World} {B : Nat} {E : TypeId} {fr : Nat × Nat} {l : List Ent} (h : w.heap[B]? = some (.cells (entsCells l).toArray E fr)) (hok : ∀ e ∈ l, e.ok) : Ents w (some ⟨B, 0, none⟩) l := by
  intro i hi
  have hc : ∀ j, j < 4 → w.cell? ⟨B, 0 + i * 4 + j, none⟩ = (entCells l[i])[j]? := by
    intro j hj
    rw [← entsCells_getElem? l i j hi hj]
    simp [World.cell?, h]
  exact ⟨B, 0, rfl, ⟨hc 0 (by omega), hc 1 (by omega), hc 2 (by omega), hc 3 (by omega)⟩, hok _ (List.getElem_mem hi)⟩

def eA2 : Ent := ⟨⟨#[97]⟩, 2, 0, ByteArray.empty⟩
def eA1 : Ent := ⟨⟨#[97]⟩, 1, 0, ByteArray.empty⟩
def eB1 : Ent := ⟨⟨#[98]⟩, 1, 0, ByteArray.empty⟩
def eC1 : Ent := ⟨⟨#[99]⟩, 1, 0, ByteArray.empty⟩
def shownL : List Ent := [eA2, eA1, eB1, eC1]
theorem shown27 : ssplit 27 shownL = [[eA2, eA1, eB1], [eC1]] := by kernel_rfl
theorem shown1 : ssplit 1 shownL = [[eA2, eA1], [eB1], [eC1]] := by kernel_rfl
theorem shownC : count shownL = 36 := by rfl
theorem shownOk : ∀ e ∈ shownL, e.ok := by
  intro e he
  simp [shownL] at he
  rcases he with rfl | rfl | rfl | rfl <;> exact ⟨by decide, by decide, by decide, by decide⟩

theorem split_shown (m : Int) (w : World) (B : Nat) (hm : -9223372036854775808 ≤ m ∧ m ≤ 9223372036854775807) (hb : Ents w (some ⟨B, 0, none⟩) shownL) :
    Calls Try.prog 17 #[.slice (some ⟨B, 0, none⟩) 4 4, .int .i64 m] w fun e w' => ∃ v K, e = .returned v ∧ Outs 22 w' w.heap.size K v (ssplit m shownL) ∧ Below w.heap.size w w' :=
  split_any (some ⟨B, 0, none⟩) 4 shownL m w (by decide) (by decide) (by decide) (by rw [shownC]; decide) hm hb
theorem count_shown (w : World) (B : Nat) (hb : Ents w (some ⟨B, 0, none⟩) shownL) :
    Calls Try.prog 20 #[.slice (some ⟨B, 0, none⟩) 4 4] w fun e w' => e = .returned (.int .i64 36) ∧ Below w.heap.size w w' :=
  count_any (some ⟨B, 0, none⟩) 4 shownL w (by rw [shownC]; decide) hb

set_option maxRecDepth 100000 in
set_option maxHeartbeats 1600000 in
theorem shown_any (w : World) : Calls Try.prog 15 #[] w fun e w' => e = .returned (.bool true) ∧ Below w.heap.size w w' := by
  have HE := Lib.hid (show ∀ w' : World, w'.heap[w.heap.size]? = some (.cells (entsCells shownL).toArray 33 (0, 0)) → Ents w' (some ⟨w.heap.size, 0, none⟩) shownL from fun w' h => ents_block h shownOk)
  go_enter Try.func15, Try.ntmps15
  have hcl : (entsCells shownL).toArray = #[.string ⟨#[97]⟩, .int .u64 2, .int .u8 0, .string ⟨#[]⟩, .string ⟨#[97]⟩, .int .u64 1, .int .u8 0, .string ⟨#[]⟩, .string ⟨#[98]⟩, .int .u64 1, .int .u8 0, .string ⟨#[]⟩, .string ⟨#[99]⟩, .int .u64 1, .int .u8 0, .string ⟨#[]⟩] := by rfl
  have hE0 := HE.out (w.alloc (.cells (entsCells shownL).toArray 33)) (heap_at w _)
  rw [hcl] at hE0
  have HE0 := Lib.hid hE0
  clear hE0 hcl
  go_wp2_with (first
    | ((with_reducible refine (split_shown 27 _ w.heap.size (by decide) HE0.out).mono ?_); rintro _ w2 ⟨va, Ka, rfl, ha, hb2⟩; rw [shown27] at ha; have HA := Lib.hid ha; clear ha)
    | ((with_reducible refine (split_shown 1 w2 w.heap.size (by decide) (HE0.out.below hb2)).mono ?_); rintro _ w3 ⟨vb, Kb, rfl, hb, hb3⟩; rw [shown1] at hb; obtain ⟨xb, cb, rfl, _, _, hrb⟩ := hb.read; obtain ⟨b1, o1, y1, c1, rfl, hc1, _⟩ := hrb 0 (by decide); obtain ⟨xa, ca, rfl, _, _, hra⟩ := (HA.out.below (hb3.mono HA.out.1)).read; obtain ⟨b2, o2, y2, c2, rfl, hc2, _⟩ := hra 0 (by decide); have hc3 : w3.cell? ⟨b1, o1, none⟩ = some (.slice y1 2 c1) := hc1; have hc4 : w3.cell? ⟨b2, o2, none⟩ = some (.slice y2 3 c2) := hc2; clear hra hrb hc1 hc2)
    | ((with_reducible refine (count_shown w3 w.heap.size (HE0.out.below (hb2.trans (hb3.mono hb2.size)))).mono ?_); rintro _ w4 ⟨rfl, hb4⟩))
  go_ret
  exact ⟨rfl, ((Below.refl w.heap.size w).alloc (Nat.le_refl _) _).trans ((hb2.trans ((hb3.trans (hb4.mono hb3.size)).mono hb2.size)).mono (by simp))⟩

set_option maxRecDepth 100000 in
set_option maxHeartbeats 1600000 in
theorem law_splits (a : Option Addr) (cap : Nat) (l : List Ent) (m : Int) (w : World) (hcap : l.length ≤ cap) (hcm : cap ≤ maxLen) (hm : -9223372036854775808 ≤ m ∧ m ≤ 9223372036854775807) (hb : Ents w a l) :
    Calls Try.prog 3 #[.slice a l.length cap, .int .i64 m] w fun e w' => e = .returned (.bool true) ∧ Below w.heap.size w w' := by
  have h5 := fewN_500 l
  have hle := fewN_le l
  have hco := fewN_count l
  have hX : (l.take (fewN l)).length = fewN l := by simp; omega
  have c17 := fun w hb => split_any a cap (l.take (fewN l)) m w (by omega) (by omega) hcm (by omega) hm hb
  have c19 := fun w hb => refSplit_any a cap (l.take (fewN l)) m w (by omega) (by omega) hm hb
  have c20 := fun w hb => count_any a cap (l.take (fewN l)) w (by omega) hb
  have c21 := fun w hb => size_any a cap (l.take (fewN l)) w (by omega) hb
  simp only [hX] at c17 c19 c20 c21
  have C17 := Lib.hid c17
  have C19 := Lib.hid c19
  have C20 := Lib.hid c20
  have C21 := Lib.hid c21
  clear c17 c19 c20 c21
  have hbT := hb.take (fewN l)
  have H1 := Lib.hid (show ∀ w', Below w.heap.size w w' → Ents w' a l from fun w' h => hb.below h)
  have H2 := Lib.hid (show ∀ w', Below w.heap.size w w' → Ents w' a (l.take (fewN l)) from fun w' h => hbT.below h)
  clear hb hbT
  go_enter Try.func3, Try.ntmps3
  go_wp2_with (first
    | ((with_reducible refine (shown_any w).mono ?_); rintro _ w1 ⟨rfl, hb1⟩)
    | ((with_reducible refine (few_any a cap l w1 hcap hcm (H1.out w1 hb1)).mono ?_); rintro _ w2 ⟨rfl, hb2⟩; have hw2 := Lib.hid (hb1.trans (hb2.mono hb1.size)))
    | ((with_reducible refine (C17.out w2 (H2.out w2 hw2.out)).mono ?_); rintro _ w3 ⟨va, Ka, rfl, ha, hb3⟩; have hw3 := Lib.hid (hw2.out.trans (hb3.mono hw2.out.size)); have HA := Lib.hid ha; clear ha)
    | ((with_reducible refine (few_any a cap l w3 hcap hcm (H1.out w3 hw3.out)).mono ?_); rintro _ w4 ⟨rfl, hb4⟩; have hw4 := Lib.hid (hw3.out.trans (hb4.mono hw3.out.size)); have HA4 := Lib.hid (HA.out.below (hb4.mono HA.out.1)); clear HA)
    | ((with_reducible refine (C19.out w4 (H2.out w4 hw4.out)).mono ?_); rintro _ w5 ⟨vb, Kb, rfl, hb, hb5⟩; have hw5 := Lib.hid (hw4.out.trans (hb5.mono hw4.out.size)); obtain ⟨xb, cb, rfl, hq1, hq2, hrb⟩ := hb.read; obtain ⟨xa, ca, rfl, hp1, hp2, hra⟩ := (HA4.out.below (hb5.mono HA4.out.1)).read; have HRA : Hid (EntRows w5 xa (ssplit m (l.take (fewN l)))) := Lib.hid hra; have HRB : Hid (EntRows w5 xb (ssplit m (l.take (fewN l)))) := Lib.hid hrb; clear hra hrb hb)
    | ((with_reducible refine (same2_any xa xb ca cb (ssplit m (l.take (fewN l))) (ssplit m (l.take (fewN l))) w5 (Nat.le_trans hp1 hp2) (Nat.le_trans hp1 hp2) HRA.out HRB.out rfl).mono ?_); rintro _ w6 ⟨rfl, hb6⟩; have hw6 := Lib.hid (hw5.out.trans (hb6.mono hw5.out.size)))
    | ((with_reducible refine (few_any a cap l w6 hcap hcm (H1.out w6 hw6.out)).mono ?_); rintro _ w7 ⟨rfl, hb7⟩; have hw7 := Lib.hid (hw6.out.trans (hb7.mono hw6.out.size)))
    | ((with_reducible refine (C20.out w7 (H2.out w7 hw7.out)).mono ?_); rintro _ w8 ⟨rfl, hb8⟩; have hw8 := Lib.hid (hw7.out.trans (hb8.mono hw7.out.size)))
    | ((with_reducible refine (few_any a cap l w8 hcap hcm (H1.out w8 hw8.out)).mono ?_); rintro _ w9 ⟨rfl, hb9⟩; have hw9 := Lib.hid (hw8.out.trans (hb9.mono hw8.out.size)))
    | ((with_reducible refine (C21.out w9 (H2.out w9 hw9.out)).mono ?_); rintro _ w10 ⟨rfl, hb10⟩; have hw10 := Lib.hid (hw9.out.trans (hb10.mono hw9.out.size))))
  go_ret
  exact ⟨rfl, hw10.out⟩
end Go.Proofs.Ythgbmijgoaihcaa

/-
  View, plainly; the program's View.
-/
import Derived.Test.YthgbmijgoaihcaaMg2
import Derived.Deep.QuietTactic
import Derived.BigQuiet
namespace Go.Proofs.Ythgbmijgoaihcaa
open Go.RowKit
set_option linter.unusedVariables false

def pairOf (e : Ent) : List Pr := if e.kind = 1 then [(e.user, e.value)] else []
/-- Was the entry's key looked at? -/
def doneIs (l : List Ent) (d : Int) (e : Ent) : Bool := decide (0 ≤ d) && (l.getD d.toNat default).user.toList == e.user.toList
/-- One step of View: the last entry looked at, the pairs. -/
def viewStep (l : List Ent) (s : Nat) (st : Int × List Pr) (i : Nat) : Int × List Pr :=
  let e := l.getD i default
  if s < e.seq ∨ doneIs l st.1 e = true then st else ((i : Int), st.2 ++ pairOf e)
def viewTo (l : List Ent) (s : Nat) : Nat → Int × List Pr
  | 0 => (-1, [])
  | k + 1 => viewStep l s (viewTo l s k) k
def viewF (l : List Ent) (s : Nat) : List Pr := if rises l then (viewTo l s l.length).2 else []
theorem viewTo_rng (l : List Ent) (s k : Nat) : -1 ≤ (viewTo l s k).1 ∧ (viewTo l s k).1 < (k : Int) ∧ (viewTo l s k).2.length ≤ k := by
  induction k with
  | zero => exact ⟨by simp [viewTo], by simp [viewTo], Nat.le_refl _⟩
  | succ k ih =>
    obtain ⟨h1, h2, h3⟩ := ih
    unfold viewTo viewStep
    dsimp only
    split
    · exact ⟨h1, by omega, by omega⟩
    · refine ⟨by show -1 ≤ (k : Int); omega, by show (k : Int) < _; omega, ?_⟩
      rw [List.length_append]
      have : (pairOf (l.getD k default)).length ≤ 1 := by unfold pairOf; split <;> simp
      omega

theorem infoPr : (Try.prog.info? 61).map (fun i => (i.zero, i.size, i.bytes)) = some (some (.agg #[.string ⟨#[]⟩, .string ⟨#[]⟩]), 2, 32) := by kernel_rfl

set_option maxRecDepth 100000 in
set_option maxHeartbeats 1600000 in
theorem view_any (a : Option Addr) (cap : Nat) (l : List Ent) (s : Nat) (w : World) (hl : l.length ≤ cap) (hm : cap ≤ maxLen) (hl2 : l.length ≤ 2932031007400) (hs : s < 18446744073709551616) (hb : Ents w a l) :
    Calls Try.prog 28 #[.slice a l.length cap, .int .u64 s] w fun e w' => ∃ v, e = .returned v ∧ OwnP w' w.heap.size v (viewF l s) ∧ Below w.heap.size w w' := by
  have hle : l.length ≤ 9223372036854775807 := by omega
  have HM : Hid (∀ w', w'.heap[w.heap.size]? = some (.cells #[.slice a l.length cap] 22 (0, 0)) → Below w.heap.size w w' → Calls Try.prog 42 #[.slice (some ⟨w.heap.size, 0, none⟩) 1 1] w' fun e w'' => e = .returned (.bool (rises l)) ∧ Below w'.heap.size w' w'') := Lib.hid (fun w' h hbel => by
    have := mrises_any (some ⟨w.heap.size, 0, none⟩) 1 [l] w' (by unfold maxLen; simp) (fun i hi => by
      obtain rfl : i = 0 := by simpa using hi
      exact ⟨w.heap.size, 0, a, cap, rfl, by rw [cell_of_row w' _ _ _ _ _ h]; rfl, hl, hm, hb.below hbel⟩)
    simpa using this)
  go_enter Try.func28, Try.ntmps28
  cases hr : rises l with
  | false =>
    rw [hr] at HM
    have hv : Hid (viewF l s = []) := Lib.hid (by unfold viewF; rw [hr]; rfl)
    go_wp2_with (first
      | ((with_reducible refine (HM.out _ (heap_at _ _) ((Below.refl _ _).alloc (Nat.le_refl _) _)).mono ?_); rintro _ w1 ⟨rfl, hb1⟩))
    go_ret
    exact ⟨_, rfl, by rw [hv.out]; exact OwnP.nil _ _, (((Below.refl _ _).alloc (Nat.le_refl _) _).trans (hb1.mono (by simp)))⟩
  | true =>
    rw [hr] at HM
    have hv : Hid (viewF l s = (viewTo l s l.length).2) := Lib.hid (by unfold viewF; rw [hr]; rfl)
    go_wp2_with (first
      | ((with_reducible refine (HM.out _ (heap_at _ _) ((Below.refl _ _).alloc (Nat.le_refl _) _)).mono ?_); rintro _ w1 ⟨rfl, hb1⟩))
    obtain ⟨K, HK⟩ : ∃ K, Hid (w.heap.size = K) := ⟨_, Lib.hid rfl⟩
    have hw1 : Below w.heap.size w w1 := ((Below.refl _ _).alloc (Nat.le_refl _) _).trans (hb1.mono (by simp))
    clear HM hb1
    rw [HK.out] at hw1 ⊢
    go_loopw [5, 6, 15] (fun ov dv iv wr => ∃ (k : Nat), k ≤ l.length ∧ iv = .int .i64 k ∧ dv = .int .i64 (viewTo l s k).1 ∧ Hid (OwnP wr K ov (viewTo l s k).2) ∧ Below K w wr) (fun _ _ iv _ => l.length - (intOf iv).toNat)
    case atStart => exact ⟨0, by omega, rfl, rfl, Lib.hid (OwnP.nil _ _), hw1⟩
    case round =>
      obtain ⟨k, hk, rfl, rfl, hown, hwr⟩ := hrel
      have hKw : K ≤ wr.heap.size := by have := hwr.size; rw [HK.out] at this; exact this
      by_cases hlt : k < l.length
      · obtain ⟨b, off, rfl, ⟨c0, c1, c2, c3⟩, hok⟩ := (hb.below (w' := wr) (by rw [HK.out]; exact hwr)) k hlt
        have hin : (k : Int) < (l.length : Int) := by omega
        have h0 : (0 : Int) ≤ (k : Int) := by omega
        obtain ⟨hr1, hr2, hr3⟩ := viewTo_rng l s k
        have HS : Hid (viewTo l s (k + 1) = if s < (l.getD k default).seq ∨ doneIs l (viewTo l s k).1 (l.getD k default) = true then viewTo l s k else ((k : Int), (viewTo l s k).2 ++ pairOf (l.getD k default))) := Lib.hid rfl
        rw [show l.getD k default = l[k] by simp [List.getD_eq_getElem?_getD, hlt]] at HS
        generalize l[k] = x at *
        generalize viewTo l s k = st at *
        obtain ⟨d, out⟩ := st
        dsimp only at *
        by_cases q1 : s < x.seq
        · have d1 : decide ((s : Int) < (x.seq : Int)) = true := by simp; omega
          have HR : Hid (viewTo l s (k + 1) = (d, out)) := Lib.hid (HS.out.trans (by rw [if_pos (Or.inl q1)]))
          clear HS
          go_wp2
          go_quiet (fail)
          go_wp2
          have hbe : Below wr.heap.size wr ((wr.alloc (Obj.cells #[Value.string x.user, Value.int IntKind.u64 (x.seq : Nat), Value.int IntKind.u8 (x.kind : Nat), Value.string x.value] 33)).drewN nq) := below_drewN ((Below.refl _ _).alloc (Nat.le_refl _) _) _
          exact ⟨⟨k + 1, by omega, by go_num, by rw [HR.out], Lib.hid (by rw [HR.out]; exact OwnP.later hown.out hbe), hwr.trans (hbe.mono hKw)⟩, by simp [intOf]; omega⟩
        · have d1 : decide ((s : Int) < (x.seq : Int)) = false := by simp; omega
          have hlo : out.length + 1 ≤ 4398046511104 := by omega
          by_cases q3 : d < 0
          · obtain rfl : d = -1 := by omega
            have hno : ¬ (s < x.seq ∨ doneIs l (-1) x = true) := by simp [doneIs]; omega
            by_cases q2 : x.kind = 1
            · have d2 : ((x.kind : Int) == 1) = true := by simp; omega
              have HR : Hid (viewTo l s (k + 1) = ((k : Int), out ++ [(x.user, x.value)])) := Lib.hid (HS.out.trans (by rw [if_neg hno]; unfold pairOf; rw [if_pos q2]))
              clear HS
              go_wp2
              go_quiet (fail)
              go_wp2_with (at_builtin; refine app_pr _ rfl _ _ 39 rfl Try.underlying39 infoPr rfl rfl (OwnP.later hown.out ((below_drewN ((Below.refl wr.heap.size wr).alloc (Nat.le_refl _) _) nq).alloc (by simp [World.drewN]) _)) (e := (x.user, x.value)) rfl (heap_at' (by simp [World.drewN])) hlo (Nat.le_trans hKw (by simp [World.drewN]; omega)) ?_; intro v' w2 hown2 hb2)
              have hbe : Below K wr w2 := (((below_drewN ((Below.refl wr.heap.size wr).alloc (Nat.le_refl _) _) nq).alloc (by simp [World.drewN]) _).mono hKw).trans hb2
              exact ⟨⟨k + 1, by omega, by go_num, by rw [HR.out], Lib.hid (by rw [HR.out]; exact hown2), hwr.trans hbe⟩, by simp [intOf]; omega⟩
            · have d2 : ((x.kind : Int) == 1) = false := by simp; omega
              have HR : Hid (viewTo l s (k + 1) = ((k : Int), out)) := Lib.hid (HS.out.trans (by rw [if_neg hno]; unfold pairOf; rw [if_neg q2, List.append_nil]))
              clear HS
              go_wp2
              go_quiet (fail)
              go_wp2
              have hbe : Below wr.heap.size wr ((wr.alloc (Obj.cells #[Value.string x.user, Value.int IntKind.u64 (x.seq : Nat), Value.int IntKind.u8 (x.kind : Nat), Value.string x.value] 33)).drewN nq) := below_drewN ((Below.refl _ _).alloc (Nat.le_refl _) _) _
              exact ⟨⟨k + 1, by omega, by go_num, by rw [HR.out], Lib.hid (by rw [HR.out]; exact OwnP.later hown.out hbe), hwr.trans (hbe.mono hKw)⟩, by simp [intOf]; omega⟩
          · obtain ⟨m, rfl⟩ := nat_of (show 0 ≤ d by omega)
            have hml : m < l.length := by omega
            have d3 : decide (0 ≤ (m : Int)) = true := by simp
            have m1 : (m : Int) < (l.length : Int) := by omega
            have m2 : (0 : Int) ≤ (m : Int) := by omega
            obtain ⟨_, _, e', ⟨g0, g1, g2, g3⟩, _⟩ := (hb.below (w' := wr) (by rw [HK.out]; exact hwr)) m hml
            cases e'
            have hbl : b < wr.heap.size := cell_lt c0
            have hbn : ¬ b = wr.heap.size := by omega
            have hbn' : ¬ wr.heap.size = b := by omega
            have gg0 : (wr.alloc (Obj.cells #[Value.string x.user, Value.int IntKind.u64 (x.seq : Nat), Value.int IntKind.u8 (x.kind : Nat), Value.string x.value] 33)).cell? ⟨b, off + m * 4, none⟩ = some (.string (l[m]'hml).user) := by
              rw [((Below.refl wr.heap.size wr).alloc (Nat.le_refl _) _).cell (p := ⟨b, off + m * 4, none⟩) hbl]; exact g0
            have hdo : doneIs l m x = ((l[m]'hml).user.toList == x.user.toList) := by simp [doneIs, List.getD_eq_getElem?_getD, hml]
            generalize l[m]'hml = y at *
            by_cases q4 : y.user.toList = x.user.toList
            · have d4 : (y.user.toList == x.user.toList) = true := by simp [q4]
              have HR : Hid (viewTo l s (k + 1) = ((m : Int), out)) := Lib.hid (HS.out.trans (by rw [if_pos (Or.inr (by rw [hdo]; exact d4))]))
              clear HS hdo q4
              go_wp2
              go_quiet (fail)
              go_wp2
              have hbe : Below wr.heap.size wr ((wr.alloc (Obj.cells #[Value.string x.user, Value.int IntKind.u64 (x.seq : Nat), Value.int IntKind.u8 (x.kind : Nat), Value.string x.value] 33)).drewN nq) := below_drewN ((Below.refl _ _).alloc (Nat.le_refl _) _) _
              exact ⟨⟨k + 1, by omega, by go_num, by rw [HR.out], Lib.hid (by rw [HR.out]; exact OwnP.later hown.out hbe), hwr.trans (hbe.mono hKw)⟩, by simp [intOf]; omega⟩
            · have d4 : (y.user.toList == x.user.toList) = false := by simp [q4]
              have hno : ¬ (s < x.seq ∨ doneIs l m x = true) := by rw [hdo, d4]; simp; omega
              clear hdo q4
              by_cases q2 : x.kind = 1
              · have d2 : ((x.kind : Int) == 1) = true := by simp; omega
                have HR : Hid (viewTo l s (k + 1) = ((k : Int), out ++ [(x.user, x.value)])) := Lib.hid (HS.out.trans (by rw [if_neg hno]; unfold pairOf; rw [if_pos q2]))
                clear HS
                go_wp2
                go_quiet (fail)
                go_wp2_with (at_builtin; refine app_pr _ rfl _ _ 39 rfl Try.underlying39 infoPr rfl rfl (OwnP.later hown.out ((below_drewN ((Below.refl wr.heap.size wr).alloc (Nat.le_refl _) _) nq).alloc (by simp [World.drewN]) _)) (e := (x.user, x.value)) rfl (heap_at' (by simp [World.drewN])) hlo (Nat.le_trans hKw (by simp [World.drewN]; omega)) ?_; intro v' w2 hown2 hb2)
                have hbe : Below K wr w2 := (((below_drewN ((Below.refl wr.heap.size wr).alloc (Nat.le_refl _) _) nq).alloc (by simp [World.drewN]) _).mono hKw).trans hb2
                exact ⟨⟨k + 1, by omega, by go_num, by rw [HR.out], Lib.hid (by rw [HR.out]; exact hown2), hwr.trans hbe⟩, by simp [intOf]; omega⟩
              · have d2 : ((x.kind : Int) == 1) = false := by simp; omega
                have HR : Hid (viewTo l s (k + 1) = ((k : Int), out)) := Lib.hid (HS.out.trans (by rw [if_neg hno]; unfold pairOf; rw [if_neg q2, List.append_nil]))
                clear HS
                go_wp2
                go_quiet (fail)
                go_wp2
                have hbe : Below wr.heap.size wr ((wr.alloc (Obj.cells #[Value.string x.user, Value.int IntKind.u64 (x.seq : Nat), Value.int IntKind.u8 (x.kind : Nat), Value.string x.value] 33)).drewN nq) := below_drewN ((Below.refl _ _).alloc (Nat.le_refl _) _) _
                exact ⟨⟨k + 1, by omega, by go_num, by rw [HR.out], Lib.hid (by rw [HR.out]; exact OwnP.later hown.out hbe), hwr.trans (hbe.mono hKw)⟩, by simp [intOf]; omega⟩
      · obtain rfl : k = l.length := by omega
        have hin : ¬ (l.length : Int) < (l.length : Int) := by omega
        go_wp2
        go_ret
        refine ⟨_, rfl, ?_, ?_⟩
        · rw [hv.out]
          first
            | exact hown.out
            | (rw [HK.out]; exact hown.out)
        · first
            | exact hwr
            | (rw [HK.out]; exact hwr)
end Go.Proofs.Ythgbmijgoaihcaa

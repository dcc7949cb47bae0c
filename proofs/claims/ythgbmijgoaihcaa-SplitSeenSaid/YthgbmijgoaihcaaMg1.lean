/-
  merge.rises: slices.ContainsFunc and IndexFunc at its closure.
-/
import Derived.Test.YthgbmijgoaihcaaEnt3
namespace Go.Proofs.Ythgbmijgoaihcaa
open Go.RowKit
set_option linter.unusedVariables false

set_option maxRecDepth 100000 in
theorem rises1_any (a : Option Addr) (cap : Nat) (l : List Ent) (w : World) (hl : l.length ≤ maxLen) (hb : Ents w a l) :
    Calls Try.prog 54 #[.slice a l.length cap] w fun e w' => e = .returned (.bool (!rises l)) ∧ Below w.heap.size w w' := by
  have HR := Lib.hid (rises_any a cap l w hl hb)
  go_enter Try.func54, Try.ntmps54
  go_wp2_with (first
    | ((with_reducible refine HR.out.mono ?_); rintro _ w1 ⟨rfl, hb1⟩))
  go_ret
  exact ⟨rfl, hb1⟩

set_option maxRecDepth 100000 in
set_option maxHeartbeats 800000 in
theorem indexRises_any (a : Option Addr) (cap : Nat) (ls : List (List Ent)) (w : World) (hl : ls.length ≤ maxLen) (hb : EntRows w a ls) :
    Calls Try.prog 60 #[.slice a ls.length cap, .func (.func 54) #[] #[]] w fun e w' => (∃ i : Int, e = .returned (.int .i64 i) ∧ (ls.all rises = true ↔ i < 0)) ∧ Below w.heap.size w w' := by
  have hl' : ls.length ≤ 9223372036854775807 := by unfold maxLen at hl; omega
  clear hl
  go_enter Try.func60, Try.ntmps60
  go_wp2
  go_loopw [8] (fun i wr => ∃ k : Nat, k ≤ ls.length ∧ i = .int .i64 k ∧ Hid ((ls.take k).all rises = true) ∧ Below w.heap.size w wr) (fun i _ => ls.length - (intOf i).toNat)
  case atStart => exact ⟨0, by omega, rfl, Lib.hid rfl, Below.refl _ _⟩
  case round =>
    obtain ⟨k, hk, rfl, hall, hwr⟩ := hrel
    by_cases hlt : k < ls.length
    · obtain ⟨b, off, x, c, rfl, hc, hlc, hcm, hx⟩ := (hb.below hwr) k hlt
      have hin : (k : Int) < (ls.length : Int) := by omega
      have h0 : (0 : Int) ≤ (k : Int) := by omega
      have HR := Lib.hid (rises1_any x c ls[k] wr (Nat.le_trans hlc hcm) hx)
      have HN : Hid (ls.take (k + 1) = ls.take k ++ [ls[k]]) := Lib.hid (List.take_succ_eq_append_getElem hlt)
      have HM : Hid (ls[k] ∈ ls) := Lib.hid (List.getElem_mem hlt)
      generalize ls[k] = y at *
      cases hy : rises y with
      | true =>
        rw [hy] at HR
        go_wp2_with (first
          | ((with_reducible refine HR.out.mono ?_); rintro _ w1 ⟨rfl, hb1⟩))
        exact ⟨⟨k + 1, by omega, by go_num, Lib.hid (by rw [HN.out, List.all_append, hall.out]; simp [hy]), hwr.trans (hb1.mono hwr.size)⟩, by simp [intOf]; omega⟩
      | false =>
        rw [hy] at HR
        go_wp2_with (first
          | ((with_reducible refine HR.out.mono ?_); rintro _ w1 ⟨rfl, hb1⟩))
        go_ret
        refine ⟨⟨k, rfl, ?_⟩, hwr.trans (hb1.mono hwr.size)⟩
        constructor
        · intro h
          rw [List.all_eq_true.1 h y HM.out] at hy
          cases hy
        · intro h; omega
    · obtain rfl : k = ls.length := by omega
      have hin : ¬ (ls.length : Int) < (ls.length : Int) := by omega
      rw [List.take_length] at hall
      go_wp2
      go_ret
      exact ⟨⟨-1, rfl, ⟨fun _ => by decide, fun _ => by first | exact hall.out | simpa using hall.out⟩⟩, hwr⟩

set_option maxRecDepth 100000 in
theorem mrises_any (a : Option Addr) (cap : Nat) (ls : List (List Ent)) (w : World) (hl : ls.length ≤ maxLen) (hb : EntRows w a ls) :
    Calls Try.prog 42 #[.slice a ls.length cap] w fun e w' => e = .returned (.bool (ls.all rises)) ∧ Below w.heap.size w w' := by
  have HI := Lib.hid (indexRises_any a cap ls w hl hb)
  have HC : Hid (Calls Try.prog 53 #[.slice a ls.length cap, .func (.func 54) #[] #[]] w fun e w' => e = .returned (.bool (!(ls.all rises))) ∧ Below w.heap.size w w') := Lib.hid (by
    go_enter Try.func53, Try.ntmps53
    go_wp2_with (first
      | ((with_reducible refine HI.out.mono ?_); rintro _ w1 ⟨⟨i, rfl, hi⟩, hb1⟩))
    go_ret
    refine ⟨ret_bool ?_, hb1⟩
    cases h : ls.all rises with
    | true => have := hi.1 h; simp; omega
    | false =>
      have : ¬ i < 0 := fun h' => by rw [hi.2 h'] at h; cases h
      simp; omega)
  go_enter Try.func42, Try.ntmps42
  go_wp2_with (first
    | ((with_reducible refine HC.out.mono ?_); rintro _ w1 ⟨rfl, hb1⟩))
  go_ret
  exact ⟨ret_bool (by simp), hb1⟩
end Go.Proofs.Ythgbmijgoaihcaa

/-
  Join and the reference's Join; the law's first ten lists.
-/
import Derived.Test.YthgbmijgoaihcaaSo10
import Derived.Test.YthgbmijgoaihcaaMg13
import Derived.Test.YthgbmijgoaihcaaMg14
import Derived.Test.YthgbmijgoaihcaaMg30
import Derived.Test.YthgbmijgoaihcaaMgRows
import Derived.Test.YthgbmijgoaihcaaSplit6
namespace Go.Proofs.Ythgbmijgoaihcaa
open Go.RowKit
set_option linter.unusedVariables false

def ten (ls : List (List Ent)) : List (List Ent) := (ls.take 10).map fun l => l.take (fewN l)
def tenTo (ls : List (List Ent)) (k : Nat) : List (List Ent) := ((ls.take k).take 10).map fun l => l.take (fewN l)
theorem tenTo_lt (ls : List (List Ent)) (k : Nat) (h : k < ls.length) (h10 : k < 10) : tenTo ls (k + 1) = tenTo ls k ++ [ls[k].take (fewN ls[k])] := by
  unfold tenTo
  rw [List.take_take, List.take_take, Nat.min_eq_right (by omega), Nat.min_eq_right (by omega), List.take_succ_eq_append_getElem h, List.map_append]
  rfl
theorem tenTo_ge (ls : List (List Ent)) (k : Nat) (h10 : 10 ≤ k) : tenTo ls (k + 1) = tenTo ls k := by
  unfold tenTo
  rw [List.take_take, List.take_take, Nat.min_eq_left (by omega), Nat.min_eq_left (by omega)]
theorem tenTo_len (ls : List (List Ent)) (k : Nat) : (tenTo ls k).length ≤ 10 := by unfold tenTo; simp; omega
theorem tenTo_all (ls : List (List Ent)) : tenTo ls ls.length = ten ls := by unfold tenTo ten; rw [List.take_of_length_le (Nat.le_refl _)]
theorem count_each (l : List Ent) (e : Ent) (he : e ∈ l) : 8 + e.user.size + e.value.size ≤ count l := by
  induction l with
  | nil => simp at he
  | cons x t ih =>
    have : count (x :: t) = 8 + x.user.size + x.value.size + count t := by simp [count]
    rw [this]
    rcases List.mem_cons.1 he with rfl | q
    · omega
    · have := ih q; omega
theorem count_of (B : Nat) : ∀ l : List Ent, (∀ e ∈ l, 8 + e.user.size + e.value.size ≤ B) → count l ≤ l.length * B
  | [], _ => by simp [count]
  | x :: t, h => by
    have h1 : count (x :: t) = 8 + x.user.size + x.value.size + count t := by simp [count]
    have h2 := count_of B t fun e he => h e (List.mem_cons_of_mem _ he)
    have h3 := h x (by simp)
    rw [h1, List.length_cons, Nat.succ_mul]
    omega
structure TenOk (F : List (List Ent)) : Prop where
  len : F.length ≤ 10
  sum : (F.map (·.length)).sum ≤ 5000
  cnt : ∀ p ∈ F, ∀ e ∈ p, 8 + e.user.size + e.value.size ≤ 204000
theorem ten_ok (ls : List (List Ent)) : TenOk (ten ls) := by
  refine ⟨by unfold ten; simp; omega, ?_, fun p hp e he => ?_⟩
  · have g : ∀ l : List (List Ent), (((l.map fun l => l.take (fewN l)).map (·.length)).sum) ≤ 500 * l.length := by
      intro l
      induction l with
      | nil => simp
      | cons x t ih =>
        have := fewN_500 x
        simp only [List.map_cons, List.sum_cons, List.length_cons, List.length_take]; omega
    have h1 := g (ls.take 10)
    have h2 : (ls.take 10).length ≤ 10 := by simp; omega
    unfold ten
    omega
  · unfold ten at hp
    obtain ⟨l, _, rfl⟩ := List.mem_map.1 hp
    have h1 := count_each _ e he
    have h2 := fewN_count l
    omega
theorem refM_in {F : List (List Ent)} {e : Ent} (he : e ∈ refM F) : ∃ p ∈ F, e ∈ p := by
  by_cases hr : F.all rises = true
  · obtain ⟨i, hi, _⟩ := ((refM_merge F).mem hr e).1 he
    rcases Nat.lt_or_ge i F.length with q | q
    · exact ⟨F[i], List.getElem_mem q, by simpa [List.getD_eq_getElem?_getD, q] using hi⟩
    · simp [List.getD_eq_getElem?_getD, q] at hi
  · unfold refM at he; rw [if_neg hr] at he; simp at he
theorem keepR_sub (ms : List Nat) (last : Bool) (l : List Ent) : (keepR ms last l).Sublist l := by
  unfold keepR
  split
  · have := kr_sub ms last l l.length (Nat.le_refl _)
    rwa [List.take_of_length_le (Nat.le_refl _)] at this
  · exact List.nil_sublist _
theorem joined_ok {F : List (List Ent)} (h : TenOk F) (ms : List Nat) (last : Bool) : (refM F).length ≤ 5000 ∧ (keepR ms last (refM F)).length ≤ 5000 ∧ count (keepR ms last (refM F)) ≤ 1000000000000 := by
  have h1 : (refM F).length ≤ 5000 := Nat.le_trans (isMerge_len (refM_merge F)) h.sum
  have h2 : (keepR ms last (refM F)).length ≤ 5000 := Nat.le_trans (keepR_sub ms last _).length_le h1
  refine ⟨h1, h2, ?_⟩
  have h3 := count_of 204000 (keepR ms last (refM F)) fun e he => by
    obtain ⟨p, hp, q⟩ := refM_in (keep_in ms last _ e he)
    exact h.cnt p hp e q
  have : (keepR ms last (refM F)).length * 204000 ≤ 5000 * 204000 := Nat.mul_le_mul_right _ h2
  omega
def Joined (w' : World) (v : Value) (x : List (List Ent)) : Prop := ∃ B K, Outs 22 w' B K v x

set_option maxRecDepth 100000 in
set_option maxHeartbeats 1600000 in
theorem join_any (a : Option Addr) (cap : Nat) (F : List (List Ent)) (am : Option Addr) (capm : Nat) (ms : List Nat) (last : Bool) (m : Int) (w : World) (hF : TenOk F) (hnil : a = none → cap = 0) (hb : EntRows w a F)
    (hlen : ms.length ≤ 500) (hms : ∀ m ∈ ms, m < 18446744073709551616) (hI : U64s w am ms) (hm : -9223372036854775808 ≤ m ∧ m ≤ 9223372036854775807) :
    Calls Try.prog 36 #[.slice a F.length cap, .slice am ms.length capm, .bool last, .int .i64 m] w fun e w' => ∃ v, e = .returned v ∧ Joined w' v (ssplit m (keepR ms last (refM F))) ∧ Below w.heap.size w w' := by
  obtain ⟨j1, j2, j3⟩ := joined_ok hF ms last
  have HM := Lib.hid (merge_any a cap F w (by have := hF.len; omega) hb hnil 5000 (by decide) hF.sum)
  have HUM : Hid (∀ r, IsMerge F r → r = refM F) := Lib.hid (fun r hr => hr.uniq (refM_merge _))
  have HK := Lib.hid (fun x c w' h1 h2 h3 h4 => keep_any sorts x c (refM F) am capm ms last w' h1 h2 (by omega) h3 hlen hms h4)
  have HS := Lib.hid (fun x c w' h1 h2 h3 => split_any x c (keepR ms last (refM F)) m w' (by omega) h1 h2 j3 hm h3)
  have HU := Lib.hid hI
  clear hb hI hms hnil hF j3
  generalize refM F = R at *
  generalize keepR ms last R = S at *
  generalize F.length = n at *
  generalize ms.length = nm at *
  go_enter Try.func36, Try.ntmps36
  go_wp2_with fail
  refine HM.out.mono ?_
  rintro _ w1 ⟨v1, rfl, ⟨r, hr1, him⟩, hb1⟩
  have hu := HUM.out r him
  subst hu
  obtain ⟨x1, c1, rfl, q1, p1, E1, _⟩ := hr1.read
  have HK1 := Lib.hid (HK.out x1 c1 w1 q1 p1 E1 (HU.out.below hb1))
  have HB1 := Lib.hid hb1
  clear hr1 him E1 hb1
  go_wp2_with fail
  refine HK1.out.mono ?_
  rintro _ w2 ⟨v2, rfl, ho2, hb2⟩
  obtain ⟨x2, c2, rfl, q2, p2, E2, _⟩ := ho2.read
  have HS2 := Lib.hid (HS.out x2 c2 w2 q2 p2 E2)
  have HB2 := Lib.hid (HB1.out.trans (hb2.mono HB1.out.size))
  clear ho2 E2 hb2
  go_wp2_with fail
  refine HS2.out.mono ?_
  rintro _ w3 ⟨v3, K3, rfl, ho3, hb3⟩
  have HB3 := Lib.hid (HB2.out.trans (hb3.mono HB2.out.size))
  have HJ : Hid (Joined w3 v3 (ssplit m S)) := Lib.hid ⟨_, _, ho3⟩
  clear hb3 ho3
  go_wp2
  go_ret
  exact ⟨_, rfl, HJ.out, HB3.out⟩
set_option maxRecDepth 100000 in
set_option maxHeartbeats 1600000 in
theorem refJoin_any (a : Option Addr) (cap : Nat) (F : List (List Ent)) (am : Option Addr) (capm : Nat) (ms : List Nat) (last : Bool) (m : Int) (w : World) (hF : TenOk F) (hb : EntRows w a F)
    (hlen : ms.length ≤ 500) (hI : U64s w am ms) (hm : -9223372036854775808 ≤ m ∧ m ≤ 9223372036854775807) :
    Calls Try.prog 37 #[.slice a F.length cap, .slice am ms.length capm, .bool last, .int .i64 m] w fun e w' => ∃ v, e = .returned v ∧ Joined w' v (ssplit m (keepR ms last (refM F))) ∧ Below w.heap.size w w' := by
  obtain ⟨j1, j2, j3⟩ := joined_ok hF ms last
  have HM := Lib.hid (refMerge_any a cap F w (by have := hF.len; omega) hb 5000 (by decide) hF.sum)
  have HK := Lib.hid (fun x c w' h1 h2 h3 h4 => rkeep_any x c (refM F) am capm ms last w' h1 h2 (by omega) h3 (by omega) h4)
  have HS := Lib.hid (fun x c w' h3 => refSplit_any x c (keepR ms last (refM F)) m w' (by omega) j3 hm h3)
  have HU := Lib.hid hI
  clear hb hI hF j3
  generalize refM F = R at *
  generalize keepR ms last R = S at *
  generalize F.length = n at *
  generalize ms.length = nm at *
  go_enter Try.func37, Try.ntmps37
  go_wp2_with fail
  refine HM.out.mono ?_
  rintro _ w1 ⟨v1, rfl, hr1, hb1⟩
  obtain ⟨x1, c1, rfl, q1, p1, E1, _⟩ := hr1.read
  have HK1 := Lib.hid (HK.out x1 c1 w1 q1 p1 E1 (HU.out.below hb1))
  have HB1 := Lib.hid hb1
  clear hr1 E1 hb1
  go_wp2_with fail
  refine HK1.out.mono ?_
  rintro _ w2 ⟨v2, rfl, ho2, hb2⟩
  obtain ⟨x2, c2, rfl, q2, p2, E2, _⟩ := ho2.read
  have HS2 := Lib.hid (HS.out x2 c2 w2 E2)
  have HB2 := Lib.hid (HB1.out.trans (hb2.mono HB1.out.size))
  clear ho2 E2 hb2
  go_wp2_with fail
  refine HS2.out.mono ?_
  rintro _ w3 ⟨v3, K3, rfl, ho3, hb3⟩
  have HB3 := Lib.hid (HB2.out.trans (hb3.mono HB2.out.size))
  have HJ : Hid (Joined w3 v3 (ssplit m S)) := Lib.hid ⟨_, _, ho3⟩
  clear hb3 ho3
  go_wp2
  go_ret
  exact ⟨_, rfl, HJ.out, HB3.out⟩
theorem bits_i64 (m : Int) : -9223372036854775808 ≤ bits .and .i64 m 65535 ∧ bits .and .i64 m 65535 ≤ 9223372036854775807 := by
  unfold bits
  generalize (((BitVec.ofInt IntKind.i64.bits m &&& BitVec.ofInt IntKind.i64.bits 65535).toNat : Nat) : Int) = q
  have g : ∀ r : Int, -9223372036854775808 ≤ IntKind.i64.wrap r ∧ IntKind.i64.wrap r ≤ 9223372036854775807 := by
    intro r
    unfold IntKind.wrap
    have h1 : (2 : Int) ^ IntKind.i64.bits = 18446744073709551616 := by decide
    have h2 : (2 : Int) ^ (IntKind.i64.bits - 1) = 9223372036854775808 := by decide
    simp only [h1, h2]
    split
    · rename_i h
      simp [IntKind.signed] at h
      omega
    · rename_i h
      simp [IntKind.signed] at h
      omega
  exact g _
end Go.Proofs.Ythgbmijgoaihcaa

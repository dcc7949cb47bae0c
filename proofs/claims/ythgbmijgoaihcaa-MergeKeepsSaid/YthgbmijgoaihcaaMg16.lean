/-
  The laws on Keep and View.
-/
import Derived.Test.YthgbmijgoaihcaaSo10
import Derived.Test.YthgbmijgoaihcaaMg14
import Derived.Test.YthgbmijgoaihcaaMg15
import Derived.Test.YthgbmijgoaihcaaEnt2
namespace Go.Proofs.Ythgbmijgoaihcaa
open Go.RowKit
set_option linter.unusedVariables false

theorem U64s.take {w : World} {a : Option Addr} {l : List Nat} (h : U64s w a l) (k : Nat) : U64s w a (l.take k) := by
  intro i hi
  have hi' : i < l.length := by simp at hi; omega
  obtain ⟨b, off, e, hc⟩ := h i hi'
  exact ⟨b, off, e, by simpa using hc⟩

set_option maxRecDepth 100000 in
set_option maxHeartbeats 1600000 in
theorem law_keeps (a : Option Addr) (cap : Nat) (l : List Ent) (am : Option Addr) (capm : Nat) (ms : List Nat) (last : Bool) (w : World) (hl : l.length ≤ cap) (hm : cap ≤ maxLen) (hl2 : l.length ≤ 2932031007400) (hb : Ents w a l)
    (hml : ms.length ≤ capm) (hmm : capm ≤ maxLen) (hms : ∀ m ∈ ms, m < 18446744073709551616) (hI : U64s w am ms) :
    Calls Try.prog 6 #[.slice a l.length cap, .slice am ms.length capm, .bool last] w fun e w' => e = .returned (.bool true) ∧ Below w.heap.size w w' := by
  obtain ⟨k, HKm⟩ : ∃ k, Hid (min ms.length 500 = k) := ⟨_, Lib.hid rfl⟩
  have hk5 : k ≤ 500 := by have := HKm.out; omega
  have hkm : k ≤ ms.length := by have := HKm.out; omega
  have hT : (ms.take k).length = k := by simp; omega
  have HSH := Lib.hid (fun w' => mshown_any sorts w')
  have HSO : Hid (∀ w', Calls Try.prog 26 #[.slice am ms.length capm] w' fun e w'' => e = .returned (.slice am k capm) ∧ w' = w'') := Lib.hid (fun w' => by
    have := some_any am capm ms.length w' hml hmm
    rw [HKm.out] at this
    exact this)
  have h1 := fun w' hb hu => keep_any sorts a cap l am capm (ms.take k) last w' hl hm hl2 hb (by omega) (fun m h => hms m (List.mem_of_mem_take h)) hu
  have h2 := fun w' hb hu => rkeep_any a cap l am capm (ms.take k) last w' hl hm hl2 hb (by omega) hu
  rw [hT] at h1 h2
  have HKP := Lib.hid h1
  have HRK := Lib.hid h2
  have HE := Lib.hid hb
  have HU := Lib.hid (hI.take k)
  clear h1 h2 hb hI hT hms hml hmm
  generalize keepR (ms.take k) last l = R at *
  go_enter Try.func6, Try.ntmps6
  go_wp2_with fail
  refine (HSH.out _).mono ?_
  rintro _ w1 ⟨rfl, hb1⟩
  have HB1 := Lib.hid hb1
  clear hb1
  go_wp2_with fail
  refine (HSO.out _).mono ?_
  rintro _ w2 ⟨rfl, rfl⟩
  go_wp2_with fail
  refine (HKP.out _ (HE.out.below HB1.out) (HU.out.below HB1.out)).mono ?_
  rintro _ w3 ⟨v1, rfl, ho1, hb3⟩
  obtain ⟨x1, c1, rfl, hc1, hc1m, he1, _⟩ := ho1.read
  have HE1 := Lib.hid he1
  have HB3 := Lib.hid (HB1.out.trans (hb3.mono HB1.out.size))
  clear ho1 he1 hb3
  go_wp2_with fail
  refine (HSO.out _).mono ?_
  rintro _ w4 ⟨rfl, rfl⟩
  go_wp2_with fail
  refine (HRK.out _ (HE.out.below HB3.out) (HU.out.below HB3.out)).mono ?_
  rintro _ w5 ⟨v2, rfl, ho2, hb5⟩
  obtain ⟨x2, c2, rfl, hc2, hc2m, he2, _⟩ := ho2.read
  have HS := Lib.hid (same_any x1 x2 c1 c2 R R w5 (Nat.le_trans hc1 hc1m) (Nat.le_trans hc1 hc1m) (HE1.out.below hb5) he2 rfl)
  have HB5 := Lib.hid (HB3.out.trans (hb5.mono HB3.out.size))
  clear ho2 he2 hb5
  go_wp2_with fail
  refine HS.out.mono ?_
  rintro _ w6 ⟨rfl, hb6⟩
  have HB6 := Lib.hid (HB5.out.trans (hb6.mono HB5.out.size))
  clear hb6
  go_wp2
  go_ret
  exact ⟨rfl, HB6.out⟩
end Go.Proofs.Ythgbmijgoaihcaa

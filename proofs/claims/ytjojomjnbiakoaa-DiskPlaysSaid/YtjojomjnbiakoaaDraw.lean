/-
  A region that draws its order: the condition on the world may be changed on the way (wpAnyH_change). No function of the program is named here.
-/
import Derived.Test.YtjojomjnbiakoaaBase
import Derived.Deep.RegionHeld3
namespace Go.Proofs.Ytjojomjnbiakoaa
open Go.RowKit

theorem wpAnyH_change {P : Program} {ops : Array Oper} {Q : Exit → Act → World → Prop} {md : Region.Mode} {S S2 : World → Prop} (h : ∀ w, S2 w → S w) :
    ∀ (fuel : Nat) (listed : Array Bool) (a : Act) (w : World), wpAnyH P md ops Q S2 fuel listed a w → wpAnyH P md ops Q S fuel listed a w
  | 0, _, _, _, hh => hh
  | fuel + 1, _, _, _, hh => ⟨hh.1, fun i hi => wpOp_mono (fun a' w' h' => ⟨h w' h'.1, wpAnyH_change h fuel _ a' w' h'.2⟩) (hh.2 i hi)⟩
end Go.Proofs.Ytjojomjnbiakoaa

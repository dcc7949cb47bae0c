/-
  The laws' acts on the reference's disk: 'model'.
-/
import Derived.Test.YtjojomjnbiakoaaRd8
namespace Go.Proofs.Ytjojomjnbiakoaa
open Go.RowKit Go.Maps Go.ChangeShapes
set_option linter.unusedVariables false
set_option maxRecDepth 100000 in
set_option maxHeartbeats 3200000 in
theorem model_any (bw : Nat) (A : DM) (xb : Option Addr) (cb : Nat) (xk : Option Addr) (ck : Nat) (a : ActM) (N T : Nat) (w : World) (hN : N ≤ 1000000) (hT : T + a.b.length ≤ 1099511627776) (hL : A.Lim N T) (hi : ActIn w xb cb xk ck a) (h : RefSt w bw A) :
    Calls Try.prog 24 #[.pointer (some ⟨bw, 0, none⟩), .agg #[.int .u8 (a.kind : Nat), .string a.name, .string a.dst, .slice xb a.b.length cb, .int .i64 a.n, .slice xk a.keep.length ck]] w fun e w' => e = .returned (.int .i64 (A.act a).2) ∧ RefSt w' bw (A.act a).1 ∧ Upd (· = bw) w w' := by
  have hbx := Boxed.start hi (Below.refl w.heap.size w) (fun e => hi.k.lt e)
  have hok := hi.ok
  have hab := h.later (abel w (.cells (actCells xb cb xk ck a) 30))
  have hwb : Upd (· = bw) w (w.alloc (.cells (actCells xb cb xk ck a) 30)) := Upd.alloc _ _
  unfold actCells at hbx hab hwb
  have HCV := Lib.hid (str_of cb hbx.inn.b)
  obtain ⟨wB, hwB⟩ : ∃ wB, w.alloc (.cells #[.int .u8 (a.kind : Nat), .string a.name, .string a.dst, .slice xb a.b.length cb, .int .i64 a.n, .slice xk a.keep.length ck] 30) = wB := ⟨_, rfl⟩
  have HWB := Lib.hid hwB
  rw [hwB] at hbx hab hwb
  have HBX := Lib.hid hbx
  have HAB := Lib.hid hab
  have HUB := Lib.hid hwb
  have HOK := Lib.hid hok
  obtain ⟨Bx, hBx⟩ : ∃ Bx, w.heap.size = Bx := ⟨_, rfl⟩
  have HBN := Lib.hid hBx
  rw [hBx] at HBX
  have hcs := HBX.out.cells
  have HCS := Lib.hid hcs
  have hn := hok.n
  have hlen := hL.len
  have htot := hL.tot
  clear h hi hbx hab hwb hok hwB hcs hBx
  have hk8 : a.kind % 8 = 0 ∨ a.kind % 8 = 1 ∨ a.kind % 8 = 2 ∨ a.kind % 8 = 3 ∨ a.kind % 8 = 4 ∨ a.kind % 8 = 5 ∨ a.kind % 8 = 6 ∨ a.kind % 8 = 7 := by omega
  rcases hk8 with hk | hk | hk | hk | hk | hk | hk | hk
  · have HE : Hid (A.act a = A.append (keyB a.name) a.b) := Lib.hid (by unfold DM.act; simp [hk])
    have hki : (a.kind : Int) % 8 = 0 := by omega
    clear hk
    have HC := Lib.hid (rappend_any bw A a.name _ a.b N T wB rfl HOK.out.name hN hT hL HAB.out)
    have hcv := HCV.out
    go_enter Try.func24, Try.ntmps24
    go_wp2_with fail
    rw [HWB.out, HBN.out]
    refine HC.out.mono ?_
    rintro _ w5 ⟨rfl, hd5, hu5⟩
    have HD5 := Lib.hid hd5
    have HU5 : Hid (Upd (· = bw) w w5) := Lib.hid (HUB.out.trans hu5)
    clear hd5 hu5 HC hcv
    go_wp2
    go_ret
    exact ⟨by rw [HE.out]; rfl, by rw [HE.out]; exact HD5.out, HU5.out⟩
  · have HE : Hid (A.act a = A.sync (keyB a.name)) := Lib.hid (by unfold DM.act; simp [hk])
    have hki : (a.kind : Int) % 8 = 1 := by omega
    clear hk
    have HC := Lib.hid (rsync_any bw A a.name N T wB HOK.out.name hN hL HAB.out)
    go_enter Try.func24, Try.ntmps24
    go_wp2_with fail
    rw [HWB.out, HBN.out]
    refine HC.out.mono ?_
    rintro _ w5 ⟨rfl, hd5, hu5⟩
    have HD5 := Lib.hid hd5
    have HU5 : Hid (Upd (· = bw) w w5) := Lib.hid (HUB.out.trans hu5)
    clear hd5 hu5 HC
    go_wp2
    go_ret
    exact ⟨by rw [HE.out]; rfl, by rw [HE.out]; exact HD5.out, HU5.out⟩
  · have HE : Hid (A.act a = A.rename (keyB a.name) (keyB a.dst)) := Lib.hid (by unfold DM.act; simp [hk])
    have hki : (a.kind : Int) % 8 = 2 := by omega
    clear hk
    have HC := Lib.hid (rrename_any bw A a.name a.dst N T wB HOK.out.name HOK.out.dst hN hL HAB.out)
    go_enter Try.func24, Try.ntmps24
    go_wp2_with fail
    rw [HWB.out, HBN.out]
    refine HC.out.mono ?_
    rintro _ w5 ⟨rfl, hd5, hu5⟩
    have HD5 := Lib.hid hd5
    have HU5 : Hid (Upd (· = bw) w w5) := Lib.hid (HUB.out.trans hu5)
    clear hd5 hu5 HC
    go_wp2
    go_ret
    exact ⟨by rw [HE.out]; rfl, by rw [HE.out]; exact HD5.out, HU5.out⟩
  · have HE : Hid (A.act a = A.delete (keyB a.name)) := Lib.hid (by unfold DM.act; simp [hk])
    have hki : (a.kind : Int) % 8 = 3 := by omega
    clear hk
    have HC := Lib.hid (rdelete_any bw A a.name N T wB HOK.out.name hN hL HAB.out)
    go_enter Try.func24, Try.ntmps24
    go_wp2_with fail
    rw [HWB.out, HBN.out]
    refine HC.out.mono ?_
    rintro _ w5 ⟨rfl, hd5, hu5⟩
    have HD5 := Lib.hid hd5
    have HU5 : Hid (Upd (· = bw) w w5) := Lib.hid (HUB.out.trans hu5)
    clear hd5 hu5 HC
    go_wp2
    go_ret
    exact ⟨by rw [HE.out]; rfl, by rw [HE.out]; exact HD5.out, HU5.out⟩
  · have HE : Hid (A.act a = (A.cut a.n, 0)) := Lib.hid (by unfold DM.act; simp [hk])
    have hki : (a.kind : Int) % 8 = 4 := by omega
    clear hk
    have HC := Lib.hid (rcut_any bw A a.n wB hn HAB.out)
    go_enter Try.func24, Try.ntmps24
    go_wp2_with fail
    rw [HWB.out, HBN.out]
    refine HC.out.mono ?_
    rintro _ w5 ⟨rfl, hd5, hu5⟩
    have HD5 := Lib.hid hd5
    have HU5 : Hid (Upd (· = bw) w w5) := Lib.hid (HUB.out.trans hu5)
    clear hd5 hu5 HC
    go_wp2
    go_ret
    exact ⟨by rw [HE.out]; rfl, by rw [HE.out]; exact HD5.out, HU5.out⟩
  · have HE : Hid (A.act a = (A.crash a.keep, 0)) := Lib.hid (by unfold DM.act; simp [hk])
    have hki : (a.kind : Int) % 8 = 5 := by omega
    clear hk
    have HC := Lib.hid (rcrash_any bw A xk ck a.keep wB (by omega) (by omega) HOK.out.keep HBX.out.inn.k HAB.out)
    go_enter Try.func24, Try.ntmps24
    go_wp2_with fail
    rw [HWB.out, HBN.out]
    refine HC.out.mono ?_
    rintro _ w5 ⟨rfl, hd5, hu5⟩
    have HD5 := Lib.hid hd5
    have HU5 : Hid (Upd (· = bw) w w5) := Lib.hid (HUB.out.trans hu5)
    clear hd5 hu5 HC
    go_wp2
    go_ret
    exact ⟨by rw [HE.out]; rfl, by rw [HE.out]; exact HD5.out, HU5.out⟩
  · have HE : Hid (A.act a = (A.put (keyB a.name) a.b, 0)) := Lib.hid (by unfold DM.act; simp [hk])
    have hki : (a.kind : Int) % 8 = 6 := by omega
    clear hk
    have HC := Lib.hid (rput_any bw A a.name _ a.b wB rfl HOK.out.name (by omega) HAB.out)
    have hcv := HCV.out
    go_enter Try.func24, Try.ntmps24
    go_wp2_with fail
    rw [HWB.out, HBN.out]
    refine HC.out.mono ?_
    rintro _ w5 ⟨rfl, hd5, hu5⟩
    have HD5 := Lib.hid hd5
    have HU5 : Hid (Upd (· = bw) w w5) := Lib.hid (HUB.out.trans hu5)
    clear hd5 hu5 HC hcv
    go_wp2
    go_ret
    exact ⟨by rw [HE.out]; rfl, by rw [HE.out]; exact HD5.out, HU5.out⟩
  · have HE : Hid (A.act a = (A, 0)) := Lib.hid (by unfold DM.act; simp [hk])
    have hki : (a.kind : Int) % 8 = 7 := by omega
    clear hk
    go_enter Try.func24, Try.ntmps24
    go_wp2
    go_ret
    exact ⟨by rw [HE.out]; rfl, by rw [HE.out, HWB.out]; exact HAB.out, by rw [HWB.out]; exact HUB.out⟩
end Go.Proofs.Ytjojomjnbiakoaa

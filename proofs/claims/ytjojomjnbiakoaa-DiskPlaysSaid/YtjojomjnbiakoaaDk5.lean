/-
  The disk's operations: delete, rename, append.
-/
import Derived.Test.YtjojomjnbiakoaaDk4
namespace Go.Proofs.Ytjojomjnbiakoaa
open Go.RowKit Go.Maps
set_option linter.unusedVariables false

theorem Upd.undrew {S : Nat → Prop} {w w' : World} (h : Upd S w w') : Upd S w.drew w' := ⟨h.os, h.tape, h.output, h.size, h.block⟩
/-- What an operation's head refuses. -/
theorem refused_end {bd bm : Nat} {A : DM} {w w1 : World} (R : DM × Int) (h : DiskSt w1 bd bm R.1) (hu : Upd (· = bd) w w1) : DiskSt w1 bd bm R.1 ∧ Upd (DS bd bm) w w1 := ⟨h, hu.mono fun k q => Or.inl q⟩
set_option maxRecDepth 100000 in
set_option maxHeartbeats 1600000 in
theorem delete_any (bd bm : Nat) (A : DM) (s : ByteArray) (N T : Nat) (w : World) (hs : s.size ≤ maxLen) (hN : N ≤ 1000000) (hL : A.Lim N T) (h : DiskSt w bd bm A) :
    Calls Try.prog 32 #[.pointer (some ⟨bd, 0, none⟩), .string s] w fun e w' => e = .returned (.int .i64 (A.delete (keyB s)).2) ∧ DiskSt w' bd bm (A.delete (keyB s)).1 ∧ Upd (DS bd bm) w w' := by
  have HR := Lib.hid (ready_any bd bm A s true none 0 [] w hs (by simp) (strs_nil _ _) h)
  have HRD : Hid (readyB A s true [] = A.ready (keyB s) true []) := Lib.hid rfl
  rw [HRD.out] at HR
  have HLR := Lib.hid (hL.ready (keyB s) true [])
  have HOR := Lib.hid (h.ok.ready (keyB s) true [])
  clear h
  by_cases hz : (A.ready (keyB s) true []).2 = 0
  · have HE : Hid (A.delete (keyB s) = (DM.did { (A.ready (keyB s) true []).1 with fs := delF (A.ready (keyB s) true []).1.fs (keyB s) }, 0)) := Lib.hid (by
      unfold DM.delete; simp only; rw [if_neg (by rw [hz]; simp)])
    rw [hz] at HR
    clear hz hL HRD
    generalize (A.ready (keyB s) true []).1 = B at *
    go_enter Try.func32, Try.ntmps32
    go_wp2_with fail
    refine HR.out.mono ?_
    rintro _ w1 ⟨rfl, hd1, hu1⟩
    obtain ⟨⟨c0, c1, c2, c3, c4⟩, _⟩ := hd1.cells
    have HD1 := Lib.hid hd1
    have HU1 := Lib.hid hu1
    clear hd1 hu1 HR
    go_wp2_with (at_delete; refine del_disk _ rfl _ _ rfl (bm := bm) rfl HD1.out.map s rfl hs ?_; intro w2 hm2 hu2)
    have HU2 : Hid (Upd (DS bd bm) w w2) := Lib.hid ((HU1.out.mono (fun k q => Or.inl q)).trans (hu2.mono fun k q => Or.inr q))
    have HD2 : Hid (DiskSt w2 bd bm { B with fs := delF B.fs (keyB s) }) := Lib.hid (HD1.out.remap hm2 rfl (HOR.out.delF _) hu2)
    have HDID := Lib.hid (did_any bd bm _ w2 (by have := HLR.out.done; show B.done ≤ _; omega) HD2.out)
    clear hm2 hu2 c0 c1 c2 c3 c4
    go_wp2_with fail
    refine HDID.out.mono ?_
    rintro _ w3 ⟨rfl, hd3, hu3⟩
    have HD3 := Lib.hid hd3
    have HU3 : Hid (Upd (DS bd bm) w w3) := Lib.hid (HU2.out.trans (hu3.mono fun k q => Or.inl q))
    clear hd3 hu3
    go_wp2
    go_ret
    exact ⟨by rw [HE.out]; rfl, by rw [HE.out]; exact HD3.out, HU3.out⟩
  · have HE : Hid (A.delete (keyB s) = A.ready (keyB s) true []) := Lib.hid (by
      unfold DM.delete; simp only; rw [if_pos (by simpa using hz)])
    have hz1 : ((A.ready (keyB s) true []).2 == 0) = false := by simpa using hz
    clear hz hL HRD HOR HLR
    generalize A.ready (keyB s) true [] = R at *
    go_enter Try.func32, Try.ntmps32
    go_wp2_with fail
    refine HR.out.mono ?_
    rintro _ w1 ⟨rfl, hd1, hu1⟩
    have HD1 := Lib.hid hd1
    have HU1 := Lib.hid hu1
    clear hd1 hu1 HR
    go_wp2
    go_ret
    exact ⟨by rw [HE.out]; rfl, by rw [HE.out]; exact HD1.out, HU1.out.mono fun k q => Or.inl q⟩

set_option maxRecDepth 100000 in
set_option maxHeartbeats 1600000 in
theorem rename_any (bd bm : Nat) (A : DM) (s tt : ByteArray) (N T : Nat) (w : World) (hs : s.size ≤ maxLen) (ht : tt.size ≤ maxLen) (hN : N ≤ 1000000) (hL : A.Lim N T) (h : DiskSt w bd bm A) :
    Calls Try.prog 31 #[.pointer (some ⟨bd, 0, none⟩), .string s, .string tt] w fun e w' => e = .returned (.int .i64 (A.rename (keyB s) (keyB tt)).2) ∧ DiskSt w' bd bm (A.rename (keyB s) (keyB tt)).1 ∧ Upd (DS bd bm) w w' := by
  have HR := Lib.hid (ready_any bd bm A s true (some ⟨w.heap.size, 0, none⟩) 1 [tt] (w.alloc (.cells #[.string tt] 9)) hs (by unfold maxLen; simp) (strs_one (heap_at' rfl) ht) (h.later ((Below.refl _ _).alloc (Nat.le_refl _) _)))
  have HRD : Hid (readyB A s true [tt] = A.ready (keyB s) true [keyB tt]) := Lib.hid rfl
  rw [HRD.out] at HR
  have HLR := Lib.hid (hL.ready (keyB s) true [keyB tt])
  have HOR := Lib.hid (h.ok.ready (keyB s) true [keyB tt])
  clear h
  by_cases hz : (A.ready (keyB s) true [keyB tt]).2 = 0
  · have HE : Hid (A.rename (keyB s) (keyB tt) = (DM.did { (A.ready (keyB s) true [keyB tt]).1 with fs := putF (delF (A.ready (keyB s) true [keyB tt]).1.fs (keyB s)) (keyB tt) ((A.ready (keyB s) true [keyB tt]).1.get (keyB s)) }, 0)) := Lib.hid (by
      unfold DM.rename; simp only; rw [if_neg (by rw [hz]; simp)])
    have HGK : Hid (good (keyB tt) = true) := Lib.hid (by simpa using (ready_good hz).2.1)
    rw [hz] at HR
    clear hz hL HRD
    generalize (A.ready (keyB s) true [keyB tt]).1 = B at *
    go_enter Try.func31, Try.ntmps31
    go_wp2_with fail
    refine HR.out.mono ?_
    rintro _ w1 ⟨rfl, hd1, hu1⟩
    obtain ⟨⟨c0, c1, c2, c3, c4⟩, _⟩ := hd1.cells
    have HD1 := Lib.hid hd1
    have HU1 : Hid (Upd (DS bd bm) w w1) := Lib.hid ((Upd.alloc _ _).trans (hu1.mono fun k q => Or.inl q))
    clear hd1 hu1 HR
    go_wp2_with (first
      | (at_lookup; refine look_disk _ rfl _ _ rfl rfl HD1.out.map s rfl hs ?_; intro f hf; have HF := Lib.hid hf; clear hf; have hlf := local_file HD1.out f.x f.n f.c (f.s : Nat); have HDS := Lib.hid hlf.2.1; have HKP := Lib.hid hlf.2.2; have hcA := HDS.out.cells.1.1; clear hlf)
      | (at_delete; refine del_disk _ rfl _ _ rfl (bm := bm) rfl HDS.out.map s rfl hs ?_; intro w2 hm2 hu2))
    have hk2 := HKP.out w2 hu2.undrew
    have HS0 : Hid (w2.drew.cell? ⟨bd, 0, none⟩ = some (.map (some bm)) ∧ w2.drew.cell? ⟨w1.heap.size, 0, none⟩ = some (.slice f.x f.n f.c) ∧ w2.drew.cell? ⟨w1.heap.size, 1, none⟩ = some (.int .i64 (f.s : Nat))) := Lib.hid hk2
    have HKP := Lib.hid (fun w' (hu : Upd (· = bm) w2.drew w') => HKP.out w' ((hu2.trans ((Upd.drew _).trans hu)).undrew))
    have HDM : Hid (MapSt w2.drew bm (delF B.fs (keyB s))) := Lib.hid (hm2.upd (S := fun _ => False) (Upd.drew _) (fun _ q => q.elim) (fun q => q))
    have HSO : Hid (SortedF (delF B.fs (keyB s))) := Lib.hid (sorted_del _ HOR.out.sorted)
    have HLEN : Hid ((delF B.fs (keyB s)).length < maxLen) := Lib.hid (by have := HLR.out.len; have := List.length_filter_le (fun p : Key × FM => decide (p.1 ≠ keyB s)) B.fs; unfold maxLen; show (B.fs.filter _).length < _; omega)
    have HFA : Hid (FileAt w2.drew ⟨f.x, f.n, f.c, f.s⟩ (B.get (keyB s))) := Lib.hid (by
      have h1 := HF.out.upd (S := fun _ => False) (Upd.alloc w1 (.cells #[.slice f.x f.n f.c, .int .i64 (f.s : Nat)] 63)) (fun _ q => q.elim)
      exact (h1.upd hu2 (fun b e => by subst e; exact HDS.out.map.noU8)).upd (S := fun _ => False) (Upd.drew _) (fun _ q => q.elim))
    have HU2 : Hid (Upd (DS bd bm) w w2) := Lib.hid (HU1.out.trans ((Upd.alloc _ _).trans (hu2.mono fun k q => Or.inr q)))
    have HD2 : Hid (DiskSt w2 bd bm { B with fs := delF B.fs (keyB s) }) := Lib.hid (HDS.out.remap hm2 rfl (HOR.out.delF _) hu2)
    clear hk2 hm2 hu2
    go_frame
    refine wp_region_held_drew (S := (fun w' => w'.cell? ⟨bd, 0, none⟩ = some (.map (some bm)) ∧ w'.cell? ⟨w1.heap.size, 0, none⟩ = some (.slice f.x f.n f.c) ∧ w'.cell? ⟨w1.heap.size, 1, none⟩ = some (.int .i64 (f.s : Nat)))) (by kernel_rfl) ?_ (fun hS0 => ?_)
    · exact HS0.out
    refine wpAnyH_take (i := 0) (oi := { dst := some 28, op := Op.move (Operand.tmp 0), type := 24, pos := "disk.go:119", after := #[], guard := none }) (v := ?_) rfl (by kernel_rfl) (by kernel_rfl) (by kernel_rfl) (fun _ _ _ h => h) (Or.inl ⟨by rfl, ?hy1⟩) (by assumption) ?_
    case hy1 => (intro w hSw; (try dsimp only at hSw); go_simp; try with_reducible rfl)
    (try simp only [Act.put, List.setIfInBounds_toArray, List.set_cons_zero, List.set_cons_succ])
    refine wpAnyH_take (i := 1) (oi := { dst := some 29, op := Op.nilCheck (Operand.tmp 28), type := 0, pos := "disk.go:119", after := #[{ on := 0, ground := Ground.data }], guard := none }) (v := ?_) rfl (by kernel_rfl) (by kernel_rfl) (by kernel_rfl) (fun _ _ _ h => h) (Or.inl ⟨by rfl, ?hy2⟩) (by assumption) ?_
    case hy2 => (intro w hSw; (try dsimp only at hSw); go_simp; try with_reducible rfl)
    (try simp only [Act.put, List.setIfInBounds_toArray, List.set_cons_zero, List.set_cons_succ])
    refine wpAnyH_take (i := 2) (oi := { dst := some 30, op := Op.fieldAddr 60 (Operand.tmp 29) 0, type := 0, pos := "disk.go:119", after := #[{ on := 1, ground := Ground.data }], guard := none }) (v := ?_) rfl (by kernel_rfl) (by kernel_rfl) (by kernel_rfl) (fun _ _ _ h => h) (Or.inl ⟨by rfl, ?hy3⟩) (by assumption) ?_
    case hy3 => (intro w hSw; (try dsimp only at hSw); go_simp; try with_reducible rfl)
    (try simp only [Act.put, List.setIfInBounds_toArray, List.set_cons_zero, List.set_cons_succ])
    refine wpAnyH_take (i := 3) (oi := { dst := some 31, op := Op.load 58 (Operand.tmp 30), type := 58, pos := "disk.go:119", after := #[{ on := 2, ground := Ground.data }], guard := none }) (v := ?_) rfl (by kernel_rfl) (by kernel_rfl) (by kernel_rfl) (fun _ _ _ h => h) (Or.inl ⟨by rfl, ?hy4⟩) (by assumption) ?_
    case hy4 => (intro w hSw; (try dsimp only at hSw); go_simp; try with_reducible rfl)
    (try simp only [Act.put, List.setIfInBounds_toArray, List.set_cons_zero, List.set_cons_succ])
    refine wpAnyH_take (i := 4) (oi := { dst := some 32, op := Op.move (Operand.tmp 2), type := 9, pos := "disk.go:119", after := #[], guard := none }) (v := ?_) rfl (by kernel_rfl) (by kernel_rfl) (by kernel_rfl) (fun _ _ _ h => h) (Or.inl ⟨by rfl, ?hy5⟩) (by assumption) ?_
    case hy5 => (intro w hSw; (try dsimp only at hSw); go_simp; try with_reducible rfl)
    (try simp only [Act.put, List.setIfInBounds_toArray, List.set_cons_zero, List.set_cons_succ])
    refine wpAnyH_take (i := 5) (oi := { dst := some 33, op := Op.load 63 (Operand.tmp 8), type := 63, pos := "disk.go:119", after := #[], guard := none }) (v := ?_) rfl (by kernel_rfl) (by kernel_rfl) (by kernel_rfl) (fun _ _ _ h => h) (Or.inl ⟨by rfl, ?hy6⟩) (by assumption) ?_
    case hy6 => (intro w hSw; (try dsimp only at hSw); go_simp; try with_reducible rfl)
    (try simp only [Act.put, List.setIfInBounds_toArray, List.set_cons_zero, List.set_cons_succ])
    refine wpAnyH_ready (rs := [6]) (by kernel_rfl) (by simp) (AllReadyH.cons (o := { dst := none, op := Op.mapUpdate 58 (Operand.tmp 31) (Operand.tmp 32) (Operand.tmp 33), type := 0, pos := "disk.go:119", after := #[{ on := 3, ground := Ground.data }, { on := 4, ground := Ground.data }, { on := 5, ground := Ground.data }, { on := 0, ground := Ground.phase }, { on := 1, ground := Ground.phase }, { on := 2, ground := Ground.phase }, { on := 3, ground := Ground.phase }, { on := 4, ground := Ground.phase }, { on := 5, ground := Ground.phase }], guard := none }) rfl (fun K hK => ?_) AllReadyH.nil)
    refine step_store_disk _ (by rfl) _ _ _ (by rfl) (bm := bm) (by rfl) HDM.out HSO.out HLEN.out tt (by rfl) ht ⟨f.x, f.n, f.c, f.s⟩ (B.get (keyB s)) (by rfl) HFA.out ?_
    intro w3 hm3 hu3
    (try dsimp only)
    refine Shut.out hK _ _ ?_ (fun hS6 => ?_)
    · exact HKP.out w3 hu3
    clear hK K
    (try simp only [Act.put])
    refine wpAnyH_done (by kernel_rfl) ?_ _
    have HU3 : Hid (Upd (DS bd bm) w w3) := Lib.hid (HU2.out.trans ((Upd.drew _).trans (hu3.mono fun k q => Or.inr q)))
    have HD3 : Hid (DiskSt w3 bd bm { B with fs := putF (delF B.fs (keyB s)) (keyB tt) (B.get (keyB s)) }) := Lib.hid (HD2.out.remap hm3 rfl ((HOR.out.delF (keyB s)).putF HGK.out (HOR.out.get _)) ((Upd.drew _).trans hu3))
    have HDID := Lib.hid (did_any bd bm _ w3 (by have := HLR.out.done; show B.done ≤ _; omega) HD3.out)
    clear hm3 hu3 hS0 hS6 c0 c1 c2 c3 c4 hcA
    go_wp2_with fail
    refine HDID.out.mono ?_
    rintro _ w4 ⟨rfl, hd4, hu4⟩
    have HD4 := Lib.hid hd4
    have HU4 : Hid (Upd (DS bd bm) w w4) := Lib.hid (HU3.out.trans (hu4.mono fun k q => Or.inl q))
    clear hd4 hu4
    go_wp2
    go_ret
    exact ⟨by rw [HE.out]; rfl, by rw [HE.out]; exact HD4.out, HU4.out⟩
  · have HE : Hid (A.rename (keyB s) (keyB tt) = A.ready (keyB s) true [keyB tt]) := Lib.hid (by
      unfold DM.rename; simp only; rw [if_pos (by simpa using hz)])
    have hz1 : ((A.ready (keyB s) true [keyB tt]).2 == 0) = false := by simpa using hz
    clear hz hL HRD HOR HLR
    generalize A.ready (keyB s) true [keyB tt] = R at *
    go_enter Try.func31, Try.ntmps31
    go_wp2_with fail
    refine HR.out.mono ?_
    rintro _ w1 ⟨rfl, hd1, hu1⟩
    have HD1 := Lib.hid hd1
    have HU1 := Lib.hid hu1
    clear hd1 hu1 HR
    go_wp2
    go_ret
    exact ⟨by rw [HE.out]; rfl, by rw [HE.out]; exact HD1.out, (Upd.alloc _ _).trans (HU1.out.mono fun k q => Or.inl q)⟩
end Go.Proofs.Ytjojomjnbiakoaa

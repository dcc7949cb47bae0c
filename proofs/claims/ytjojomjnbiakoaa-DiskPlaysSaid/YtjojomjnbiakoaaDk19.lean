/-
  DiskNil: a nil disk has nothing.
-/
import Derived.Test.YtjojomjnbiakoaaDk18
namespace Go.Proofs.Ytjojomjnbiakoaa
open Go.RowKit Go.Maps Go.ChangeShapes
set_option linter.unusedVariables false
section nils
set_option maxRecDepth 100000
set_option maxHeartbeats 800000
theorem ready_nil (s : ByteArray) (t : Bool) (v : Value) (w : World) : Calls Try.prog 33 #[.pointer none, .string s, .bool t, v] w fun e w' => e = .returned (.int .i64 2) ∧ w' = w := by
  go_enter Try.func33, Try.ntmps33
  go_wp2
  go_ret
  exact ⟨rfl, rfl⟩
theorem append_nil (s : ByteArray) (v : Value) (w : World) : Calls Try.prog 14 #[.pointer none, .string s, v] w fun e w' => e = .returned (.int .i64 2) ∧ w' = w := by
  go_enter Try.func14, Try.ntmps14
  go_wp2_with fail
  refine (ready_nil s _ _ w).mono ?_
  rintro _ _ ⟨rfl, rfl⟩
  go_wp2
  go_ret
  exact ⟨rfl, rfl⟩
theorem sync_nil (s : ByteArray) (w : World) : Calls Try.prog 28 #[.pointer none, .string s] w fun e w' => e = .returned (.int .i64 2) ∧ w' = w := by
  go_enter Try.func28, Try.ntmps28
  go_wp2_with fail
  refine (ready_nil s _ _ w).mono ?_
  rintro _ _ ⟨rfl, rfl⟩
  go_wp2
  go_ret
  exact ⟨rfl, rfl⟩
theorem delete_nil (s : ByteArray) (w : World) : Calls Try.prog 32 #[.pointer none, .string s] w fun e w' => e = .returned (.int .i64 2) ∧ w' = w := by
  go_enter Try.func32, Try.ntmps32
  go_wp2_with fail
  refine (ready_nil s _ _ w).mono ?_
  rintro _ _ ⟨rfl, rfl⟩
  go_wp2
  go_ret
  exact ⟨rfl, rfl⟩
theorem rename_nil (s t : ByteArray) (w : World) : Calls Try.prog 31 #[.pointer none, .string s, .string t] w fun e w' => e = .returned (.int .i64 2) ∧ Below w.heap.size w w' := by
  have HB : Hid (Below w.heap.size w (w.alloc (.cells #[.string t] 9))) := Lib.hid ((Below.refl _ _).alloc (Nat.le_refl _) _)
  go_enter Try.func31, Try.ntmps31
  go_wp2_with fail
  refine (ready_nil s _ _ _).mono ?_
  rintro _ _ ⟨rfl, rfl⟩
  go_wp2
  go_ret
  exact ⟨rfl, HB.out⟩
theorem read_nil (s : ByteArray) (w : World) : Calls Try.prog 11 #[.pointer none, .string s] w fun e w' => e = .returned (.tuple #[.slice none 0 0, .int .i64 2]) ∧ w' = w := by
  go_enter Try.func11, Try.ntmps11
  go_wp2
  go_ret2
  exact ⟨rfl, rfl⟩
theorem cut_nil (n : Int) (w : World) : Calls Try.prog 15 #[.pointer none, .int .i64 n] w fun e w' => e = .returned (.tuple #[]) ∧ w' = w := by
  go_enter Try.func15, Try.ntmps15
  go_wp2
  go_end0
  exact ⟨rfl, rfl⟩
theorem crash_nil0 (v : Value) (w : World) : Calls Try.prog 19 #[.pointer none, v] w fun e w' => e = .returned (.tuple #[]) ∧ w' = w := by
  go_enter Try.func19, Try.ntmps19
  go_wp2
  (try simp only [Exit.inBlock, Exit.then])
  refine bodyPost_ret (results_none rfl _ _ _) rfl ?_
  exact ⟨rfl, rfl⟩
theorem put_nil (s : ByteArray) (v : Value) (w : World) : Calls Try.prog 23 #[.pointer none, .string s, v] w fun e w' => e = .returned (.tuple #[]) ∧ w' = w := by
  go_enter Try.func23, Try.ntmps23
  go_wp2
  go_end0
  exact ⟨rfl, rfl⟩
theorem names_nil (w : World) : Calls Try.prog 27 #[.pointer none] w fun e w' => e = .returned (.slice none 0 0) ∧ w' = w := by
  go_enter Try.func27, Try.ntmps27
  go_wp2
  go_ret
  exact ⟨rfl, rfl⟩
theorem size_nil (w : World) : Calls Try.prog 21 #[.pointer none] w fun e w' => e = .returned (.int .i64 0) ∧ w' = w := by
  go_enter Try.func21, Try.ntmps21
  go_wp2
  go_ret
  exact ⟨rfl, rfl⟩
theorem safe_nil (s : ByteArray) (w : World) : Calls Try.prog 12 #[.pointer none, .string s] w fun e w' => e = .returned (.int .i64 0) ∧ w' = w := by
  go_enter Try.func12, Try.ntmps12
  go_wp2
  go_ret
  exact ⟨rfl, rfl⟩
theorem dead_nil (w : World) : Calls Try.prog 17 #[.pointer none] w fun e w' => e = .returned (.bool false) ∧ w' = w := by
  go_enter Try.func17, Try.ntmps17
  go_wp2
  go_ret
  exact ⟨rfl, rfl⟩
theorem done_nil (w : World) : Calls Try.prog 16 #[.pointer none] w fun e w' => e = .returned (.int .i64 0) ∧ w' = w := by
  go_enter Try.func16, Try.ntmps16
  go_wp2
  go_ret
  exact ⟨rfl, rfl⟩
theorem copy_nil (w : World) : Calls Try.prog 18 #[.pointer none] w fun e w' => e = .returned (.pointer none) ∧ w' = w := by
  go_enter Try.func18, Try.ntmps18
  go_wp2
  go_ret
  exact ⟨rfl, rfl⟩
end nils
def nilErr (a : ActM) : Int := if a.kind % 8 < 4 then 2 else 0
set_option maxRecDepth 100000 in
set_option maxHeartbeats 3200000 in
theorem does_nil (xb : Option Addr) (cb : Nat) (xk : Option Addr) (ck : Nat) (a : ActM) (w : World) (hlen : a.b.length ≤ 140737488355328) (hi : ActIn w xb cb xk ck a) (hk : a.keep ≠ [] → ∀ y, xk = some y → y.block < w.heap.size) :
    Calls Try.prog 13 #[.pointer none, .agg #[.int .u8 (a.kind : Nat), .string a.name, .string a.dst, .slice xb a.b.length cb, .int .i64 a.n, .slice xk a.keep.length ck]] w fun e w' => e = .returned (.int .i64 (nilErr a)) ∧ Below w.heap.size w w' := by
  have hbx := Boxed.start hi (Below.refl w.heap.size w) hk
  unfold actCells at hbx
  have HBW : Hid (Below w.heap.size w (w.alloc (.cells #[.int .u8 (a.kind : Nat), .string a.name, .string a.dst, .slice xb a.b.length cb, .int .i64 a.n, .slice xk a.keep.length ck] 30))) := Lib.hid ((Below.refl _ _).alloc (Nat.le_refl _) _)
  obtain ⟨wB, hwB⟩ : ∃ wB, w.alloc (.cells #[.int .u8 (a.kind : Nat), .string a.name, .string a.dst, .slice xb a.b.length cb, .int .i64 a.n, .slice xk a.keep.length ck] 30) = wB := ⟨_, rfl⟩
  have HWB := Lib.hid hwB
  rw [hwB] at hbx HBW
  have HBX := Lib.hid hbx
  have HLEN := Lib.hid hlen
  clear hi hk hbx hwB
  have hk8 : a.kind % 8 = 0 ∨ a.kind % 8 = 1 ∨ a.kind % 8 = 2 ∨ a.kind % 8 = 3 ∨ a.kind % 8 = 4 ∨ a.kind % 8 = 5 ∨ a.kind % 8 = 6 ∨ a.kind % 8 = 7 := by omega
  rcases hk8 with hk | hk | hk | hk | hk | hk | hk | hk
  · have HE : Hid (nilErr a = 2) := Lib.hid (by unfold nilErr; simp [hk])
    have hki : (a.kind : Int) % 8 = 0 := by omega
    clear hk
    go_enter Try.func13, Try.ntmps13
    have HOWN : Hid ((wB.drew.alloc (.cells #[] 5)).ownsRow wB.heap.size 5 1 (.slice (some ⟨wB.heap.size, 0, none⟩) 0 0) 0 []) := Lib.hid (World.ownsRow_lit (base := wB.heap.size) (e := 5) (size := 1) wB.drew #[] 0 (Nat.le_refl _) (by unfold maxLen; omega) rfl)
    have HBA : Hid (Below wB.heap.size wB (wB.drew.alloc (.cells #[] 5))) := Lib.hid ((Below.refl _ _).drew.alloc (Nat.le_refl _) _)
    go_wp2_with fail
    rw [HWB.out]
    obtain ⟨Bx, HX⟩ : ∃ Bx, Hid (w.heap.size = Bx) := ⟨_, Lib.hid rfl⟩
    rw [HX.out] at HBX
    rw [HX.out]
    have hcs := HBX.out.cells
    refine wp_region_held_drew (S := (fun w' => w'.cell? ⟨Bx, 1, none⟩ = some (.string a.name) ∧ w'.cell? ⟨Bx, 3, none⟩ = some (.slice xb a.b.length cb))) (by kernel_rfl) ?_ (fun hS0 => ?_)
    · exact ⟨hcs.2.1, hcs.2.2.2.1⟩
    refine wpAnyH_take (i := 0) (oi := { dst := some 10, op := Op.move (Operand.tmp 0), type := 24, pos := "law.go:49", after := #[], guard := none }) (v := ?_) rfl (by kernel_rfl) (by kernel_rfl) (by kernel_rfl) (fun _ _ _ h => h) (Or.inl ⟨by rfl, ?hy1⟩) (by assumption) ?_
    case hy1 => (intro w hSw; (try dsimp only at hSw); go_simp; try with_reducible rfl)
    (try simp only [Act.put, List.setIfInBounds_toArray, List.set_cons_zero, List.set_cons_succ])
    refine wpAnyH_take (i := 1) (oi := { dst := some 11, op := Op.fieldAddr 30 (Operand.tmp 3) 1, type := 0, pos := "law.go:49", after := #[], guard := none }) (v := ?_) rfl (by kernel_rfl) (by kernel_rfl) (by kernel_rfl) (fun _ _ _ h => h) (Or.inl ⟨by rfl, ?hy2⟩) (by assumption) ?_
    case hy2 => (intro w hSw; (try dsimp only at hSw); go_simp; try with_reducible rfl)
    (try simp only [Act.put, List.setIfInBounds_toArray, List.set_cons_zero, List.set_cons_succ])
    refine wpAnyH_take (i := 2) (oi := { dst := some 12, op := Op.load 9 (Operand.tmp 11), type := 9, pos := "law.go:49", after := #[{ on := 1, ground := Ground.data }], guard := none }) (v := ?_) rfl (by kernel_rfl) (by kernel_rfl) (by kernel_rfl) (fun _ _ _ h => h) (Or.inl ⟨by rfl, ?hy3⟩) (by assumption) ?_
    case hy3 => (intro w hSw; (try dsimp only at hSw); go_simp; try with_reducible rfl)
    (try simp only [Act.put, List.setIfInBounds_toArray, List.set_cons_zero, List.set_cons_succ])
    refine wpAnyH_take (i := 4) (oi := { dst := some 14, op := Op.fieldAddr 30 (Operand.tmp 3) 3, type := 0, pos := "law.go:49", after := #[], guard := none }) (v := ?_) rfl (by kernel_rfl) (by kernel_rfl) (by kernel_rfl) (fun _ _ _ h => h) (Or.inl ⟨by rfl, ?hy4⟩) (by assumption) ?_
    case hy4 => (intro w hSw; (try dsimp only at hSw); go_simp; try with_reducible rfl)
    (try simp only [Act.put, List.setIfInBounds_toArray, List.set_cons_zero, List.set_cons_succ])
    refine wpAnyH_take (i := 5) (oi := { dst := some 15, op := Op.load 27 (Operand.tmp 14), type := 27, pos := "law.go:49", after := #[{ on := 4, ground := Ground.data }], guard := none }) (v := ?_) rfl (by kernel_rfl) (by kernel_rfl) (by kernel_rfl) (fun _ _ _ h => h) (Or.inl ⟨by rfl, ?hy5⟩) (by assumption) ?_
    case hy5 => (intro w hSw; (try dsimp only at hSw); go_simp; try with_reducible rfl)
    (try simp only [Act.put, List.setIfInBounds_toArray, List.set_cons_zero, List.set_cons_succ])
    refine wpAnyH_ready (rs := [3]) (by kernel_rfl) (by simp) (AllReadyH.cons (o := { dst := some 13, op := Op.buildSlice 27 0 #[], type := 27, pos := "law.go:49", after := #[], guard := none }) rfl (fun K hK => ?_) AllReadyH.nil)
    go_simp
    (try dsimp only)
    refine Shut.out hK _ _ ?_ (fun hS3 => ?_)
    · exact ⟨(HBX.out.later HBA.out).cells.2.1, (HBX.out.later HBA.out).cells.2.2.2.1⟩
    clear hK K
    (try simp only [Act.put, List.setIfInBounds_toArray, List.set_cons_zero, List.set_cons_succ])
    refine wpAnyH_ready (rs := [6]) (by kernel_rfl) (by simp) (AllReadyH.cons (o := { dst := some 16, op := Op.call { callee := Callee.builtin Builtin.append, args := #[Operand.tmp 13, Operand.tmp 15], argTypes := #[27, 27] }, type := 27, pos := "law.go:49", after := #[{ on := 3, ground := Ground.data }, { on := 5, ground := Ground.data }], guard := none }) rfl (fun K hK => ?_) AllReadyH.nil)
    refine step_app_own8 _ (by rfl) _ _ (by rfl) (B := wB.heap.size) (by rfl) HOWN.out rfl (HBX.out.later HBA.out).inn.b (by rfl) HLEN.out (by simp) ?_
    intro v4 w4 how4 hb4
    obtain ⟨z, cz, rfl, hz1, hz2, hz3, hz4⟩ := own8_read how4
    (try dsimp only)
    refine Shut.out hK _ _ ?_ (fun hS6 => ?_)
    · exact ⟨(HBX.out.later (HBA.out.trans hb4)).cells.2.1, (HBX.out.later (HBA.out.trans hb4)).cells.2.2.2.1⟩
    clear hK K
    (try simp only [Act.put, List.setIfInBounds_toArray, List.set_cons_zero, List.set_cons_succ])
    refine wpAnyH_ready (rs := [7]) (by kernel_rfl) (by simp) (AllReadyH.cons (o := { dst := some 17, op := Op.call { callee := Callee.value (Operand.func 14), args := #[Operand.tmp 10, Operand.tmp 12, Operand.tmp 16], argTypes := #[24, 9, 27] }, type := 31, pos := "law.go:49", after := #[{ on := 0, ground := Ground.data }, { on := 2, ground := Ground.data }, { on := 6, ground := Ground.data }, { on := 6, ground := Ground.chain }], guard := none }) rfl (fun K hK => ?_) AllReadyH.nil)
    go_simp
    refine (append_nil a.name _ _).mono ?_
    rintro _ w4 ⟨rfl, rfl⟩
    (try dsimp only)
    refine Shut.out hK _ _ ?_ (fun hS7 => ?_)
    · exact hS6
    clear hK K
    (try simp only [Act.put, List.setIfInBounds_toArray, List.set_cons_zero, List.set_cons_succ])
    refine wpAnyH_take (i := 8) (oi := { dst := some 4, op := Op.assign (Operand.tmp 17), type := 31, pos := "law.go:49", after := #[{ on := 7, ground := Ground.data }, { on := 7, ground := Ground.chain }, { on := 0, ground := Ground.phase }, { on := 1, ground := Ground.phase }, { on := 2, ground := Ground.phase }, { on := 3, ground := Ground.phase }, { on := 4, ground := Ground.phase }, { on := 5, ground := Ground.phase }, { on := 6, ground := Ground.phase }, { on := 7, ground := Ground.phase }], guard := none }) (v := ?_) rfl (by kernel_rfl) (by kernel_rfl) (by kernel_rfl) (fun _ _ _ h => h) (Or.inl ⟨by rfl, ?hy6⟩) (by assumption) ?_
    case hy6 => (intro w hSw; (try dsimp only at hSw); go_simp; try with_reducible rfl)
    (try simp only [Act.put, List.setIfInBounds_toArray, List.set_cons_zero, List.set_cons_succ])
    refine wpAnyH_done (by kernel_rfl) ?_ _
    have HU5 : Hid (Below w.heap.size w w4) := Lib.hid (HBW.out.trans ((HBA.out.trans hb4).mono HBW.out.size))
    clear hb4 hS0 hS3 hS6 hS7 hcs how4 hz2 hz3 hz4
    go_wp2
    go_ret
    exact ⟨by rw [HE.out]; rfl, HU5.out⟩
  · have HE : Hid (nilErr a = 2) := Lib.hid (by unfold nilErr; simp [hk])
    have hki : (a.kind : Int) % 8 = 1 := by omega
    clear hk
    go_enter Try.func13, Try.ntmps13
    go_wp2_with fail
    rw [HWB.out]
    refine (sync_nil _ _).mono ?_
    rintro _ _ ⟨rfl, rfl⟩
    go_wp2
    go_ret
    exact ⟨by rw [HE.out]; rfl, HBW.out⟩
  · have HE : Hid (nilErr a = 2) := Lib.hid (by unfold nilErr; simp [hk])
    have hki : (a.kind : Int) % 8 = 2 := by omega
    clear hk
    go_enter Try.func13, Try.ntmps13
    go_wp2_with fail
    rw [HWB.out]
    refine (rename_nil _ _ _).mono ?_
    rintro _ w5 ⟨rfl, hb5⟩
    have HU5 : Hid (Below w.heap.size w w5) := Lib.hid (HBW.out.trans (hb5.mono HBW.out.size))
    clear hb5
    go_wp2
    go_ret
    exact ⟨by rw [HE.out]; rfl, HU5.out⟩
  · have HE : Hid (nilErr a = 2) := Lib.hid (by unfold nilErr; simp [hk])
    have hki : (a.kind : Int) % 8 = 3 := by omega
    clear hk
    go_enter Try.func13, Try.ntmps13
    go_wp2_with fail
    rw [HWB.out]
    refine (delete_nil _ _).mono ?_
    rintro _ _ ⟨rfl, rfl⟩
    go_wp2
    go_ret
    exact ⟨by rw [HE.out]; rfl, HBW.out⟩
  · have HE : Hid (nilErr a = 0) := Lib.hid (by unfold nilErr; simp [hk])
    have hki : (a.kind : Int) % 8 = 4 := by omega
    clear hk
    go_enter Try.func13, Try.ntmps13
    go_wp2_with fail
    rw [HWB.out]
    refine (cut_nil _ _).mono ?_
    rintro _ _ ⟨rfl, rfl⟩
    go_wp2
    go_ret
    exact ⟨by rw [HE.out]; rfl, HBW.out⟩
  · have HE : Hid (nilErr a = 0) := Lib.hid (by unfold nilErr; simp [hk])
    have hki : (a.kind : Int) % 8 = 5 := by omega
    clear hk
    go_enter Try.func13, Try.ntmps13
    go_wp2_with fail
    rw [HWB.out]
    refine (crash_nil0 _ _).mono ?_
    rintro _ _ ⟨rfl, rfl⟩
    go_wp2
    go_ret
    exact ⟨by rw [HE.out]; rfl, HBW.out⟩
  · have HE : Hid (nilErr a = 0) := Lib.hid (by unfold nilErr; simp [hk])
    have hki : (a.kind : Int) % 8 = 6 := by omega
    clear hk
    go_enter Try.func13, Try.ntmps13
    have HOWN : Hid ((wB.drew.alloc (.cells #[] 5)).ownsRow wB.heap.size 5 1 (.slice (some ⟨wB.heap.size, 0, none⟩) 0 0) 0 []) := Lib.hid (World.ownsRow_lit (base := wB.heap.size) (e := 5) (size := 1) wB.drew #[] 0 (Nat.le_refl _) (by unfold maxLen; omega) rfl)
    have HBA : Hid (Below wB.heap.size wB (wB.drew.alloc (.cells #[] 5))) := Lib.hid ((Below.refl _ _).drew.alloc (Nat.le_refl _) _)
    go_wp2_with fail
    rw [HWB.out]
    obtain ⟨Bx, HX⟩ : ∃ Bx, Hid (w.heap.size = Bx) := ⟨_, Lib.hid rfl⟩
    rw [HX.out] at HBX
    rw [HX.out]
    have hcs := HBX.out.cells
    refine wp_region_held_drew (S := (fun w' => w'.cell? ⟨Bx, 1, none⟩ = some (.string a.name) ∧ w'.cell? ⟨Bx, 3, none⟩ = some (.slice xb a.b.length cb))) (by kernel_rfl) ?_ (fun hS0 => ?_)
    · exact ⟨hcs.2.1, hcs.2.2.2.1⟩
    refine wpAnyH_take (i := 0) (oi := { dst := some 52, op := Op.move (Operand.tmp 0), type := 24, pos := "law.go:61", after := #[], guard := none }) (v := ?_) rfl (by kernel_rfl) (by kernel_rfl) (by kernel_rfl) (fun _ _ _ h => h) (Or.inl ⟨by rfl, ?hy1⟩) (by assumption) ?_
    case hy1 => (intro w hSw; (try dsimp only at hSw); go_simp; try with_reducible rfl)
    (try simp only [Act.put, List.setIfInBounds_toArray, List.set_cons_zero, List.set_cons_succ])
    refine wpAnyH_take (i := 1) (oi := { dst := some 53, op := Op.fieldAddr 30 (Operand.tmp 3) 1, type := 0, pos := "law.go:61", after := #[], guard := none }) (v := ?_) rfl (by kernel_rfl) (by kernel_rfl) (by kernel_rfl) (fun _ _ _ h => h) (Or.inl ⟨by rfl, ?hy2⟩) (by assumption) ?_
    case hy2 => (intro w hSw; (try dsimp only at hSw); go_simp; try with_reducible rfl)
    (try simp only [Act.put, List.setIfInBounds_toArray, List.set_cons_zero, List.set_cons_succ])
    refine wpAnyH_take (i := 2) (oi := { dst := some 54, op := Op.load 9 (Operand.tmp 53), type := 9, pos := "law.go:61", after := #[{ on := 1, ground := Ground.data }], guard := none }) (v := ?_) rfl (by kernel_rfl) (by kernel_rfl) (by kernel_rfl) (fun _ _ _ h => h) (Or.inl ⟨by rfl, ?hy3⟩) (by assumption) ?_
    case hy3 => (intro w hSw; (try dsimp only at hSw); go_simp; try with_reducible rfl)
    (try simp only [Act.put, List.setIfInBounds_toArray, List.set_cons_zero, List.set_cons_succ])
    refine wpAnyH_take (i := 4) (oi := { dst := some 56, op := Op.fieldAddr 30 (Operand.tmp 3) 3, type := 0, pos := "law.go:61", after := #[], guard := none }) (v := ?_) rfl (by kernel_rfl) (by kernel_rfl) (by kernel_rfl) (fun _ _ _ h => h) (Or.inl ⟨by rfl, ?hy4⟩) (by assumption) ?_
    case hy4 => (intro w hSw; (try dsimp only at hSw); go_simp; try with_reducible rfl)
    (try simp only [Act.put, List.setIfInBounds_toArray, List.set_cons_zero, List.set_cons_succ])
    refine wpAnyH_take (i := 5) (oi := { dst := some 57, op := Op.load 27 (Operand.tmp 56), type := 27, pos := "law.go:61", after := #[{ on := 4, ground := Ground.data }], guard := none }) (v := ?_) rfl (by kernel_rfl) (by kernel_rfl) (by kernel_rfl) (fun _ _ _ h => h) (Or.inl ⟨by rfl, ?hy5⟩) (by assumption) ?_
    case hy5 => (intro w hSw; (try dsimp only at hSw); go_simp; try with_reducible rfl)
    (try simp only [Act.put, List.setIfInBounds_toArray, List.set_cons_zero, List.set_cons_succ])
    refine wpAnyH_ready (rs := [3]) (by kernel_rfl) (by simp) (AllReadyH.cons (o := { dst := some 55, op := Op.buildSlice 27 0 #[], type := 27, pos := "law.go:61", after := #[], guard := none }) rfl (fun K hK => ?_) AllReadyH.nil)
    go_simp
    (try dsimp only)
    refine Shut.out hK _ _ ?_ (fun hS3 => ?_)
    · exact ⟨(HBX.out.later HBA.out).cells.2.1, (HBX.out.later HBA.out).cells.2.2.2.1⟩
    clear hK K
    (try simp only [Act.put, List.setIfInBounds_toArray, List.set_cons_zero, List.set_cons_succ])
    refine wpAnyH_ready (rs := [6]) (by kernel_rfl) (by simp) (AllReadyH.cons (o := { dst := some 58, op := Op.call { callee := Callee.builtin Builtin.append, args := #[Operand.tmp 55, Operand.tmp 57], argTypes := #[27, 27] }, type := 27, pos := "law.go:61", after := #[{ on := 3, ground := Ground.data }, { on := 5, ground := Ground.data }], guard := none }) rfl (fun K hK => ?_) AllReadyH.nil)
    refine step_app_own8 _ (by rfl) _ _ (by rfl) (B := wB.heap.size) (by rfl) HOWN.out rfl (HBX.out.later HBA.out).inn.b (by rfl) HLEN.out (by simp) ?_
    intro v4 w4 how4 hb4
    obtain ⟨z, cz, rfl, hz1, hz2, hz3, hz4⟩ := own8_read how4
    (try dsimp only)
    refine Shut.out hK _ _ ?_ (fun hS6 => ?_)
    · exact ⟨(HBX.out.later (HBA.out.trans hb4)).cells.2.1, (HBX.out.later (HBA.out.trans hb4)).cells.2.2.2.1⟩
    clear hK K
    (try simp only [Act.put, List.setIfInBounds_toArray, List.set_cons_zero, List.set_cons_succ])
    refine wpAnyH_ready (rs := [7]) (by kernel_rfl) (by simp) (AllReadyH.cons (o := { dst := some 59, op := Op.call { callee := Callee.value (Operand.func 23), args := #[Operand.tmp 52, Operand.tmp 54, Operand.tmp 58], argTypes := #[24, 9, 27] }, type := 0, pos := "law.go:61", after := #[{ on := 0, ground := Ground.data }, { on := 2, ground := Ground.data }, { on := 6, ground := Ground.data }, { on := 6, ground := Ground.chain }], guard := none }) rfl (fun K hK => ?_) AllReadyH.nil)
    go_simp
    refine (put_nil a.name _ _).mono ?_
    rintro _ w4 ⟨rfl, rfl⟩
    (try dsimp only)
    refine Shut.out hK _ _ ?_ (fun hS7 => ?_)
    · exact hS6
    clear hK K
    (try simp only [Act.put, List.setIfInBounds_toArray, List.set_cons_zero, List.set_cons_succ])
    refine wpAnyH_done (by kernel_rfl) ?_ _
    have HU5 : Hid (Below w.heap.size w w4) := Lib.hid (HBW.out.trans ((HBA.out.trans hb4).mono HBW.out.size))
    clear hb4 hS0 hS3 hS6 hS7 hcs how4 hz2 hz3 hz4
    go_wp2
    go_ret
    exact ⟨by rw [HE.out]; rfl, HU5.out⟩
  · have HE : Hid (nilErr a = 0) := Lib.hid (by unfold nilErr; simp [hk])
    have hki : (a.kind : Int) % 8 = 7 := by omega
    clear hk
    go_enter Try.func13, Try.ntmps13
    go_wp2
    go_ret
    exact ⟨by rw [HE.out]; rfl, by rw [HWB.out]; exact HBW.out⟩

set_option maxRecDepth 100000 in
set_option maxHeartbeats 3200000 in
theorem law_nil (xb : Option Addr) (cb : Nat) (xk : Option Addr) (ck : Nat) (a : ActM) (w : World) (hlen : a.b.length ≤ 140737488355328) (hi : ActIn w xb cb xk ck a) :
    Calls Try.prog 7 #[.agg #[.int .u8 (a.kind : Nat), .string a.name, .string a.dst, .slice xb a.b.length cb, .int .i64 a.n, .slice xk a.keep.length ck]] w fun e w' => e = .returned (.bool true) ∧ Below w.heap.size w w' := by
  have hko : a.keep ≠ [] → ∀ y, xk = some y → y.block < w.heap.size := fun e => hi.k.lt e
  have hbx := Boxed.start hi (Below.refl w.heap.size w) hko
  unfold actCells at hbx
  have HBW : Hid (Below w.heap.size w (w.alloc (.cells #[.int .u8 (a.kind : Nat), .string a.name, .string a.dst, .slice xb a.b.length cb, .int .i64 a.n, .slice xk a.keep.length ck] 30))) := Lib.hid ((Below.refl _ _).alloc (Nat.le_refl _) _)
  have HDN := Lib.hid (does_nil xb cb xk ck a (w.alloc (.cells #[.int .u8 (a.kind : Nat), .string a.name, .string a.dst, .slice xb a.b.length cb, .int .i64 a.n, .slice xk a.keep.length ck] 30)) hlen hbx.inn (fun e => hbx.inn.k.lt e))
  obtain ⟨wB, hwB⟩ : ∃ wB, w.alloc (.cells #[.int .u8 (a.kind : Nat), .string a.name, .string a.dst, .slice xb a.b.length cb, .int .i64 a.n, .slice xk a.keep.length ck] 30) = wB := ⟨_, rfl⟩
  have HWB := Lib.hid hwB
  rw [hwB] at hbx HBW HDN
  obtain ⟨Bx, HX⟩ : ∃ Bx, Hid (w.heap.size = Bx) := ⟨_, Lib.hid rfl⟩
  rw [HX.out] at hbx
  have HBX := Lib.hid hbx
  have HNE : Hid ((nilErr a = 2 ∧ a.kind % 8 < 4) ∨ (nilErr a = 0 ∧ ¬ a.kind % 8 < 4)) := Lib.hid (by unfold nilErr; split <;> simp_all)
  clear hi hbx hwB hko hlen
  obtain ⟨ne, hne⟩ : ∃ ne, nilErr a = ne := ⟨_, rfl⟩
  rw [hne] at HNE HDN
  clear hne
  obtain ⟨r8, hr8, hr8t, hr8w, HR8, hr8l⟩ : ∃ r : Nat, (a.kind : Int) % 8 = (r : Int) ∧ (a.kind : Int).tmod 8 = (r : Int) ∧ IntKind.u8.wrap (r : Int) = (r : Int) ∧ Hid (a.kind % 8 = r) ∧ r < 8 :=
    ⟨a.kind % 8, by omega, by rw [Int.tmod_eq_emod_of_nonneg (by omega)]; omega, by rw [IntKind.wrap_u8]; omega, Lib.hid rfl, by omega⟩
  rw [HR8.out] at HNE
  go_enter Try.func7, Try.ntmps7
  go_wp2_with fail
  rw [HWB.out, HX.out]
  refine HDN.out.mono ?_
  rintro _ w1 ⟨rfl, hb1⟩
  have HB1 := Lib.hid (HBW.out.trans (hb1.mono HBW.out.size))
  have HC1 := Lib.hid (HBX.out.later hb1)
  obtain ⟨c0, c1, c2, c3, c4, c5⟩ := HC1.out.cells
  clear hb1 HBX HDN
  go_wp2_with fail
  refine (read_nil _ _).mono ?_
  rintro _ _ ⟨rfl, rfl⟩
  go_wp2_with fail
  refine (crash_nil0 _ _).mono ?_
  rintro _ _ ⟨rfl, rfl⟩
  go_wp2_with fail
  refine (cut_nil _ _).mono ?_
  rintro _ _ ⟨rfl, rfl⟩
  go_wp2_with fail
  refine (put_nil _ _ _).mono ?_
  rintro _ _ ⟨rfl, rfl⟩
  go_wp2_with fail
  refine (shown_any _).mono ?_
  rintro _ w2 ⟨rfl, hb2⟩
  have HB2 := Lib.hid (HB1.out.trans (hb2.mono HB1.out.size))
  have HC2 := Lib.hid (HC1.out.later hb2)
  clear hb2 c0 c1 c2 c3 c4 c5 HC1
  obtain ⟨c0, c1, c2, c3, c4, c5⟩ := HC2.out.cells
  rcases HNE.out with ⟨rfl, h4⟩ | ⟨rfl, h4⟩
  all_goals
    first
      | have d4 : decide ((r8 : Int) < 4) = true := by simp; omega
      | have d4 : decide ((r8 : Int) < 4) = false := by simp; omega
    clear h4
    go_wp2_with fail
    refine (names_nil _).mono ?_
    rintro _ _ ⟨rfl, rfl⟩
    go_wp2_with fail
    refine (size_nil _).mono ?_
    rintro _ _ ⟨rfl, rfl⟩
    go_wp2_with fail
    refine (safe_nil _ _).mono ?_
    rintro _ _ ⟨rfl, rfl⟩
    go_wp2_with fail
    refine (dead_nil _).mono ?_
    rintro _ _ ⟨rfl, rfl⟩
    go_wp2_with fail
    refine (done_nil _).mono ?_
    rintro _ _ ⟨rfl, rfl⟩
    go_wp2_with fail
    refine (copy_nil _).mono ?_
    rintro _ _ ⟨rfl, rfl⟩
    go_wp2
    go_ret
    exact ⟨rfl, HB2.out⟩
end Go.Proofs.Ytjojomjnbiakoaa

/-
  'same': two disks with the same files; DiskRefused.
-/
import Derived.Test.YtjojomjnbiakoaaDk16
namespace Go.Proofs.Ytjojomjnbiakoaa
open Go.RowKit Go.Maps Go.ChangeShapes
set_option linter.unusedVariables false
theorem read_same {A B : DM} (hfs : B.fs = A.fs) (hda : A.dead = false) (hdb : B.dead = false) (k : Key) : B.read k = A.read k := by
  unfold DM.read
  rw [hfs, hda, hdb]
set_option maxRecDepth 100000 in
set_option maxHeartbeats 1600000 in
theorem same_any (bc cn bx xn : Nat) (A B : DM) (w : World) (hfs : B.fs = A.fs) (hda : A.dead = false) (hdb : B.dead = false) (hn : A.fs.length ≤ 1000000) (ht : tot A.fs ≤ 1099511627776) (h1 : DiskSt w bc cn A) (h2 : DiskSt w bx xn B) :
    Calls Try.prog 20 #[.pointer (some ⟨bc, 0, none⟩), .pointer (some ⟨bx, 0, none⟩)] w fun e w' => e = .returned (.bool true) ∧ Below w.heap.size w w' := by
  have HD1 := Lib.hid h1
  have HD2 := Lib.hid h2
  have HN1 := Lib.hid (names_any bc cn A w hn h1)
  have hn2 : B.fs.length ≤ 1000000 := by rw [hfs]; exact hn
  have ht2 : tot B.fs ≤ 1099511627776 := by rw [hfs]; exact ht
  have HRD : Hid (∀ k, B.read k = A.read k) := Lib.hid (read_same hfs hda hdb)
  have HFS := Lib.hid hfs
  have HNN := Lib.hid hn
  have HTT := Lib.hid ht
  obtain ⟨n, hnn⟩ : ∃ n, A.fs.length = n := ⟨_, rfl⟩
  have HLN := Lib.hid hnn
  rw [hnn] at HN1 hn
  clear h1 h2 hnn hda hdb
  go_enter Try.func20, Try.ntmps20
  go_wp2_with fail
  refine HN1.out.mono ?_
  rintro _ w1 ⟨x1, c1, rfl, hs1, hb1⟩
  have HS1 := Lib.hid hs1
  have HB1 := Lib.hid hb1
  clear hs1 hb1 HN1
  go_wp2_with fail
  refine (names_any bx xn B w1 hn2 (HD2.out.later HB1.out)).mono ?_
  rintro _ w2 ⟨x2, c2, rfl, hs2, hb2⟩
  have HS2 := Lib.hid hs2
  rw [HFS.out] at HS2
  rw [HFS.out, HLN.out]
  have HB2 := Lib.hid (HB1.out.trans (hb2.mono HB1.out.size))
  have HS1' := Lib.hid (HS1.out.below hb2)
  clear hs2 hb2 HB1 HS1
  go_wp2_with fail
  refine (size_any bc cn A w2 HNN.out HTT.out (HD1.out.later HB2.out)).mono ?_
  rintro _ w3 ⟨rfl, hb3⟩
  have HB3 := Lib.hid (HB2.out.trans (hb3.mono HB2.out.size))
  have HS13 := Lib.hid (HS1'.out.below hb3)
  have HS23 := Lib.hid (HS2.out.below hb3)
  clear hb3 HB2 HS2 HS1'
  go_wp2_with fail
  refine (size_any bx xn B w3 hn2 ht2 (HD2.out.later HB3.out)).mono ?_
  rintro _ w4 ⟨rfl, hb4⟩
  rw [HFS.out]
  have HB4 := Lib.hid (HB3.out.trans (hb4.mono HB3.out.size))
  have HS14 := Lib.hid (HS13.out.below hb4)
  have HS24 := Lib.hid (HS23.out.below hb4)
  clear hb4 HB3 HS23 HS13
  go_wp2_with fail
  go_loopw [30] (fun iv wr => ∃ i : Nat, i ≤ n ∧ iv = .int .i64 i ∧ Hid (Below w4.heap.size w4 wr)) (fun iv _ => n - (intOf iv).toNat)
  case atStart => exact ⟨0, by omega, rfl, Lib.hid (Below.refl _ _)⟩
  case round =>
    obtain ⟨i, hi, rfl, HW⟩ := hrel
    obtain ⟨wA, rfl⟩ : ∃ wA, wA = wr := ⟨_, rfl⟩
    have HWW := Lib.hid (HB4.out.trans (HW.out.mono HB4.out.size))
    by_cases hlt : i < n
    · have hin : (i : Int) < (n : Int) := by omega
      have hi0 : (0 : Int) ≤ (i : Int) := by omega
      have hil : i < (A.fs.map fun p => ofK p.1).length := by rw [List.length_map, HLN.out]; exact hlt
      obtain ⟨b1, o1, rfl, hc1, hs⟩ := (HS14.out.below HW.out) i hil
      obtain ⟨b2, o2, rfl, hc2, _⟩ := (HS24.out.below HW.out) i hil
      generalize (A.fs.map fun p => ofK p.1)[i] = s at *
      have HR1 := Lib.hid (read_any bc cn A s wA hs HTT.out (HD1.out.later HWW.out))
      go_wp2_with fail
      refine HR1.out.mono ?_
      rintro _ w5 ⟨v5, rfl, how5, hb5⟩
      obtain ⟨z, cz, rfl, _, _, hz3, _⟩ := own8_read how5
      have HC := Lib.hid (And.intro (cell_up hb5 hc1) (cell_up hb5 hc2))
      have HZ5 := Lib.hid hz3
      have HB5 := Lib.hid hb5
      have hc5 := cell_up hb5 hc2
      have HW5 := Lib.hid (HWW.out.trans (hb5.mono HWW.out.size))
      have HR2 := Lib.hid (read_any bx xn B s w5 hs ht2 (HD2.out.later HW5.out))
      rw [HRD.out] at HR2
      generalize (A.read (keyB s)).1 = R at *
      generalize (A.read (keyB s)).2 = E at *
      clear how5 hz3 HR1 hb5 hc1 hc2
      go_wp2_with fail
      refine HR2.out.mono ?_
      rintro _ w6 ⟨v6, rfl, how6, hb6⟩
      obtain ⟨y, cy, rfl, _, _, hy3, _⟩ := own8_read how6
      have hcv1 := str_of (w := w6.drew) cz (HZ5.out.below hb6.drew)
      have hcv2 := str_of (w := w6.drew) cy (hy3.below (Below.refl _ _).drew)
      have HS : Hid (w6.drew.cell? ⟨b1, o1 + i, none⟩ = some (.string s) ∧ w6.drew.cell? ⟨b2, o2 + i, none⟩ = some (.string s) ∧ (convert 27 9 (.slice z R.length cz)).run Try.prog w6.drew = .ok (.string ⟨R.toArray⟩) w6.drew ∧ (convert 27 9 (.slice y R.length cy)).run Try.prog w6.drew = .ok (.string ⟨R.toArray⟩) w6.drew) := Lib.hid ⟨cell_up hb6.drew HC.out.1, cell_up hb6.drew HC.out.2, hcv1, hcv2⟩
      have HW6 : Hid (Below w4.heap.size w4 w6.drew) := Lib.hid ((HW.out.trans ((HB5.out.trans (hb6.mono HB5.out.size)).mono HW.out.size)).drew)
      clear how6 hy3 hcv1 hcv2 hb6 HC hc5 HR2 HZ5 HW5 HB5
      go_upto_region 9 with (fail)
      refine wp_region_held_drew (S := (fun w' => w'.cell? ⟨b1, o1 + i, none⟩ = some (.string s) ∧ w'.cell? ⟨b2, o2 + i, none⟩ = some (.string s) ∧ (convert 27 9 (.slice z R.length cz)).run Try.prog w' = .ok (.string ⟨R.toArray⟩) w' ∧ (convert 27 9 (.slice y R.length cy)).run Try.prog w' = .ok (.string ⟨R.toArray⟩) w')) (by kernel_rfl) ?_ (fun hS0 => ?_)
      · exact HS.out
      refine wpAnyH_take (i := 0) (oi := { dst := some 51, op := Op.move (Operand.tmp 5), type := 54, pos := "law.go:210", after := #[], guard := none }) (v := ?_) rfl (by kernel_rfl) (by kernel_rfl) (by kernel_rfl) (fun _ _ _ h => h) (Or.inl ⟨by rfl, ?hy1⟩) (by assumption) ?_
      case hy1 => (intro w hSw; (try dsimp only at hSw); go_simp; try with_reducible rfl)
      (try simp only [Act.put, List.setIfInBounds_toArray, List.set_cons_zero, List.set_cons_succ])
      refine wpAnyH_take (i := 1) (oi := { dst := some 52, op := Op.move (Operand.tmp 7), type := 3, pos := "law.go:210", after := #[], guard := none }) (v := ?_) rfl (by kernel_rfl) (by kernel_rfl) (by kernel_rfl) (fun _ _ _ h => h) (Or.inl ⟨by rfl, ?hy2⟩) (by assumption) ?_
      case hy2 => (intro w hSw; (try dsimp only at hSw); go_simp; try with_reducible rfl)
      (try simp only [Act.put, List.setIfInBounds_toArray, List.set_cons_zero, List.set_cons_succ])
      refine wpAnyH_take (i := 2) (oi := { dst := some 53, op := Op.indexAddr 54 (Operand.tmp 51) (Operand.tmp 52), type := 0, pos := "law.go:210", after := #[{ on := 0, ground := Ground.data }, { on := 1, ground := Ground.data }], guard := none }) (v := ?_) rfl (by kernel_rfl) (by kernel_rfl) (by kernel_rfl) (fun _ _ _ h => h) (Or.inl ⟨by rfl, ?hy3⟩) (by assumption) ?_
      case hy3 => (intro w hSw; (try dsimp only at hSw); go_simp; try with_reducible rfl)
      (try simp only [Act.put, List.setIfInBounds_toArray, List.set_cons_zero, List.set_cons_succ])
      refine wpAnyH_take (i := 3) (oi := { dst := some 54, op := Op.load 9 (Operand.tmp 53), type := 9, pos := "law.go:210", after := #[{ on := 2, ground := Ground.data }], guard := none }) (v := ?_) rfl (by kernel_rfl) (by kernel_rfl) (by kernel_rfl) (fun _ _ _ h => h) (Or.inl ⟨by rfl, ?hy4⟩) (by assumption) ?_
      case hy4 => (intro w hSw; (try dsimp only at hSw); go_simp; try with_reducible rfl)
      (try simp only [Act.put, List.setIfInBounds_toArray, List.set_cons_zero, List.set_cons_succ])
      refine wpAnyH_take (i := 4) (oi := { dst := some 55, op := Op.move (Operand.tmp 6), type := 54, pos := "law.go:210", after := #[], guard := none }) (v := ?_) rfl (by kernel_rfl) (by kernel_rfl) (by kernel_rfl) (fun _ _ _ h => h) (Or.inl ⟨by rfl, ?hy5⟩) (by assumption) ?_
      case hy5 => (intro w hSw; (try dsimp only at hSw); go_simp; try with_reducible rfl)
      (try simp only [Act.put, List.setIfInBounds_toArray, List.set_cons_zero, List.set_cons_succ])
      refine wpAnyH_take (i := 5) (oi := { dst := some 56, op := Op.move (Operand.tmp 7), type := 3, pos := "law.go:210", after := #[], guard := none }) (v := ?_) rfl (by kernel_rfl) (by kernel_rfl) (by kernel_rfl) (fun _ _ _ h => h) (Or.inl ⟨by rfl, ?hy6⟩) (by assumption) ?_
      case hy6 => (intro w hSw; (try dsimp only at hSw); go_simp; try with_reducible rfl)
      (try simp only [Act.put, List.setIfInBounds_toArray, List.set_cons_zero, List.set_cons_succ])
      refine wpAnyH_take (i := 6) (oi := { dst := some 57, op := Op.indexAddr 54 (Operand.tmp 55) (Operand.tmp 56), type := 0, pos := "law.go:210", after := #[{ on := 4, ground := Ground.data }, { on := 5, ground := Ground.data }], guard := none }) (v := ?_) rfl (by kernel_rfl) (by kernel_rfl) (by kernel_rfl) (fun _ _ _ h => h) (Or.inl ⟨by rfl, ?hy7⟩) (by assumption) ?_
      case hy7 => (intro w hSw; (try dsimp only at hSw); go_simp; try with_reducible rfl)
      (try simp only [Act.put, List.setIfInBounds_toArray, List.set_cons_zero, List.set_cons_succ])
      refine wpAnyH_take (i := 7) (oi := { dst := some 58, op := Op.load 9 (Operand.tmp 57), type := 9, pos := "law.go:210", after := #[{ on := 6, ground := Ground.data }], guard := none }) (v := ?_) rfl (by kernel_rfl) (by kernel_rfl) (by kernel_rfl) (fun _ _ _ h => h) (Or.inl ⟨by rfl, ?hy8⟩) (by assumption) ?_
      case hy8 => (intro w hSw; (try dsimp only at hSw); go_simp; try with_reducible rfl)
      (try simp only [Act.put, List.setIfInBounds_toArray, List.set_cons_zero, List.set_cons_succ])
      refine wpAnyH_take (i := 8) (oi := { dst := some 59, op := Op.binOp BinOp.neq 9 (Operand.tmp 54) (Operand.tmp 58) 9, type := 4, pos := "law.go:210", after := #[{ on := 3, ground := Ground.data }, { on := 7, ground := Ground.data }], guard := none }) (v := ?_) rfl (by kernel_rfl) (by kernel_rfl) (by kernel_rfl) (fun _ _ _ h => h) (Or.inl ⟨by rfl, ?hy9⟩) (by assumption) ?_
      case hy9 => (intro w hSw; (try dsimp only at hSw); go_simp; try with_reducible rfl)
      (try simp only [Act.put, List.setIfInBounds_toArray, List.set_cons_zero, List.set_cons_succ])
      refine wpAnyH_take (i := 9) (oi := { dst := some 60, op := Op.move (Operand.tmp 59), type := 4, pos := "law.go:210", after := #[{ on := 8, ground := Ground.data }], guard := none }) (v := ?_) rfl (by kernel_rfl) (by kernel_rfl) (by kernel_rfl) (fun _ _ _ h => h) (Or.inl ⟨by rfl, ?hy10⟩) (by assumption) ?_
      case hy10 => (intro w hSw; (try dsimp only at hSw); go_simp; try with_reducible rfl)
      (try simp only [Act.put, List.setIfInBounds_toArray, List.set_cons_zero, List.set_cons_succ])
      refine wpAnyH_take (i := 10) (oi := { dst := some 61, op := Op.move (Operand.tmp 8), type := 27, pos := "law.go:210", after := #[{ on := 9, ground := Ground.guard }], guard := some (9, false) }) (v := ?_) rfl (by kernel_rfl) (by kernel_rfl) (by kernel_rfl) (fun _ _ _ h => h) (Or.inl ⟨by rfl, ?hy11⟩) (by assumption) ?_
      case hy11 => (intro w hSw; (try dsimp only at hSw); go_simp; try with_reducible rfl)
      (try simp only [Act.put, List.setIfInBounds_toArray, List.set_cons_zero, List.set_cons_succ])
      refine wpAnyH_take (i := 11) (oi := { dst := some 62, op := Op.convert 27 9 (Operand.tmp 61), type := 9, pos := "law.go:210", after := #[{ on := 10, ground := Ground.data }, { on := 9, ground := Ground.guard }], guard := some (9, false) }) (v := ?_) rfl (by kernel_rfl) (by kernel_rfl) (by kernel_rfl) (fun _ _ _ h => h) (Or.inl ⟨by rfl, ?hy12⟩) (by assumption) ?_
      case hy12 => (intro w hSw; (try dsimp only at hSw); go_simp; try with_reducible rfl)
      (try simp only [Act.put, List.setIfInBounds_toArray, List.set_cons_zero, List.set_cons_succ])
      refine wpAnyH_take (i := 12) (oi := { dst := some 63, op := Op.move (Operand.tmp 10), type := 27, pos := "law.go:210", after := #[{ on := 9, ground := Ground.guard }], guard := some (9, false) }) (v := ?_) rfl (by kernel_rfl) (by kernel_rfl) (by kernel_rfl) (fun _ _ _ h => h) (Or.inl ⟨by rfl, ?hy13⟩) (by assumption) ?_
      case hy13 => (intro w hSw; (try dsimp only at hSw); go_simp; try with_reducible rfl)
      (try simp only [Act.put, List.setIfInBounds_toArray, List.set_cons_zero, List.set_cons_succ])
      refine wpAnyH_take (i := 13) (oi := { dst := some 64, op := Op.convert 27 9 (Operand.tmp 63), type := 9, pos := "law.go:210", after := #[{ on := 12, ground := Ground.data }, { on := 9, ground := Ground.guard }], guard := some (9, false) }) (v := ?_) rfl (by kernel_rfl) (by kernel_rfl) (by kernel_rfl) (fun _ _ _ h => h) (Or.inl ⟨by rfl, ?hy14⟩) (by assumption) ?_
      case hy14 => (intro w hSw; (try dsimp only at hSw); go_simp; try with_reducible rfl)
      (try simp only [Act.put, List.setIfInBounds_toArray, List.set_cons_zero, List.set_cons_succ])
      refine wpAnyH_take (i := 14) (oi := { dst := some 65, op := Op.binOp BinOp.neq 9 (Operand.tmp 62) (Operand.tmp 64) 9, type := 4, pos := "law.go:210", after := #[{ on := 11, ground := Ground.data }, { on := 13, ground := Ground.data }, { on := 9, ground := Ground.guard }], guard := some (9, false) }) (v := ?_) rfl (by kernel_rfl) (by kernel_rfl) (by kernel_rfl) (fun _ _ _ h => h) (Or.inl ⟨by rfl, ?hy15⟩) (by assumption) ?_
      case hy15 => (intro w hSw; (try dsimp only at hSw); go_simp; try with_reducible rfl)
      (try simp only [Act.put, List.setIfInBounds_toArray, List.set_cons_zero, List.set_cons_succ])
      refine wpAnyH_take (i := 15) (oi := { dst := some 66, op := Op.pick (Operand.tmp 60) (Operand.const (Value.bool true)) (Operand.tmp 65), type := 4, pos := "law.go:210", after := #[{ on := 9, ground := Ground.data }, { on := 14, ground := Ground.data }], guard := none }) (v := ?_) rfl (by kernel_rfl) (by kernel_rfl) (by kernel_rfl) (fun _ _ _ h => h) (Or.inl ⟨by rfl, ?hy16⟩) (by assumption) ?_
      case hy16 => (intro w hSw; (try dsimp only at hSw); go_simp; try with_reducible rfl)
      (try simp only [Act.put, List.setIfInBounds_toArray, List.set_cons_zero, List.set_cons_succ])
      refine wpAnyH_done (by kernel_rfl) ?_ _
      go_wp2
      exact ⟨⟨i + 1, by omega, by go_num, HW6⟩, by simp [intOf]; omega⟩
    · obtain rfl : i = n := by omega
      have i3 : ¬ (i : Int) < (i : Int) := by omega
      go_wp2
      go_ret
      exact ⟨rfl, HWW.out⟩
end Go.Proofs.Ytjojomjnbiakoaa

/-
  DiskPlays.
-/
import Derived.Test.YtjojomjnbiakoaaRd10
namespace Go.Proofs.Ytjojomjnbiakoaa
open Go.RowKit Go.Maps Go.ChangeShapes
set_option linter.unusedVariables false
abbrev kG : ByteArray := { data := #[103, 111, 110, 101] }
/-- The act's own blocks and the reference's: one turns, the other stays. -/
structure ROwn (w w' : World) (bw : Nat) (A : DM) : Prop where
  st : RefSt w' bw A
  gw : w.heap.size ≤ bw
theorem ROwn.later {w w1 w2 : World} {bw : Nat} {A : DM} (h : ROwn w w1 bw A) (hb : Below w1.heap.size w1 w2) : ROwn w w2 bw A := ⟨h.st.later hb, h.gw⟩
theorem ROwn.disk {w w1 w2 : World} {bd bm bw : Nat} {A B : DM} (h : ROwn w w1 bw A) (hd : DiskSt w1 bd bm B) (hu : Upd (DS bd bm) w1 w2) : ROwn w w2 bw A :=
  ⟨h.st.upd hu hd.noStr (h.st.ne hd), h.gw⟩
/-- The reference turns: the disk stays. -/
theorem Own.ref {w w1 w2 : World} {bd bm bw : Nat} {A B : DM} (h : Own w w1 bd bm A) (hr : ROwn w w1 bw B) (hu : Upd (· = bw) w1 w2) : Own w w2 bd bm A :=
  ⟨h.st.upd hu (fun b e => by subst e; exact hr.st.noU8) (fun e => hr.st.ne h.st (Or.inl e.symm)) (fun e => hr.st.ne h.st (Or.inr e.symm)), h.bl.trans (hu.below h.bl.size fun k e => by subst e; exact hr.gw), h.gd, h.gm⟩
theorem Boxed.ref {w0 w w' : World} {bw Bx : Nat} {B : DM} {xb xk : Option Addr} {cb ck : Nat} {a : ActM} (h : Boxed w0 w Bx xb cb xk ck a) (hr : ROwn w0 w bw B) (hn : Bx ≠ bw) (hu : Upd (· = bw) w w') : Boxed w0 w' Bx xb cb xk ck a :=
  ⟨hu.heap hn h.box, ⟨h.inn.ok, h.inn.b.upd hu (fun b e => by subst e; exact hr.st.noU8), by
    by_cases e : a.keep = []
    · rw [e]; exact ints_nil _ _
    · exact h.inn.k.upd hu fun y q => by
        have h1 := h.old e y q
        have h2 := hr.gw
        intro e; omega, h.inn.bn⟩, h.old⟩
theorem Boxed.nr {w0 w : World} {bw Bx : Nat} {B : DM} {xb xk : Option Addr} {cb ck : Nat} {a : ActM} (h : Boxed w0 w Bx xb cb xk ck a) (hr : RefSt w bw B) : Bx ≠ bw := by
  intro e
  obtain ⟨x, c, hb, _⟩ := hr.box
  have := h.box
  rw [e, hb] at this
  simp [actCells, refCells] at this
set_option maxRecDepth 100000 in
set_option maxHeartbeats 3200000 in
theorem law_plays (room : Int) (a : Option Addr) (cap : Nat) (l : List ActM) (nm : ByteArray) (w : World) (hr : room ≤ 9223372036854775807) (hr2 : -9223372036854775808 ≤ room) (hl : l.length ≤ cap) (hm : cap ≤ maxLen) (hb : Acts w a l) (hs : nm.size ≤ maxLen) :
    Calls Try.prog 6 #[.int .i64 room, .slice a l.length cap, .string nm] w fun e w' => e = .returned (.bool true) ∧ Below w.heap.size w w' := by
  have HA := Lib.hid hb
  have HM := Lib.hid (And.intro hl hm)
  obtain ⟨n, hn⟩ : ∃ n, l.length = n := ⟨_, rfl⟩
  have HN := Lib.hid hn
  rw [hn]
  clear hb hl hm hn
  go_enter Try.func6, Try.ntmps6
  go_wp2_with fail
  refine (shown_any _).mono ?_
  rintro _ w1 ⟨rfl, hb1⟩
  have HB1 := Lib.hid hb1
  clear hb1
  go_wp2_with fail
  refine (new_any room w1 ⟨hr2, hr⟩).mono ?_
  rintro _ w2 ⟨bd, bm, rfl, hd, hgd, hgm, hb2⟩
  have HO2 : Hid (Own w w2 bd bm ⟨[], room.toNat, false, -1, 0⟩) := Lib.hid ⟨hd, HB1.out.trans (hb2.mono HB1.out.size), Nat.le_trans HB1.out.size hgd, Nat.le_trans HB1.out.size hgm⟩
  clear hd hgd hgm hb2 HB1
  go_wp2_with fail
  refine (rnew_any room w2 hr hr2).mono ?_
  rintro _ w3 ⟨bw, rfl, hrw, hgw, hb3⟩
  have HO3 := Lib.hid (HO2.out.later hb3)
  have HR3 : Hid (ROwn w w3 bw ⟨[], room.toNat, false, -1, 0⟩) := Lib.hid ⟨hrw, Nat.le_trans HO2.out.bl.size hgw⟩
  clear hrw hgw hb3 HO2
  have HFW := Lib.hid (few_any a cap l w3 HM.out.1 HM.out.2 (HA.out.below HO3.out.bl))
  rw [HN.out] at HFW
  go_wp2_with fail
  refine HFW.out.mono ?_
  rintro _ w4 ⟨k, rfl, hk1, hk2, hk3, hb4⟩
  have HOS := Lib.hid (HO3.out.later hb4)
  have HRS := Lib.hid (HR3.out.later hb4)
  have HK := Lib.hid hk3
  clear hk3 hb4 HFW HO3 HR3
  go_wp2_with fail
  go_loopw [27, 8] (fun iv dv wr => ∃ (i bd bm : Nat) (A : DM), i ≤ k ∧ iv = .int .i64 i ∧ dv = .pointer (some ⟨bd, 0, none⟩) ∧ Hid (Own w wr bd bm A) ∧ Hid (ROwn w wr bw A) ∧ Hid (A.Lim (2 * i) (bsum (l.take i)))) (fun iv _ _ => k - (intOf iv).toNat)
  case atStart => exact ⟨0, bd, bm, _, by omega, rfl, rfl, HOS, HRS, Lib.hid ⟨Nat.le_refl _, Nat.le_refl _, Nat.le_refl _⟩⟩
  case round =>
    clear HOS HRS
    obtain ⟨i, bd, bm, A, hi, rfl, rfl, HO, HR, HL⟩ := hrel
    obtain ⟨wA, rfl⟩ : ∃ wA, wA = wr := ⟨_, rfl⟩
    by_cases hlt : i < k
    · have hil : i < l.length := by have := HN.out; omega
      have hin : (i : Int) < (k : Int) := by omega
      have hi0 : (0 : Int) ≤ (i : Int) := by omega
      have HT : Hid (bsum (l.take i) + l[i].b.length ≤ 20000) := Lib.hid (by
        rw [← bsum_snoc l i hil]
        exact Nat.le_trans (bsum_mono l (by omega)) HK.out)
      have HSN := Lib.hid (bsum_snoc l i hil)
      obtain ⟨b, off, xb, cb, xk, ck, rfl, ⟨q0, q1, q2, q3, q4, q5⟩, hbx⟩ := HA.out.boxed HO.out.bl i hil
      generalize l[i] = x at *
      have HBX := Lib.hid hbx
      have HOA := Lib.hid (HO.out.later ((Below.refl _ _).alloc (Nat.le_refl _) (.cells #[.int .u8 (x.kind : Nat), .string x.name, .string x.dst, .slice xb x.b.length cb, .int .i64 x.n, .slice xk x.keep.length ck] 30)))
      have HRA := Lib.hid (HR.out.later ((Below.refl _ _).alloc (Nat.le_refl _) (.cells #[.int .u8 (x.kind : Nat), .string x.name, .string x.dst, .slice xb x.b.length cb, .int .i64 x.n, .slice xk x.keep.length ck] 30)))
      clear hbx
      obtain ⟨r8, hr8, hr8t, hr8w, HR8, hr8l⟩ : ∃ r : Nat, (x.kind : Int) % 8 = (r : Int) ∧ (x.kind : Int).tmod 8 = (r : Int) ∧ IntKind.u8.wrap (r : Int) = (r : Int) ∧ Hid (x.kind % 8 = r) ∧ r < 8 :=
        ⟨x.kind % 8, by omega, by rw [Int.tmod_eq_emod_of_nonneg (by omega)]; omega, by rw [IntKind.wrap_u8]; omega, Lib.hid rfl, by omega⟩
      go_upto_region 9 with (fail)
      obtain ⟨wS, hwS⟩ : ∃ wS, wA.alloc (.cells #[.int .u8 (x.kind : Nat), .string x.name, .string x.dst, .slice xb x.b.length cb, .int .i64 x.n, .slice xk x.keep.length ck] 30) = wS := ⟨_, rfl⟩
      obtain ⟨Bx, hBx⟩ : ∃ Bx, wA.heap.size = Bx := ⟨_, rfl⟩
      rw [hwS] at HBX HOA HRA ⊢
      rw [hBx] at HBX ⊢
      clear hwS hBx q0 q1 q2 q3 q4 q5 hin hi0 HO HR
      have HNB := Lib.hid (HBX.out.nr HRA.out.st)
      have hcs := HBX.out.cells.1
      go_upto_if 34 with (fail)
      go_cut [8] (fun dv wx => ∃ bd bm : Nat, dv = .pointer (some ⟨bd, 0, none⟩) ∧ Hid (Own w wx bd bm A) ∧ Hid (ROwn w wx bw A) ∧ Hid (Boxed w wx Bx xb cb xk ck x))
      case first =>
        by_cases h7 : r8 = 7
        · have e7 : ((r8 : Int) == 7) = true := by simp [h7]
          have hlen : A.fs.length ≤ 1000000 := by have := HL.out.len; omega
          have htot : tot A.fs ≤ 1099511627776 := by have := HL.out.tot; have := HT.out; omega
          go_wp2_with fail
          refine (copy_own HOA.out).mono ?_
          rintro _ w5 ⟨bc, cn, rfl, hoc, ho5, hne, _, _, hb5⟩
          have HC5 := Lib.hid hoc
          have HO5 := Lib.hid ho5
          have HNE := Lib.hid hne
          have HB5 := Lib.hid (HBX.out.later hb5)
          have HR5 := Lib.hid (HRA.out.later hb5)
          clear hoc ho5 hne hb5 hcs
          go_wp2_with fail
          refine (crash_nil hlen htot HO5.out).mono ?_
          rintro _ w6 ⟨rfl, ho6, hu6⟩
          have HO6 := Lib.hid ho6
          have HC6 := Lib.hid (HO5.out.apart HC5.out HNE.out.1 hu6)
          have HB6 := Lib.hid (HB5.out.op HO5.out hu6)
          have HR6 := Lib.hid (HR5.out.disk HO5.out.st hu6)
          have HPT := Lib.hid (put_any bd bm (A.crash []) kG none 0 [] w6 (by decide) (by show (crashF [] A.fs).length ≤ _; rw [crashF_len]; omega) (by decide) (bytes_nil _ _) (fun _ => rfl) ho6.st)
          clear ho6 hu6 HO5 HC5 HB5 HR5
          go_wp2_with fail
          refine HPT.out.mono ?_
          rintro _ w7 ⟨rfl, hd7, hu7⟩
          have HC7 := Lib.hid (HO6.out.apart HC6.out HNE.out.1 hu7)
          have HB7 := Lib.hid (HB6.out.op HO6.out hu7)
          have HR7 := Lib.hid (HR6.out.disk HO6.out.st hu7)
          clear hd7 hu7 HPT
          go_wp2
          go_meet
          case rel => exact ⟨bc, cn, rfl, HC7, HR7, HB7⟩
        · have e7 : ((r8 : Int) == 7) = false := by simp; omega
          go_wp2
          go_meet
          case rel => exact ⟨bd, bm, rfl, HOA, HRA, HBX⟩
      case rest =>
        obtain ⟨bd, bm, rfl, HO, HR, HB⟩ := hcut
        obtain ⟨wD, rfl⟩ : ∃ wD, wD = wc := ⟨_, rfl⟩
        have HOD := Lib.hid (HO.out.later (Below.refl wD.heap.size wD).drew)
        have HRD := Lib.hid (HR.out.later (Below.refl wD.heap.size wD).drew)
        have HBD := Lib.hid (HB.out.later (Below.refl wD.heap.size wD).drew)
        clear hcs HBX HOA HRA
        go_upto_region 14 with (fail)
        refine wp_region_held_drew (S := (fun w' => w'.cell? ⟨Bx, 0, none⟩ = some (.int .u8 (x.kind : Nat)) ∧ w'.cell? ⟨Bx, 1, none⟩ = some (.string x.name) ∧ w'.cell? ⟨Bx, 2, none⟩ = some (.string x.dst) ∧ w'.cell? ⟨Bx, 3, none⟩ = some (.slice xb x.b.length cb) ∧ w'.cell? ⟨Bx, 4, none⟩ = some (.int .i64 x.n) ∧ w'.cell? ⟨Bx, 5, none⟩ = some (.slice xk x.keep.length ck))) (by kernel_rfl) ?_ (fun hS0 => ?_)
        · exact HBD.out.cells
        refine wpAnyH_take (i := 0) (oi := { dst := some 42, op := Op.move (Operand.tmp 8), type := 24, pos := "law.go:121", after := #[], guard := none }) (v := ?_) rfl (by kernel_rfl) (by kernel_rfl) (by kernel_rfl) (fun _ _ _ h => h) (Or.inl ⟨by rfl, ?hy1⟩) (by assumption) ?_
        case hy1 => (intro w hSw; (try dsimp only at hSw); go_simp; try with_reducible rfl)
        (try simp only [Act.put, List.setIfInBounds_toArray, List.set_cons_zero, List.set_cons_succ])
        refine wpAnyH_take (i := 1) (oi := { dst := some 43, op := Op.binOp BinOp.eql 24 (Operand.tmp 42) (Operand.const (Value.pointer none)) 24, type := 4, pos := "law.go:121", after := #[{ on := 0, ground := Ground.data }], guard := none }) (v := ?_) rfl (by kernel_rfl) (by kernel_rfl) (by kernel_rfl) (fun _ _ _ h => h) (Or.inl ⟨by rfl, ?hy2⟩) (by assumption) ?_
        case hy2 => (intro w hSw; (try dsimp only at hSw); go_simp; try with_reducible rfl)
        (try simp only [Act.put, List.setIfInBounds_toArray, List.set_cons_zero, List.set_cons_succ])
        refine wpAnyH_take (i := 2) (oi := { dst := some 44, op := Op.move (Operand.tmp 43), type := 4, pos := "law.go:121", after := #[{ on := 1, ground := Ground.data }], guard := none }) (v := ?_) rfl (by kernel_rfl) (by kernel_rfl) (by kernel_rfl) (fun _ _ _ h => h) (Or.inl ⟨by rfl, ?hy3⟩) (by assumption) ?_
        case hy3 => (intro w hSw; (try dsimp only at hSw); go_simp; try with_reducible rfl)
        (try simp only [Act.put, List.setIfInBounds_toArray, List.set_cons_zero, List.set_cons_succ])
        refine wpAnyH_take (i := 3) (oi := { dst := some 45, op := Op.move (Operand.tmp 8), type := 24, pos := "law.go:121", after := #[{ on := 2, ground := Ground.guard }], guard := some (2, false) }) (v := ?_) rfl (by kernel_rfl) (by kernel_rfl) (by kernel_rfl) (fun _ _ _ h => h) (Or.inl ⟨by rfl, ?hy4⟩) (by assumption) ?_
        case hy4 => (intro w hSw; (try dsimp only at hSw); go_simp; try with_reducible rfl)
        (try simp only [Act.put, List.setIfInBounds_toArray, List.set_cons_zero, List.set_cons_succ])
        refine wpAnyH_take (i := 4) (oi := { dst := some 46, op := Op.load 30 (Operand.tmp 11), type := 30, pos := "law.go:121", after := #[{ on := 2, ground := Ground.guard }], guard := some (2, false) }) (v := ?_) rfl (by kernel_rfl) (by kernel_rfl) (by kernel_rfl) (fun _ _ _ h => h) (Or.inl ⟨by rfl, ?hy5⟩) (by assumption) ?_
        case hy5 => (intro w hSw; (try dsimp only at hSw); go_simp; try with_reducible rfl)
        (try simp only [Act.put, List.setIfInBounds_toArray, List.set_cons_zero, List.set_cons_succ])
        refine wpAnyH_take (i := 6) (oi := { dst := some 48, op := Op.move (Operand.tmp 9), type := 46, pos := "law.go:121", after := #[{ on := 2, ground := Ground.guard }], guard := some (2, false) }) (v := ?_) rfl (by kernel_rfl) (by kernel_rfl) (by kernel_rfl) (fun _ _ _ h => h) (Or.inl ⟨by rfl, ?hy6⟩) (by assumption) ?_
        case hy6 => (intro w hSw; (try dsimp only at hSw); go_simp; try with_reducible rfl)
        (try simp only [Act.put, List.setIfInBounds_toArray, List.set_cons_zero, List.set_cons_succ])
        refine wpAnyH_take (i := 7) (oi := { dst := some 49, op := Op.load 30 (Operand.tmp 11), type := 30, pos := "law.go:121", after := #[{ on := 2, ground := Ground.guard }], guard := some (2, false) }) (v := ?_) rfl (by kernel_rfl) (by kernel_rfl) (by kernel_rfl) (fun _ _ _ h => h) (Or.inl ⟨by rfl, ?hy7⟩) (by assumption) ?_
        case hy7 => (intro w hSw; (try dsimp only at hSw); go_simp; try with_reducible rfl)
        (try simp only [Act.put, List.setIfInBounds_toArray, List.set_cons_zero, List.set_cons_succ])
        refine wpAnyH_ready (rs := [5]) (by kernel_rfl) (by simp) (AllReadyH.cons (o := { dst := some 47, op := Op.call { callee := Callee.value (Operand.func 13), args := #[Operand.tmp 45, Operand.tmp 46], argTypes := #[24, 30] }, type := 31, pos := "law.go:121", after := #[{ on := 3, ground := Ground.data }, { on := 4, ground := Ground.data }, { on := 2, ground := Ground.chain }, { on := 2, ground := Ground.guard }], guard := some (2, false) }) rfl (fun K hK => ?_) AllReadyH.nil)
        go_simp
        refine (does_own (2 * i) (bsum (l.take i)) (by omega) (by have := HT.out; omega) HL.out HBD.out HOD.out).mono ?_
        rintro _ w5 ⟨rfl, ho5, hx5, hu5⟩
        have HR5 := HRD.out.disk HOD.out.st hu5
        have HLA := HL.out.act HOD.out.st.ok x
        (try dsimp only)
        refine Shut.out hK _ _ ?_ (fun hS5 => ?_)
        · exact hx5.cells
        clear hK K
        (try simp only [Act.put, List.setIfInBounds_toArray, List.set_cons_zero, List.set_cons_succ])
        refine wpAnyH_ready (rs := [8]) (by kernel_rfl) (by simp) (AllReadyH.cons (o := { dst := some 50, op := Op.call { callee := Callee.value (Operand.func 24), args := #[Operand.tmp 48, Operand.tmp 49], argTypes := #[46, 30] }, type := 31, pos := "law.go:121", after := #[{ on := 6, ground := Ground.data }, { on := 7, ground := Ground.data }, { on := 5, ground := Ground.chain }, { on := 2, ground := Ground.guard }], guard := some (2, false) }) rfl (fun K hK => ?_) AllReadyH.nil)
        go_simp
        refine (model_any bw A xb cb xk ck x (2 * i) (bsum (l.take i)) _ (by omega) (by have := HT.out; omega) HL.out hx5.inn HR5.st).mono ?_
        rintro _ w6 ⟨rfl, hr6, hu6⟩
        have ho6 := ho5.ref HR5 hu6
        have hx6 := hx5.ref HR5 HNB.out hu6
        (try dsimp only)
        refine Shut.out hK _ _ ?_ (fun hS8 => ?_)
        · exact hx6.cells
        clear hK K
        (try simp only [Act.put, List.setIfInBounds_toArray, List.set_cons_zero, List.set_cons_succ])
        refine wpAnyH_take (i := 9) (oi := { dst := some 51, op := Op.binOp BinOp.neq 31 (Operand.tmp 47) (Operand.tmp 50) 31, type := 4, pos := "law.go:121", after := #[{ on := 5, ground := Ground.data }, { on := 8, ground := Ground.data }, { on := 2, ground := Ground.guard }], guard := some (2, false) }) (v := ?_) rfl (by kernel_rfl) (by kernel_rfl) (by kernel_rfl) (fun _ _ _ h => h) (Or.inl ⟨by rfl, ?hy8⟩) (by assumption) ?_
        case hy8 => (intro w hSw; (try dsimp only at hSw); go_simp; try with_reducible rfl)
        (try simp only [Act.put, List.setIfInBounds_toArray, List.set_cons_zero, List.set_cons_succ])
        refine wpAnyH_take (i := 10) (oi := { dst := some 52, op := Op.pick (Operand.tmp 44) (Operand.const (Value.bool true)) (Operand.tmp 51), type := 4, pos := "law.go:121", after := #[{ on := 2, ground := Ground.data }, { on := 9, ground := Ground.data }], guard := none }) (v := ?_) rfl (by kernel_rfl) (by kernel_rfl) (by kernel_rfl) (fun _ _ _ h => h) (Or.inl ⟨by rfl, ?hy9⟩) (by assumption) ?_
        case hy9 => (intro w hSw; (try dsimp only at hSw); go_simp; try with_reducible rfl)
        (try simp only [Act.put, List.setIfInBounds_toArray, List.set_cons_zero, List.set_cons_succ])
        refine wpAnyH_take (i := 11) (oi := { dst := some 53, op := Op.move (Operand.tmp 52), type := 4, pos := "law.go:121", after := #[{ on := 10, ground := Ground.data }, { on := 8, ground := Ground.chain }], guard := none }) (v := ?_) rfl (by kernel_rfl) (by kernel_rfl) (by kernel_rfl) (fun _ _ _ h => h) (Or.inl ⟨by rfl, ?hy10⟩) (by assumption) ?_
        case hy10 => (intro w hSw; (try dsimp only at hSw); go_simp; try with_reducible rfl)
        (try simp only [Act.put, List.setIfInBounds_toArray, List.set_cons_zero, List.set_cons_succ])
        refine wpAnyH_take (i := 12) (oi := { dst := some 54, op := Op.move (Operand.tmp 8), type := 24, pos := "law.go:121", after := #[{ on := 11, ground := Ground.guard }], guard := some (11, false) }) (v := ?_) rfl (by kernel_rfl) (by kernel_rfl) (by kernel_rfl) (fun _ _ _ h => h) (Or.inl ⟨by rfl, ?hy11⟩) (by assumption) ?_
        case hy11 => (intro w hSw; (try dsimp only at hSw); go_simp; try with_reducible rfl)
        (try simp only [Act.put, List.setIfInBounds_toArray, List.set_cons_zero, List.set_cons_succ])
        refine wpAnyH_take (i := 13) (oi := { dst := some 55, op := Op.move (Operand.tmp 9), type := 46, pos := "law.go:121", after := #[{ on := 11, ground := Ground.guard }], guard := some (11, false) }) (v := ?_) rfl (by kernel_rfl) (by kernel_rfl) (by kernel_rfl) (fun _ _ _ h => h) (Or.inl ⟨by rfl, ?hy12⟩) (by assumption) ?_
        case hy12 => (intro w hSw; (try dsimp only at hSw); go_simp; try with_reducible rfl)
        (try simp only [Act.put, List.setIfInBounds_toArray, List.set_cons_zero, List.set_cons_succ])
        refine wpAnyH_ready (rs := [14]) (by kernel_rfl) (by simp) (AllReadyH.cons (o := { dst := some 56, op := Op.call { callee := Callee.value (Operand.func 25), args := #[Operand.tmp 54, Operand.tmp 55], argTypes := #[24, 46] }, type := 4, pos := "law.go:121", after := #[{ on := 12, ground := Ground.data }, { on := 13, ground := Ground.data }, { on := 11, ground := Ground.chain }, { on := 11, ground := Ground.guard }], guard := some (11, false) }) rfl (fun K hK => ?_) AllReadyH.nil)
        go_simp
        refine (alike_any bd bm bw (A.act x).1 _ (by have := HLA.len; omega) (by have := HLA.tot; have := HT.out; omega) ho6.st hr6).mono ?_
        rintro _ w7 ⟨rfl, hb7⟩
        (try dsimp only)
        refine Shut.out hK _ _ ?_ (fun hS14 => ?_)
        · exact (hx6.later hb7).cells
        clear hK K
        (try simp only [Act.put, List.setIfInBounds_toArray, List.set_cons_zero, List.set_cons_succ])
        refine wpAnyH_take (i := 15) (oi := { dst := some 57, op := Op.unOp UnOp.not 4 (Operand.tmp 56), type := 4, pos := "law.go:121", after := #[{ on := 14, ground := Ground.data }, { on := 11, ground := Ground.guard }], guard := some (11, false) }) (v := ?_) rfl (by kernel_rfl) (by kernel_rfl) (by kernel_rfl) (fun _ _ _ h => h) (Or.inl ⟨by rfl, ?hy13⟩) (by assumption) ?_
        case hy13 => (intro w hSw; (try dsimp only at hSw); go_simp; try with_reducible rfl)
        (try simp only [Act.put, List.setIfInBounds_toArray, List.set_cons_zero, List.set_cons_succ])
        refine wpAnyH_take (i := 16) (oi := { dst := some 58, op := Op.pick (Operand.tmp 53) (Operand.const (Value.bool true)) (Operand.tmp 57), type := 4, pos := "law.go:121", after := #[{ on := 11, ground := Ground.data }, { on := 15, ground := Ground.data }], guard := none }) (v := ?_) rfl (by kernel_rfl) (by kernel_rfl) (by kernel_rfl) (fun _ _ _ h => h) (Or.inl ⟨by rfl, ?hy14⟩) (by assumption) ?_
        case hy14 => (intro w hSw; (try dsimp only at hSw); go_simp; try with_reducible rfl)
        (try simp only [Act.put, List.setIfInBounds_toArray, List.set_cons_zero, List.set_cons_succ])
        refine wpAnyH_done (by kernel_rfl) ?_ _
        have HLN : Hid ((A.act x).1.Lim (2 * (i + 1)) (bsum (l.take (i + 1)))) := Lib.hid ((HL.out.act HOD.out.st.ok x).mono (by omega) (by rw [HSN.out]; exact Nat.le_refl _))
        have HO7 := Lib.hid (ho6.later hb7)
        have HR7 := Lib.hid ((ROwn.mk hr6 HR5.gw : ROwn w w6 bw _).later hb7)
        clear hS0 hS5 hS8 hS14 ho5 hx5 hu5 HR5 HLA hr6 hu6 ho6 hx6 hb7
        go_wp2
        exact ⟨⟨i + 1, bd, bm, (A.act x).1, by omega, by go_num, rfl, HO7, HR7, HLN⟩, by simp [intOf]; omega⟩
    · obtain rfl : i = k := by omega
      have i3 : ¬ (i : Int) < (i : Int) := by omega
      have hlen : A.fs.length ≤ 1000000 := by have := HL.out.len; omega
      have htot : tot A.fs ≤ 1099511627776 := by have := HL.out.tot; have := HK.out; omega
      go_wp2_with fail
      refine (read_any bd bm A nm wA hs htot HO.out.st).mono ?_
      rintro _ w5 ⟨v5, rfl, how5, hb5⟩
      obtain ⟨z, cz, rfl, hz1, hz2, hz3, hz4⟩ := own8_read how5
      have HO5 := Lib.hid (HO.out.later hb5)
      have HR5 := Lib.hid (HR.out.later hb5)
      have HZ5 := Lib.hid hz3
      have HR2 := Lib.hid (rread_any bw A nm w5 hs hlen HR5.out.st)
      clear how5 hz1 hz2 hz3 hz4 hb5
      generalize (A.read (keyB nm)).1 = R at *
      generalize (A.read (keyB nm)).2 = E at *
      go_wp2_with fail
      refine HR2.out.mono ?_
      rintro _ w6 ⟨rfl, hb6⟩
      have HO6 := Lib.hid (HO5.out.later hb6)
      have hcv := str_of (w := w6) cz (HZ5.out.below hb6)
      have hofk : ofK R = ⟨R.toArray⟩ := rfl
      clear hb6 HR2
      rw [hofk]
      go_wp2
      go_ret
      exact ⟨rfl, HO6.out.bl⟩
end Go.Proofs.Ytjojomjnbiakoaa

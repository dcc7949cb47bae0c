/-
  The reference's 'two', walked.
-/
import Derived.Test.YthgbmijgoaihcaaMg25
import Derived.Test.YthgbmijgoaihcaaMg12
import Derived.Test.YthgbmijgoaihcaaSplit1
import Derived.Test.YthgbmijgoaihcaaEnt2
import Derived.BigQuiet
import Derived.Deep.DeepCutAuto
namespace Go.Proofs.Ythgbmijgoaihcaa
open Go.RowKit
set_option linter.unusedVariables false

set_option maxRecDepth 100000 in
set_option maxHeartbeats 3200000 in
theorem two_any (a1 : Option Addr) (c1 : Nat) (x : List Ent) (a2 : Option Addr) (c2 : Nat) (y : List Ent) (w : World) (hl1 : x.length ≤ c1) (hm1 : c1 ≤ maxLen) (ht : x.length + y.length ≤ 2932031007400) (hx : Ents w a1 x) (hy : Ents w a2 y) :
    Calls Try.prog 51 #[.slice a1 x.length c1, .slice a2 y.length c2] w fun e w' => ∃ v, e = .returned v ∧ OwnE 33 w' w.heap.size v (twoR x y) ∧ Below w.heap.size w w' := by
  obtain ⟨K, HK⟩ : ∃ K, Hid (w.heap.size = K) := ⟨_, Lib.hid rfl⟩
  rw [HK.out]
  have HX := Lib.hid hx
  have HY := Lib.hid hy
  have HLEN := Lib.hid (twoR_len y x)
  clear hx hy
  go_enter Try.func51, Try.ntmps51
  go_wp2_with fail
  go_loopw [5, 6, 7] (fun ov iv kv wr => ∃ (i k : Nat) (out : List Ent), i ≤ x.length ∧ k ≤ y.length ∧ iv = .int .i64 i ∧ kv = .int .i64 k ∧ Hid (OwnE 33 wr K ov out) ∧ Hid (out ++ twoR (x.drop i) (y.drop k) = twoR x y) ∧ Below K w wr) (fun _ _ kv _ => y.length - (intOf kv).toNat)
  case atStart => exact ⟨0, 0, [], by omega, by omega, rfl, rfl, Lib.hid (OwnE.nil _ _ _), Lib.hid (by simp), Below.refl _ _⟩
  case round =>
    obtain ⟨i, k, out, hi, hk, rfl, rfl, HO, HT, hwr⟩ := hrel
    obtain ⟨wA, rfl⟩ : ∃ wA, wA = wr := ⟨_, rfl⟩
    by_cases hlt : k < y.length
    · have hink : (k : Int) < (y.length : Int) := by omega
      go_wp2_with fail
      go_loopw [5, 6] (fun ov iv wr => ∃ (i : Nat) (out : List Ent), i ≤ x.length ∧ iv = .int .i64 i ∧ Hid (OwnE 33 wr K ov out) ∧ Hid (out ++ twoR (x.drop i) (y.drop k) = twoR x y) ∧ Below K w wr) (fun _ iv _ => x.length - (intOf iv).toNat)
      case atStart => exact ⟨i, out, hi, rfl, HO, HT, hwr⟩
      case round =>
        obtain ⟨i, out, hi, rfl, HO, HT, hwr⟩ := hrel
        obtain ⟨wB, rfl⟩ : ∃ wB, wB = wr := ⟨_, rfl⟩
        have hKw : K ≤ wB.heap.size := by have := hwr.size; rw [HK.out] at this; exact this
        obtain ⟨b2, o2, rfl, ⟨f0, f1, f2, f3⟩, hyo⟩ := (HY.out.below (w' := wB) (by rw [HK.out]; exact hwr)) k hlt
        have hk0 : (0 : Int) ≤ (k : Int) := by omega
        have hi0 : (0 : Int) ≤ (i : Int) := by omega
        have HBR := Lib.hid hwr
        clear hwr
        by_cases hil : i < x.length
        · obtain ⟨b1, o1, rfl, ⟨e0, e1, e2, e3⟩, hxo⟩ := (HX.out.below (w' := wB) (by rw [HK.out]; exact HBR.out)) i hil
          have hini : (i : Int) < (x.length : Int) := by omega
          have HDX : Hid (x.drop i = x[i] :: x.drop (i + 1)) := Lib.hid (List.drop_eq_getElem_cons hil)
          have HDY : Hid (y.drop k = y[k] :: y.drop (k + 1)) := Lib.hid (List.drop_eq_getElem_cons hlt)
          generalize x[i] = p at *
          generalize y[k] = q at *
          obtain ⟨tb, htb⟩ : ∃ tb, ahead p q = tb := ⟨_, rfl⟩
          have HTB := Lib.hid htb
          clear htb
          have KS : Hid (∀ w', Below wB.heap.size wB w' → (w'.cell? ⟨b1, o1 + i * 4, none⟩ = some (.string p.user) ∧ w'.cell? ⟨b1, o1 + i * 4 + 1, none⟩ = some (.int .u64 (p.seq : Nat)) ∧ w'.cell? ⟨b1, o1 + i * 4 + 2, none⟩ = some (.int .u8 (p.kind : Nat)) ∧ w'.cell? ⟨b1, o1 + i * 4 + 3, none⟩ = some (.string p.value) ∧ w'.cell? ⟨b2, o2 + k * 4, none⟩ = some (.string q.user) ∧ w'.cell? ⟨b2, o2 + k * 4 + 1, none⟩ = some (.int .u64 (q.seq : Nat)) ∧ w'.cell? ⟨b2, o2 + k * 4 + 2, none⟩ = some (.int .u8 (q.kind : Nat)) ∧ w'.cell? ⟨b2, o2 + k * 4 + 3, none⟩ = some (.string q.value) ∧ Below wB.heap.size wB w')) :=
            Lib.hid (fun w' hb => ⟨cell_later2 hb e0, cell_later2 hb e1, cell_later2 hb e2, cell_later2 hb e3, cell_later2 hb f0, cell_later2 hb f1, cell_later2 hb f2, cell_later2 hb f3, hb⟩)
          go_upto_region 6 with (fail)
          go_cut [28] (fun s wx => s = .bool tb ∧ Below wB.heap.size wB wx)
          case first =>
            refine wp_region_held_drew (S := (fun w' => w'.cell? ⟨b1, o1 + i * 4, none⟩ = some (.string p.user) ∧ w'.cell? ⟨b1, o1 + i * 4 + 1, none⟩ = some (.int .u64 (p.seq : Nat)) ∧ w'.cell? ⟨b1, o1 + i * 4 + 2, none⟩ = some (.int .u8 (p.kind : Nat)) ∧ w'.cell? ⟨b1, o1 + i * 4 + 3, none⟩ = some (.string p.value) ∧ w'.cell? ⟨b2, o2 + k * 4, none⟩ = some (.string q.user) ∧ w'.cell? ⟨b2, o2 + k * 4 + 1, none⟩ = some (.int .u64 (q.seq : Nat)) ∧ w'.cell? ⟨b2, o2 + k * 4 + 2, none⟩ = some (.int .u8 (q.kind : Nat)) ∧ w'.cell? ⟨b2, o2 + k * 4 + 3, none⟩ = some (.string q.value) ∧ Below wB.heap.size wB w')) (by kernel_rfl) ?_ (fun hS0 => ?_)
            · exact KS.out _ (Below.refl _ _).drew
            refine wpAnyH_take (i := 0) (oi := { dst := some 14, op := Op.move (Operand.tmp 6), type := 3, pos := "ref.go:14", after := #[], guard := none }) (v := ?_) rfl (by kernel_rfl) (by kernel_rfl) (by kernel_rfl) (fun _ _ _ h => h) (Or.inl ⟨by rfl, ?hy1⟩) (by assumption) ?_
            case hy1 => (intro w hSw; (try dsimp only at hSw); go_simp; try with_reducible rfl)
            (try simp only [Act.put, List.setIfInBounds_toArray, List.set_cons_zero, List.set_cons_succ])
            refine wpAnyH_take (i := 1) (oi := { dst := some 15, op := Op.move (Operand.tmp 0), type := 22, pos := "ref.go:14", after := #[], guard := none }) (v := ?_) rfl (by kernel_rfl) (by kernel_rfl) (by kernel_rfl) (fun _ _ _ h => h) (Or.inl ⟨by rfl, ?hy2⟩) (by assumption) ?_
            case hy2 => (intro w hSw; (try dsimp only at hSw); go_simp; try with_reducible rfl)
            (try simp only [Act.put, List.setIfInBounds_toArray, List.set_cons_zero, List.set_cons_succ])
            refine wpAnyH_take (i := 2) (oi := { dst := some 16, op := Op.call { callee := Callee.builtin Builtin.len, args := #[Operand.tmp 15], argTypes := #[22] }, type := 3, pos := "ref.go:14", after := #[{ on := 1, ground := Ground.data }], guard := none }) (v := ?_) rfl (by kernel_rfl) (by kernel_rfl) (by kernel_rfl) (fun _ _ _ h => h) (Or.inl ⟨by rfl, ?hy3⟩) (by assumption) ?_
            case hy3 => (intro w hSw; (try dsimp only at hSw); go_simp; try with_reducible rfl)
            (try simp only [Act.put, List.setIfInBounds_toArray, List.set_cons_zero, List.set_cons_succ])
            refine wpAnyH_take (i := 3) (oi := { dst := some 17, op := Op.binOp BinOp.lss 3 (Operand.tmp 14) (Operand.tmp 16) 3, type := 4, pos := "ref.go:14", after := #[{ on := 0, ground := Ground.data }, { on := 2, ground := Ground.data }], guard := none }) (v := ?_) rfl (by kernel_rfl) (by kernel_rfl) (by kernel_rfl) (fun _ _ _ h => h) (Or.inl ⟨by rfl, ?hy4⟩) (by assumption) ?_
            case hy4 => (intro w hSw; (try dsimp only at hSw); go_simp; try with_reducible rfl)
            (try simp only [Act.put, List.setIfInBounds_toArray, List.set_cons_zero, List.set_cons_succ])
            refine wpAnyH_take (i := 4) (oi := { dst := some 18, op := Op.move (Operand.tmp 17), type := 4, pos := "ref.go:14", after := #[{ on := 3, ground := Ground.data }], guard := none }) (v := ?_) rfl (by kernel_rfl) (by kernel_rfl) (by kernel_rfl) (fun _ _ _ h => h) (Or.inl ⟨by rfl, ?hy5⟩) (by assumption) ?_
            case hy5 => (intro w hSw; (try dsimp only at hSw); go_simp; try with_reducible rfl)
            (try simp only [Act.put, List.setIfInBounds_toArray, List.set_cons_zero, List.set_cons_succ])
            refine wpAnyH_take (i := 5) (oi := { dst := some 19, op := Op.move (Operand.tmp 0), type := 22, pos := "ref.go:14", after := #[{ on := 4, ground := Ground.guard }], guard := some (4, true) }) (v := ?_) rfl (by kernel_rfl) (by kernel_rfl) (by kernel_rfl) (fun _ _ _ h => h) (Or.inl ⟨by rfl, ?hy6⟩) (by assumption) ?_
            case hy6 => (intro w hSw; (try dsimp only at hSw); go_simp; try with_reducible rfl)
            (try simp only [Act.put, List.setIfInBounds_toArray, List.set_cons_zero, List.set_cons_succ])
            refine wpAnyH_take (i := 6) (oi := { dst := some 20, op := Op.move (Operand.tmp 6), type := 3, pos := "ref.go:14", after := #[{ on := 4, ground := Ground.guard }], guard := some (4, true) }) (v := ?_) rfl (by kernel_rfl) (by kernel_rfl) (by kernel_rfl) (fun _ _ _ h => h) (Or.inl ⟨by rfl, ?hy7⟩) (by assumption) ?_
            case hy7 => (intro w hSw; (try dsimp only at hSw); go_simp; try with_reducible rfl)
            (try simp only [Act.put, List.setIfInBounds_toArray, List.set_cons_zero, List.set_cons_succ])
            refine wpAnyH_take (i := 7) (oi := { dst := some 21, op := Op.indexAddr 22 (Operand.tmp 19) (Operand.tmp 20), type := 0, pos := "ref.go:14", after := #[{ on := 5, ground := Ground.data }, { on := 6, ground := Ground.data }, { on := 4, ground := Ground.guard }], guard := some (4, true) }) (v := ?_) rfl (by kernel_rfl) (by kernel_rfl) (by kernel_rfl) (fun _ _ _ h => h) (Or.inl ⟨by rfl, ?hy8⟩) (by assumption) ?_
            case hy8 => (intro w hSw; (try dsimp only at hSw); go_simp; try with_reducible rfl)
            (try simp only [Act.put, List.setIfInBounds_toArray, List.set_cons_zero, List.set_cons_succ])
            refine wpAnyH_take (i := 8) (oi := { dst := some 22, op := Op.load 33 (Operand.tmp 21), type := 33, pos := "ref.go:14", after := #[{ on := 7, ground := Ground.data }, { on := 4, ground := Ground.guard }], guard := some (4, true) }) (v := ?_) rfl (by kernel_rfl) (by kernel_rfl) (by kernel_rfl) (fun _ _ _ h => h) (Or.inl ⟨by rfl, ?hy9⟩) (by assumption) ?_
            case hy9 => (intro w hSw; (try dsimp only at hSw); go_simp; try with_reducible rfl)
            (try simp only [Act.put, List.setIfInBounds_toArray, List.set_cons_zero, List.set_cons_succ])
            refine wpAnyH_take (i := 9) (oi := { dst := some 23, op := Op.move (Operand.tmp 1), type := 22, pos := "ref.go:14", after := #[{ on := 4, ground := Ground.guard }], guard := some (4, true) }) (v := ?_) rfl (by kernel_rfl) (by kernel_rfl) (by kernel_rfl) (fun _ _ _ h => h) (Or.inl ⟨by rfl, ?hy10⟩) (by assumption) ?_
            case hy10 => (intro w hSw; (try dsimp only at hSw); go_simp; try with_reducible rfl)
            (try simp only [Act.put, List.setIfInBounds_toArray, List.set_cons_zero, List.set_cons_succ])
            refine wpAnyH_take (i := 10) (oi := { dst := some 24, op := Op.move (Operand.tmp 7), type := 3, pos := "ref.go:14", after := #[{ on := 4, ground := Ground.guard }], guard := some (4, true) }) (v := ?_) rfl (by kernel_rfl) (by kernel_rfl) (by kernel_rfl) (fun _ _ _ h => h) (Or.inl ⟨by rfl, ?hy11⟩) (by assumption) ?_
            case hy11 => (intro w hSw; (try dsimp only at hSw); go_simp; try with_reducible rfl)
            (try simp only [Act.put, List.setIfInBounds_toArray, List.set_cons_zero, List.set_cons_succ])
            refine wpAnyH_take (i := 11) (oi := { dst := some 25, op := Op.indexAddr 22 (Operand.tmp 23) (Operand.tmp 24), type := 0, pos := "ref.go:14", after := #[{ on := 9, ground := Ground.data }, { on := 10, ground := Ground.data }, { on := 4, ground := Ground.guard }], guard := some (4, true) }) (v := ?_) rfl (by kernel_rfl) (by kernel_rfl) (by kernel_rfl) (fun _ _ _ h => h) (Or.inl ⟨by rfl, ?hy12⟩) (by assumption) ?_
            case hy12 => (intro w hSw; (try dsimp only at hSw); go_simp; try with_reducible rfl)
            (try simp only [Act.put, List.setIfInBounds_toArray, List.set_cons_zero, List.set_cons_succ])
            refine wpAnyH_take (i := 12) (oi := { dst := some 26, op := Op.load 33 (Operand.tmp 25), type := 33, pos := "ref.go:14", after := #[{ on := 11, ground := Ground.data }, { on := 4, ground := Ground.guard }], guard := some (4, true) }) (v := ?_) rfl (by kernel_rfl) (by kernel_rfl) (by kernel_rfl) (fun _ _ _ h => h) (Or.inl ⟨by rfl, ?hy13⟩) (by assumption) ?_
            case hy13 => (intro w hSw; (try dsimp only at hSw); go_simp; try with_reducible rfl)
            (try simp only [Act.put, List.setIfInBounds_toArray, List.set_cons_zero, List.set_cons_succ])
            refine wpAnyH_ready (rs := [13]) (by kernel_rfl) (by simp) (AllReadyH.cons (o := { dst := some 27, op := Op.call { callee := Callee.value (Operand.func 52), args := #[Operand.tmp 22, Operand.tmp 26], argTypes := #[33, 33] }, type := 4, pos := "ref.go:14", after := #[{ on := 8, ground := Ground.data }, { on := 12, ground := Ground.data }, { on := 4, ground := Ground.chain }, { on := 4, ground := Ground.guard }], guard := some (4, true) }) rfl (fun K hK => ?_) AllReadyH.nil)
            go_simp
            refine (ahead_at p q _ hxo hyo).mono ?_
            rintro _ wx ⟨rfl, hbx⟩
            rw [HTB.out]
            (try dsimp only)
            refine Shut.out hK _ _ ?_ (fun hS13 => ?_)
            · exact KS.out _ (hS0.2.2.2.2.2.2.2.2.trans (hbx.mono hS0.2.2.2.2.2.2.2.2.size))
            clear hK K
            (try simp only [Act.put, List.setIfInBounds_toArray, List.set_cons_zero, List.set_cons_succ])
            refine wpAnyH_take (i := 14) (oi := { dst := some 28, op := Op.pick (Operand.tmp 18) (Operand.tmp 27) (Operand.const (Value.bool false)), type := 4, pos := "ref.go:14", after := #[{ on := 4, ground := Ground.data }, { on := 13, ground := Ground.data }], guard := none }) (v := ?_) rfl (by kernel_rfl) (by kernel_rfl) (by kernel_rfl) (fun _ _ _ h => h) (Or.inl ⟨by rfl, ?hy14⟩) (by assumption) ?_
            case hy14 => (intro w hSw; (try dsimp only at hSw); go_simp; try with_reducible rfl)
            (try simp only [Act.put, List.setIfInBounds_toArray, List.set_cons_zero, List.set_cons_succ])
            refine wpAnyH_done (by kernel_rfl) ?_ _
            go_wp2
            go_meet
            case rel => exact ⟨rfl, hS13.2.2.2.2.2.2.2.2⟩
          case rest =>
            obtain ⟨rfl, hbx⟩ := hcut
            obtain ⟨g0, g1, g2, g3, h0, h1, h2, h3, _⟩ := KS.out _ hbx
            have HO2 := Lib.hid (HO.out.later hbx)
            have HB2 := Lib.hid (HBR.out.trans (hbx.mono hKw))
            have hKw2 : K ≤ wc.heap.size := by have := HB2.out.size; rw [HK.out] at this; exact this
            clear e0 e1 e2 e3 f0 f1 f2 f3 hbx
            cases tb with
            | true =>
              have HT2 : Hid ((out ++ [p]) ++ twoR (x.drop (i + 1)) (y.drop k) = twoR x y) := Lib.hid (by
                have := HT.out
                rw [HDX.out, HDY.out, twoR_ahead p _ q _ HTB.out] at this
                rw [HDY.out, ← this]; simp)
              have hlo : out.length + 1 ≤ 2932031007402 := by
                have h1 := congrArg List.length HT2.out
                rw [List.length_append, List.length_append] at h1
                simp only [List.length_cons, List.length_nil] at h1
                have := HLEN.out
                omega
              have HXO := Lib.hid hxo
              clear HT KS
              go_wp2_with (at_builtin; refine app_ent2 _ rfl _ _ 22 rfl Try.underlying22 Try.infoE rfl rfl (HO2.out.later ((Below.refl _ _).alloc (Nat.le_refl _) _)) (e := p) rfl (heap_at' (by simp)) HXO.out hlo (Nat.le_trans hKw2 (by simp)) ?_; intro v' w5 hown5 hb5)
              exact ⟨⟨i + 1, out ++ [p], by omega, by go_num, Lib.hid hown5, HT2, HB2.out.trans ((((Below.refl wc.heap.size wc).alloc (Nat.le_refl _) _).mono hKw2).trans hb5)⟩, by simp [intOf]; omega⟩
            | false =>
              have HTN : Hid (out ++ ((if (p.user.toList == q.user.toList && p.seq == q.seq) = true then [] else [q]) ++ twoR (x.drop i) (y.drop (k + 1))) = twoR x y) := Lib.hid (by
                have := HT.out
                rw [HDY.out, twoR_not _ q _ (fun e t h => by rw [HDX.out] at h; cases h; exact HTB.out), HDX.out] at this
                rw [HDX.out]; exact this)
              have hil0 : ((i : Int) == (x.length : Int)) = false := by simp; omega
              cases hu : (p.user.toList == q.user.toList) with
              | false =>
                have HNK : Hid ((if (p.user.toList == q.user.toList && p.seq == q.seq) = true then [] else [q]) = [q]) := Lib.hid (by rw [hu]; simp)
                have HT2 : Hid ((out ++ [q]) ++ twoR (x.drop i) (y.drop (k + 1)) = twoR x y) := Lib.hid (by
                  have := HTN.out
                  rw [HNK.out] at this
                  rw [← this]; simp)
                have hlo : out.length + 1 ≤ 2932031007402 := by
                  have h1 := congrArg List.length HT2.out
                  rw [List.length_append, List.length_append] at h1
                  simp only [List.length_cons, List.length_nil] at h1
                  have := HLEN.out
                  omega
                have HYO := Lib.hid hyo
                clear HTN HNK HT KS
                go_wp2
                go_quiet (fail)
                go_wp2_with (at_builtin; refine app_ent2 _ rfl _ _ 22 rfl Try.underlying22 Try.infoE rfl rfl (HO2.out.later ((below_drewN (Below.refl _ _) _).alloc (by simp [World.drewN]) _)) (e := q) rfl (heap_at' (by simp)) HYO.out hlo (Nat.le_trans hKw2 (by simp [World.drewN])) ?_; intro v' w5 hown5 hb5)
                exact ⟨⟨i, k + 1, out ++ [q], by omega, by omega, rfl, by go_num, Lib.hid hown5, HT2, HB2.out.trans ((((below_drewN (Below.refl wc.heap.size wc) _).alloc (by simp [World.drewN]) _).mono hKw2).trans hb5)⟩, by simp [intOf]; omega⟩
              | true =>
                by_cases hq : p.seq = q.seq
                · have hs : ((p.seq : Int) == (q.seq : Int)) = true := by simp; omega
                  have HT2 : Hid (out ++ twoR (x.drop i) (y.drop (k + 1)) = twoR x y) := Lib.hid (by
                    have := HTN.out
                    rw [hu, hq] at this
                    simpa using this)
                  clear HTN HT KS hq
                  go_wp2
                  go_quiet (fail)
                  go_wp2
                  exact ⟨⟨i, k + 1, out, by omega, by omega, rfl, by go_num, Lib.hid (HO2.out.later (below_drewN (Below.refl _ _) _)), HT2, below_drewN HB2.out _⟩, by simp [intOf]; omega⟩
                · have hs : ((p.seq : Int) == (q.seq : Int)) = false := by simp; omega
                  have HNK : Hid ((if (p.user.toList == q.user.toList && p.seq == q.seq) = true then [] else [q]) = [q]) := Lib.hid (by rw [hu]; simp [hq])
                  clear hq
                  have HT2 : Hid ((out ++ [q]) ++ twoR (x.drop i) (y.drop (k + 1)) = twoR x y) := Lib.hid (by
                    have := HTN.out
                    rw [HNK.out] at this
                    rw [← this]; simp)
                  have hlo : out.length + 1 ≤ 2932031007402 := by
                    have h1 := congrArg List.length HT2.out
                    rw [List.length_append, List.length_append] at h1
                    simp only [List.length_cons, List.length_nil] at h1
                    have := HLEN.out
                    omega
                  have HYO := Lib.hid hyo
                  clear HTN HNK HT KS
                  go_wp2
                  go_quiet (fail)
                  go_wp2_with (at_builtin; refine app_ent2 _ rfl _ _ 22 rfl Try.underlying22 Try.infoE rfl rfl (HO2.out.later ((below_drewN (Below.refl _ _) _).alloc (by simp [World.drewN]) _)) (e := q) rfl (heap_at' (by simp)) HYO.out hlo (Nat.le_trans hKw2 (by simp [World.drewN])) ?_; intro v' w5 hown5 hb5)
                  exact ⟨⟨i, k + 1, out ++ [q], by omega, by omega, rfl, by go_num, Lib.hid hown5, HT2, HB2.out.trans ((((below_drewN (Below.refl wc.heap.size wc) _).alloc (by simp [World.drewN]) _).mono hKw2).trans hb5)⟩, by simp [intOf]; omega⟩
        · obtain rfl : i = x.length := by omega
          have HDY : Hid (y.drop k = y[k] :: y.drop (k + 1)) := Lib.hid (List.drop_eq_getElem_cons hlt)
          generalize y[k] = q at *
          have HT2 : Hid ((out ++ [q]) ++ twoR (x.drop x.length) (y.drop (k + 1)) = twoR x y) := Lib.hid (by
            have := HT.out
            rw [HDY.out, List.drop_length, twoR_not [] q _ (fun e t h => by cases h)] at this
            rw [List.drop_length, ← this]; simp [headK])
          have hlo : out.length + 1 ≤ 2932031007402 := by
            have h1 := congrArg List.length HT2.out
            rw [List.length_append, List.length_append] at h1
            simp only [List.length_cons, List.length_nil] at h1
            have := HLEN.out
            omega
          have HYO := Lib.hid hyo
          clear HT
          go_wp2
          go_quiet (fail)
          go_wp2
          go_quiet (fail)
          go_wp2_with (at_builtin; refine app_ent2 _ rfl _ _ 22 rfl Try.underlying22 Try.infoE rfl rfl (HO.out.later ((below_drewN (Below.refl _ _) _).alloc (by simp [World.drewN]) _)) (e := q) rfl (heap_at' (by simp)) HYO.out hlo (Nat.le_trans hKw (by simp [World.drewN])) ?_; intro v' w5 hown5 hb5)
          exact ⟨⟨x.length, k + 1, out ++ [q], by omega, by omega, rfl, by go_num, Lib.hid hown5, HT2, HBR.out.trans ((((below_drewN (Below.refl wB.heap.size wB) _).alloc (by simp [World.drewN]) _).mono hKw).trans hb5)⟩, by simp [intOf]; omega⟩
    · obtain rfl : k = y.length := by omega
      have HT' : Hid (out ++ x.drop i = twoR x y) := Lib.hid (by have := HT.out; rw [List.drop_length] at this; exact this)
      obtain ⟨i0, hi0, hz0⟩ : ∃ i0, Try.prog.info? 33 = some i0 ∧ i0.size = 4 := by
        obtain ⟨i0, hi0, _, hz1, _⟩ := info_parts Try.infoE
        exact ⟨i0, hi0, hz1⟩
      have hcut : ∀ w : World, (Instr.slice 22 (.slice a1 x.length c1) (some (.int .i64 (i : Nat))) none none).run Try.prog w = .ok (.slice (cutFrom a1 c1 i 4) (x.length - i) (c1 - i)) w := fun w => by
        have := run_cut_from (P := Try.prog) Try.underlying22 hi0 a1 x.length c1 i .i64 hi w
        rw [hz0] at this
        exact this
      have hlo : out.length + (x.drop i).length ≤ 2932031007402 := by
        have h1 := congrArg List.length HT'.out
        rw [List.length_append] at h1
        have := HLEN.out
        omega
      have hKw : K ≤ wA.heap.size := by have := hwr.size; rw [HK.out] at this; exact this
      have HXD : Hid (Ents wA (cutFrom a1 c1 i 4) (x.drop i)) := Lib.hid ((HX.out.below (by rw [HK.out]; exact hwr)).drop hl1 i)
      have HDL : Hid ((x.drop i).length = x.length - i) := Lib.hid (by simp)
      clear hi0 hz0 HT
      go_wp2_with (at_builtin; refine app_ents3 _ rfl _ _ 22 rfl Try.underlying22 Try.infoE rfl rfl HO.out HDL.out rfl HXD.out hlo hKw ?_; intro v' w5 hown5 hb5)
      go_ret
      exact ⟨_, rfl, by rw [← HT'.out]; exact hown5, hwr.trans hb5⟩
end Go.Proofs.Ythgbmijgoaihcaa

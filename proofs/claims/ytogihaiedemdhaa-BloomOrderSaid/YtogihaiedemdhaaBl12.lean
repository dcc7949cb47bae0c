/-
  BloomOrder.
-/
import Derived.Test.YtogihaiedemdhaaBl9
import Derived.Test.YtogihaiedemdhaaBlQ
import Derived.Laws.AppendOwnNone
import Derived.Deep.DeepCutAuto
import Derived.Deep.CutBlock
namespace Go.Proofs.Ytogihaiedemdhaa
open Go.RowKit
set_option linter.unusedVariables false

theorem Try.infoS : (Try.prog.info? 9).map (fun i => (i.zero, i.size, i.bytes)) = some (some (.string ⟨#[]⟩), 1, 16) := by kernel_rfl

set_option maxRecDepth 100000 in
set_option maxHeartbeats 3200000 in
theorem law_order (a : Option Addr) (cap : Nat) (ks : List ByteArray) (b : Int) (w : World) (hcap : ks.length ≤ cap) (hcm : cap ≤ maxLen) (hb : -9223372036854775808 ≤ b ∧ b ≤ 9223372036854775807) (hs : Strs w a ks) :
    Calls Try.prog 8 #[.slice a ks.length cap, .int .i64 b] w fun e w' => e = .returned (.bool true) ∧ Below w.heap.size w w' := by
  have HFW := Lib.hid (fun w => few_any a cap ks w hcap hcm)
  have hsX := hs.take 10000
  have hXl : (ks.take 10000).length ≤ 10000 := by simp; omega
  have hXc : (ks.take 10000).length ≤ cap := by simp; omega
  have hcm' : cap ≤ 9223372036854775807 := by unfold maxLen at hcm; omega
  generalize ks.take 10000 = X at *
  have hXm : ∀ s ∈ X, s.size ≤ maxLen := fun s hs' => by
    obtain ⟨i, hi, rfl⟩ := List.getElem_of_mem hs'
    obtain ⟨_, _, _, _, h⟩ := hsX i hi
    exact h
  have HXm := Lib.hid hXm
  have HS := Lib.hid hsX
  have HMK : Hid (∀ (x : Option Addr) (c : Nat) (Y : List ByteArray) (n : Nat) (w' : World), Y.length = n → n ≤ 10000 → Strs w' x Y → Calls Try.prog 17 #[.slice x n c, .int .i64 b] w' (MadeB w' (mkf Y b))) := Lib.hid (fun x c Y n w' hn h1 h2 => by subst hn; exact make_any x c Y b w' h1 hb h2)
  clear hs hsX hcm hb hXm
  obtain ⟨n, hn⟩ : ∃ n, X.length = n := ⟨_, rfl⟩
  have HN := Lib.hid hn
  rw [hn] at hXl hXc HFW
  clear hn
  go_enter Try.func8, Try.ntmps8
  go_wp2_with (first
    | ((with_reducible refine (shown_any w).mono ?_); rintro _ w1 ⟨rfl, hb1⟩)
    | ((with_reducible refine (HFW.out _).mono ?_); rintro _ _ ⟨rfl, rfl⟩))
  go_loopw [7, 8, 16] (fun v u i wr => ∃ k : Nat, k ≤ n ∧ i = .int .i64 k ∧ Hid (wr.ownsRow w1.heap.size 9 1 v k (cellsS (backTo X k)) ∧ wr.ownsRow w1.heap.size 9 1 u k (cellsS (twiceTo X k)) ∧ Apart v u) ∧ Below w1.heap.size w1 wr) (fun _ _ i _ => n - (intOf i).toNat)
  case atStart => exact ⟨0, by omega, rfl, Lib.hid ⟨World.ownsRow_nil _ _ _ _, World.ownsRow_nil _ _ _ _, fun g hg => by cases hg⟩, Below.refl _ _⟩
  case round =>
    obtain ⟨k, hk, rfl, hown, hwr⟩ := hrel
    have hwB : Below w.heap.size w wr := hb1.trans (hwr.mono hb1.size)
    by_cases hlt : k < n
    · have hk1 : n - 1 - k < X.length := by rw [HN.out]; omega
      have hk2 : k / 2 < X.length := by rw [HN.out]; omega
      have HBT : Hid (backTo X (k + 1) = backTo X k ++ [X[n - 1 - k]]) := Lib.hid (by
        have := backTo_succ X k (by rw [HN.out]; exact hlt)
        simp only [HN.out] at this
        exact this)
      have HTT := Lib.hid (twiceTo_succ X k (by rw [HN.out]; exact hlt))
      obtain ⟨bb, off, rfl, hc1, _⟩ := (HS.out.below hwB) (n - 1 - k) hk1
      obtain ⟨bb', off', e', hc2, _⟩ := (HS.out.below hb1) (k / 2) hk2
      obtain ⟨rfl, rfl⟩ : bb = bb' ∧ off = off' := by cases e'; exact ⟨rfl, rfl⟩
      clear e'
      have hbl : bb < w1.heap.size := cell_lt hc2
      have HS1 : Hid (∀ w', Below w1.heap.size w1 w' → w'.cell? ⟨bb, off + k / 2, none⟩ = some (.string X[k / 2])) := Lib.hid (fun w' h => by rw [h.cell (p := ⟨bb, off + k / 2, none⟩) hbl]; exact hc2)
      clear hc2
      generalize X[k / 2] = s2 at *
      generalize X[n - 1 - k] = s1 at *
      have i1 : (0 : Int) ≤ (n : Int) - 1 - (k : Int) := by omega
      have i2 : (n : Int) - 1 - (k : Int) < (n : Int) := by omega
      have i3 : ((n : Int) - 1 - (k : Int)).toNat = n - 1 - k := by omega
      have i4 : (0 : Int) ≤ (k : Int) / 2 := by omega
      have i5 : (k : Int) / 2 < (n : Int) := by omega
      have i6 : (k : Int) < (n : Int) := by omega
      have hkb : k ≤ 1000000000000 := by omega
      go_wp2_with (first
        | (at_builtin; refine app_cell2 _ rfl _ _ 31 rfl Try.underlying31 Try.infoS rfl (by omega) rfl (hown.out.1.alloc _) rfl (heap_at wr _) rfl hkb (Nat.le_trans hwr.size (by simp)) ?_; intro v4 w4 ho4 hg4 hv4; obtain ⟨hu4, hap4, hb4⟩ := pair_step hown.out.1 hown.out.2.1 hown.out.2.2 hwr.size hg4 hv4; have HO4 := Lib.hid (And.intro ho4 (And.intro hu4 hap4)); have hw4 := hwr.trans hb4; have hc4 := HS1.out w4 hw4; clear hown ho4 hu4 hap4 hg4 hv4)
        | (at_builtin; refine app_cell2 _ rfl _ _ 31 rfl Try.underlying31 Try.infoS rfl (by omega) rfl (HO4.out.2.1.alloc _) rfl (heap_at w4 _) rfl hkb (Nat.le_trans hw4.size (by simp)) ?_; intro v5 w5 ho5 hg5 hv5; obtain ⟨hu5, hap5, hb5⟩ := pair_step HO4.out.2.1 HO4.out.1 HO4.out.2.2.symm hw4.size hg5 hv5; have HO5 := Lib.hid (And.intro hu5 (And.intro ho5 hap5.symm)); have hw5 := hw4.trans hb5; clear ho5 hu5 hap5 hg5 hv5))
      exact ⟨⟨k + 1, by omega, by go_num, by rw [HBT.out, HTT.out, cellsS_snoc, cellsS_snoc]; exact HO5, hw5⟩, by simp [intOf]; omega⟩
    · obtain rfl : k = n := by omega
      have i6 : ¬ (k : Int) < (k : Int) := by omega
      have HBL : Hid ((backTo X k).length = k) := Lib.hid (backTo_length _ _)
      have HTL : Hid ((twiceTo X k).length = k) := Lib.hid (twiceTo_length _ _)
      have hbm : Hid ((∀ s ∈ backTo X k, s.size ≤ maxLen) ∧ (∀ s ∈ twiceTo X k, s.size ≤ maxLen) ∧ ∀ j s, s ∈ halfTo X j → 0 < k → s.size ≤ maxLen) := Lib.hid (by
        refine ⟨fun s h => HXm.out s ((backTo_mem X s).1 (by rw [HN.out]; exact h)), fun s h => ?_, fun j s h h0 => ?_⟩
        · unfold twiceTo at h
          simp only [List.mem_map, List.mem_range] at h
          obtain ⟨i, hi, rfl⟩ := h
          rw [getD_lt _ _ (by rw [HN.out]; omega)]
          exact HXm.out _ (List.getElem_mem _)
        · unfold halfTo at h
          rcases List.mem_append.1 h with h | h
          · exact HXm.out _ (List.mem_of_mem_take h)
          · obtain ⟨_, rfl⟩ := List.mem_replicate.1 h
            rw [getD_lt _ _ (by rw [HN.out]; omega)]
            exact HXm.out _ (List.getElem_mem _))
      obtain ⟨ho7, ho8, ho9⟩ := hown.out
      obtain ⟨x7, c7, hx7, hz7⟩ := strs_owns (l := backTo X k) (by rw [HBL.out]; exact ho7) hbm.out.1
      obtain ⟨x8, c8, hx8, hz8⟩ := strs_owns (l := twiceTo X k) (by rw [HTL.out]; exact ho8) hbm.out.2.1
      rw [HBL.out] at hx7
      rw [HTL.out] at hx8
      subst hx7
      subst hx8
      have HST := Lib.hid (And.intro hz7.2.2 hz8.2.2)
      clear ho7 ho8 ho9 hz7 hz8 hlt hk hown
      obtain ⟨H, hH1, hH2, hH3, hH4⟩ : ∃ H : Nat, ((k : Int) + 1) / 2 = (H : Int) ∧ (H : Int) ≤ (cap : Int) ∧ H ≤ k ∧ Hid ((k + 1) / 2 = H) := ⟨(k + 1) / 2, by omega, by omega, by omega, Lib.hid rfl⟩
      go_upto_region 10 with (fail)
      go_cut [10] (fun v wx => ∃ x c, v = .slice x H c ∧ Hid (wx.ownsRow wr.heap.size 9 1 (.slice x H c) H (cellsS (halfTo X 0))) ∧ Below wr.heap.size wr wx)
      case first =>
        have HE : Hid (halfTo X 0 = X.take H) := Lib.hid (by unfold halfTo; rw [HN.out, hH4.out]; simp)
        have HXH : Hid ((X.take H).length = H) := Lib.hid (by rw [List.length_take, HN.out]; omega)
        by_cases hk0 : H = 0
        · subst hk0
          have hX0 : Hid (cellsS (halfTo X 0) = []) := Lib.hid (by rw [HE.out]; rfl)
          cases a with
          | none =>
            go_wp2
            go_meet
            case rel => exact ⟨_, _, rfl, by rw [hX0.out]; exact World.ownsRow_made (base := wr.heap.size) wr #[] 0 (Nat.le_refl _) (small_len _ (by omega)) rfl, (Below.refl _ _).alloc (Nat.le_refl _) _⟩
          | some x =>
            go_wp2
            go_meet
            case rel => exact ⟨_, _, rfl, by rw [hX0.out]; exact World.ownsRow_made (base := wr.heap.size) wr #[] 0 (Nat.le_refl _) (small_len _ (by omega)) rfl, (Below.refl _ _).alloc (Nat.le_refl _) _⟩
        · have hpos : 0 < H := by omega
          obtain ⟨bb, off, rfl, _⟩ := HS.out 0 (by rw [HN.out]; omega)
          have h0l : 0 + H ≤ 1000000000000 := by omega
          have hsrc := (((HS.out.below hwB).alloc (.cells #[] 9)).take H).news
          go_wp2_with (at_builtin; refine app_many _ rfl _ _ 31 rfl Try.underlying31 Try.infoS rfl (by omega) (K := wr.heap.size) rfl (World.ownsRow_made (base := wr.heap.size) (e := 9) (size := 1) wr #[] 0 (Nat.le_refl _) (small_len _ (by omega)) rfl) (b := bb) (off := off) (m := H) (c := cap) (ys := cellsS (X.take H)) rfl (by rw [cellsS_length, HXH.out]) hsrc (cellsS_one _) hpos h0l (by simp) ?_; intro v3 w3 hown3 hb3 _; rw [List.nil_append, Nat.zero_add] at hown3; obtain ⟨g, c, rfl, hg⟩ := hown3.form hpos; have HO3 := Lib.hid hown3; clear hown3)
          go_meet
          case rel => exact ⟨_, _, rfl, by rw [HE.out]; exact HO3, ((Below.refl _ _).alloc (Nat.le_refl _) _).trans hb3⟩
      case rest =>
        obtain ⟨x, c, rfl, hown, hbc⟩ := hcut
        obtain ⟨wo, hwo⟩ : ∃ wo : World, wo = wr := ⟨_, rfl⟩
        subst hwo
        clear hH1 hH2
        go_wp2
        go_loopw [10] (fun v wj => ∃ (m : Nat) (x : Option Addr) (c : Nat), H ≤ m ∧ m ≤ k ∧ v = .slice x m c ∧ Hid (wj.ownsRow wo.heap.size 9 1 (.slice x m c) m (cellsS (halfTo X (m - H)))) ∧ Below wo.heap.size wo wj) (fun v _ => k - (match v with | .slice _ n _ => n | _ => 0))
        case atStart => exact ⟨H, x, c, Nat.le_refl _, hH3, rfl, by rw [Nat.sub_self]; exact hown, hbc⟩
        case round =>
          obtain ⟨m, x, c, hm1, hm2, rfl, hown2, hwj⟩ := hrel
          have hwC : Below w.heap.size w wr := hwB.trans (hwj.mono hwB.size)
          by_cases hlt : m < k
          · have i7 : (m : Int) < (k : Int) := by omega
            have i8 : (0 : Int) < (k : Int) := by omega
            have hk0 : 0 < X.length := by rw [HN.out]; omega
            obtain ⟨bb, off, rfl, hc0, _⟩ := (HS.out.below hwC) 0 hk0
            rw [Nat.add_zero] at hc0
            have HHS : Hid (cellsS (halfTo X (m + 1 - H)) = cellsS (halfTo X (m - H)) ++ [.string X[0]]) := Lib.hid (by
              rw [show m + 1 - H = (m - H) + 1 by omega, halfTo_succ, cellsS_snoc, getD_lt _ _ hk0])
            generalize X[0] = s0 at *
            have hmb : m ≤ 1000000000000 := by omega
            go_wp2_with (at_builtin; refine app_cell _ rfl _ _ 31 rfl Try.underlying31 Try.infoS rfl (by omega) rfl (hown2.out.alloc _) rfl (heap_at wr _) rfl hmb (Nat.le_trans hwj.size (by simp)) ?_; intro v4 w4 ho4 hb4 _; obtain ⟨g4, c4, rfl, hg4⟩ := ho4.form (by omega); have HO4 := Lib.hid ho4; clear ho4)
            exact ⟨⟨m + 1, _, _, by omega, by omega, rfl, by rw [HHS.out]; exact HO4, hwj.trans (((Below.refl _ _).alloc hwj.size _).trans hb4)⟩, by show k - (m + 1) < k - m; omega⟩
          · obtain rfl : m = k := by omega
            have i7 : ¬ (m : Int) < (m : Int) := by omega
            have HHL : Hid ((halfTo X (m - H)).length = m) := Lib.hid (by rw [halfTo_length, HN.out, hH4.out]; omega)
            have HSH : Hid (Strs wr x (halfTo X (m - H))) := Lib.hid (by
              by_cases h0 : m = 0
              · intro i hi
                rw [HHL.out] at hi
                omega
              · obtain ⟨x', c', e, _, _, hst⟩ := strs_owns (l := halfTo X (m - H)) (by rw [HHL.out]; exact hown2.out) (fun s h => hbm.out.2.2 _ s h (by omega))
                simp only [Value.slice.injEq] at e
                obtain ⟨rfl, _, _⟩ := e
                exact hst)
            have HF2 : Hid (mkf (backTo X m) b = mkf X b) := Lib.hid (by have := mkf_back X b; rwa [HN.out] at this)
            have HF4 : Hid (mkf (halfTo X (m - H)) b = mkf (twiceTo X m) b) := Lib.hid (by have := mkf_half X b; rwa [HN.out, hH4.out] at this)
            have M1 : Hid (∀ w', Below wr.heap.size wr w' → Calls Try.prog 17 #[.slice a m cap, .int .i64 b] w' (MadeB w' (mkf X b))) := Lib.hid (fun w' h => HMK.out a cap X m w' HN.out hXl (HS.out.below (hwC.trans (h.mono hwC.size))))
            have M2 : Hid (∀ w', Below wr.heap.size wr w' → Calls Try.prog 17 #[.slice x7 m c7, .int .i64 b] w' (MadeB w' (mkf X b))) := Lib.hid (fun w' h => by rw [← HF2.out]; exact HMK.out x7 c7 (backTo X m) m w' HBL.out hXl (HST.out.1.below (hwj.trans (h.mono hwj.size))))
            have M3 : Hid (∀ w', Below wr.heap.size wr w' → Calls Try.prog 17 #[.slice x8 m c8, .int .i64 b] w' (MadeB w' (mkf (twiceTo X m) b))) := Lib.hid (fun w' h => HMK.out x8 c8 (twiceTo X m) m w' HTL.out hXl (HST.out.2.below (hwj.trans (h.mono hwj.size))))
            have M4 : Hid (∀ w', Below wr.heap.size wr w' → Calls Try.prog 17 #[.slice x m c, .int .i64 b] w' (MadeB w' (mkf (twiceTo X m) b))) := Lib.hid (fun w' h => by rw [← HF4.out]; exact HMK.out x c (halfTo X (m - H)) m w' HHL.out hXl (HSH.out.below h))
            have hF1 := mkf_pos X b
            have hF2 := mkf_pos (twiceTo X m) b
            clear HF2 HF4 HMK
            generalize mkf X b = F1 at *
            generalize mkf (twiceTo X m) b = F2 at *
            clear hown hown2 HSH hbm HST HHL HBL HTL HXm
            go_wp2
            refine wp_region_held_drew (S := (fun w' => Below wr.heap.size wr w')) (by kernel_rfl) ?_ (fun hS0 => ?_)
            · exact (Below.refl _ _).drew
            refine wpAnyH_take (i := 0) (oi := { dst := some 58, op := Op.move (Operand.tmp 5), type := 4, pos := "law.go:72", after := #[], guard := none }) (v := ?_) rfl (by kernel_rfl) (by kernel_rfl) (by kernel_rfl) (fun _ _ _ h => h) (Or.inl ⟨by rfl, ?hy1⟩) (by assumption) ?_
            case hy1 => (intro w hSw; (try dsimp only at hSw); go_simp; try with_reducible rfl)
            (try simp only [Act.put, List.setIfInBounds_toArray, List.set_cons_zero, List.set_cons_succ])
            refine wpAnyH_take (i := 1) (oi := { dst := some 59, op := Op.move (Operand.tmp 58), type := 4, pos := "law.go:72", after := #[{ on := 0, ground := Ground.data }], guard := none }) (v := ?_) rfl (by kernel_rfl) (by kernel_rfl) (by kernel_rfl) (fun _ _ _ h => h) (Or.inl ⟨by rfl, ?hy2⟩) (by assumption) ?_
            case hy2 => (intro w hSw; (try dsimp only at hSw); go_simp; try with_reducible rfl)
            (try simp only [Act.put, List.setIfInBounds_toArray, List.set_cons_zero, List.set_cons_succ])
            refine wpAnyH_take (i := 2) (oi := { dst := some 60, op := Op.move (Operand.tmp 6), type := 31, pos := "law.go:72", after := #[{ on := 1, ground := Ground.guard }], guard := some (1, true) }) (v := ?_) rfl (by kernel_rfl) (by kernel_rfl) (by kernel_rfl) (fun _ _ _ h => h) (Or.inl ⟨by rfl, ?hy3⟩) (by assumption) ?_
            case hy3 => (intro w hSw; (try dsimp only at hSw); go_simp; try with_reducible rfl)
            (try simp only [Act.put, List.setIfInBounds_toArray, List.set_cons_zero, List.set_cons_succ])
            refine wpAnyH_take (i := 3) (oi := { dst := some 61, op := Op.move (Operand.tmp 1), type := 3, pos := "law.go:72", after := #[{ on := 1, ground := Ground.guard }], guard := some (1, true) }) (v := ?_) rfl (by kernel_rfl) (by kernel_rfl) (by kernel_rfl) (fun _ _ _ h => h) (Or.inl ⟨by rfl, ?hy4⟩) (by assumption) ?_
            case hy4 => (intro w hSw; (try dsimp only at hSw); go_simp; try with_reducible rfl)
            (try simp only [Act.put, List.setIfInBounds_toArray, List.set_cons_zero, List.set_cons_succ])
            refine wpAnyH_take (i := 6) (oi := { dst := some 64, op := Op.move (Operand.tmp 7), type := 31, pos := "law.go:72", after := #[{ on := 1, ground := Ground.guard }], guard := some (1, true) }) (v := ?_) rfl (by kernel_rfl) (by kernel_rfl) (by kernel_rfl) (fun _ _ _ h => h) (Or.inl ⟨by rfl, ?hy5⟩) (by assumption) ?_
            case hy5 => (intro w hSw; (try dsimp only at hSw); go_simp; try with_reducible rfl)
            (try simp only [Act.put, List.setIfInBounds_toArray, List.set_cons_zero, List.set_cons_succ])
            refine wpAnyH_take (i := 7) (oi := { dst := some 65, op := Op.move (Operand.tmp 1), type := 3, pos := "law.go:72", after := #[{ on := 1, ground := Ground.guard }], guard := some (1, true) }) (v := ?_) rfl (by kernel_rfl) (by kernel_rfl) (by kernel_rfl) (fun _ _ _ h => h) (Or.inl ⟨by rfl, ?hy6⟩) (by assumption) ?_
            case hy6 => (intro w hSw; (try dsimp only at hSw); go_simp; try with_reducible rfl)
            (try simp only [Act.put, List.setIfInBounds_toArray, List.set_cons_zero, List.set_cons_succ])
            refine wpAnyH_ready (rs := [4]) (by kernel_rfl) (by simp) (AllReadyH.cons (o := { dst := some 62, op := Op.call { callee := Callee.value (Operand.func 17), args := #[Operand.tmp 60, Operand.tmp 61], argTypes := #[31, 3] }, type := 32, pos := "law.go:72", after := #[{ on := 2, ground := Ground.data }, { on := 3, ground := Ground.data }, { on := 1, ground := Ground.chain }, { on := 1, ground := Ground.guard }], guard := some (1, true) }) rfl (fun K hK => ?_) AllReadyH.nil)
            go_simp
            refine (M1.out _ hS0).mono ?_
            intro e2 w2 hm2
            obtain ⟨g2, c2, rfl, hl2, hc2, hB2, hb2⟩ := hm2.open hF1
            (try dsimp only)
            refine Shut.out hK _ _ ?_ (fun hS4 => ?_)
            · exact (hS0.trans (hb2.mono hS0.size))
            clear hK K
            (try simp only [Act.put, List.setIfInBounds_toArray, List.set_cons_zero, List.set_cons_succ])
            refine wpAnyH_change (S2 := (fun w' => Below wr.heap.size wr w' ∧ (convert 32 9 (.slice (some ⟨g2, 0, none⟩) F1.length c2)).run Try.prog w' = .ok (.string ⟨F1.toArray⟩) w')) (fun w' h => h.1) _ _ _ _ ?_
            have hT4 := And.intro (hS0.trans (hb2.mono hS0.size)) ((runS_of hB2 : RunS w2 g2 c2 F1))
            refine wpAnyH_take (i := 5) (oi := { dst := some 63, op := Op.convert 32 9 (Operand.tmp 62), type := 9, pos := "law.go:72", after := #[{ on := 4, ground := Ground.data }, { on := 1, ground := Ground.guard }], guard := some (1, true) }) (v := ?_) rfl (by kernel_rfl) (by kernel_rfl) (by kernel_rfl) (fun _ _ _ h => h) (Or.inl ⟨by rfl, ?hy7⟩) (by assumption) ?_
            case hy7 => (intro w hSw; (try dsimp only at hSw); go_simp; try with_reducible rfl)
            (try simp only [Act.put, List.setIfInBounds_toArray, List.set_cons_zero, List.set_cons_succ])
            refine wpAnyH_ready (rs := [8]) (by kernel_rfl) (by simp) (AllReadyH.cons (o := { dst := some 66, op := Op.call { callee := Callee.value (Operand.func 17), args := #[Operand.tmp 64, Operand.tmp 65], argTypes := #[31, 3] }, type := 32, pos := "law.go:72", after := #[{ on := 6, ground := Ground.data }, { on := 7, ground := Ground.data }, { on := 4, ground := Ground.chain }, { on := 1, ground := Ground.guard }], guard := some (1, true) }) rfl (fun K hK => ?_) AllReadyH.nil)
            go_simp
            refine (M2.out _ hT4.1).mono ?_
            intro e3 w3 hm3
            obtain ⟨g3, c3, rfl, hl3, hc3, hB3, hb3⟩ := hm3.open hF1
            (try dsimp only)
            refine Shut.out hK _ _ ?_ (fun hS8 => ?_)
            · exact ⟨(hT4.1.trans (hb3.mono hT4.1.size)), (runS_of (hB2.below hb3) : RunS w3 g2 c2 F1)⟩
            clear hK K
            (try simp only [Act.put, List.setIfInBounds_toArray, List.set_cons_zero, List.set_cons_succ])
            refine wpAnyH_change (S2 := (fun w' => Below wr.heap.size wr w' ∧ (convert 32 9 (.slice (some ⟨g2, 0, none⟩) F1.length c2)).run Try.prog w' = .ok (.string ⟨F1.toArray⟩) w' ∧ (convert 32 9 (.slice (some ⟨g3, 0, none⟩) F1.length c3)).run Try.prog w' = .ok (.string ⟨F1.toArray⟩) w')) (fun w' h => ⟨h.1, h.2.1⟩) _ _ _ _ ?_
            have hT8 := And.intro (hT4.1.trans (hb3.mono hT4.1.size)) (And.intro (runS_of (hB2.below hb3) : RunS w3 g2 c2 F1) ((runS_of hB3 : RunS w3 g3 c3 F1)))
            refine wpAnyH_take (i := 9) (oi := { dst := some 67, op := Op.convert 32 9 (Operand.tmp 66), type := 9, pos := "law.go:72", after := #[{ on := 8, ground := Ground.data }, { on := 1, ground := Ground.guard }], guard := some (1, true) }) (v := ?_) rfl (by kernel_rfl) (by kernel_rfl) (by kernel_rfl) (fun _ _ _ h => h) (Or.inl ⟨by rfl, ?hy8⟩) (by assumption) ?_
            case hy8 => (intro w hSw; (try dsimp only at hSw); go_simp; try with_reducible rfl)
            (try simp only [Act.put, List.setIfInBounds_toArray, List.set_cons_zero, List.set_cons_succ])
            refine wpAnyH_take (i := 10) (oi := { dst := some 68, op := Op.binOp BinOp.eql 9 (Operand.tmp 63) (Operand.tmp 67) 9, type := 4, pos := "law.go:72", after := #[{ on := 5, ground := Ground.data }, { on := 9, ground := Ground.data }, { on := 1, ground := Ground.guard }], guard := some (1, true) }) (v := ?_) rfl (by kernel_rfl) (by kernel_rfl) (by kernel_rfl) (fun _ _ _ h => h) (Or.inl ⟨by rfl, ?hy9⟩) (by assumption) ?_
            case hy9 => (intro w hSw; (try dsimp only at hSw); go_simp; try with_reducible rfl)
            (try simp only [Act.put, List.setIfInBounds_toArray, List.set_cons_zero, List.set_cons_succ])
            refine wpAnyH_take (i := 11) (oi := { dst := some 69, op := Op.pick (Operand.tmp 59) (Operand.tmp 68) (Operand.const (Value.bool false)), type := 4, pos := "law.go:72", after := #[{ on := 1, ground := Ground.data }, { on := 10, ground := Ground.data }], guard := none }) (v := ?_) rfl (by kernel_rfl) (by kernel_rfl) (by kernel_rfl) (fun _ _ _ h => h) (Or.inl ⟨by rfl, ?hy10⟩) (by assumption) ?_
            case hy10 => (intro w hSw; (try dsimp only at hSw); go_simp; try with_reducible rfl)
            (try simp only [Act.put, List.setIfInBounds_toArray, List.set_cons_zero, List.set_cons_succ])
            refine wpAnyH_take (i := 12) (oi := { dst := some 70, op := Op.move (Operand.tmp 69), type := 4, pos := "law.go:72", after := #[{ on := 11, ground := Ground.data }, { on := 8, ground := Ground.chain }], guard := none }) (v := ?_) rfl (by kernel_rfl) (by kernel_rfl) (by kernel_rfl) (fun _ _ _ h => h) (Or.inl ⟨by rfl, ?hy11⟩) (by assumption) ?_
            case hy11 => (intro w hSw; (try dsimp only at hSw); go_simp; try with_reducible rfl)
            (try simp only [Act.put, List.setIfInBounds_toArray, List.set_cons_zero, List.set_cons_succ])
            refine wpAnyH_take (i := 13) (oi := { dst := some 71, op := Op.move (Operand.tmp 8), type := 31, pos := "law.go:72", after := #[{ on := 12, ground := Ground.guard }], guard := some (12, true) }) (v := ?_) rfl (by kernel_rfl) (by kernel_rfl) (by kernel_rfl) (fun _ _ _ h => h) (Or.inl ⟨by rfl, ?hy12⟩) (by assumption) ?_
            case hy12 => (intro w hSw; (try dsimp only at hSw); go_simp; try with_reducible rfl)
            (try simp only [Act.put, List.setIfInBounds_toArray, List.set_cons_zero, List.set_cons_succ])
            refine wpAnyH_take (i := 14) (oi := { dst := some 72, op := Op.move (Operand.tmp 1), type := 3, pos := "law.go:72", after := #[{ on := 12, ground := Ground.guard }], guard := some (12, true) }) (v := ?_) rfl (by kernel_rfl) (by kernel_rfl) (by kernel_rfl) (fun _ _ _ h => h) (Or.inl ⟨by rfl, ?hy13⟩) (by assumption) ?_
            case hy13 => (intro w hSw; (try dsimp only at hSw); go_simp; try with_reducible rfl)
            (try simp only [Act.put, List.setIfInBounds_toArray, List.set_cons_zero, List.set_cons_succ])
            refine wpAnyH_take (i := 17) (oi := { dst := some 75, op := Op.move (Operand.tmp 10), type := 31, pos := "law.go:72", after := #[{ on := 12, ground := Ground.guard }], guard := some (12, true) }) (v := ?_) rfl (by kernel_rfl) (by kernel_rfl) (by kernel_rfl) (fun _ _ _ h => h) (Or.inl ⟨by rfl, ?hy14⟩) (by assumption) ?_
            case hy14 => (intro w hSw; (try dsimp only at hSw); go_simp; try with_reducible rfl)
            (try simp only [Act.put, List.setIfInBounds_toArray, List.set_cons_zero, List.set_cons_succ])
            refine wpAnyH_take (i := 18) (oi := { dst := some 76, op := Op.move (Operand.tmp 1), type := 3, pos := "law.go:72", after := #[{ on := 12, ground := Ground.guard }], guard := some (12, true) }) (v := ?_) rfl (by kernel_rfl) (by kernel_rfl) (by kernel_rfl) (fun _ _ _ h => h) (Or.inl ⟨by rfl, ?hy15⟩) (by assumption) ?_
            case hy15 => (intro w hSw; (try dsimp only at hSw); go_simp; try with_reducible rfl)
            (try simp only [Act.put, List.setIfInBounds_toArray, List.set_cons_zero, List.set_cons_succ])
            refine wpAnyH_ready (rs := [15]) (by kernel_rfl) (by simp) (AllReadyH.cons (o := { dst := some 73, op := Op.call { callee := Callee.value (Operand.func 17), args := #[Operand.tmp 71, Operand.tmp 72], argTypes := #[31, 3] }, type := 32, pos := "law.go:72", after := #[{ on := 13, ground := Ground.data }, { on := 14, ground := Ground.data }, { on := 12, ground := Ground.chain }, { on := 12, ground := Ground.guard }], guard := some (12, true) }) rfl (fun K hK => ?_) AllReadyH.nil)
            go_simp
            refine (M3.out _ hT8.1).mono ?_
            intro e4 w4 hm4
            obtain ⟨g4, c4, rfl, hl4, hc4, hB4, hb4⟩ := hm4.open hF2
            (try dsimp only)
            refine Shut.out hK _ _ ?_ (fun hS15 => ?_)
            · exact ⟨(hT8.1.trans (hb4.mono hT8.1.size)), (runS_of ((hB2.below hb3).below hb4) : RunS w4 g2 c2 F1), (runS_of (hB3.below hb4) : RunS w4 g3 c3 F1)⟩
            clear hK K
            (try simp only [Act.put, List.setIfInBounds_toArray, List.set_cons_zero, List.set_cons_succ])
            refine wpAnyH_change (S2 := (fun w' => Below wr.heap.size wr w' ∧ (convert 32 9 (.slice (some ⟨g2, 0, none⟩) F1.length c2)).run Try.prog w' = .ok (.string ⟨F1.toArray⟩) w' ∧ (convert 32 9 (.slice (some ⟨g3, 0, none⟩) F1.length c3)).run Try.prog w' = .ok (.string ⟨F1.toArray⟩) w' ∧ (convert 32 9 (.slice (some ⟨g4, 0, none⟩) F2.length c4)).run Try.prog w' = .ok (.string ⟨F2.toArray⟩) w')) (fun w' h => ⟨h.1, h.2.1, h.2.2.1⟩) _ _ _ _ ?_
            have hT15 := And.intro (hT8.1.trans (hb4.mono hT8.1.size)) (And.intro (runS_of ((hB2.below hb3).below hb4) : RunS w4 g2 c2 F1) (And.intro (runS_of (hB3.below hb4) : RunS w4 g3 c3 F1) ((runS_of hB4 : RunS w4 g4 c4 F2))))
            refine wpAnyH_take (i := 16) (oi := { dst := some 74, op := Op.convert 32 9 (Operand.tmp 73), type := 9, pos := "law.go:72", after := #[{ on := 15, ground := Ground.data }, { on := 12, ground := Ground.guard }], guard := some (12, true) }) (v := ?_) rfl (by kernel_rfl) (by kernel_rfl) (by kernel_rfl) (fun _ _ _ h => h) (Or.inl ⟨by rfl, ?hy16⟩) (by assumption) ?_
            case hy16 => (intro w hSw; (try dsimp only at hSw); go_simp; try with_reducible rfl)
            (try simp only [Act.put, List.setIfInBounds_toArray, List.set_cons_zero, List.set_cons_succ])
            refine wpAnyH_ready (rs := [19]) (by kernel_rfl) (by simp) (AllReadyH.cons (o := { dst := some 77, op := Op.call { callee := Callee.value (Operand.func 17), args := #[Operand.tmp 75, Operand.tmp 76], argTypes := #[31, 3] }, type := 32, pos := "law.go:72", after := #[{ on := 17, ground := Ground.data }, { on := 18, ground := Ground.data }, { on := 15, ground := Ground.chain }, { on := 12, ground := Ground.guard }], guard := some (12, true) }) rfl (fun K hK => ?_) AllReadyH.nil)
            go_simp
            refine (M4.out _ hT15.1).mono ?_
            intro e5 w5 hm5
            obtain ⟨g5, c5, rfl, hl5, hc5, hB5, hb5⟩ := hm5.open hF2
            (try dsimp only)
            refine Shut.out hK _ _ ?_ (fun hS19 => ?_)
            · exact ⟨(hT15.1.trans (hb5.mono hT15.1.size)), (runS_of (((hB2.below hb3).below hb4).below hb5) : RunS w5 g2 c2 F1), (runS_of ((hB3.below hb4).below hb5) : RunS w5 g3 c3 F1), (runS_of (hB4.below hb5) : RunS w5 g4 c4 F2)⟩
            clear hK K
            (try simp only [Act.put, List.setIfInBounds_toArray, List.set_cons_zero, List.set_cons_succ])
            refine wpAnyH_change (S2 := (fun w' => Below wr.heap.size wr w' ∧ (convert 32 9 (.slice (some ⟨g2, 0, none⟩) F1.length c2)).run Try.prog w' = .ok (.string ⟨F1.toArray⟩) w' ∧ (convert 32 9 (.slice (some ⟨g3, 0, none⟩) F1.length c3)).run Try.prog w' = .ok (.string ⟨F1.toArray⟩) w' ∧ (convert 32 9 (.slice (some ⟨g4, 0, none⟩) F2.length c4)).run Try.prog w' = .ok (.string ⟨F2.toArray⟩) w' ∧ (convert 32 9 (.slice (some ⟨g5, 0, none⟩) F2.length c5)).run Try.prog w' = .ok (.string ⟨F2.toArray⟩) w')) (fun w' h => ⟨h.1, h.2.1, h.2.2.1, h.2.2.2.1⟩) _ _ _ _ ?_
            have hT19 := And.intro (hT15.1.trans (hb5.mono hT15.1.size)) (And.intro (runS_of (((hB2.below hb3).below hb4).below hb5) : RunS w5 g2 c2 F1) (And.intro (runS_of ((hB3.below hb4).below hb5) : RunS w5 g3 c3 F1) (And.intro (runS_of (hB4.below hb5) : RunS w5 g4 c4 F2) ((runS_of hB5 : RunS w5 g5 c5 F2)))))
            refine wpAnyH_take (i := 20) (oi := { dst := some 78, op := Op.convert 32 9 (Operand.tmp 77), type := 9, pos := "law.go:72", after := #[{ on := 19, ground := Ground.data }, { on := 12, ground := Ground.guard }], guard := some (12, true) }) (v := ?_) rfl (by kernel_rfl) (by kernel_rfl) (by kernel_rfl) (fun _ _ _ h => h) (Or.inl ⟨by rfl, ?hy17⟩) (by assumption) ?_
            case hy17 => (intro w hSw; (try dsimp only at hSw); go_simp; try with_reducible rfl)
            (try simp only [Act.put, List.setIfInBounds_toArray, List.set_cons_zero, List.set_cons_succ])
            refine wpAnyH_take (i := 21) (oi := { dst := some 79, op := Op.binOp BinOp.eql 9 (Operand.tmp 74) (Operand.tmp 78) 9, type := 4, pos := "law.go:72", after := #[{ on := 16, ground := Ground.data }, { on := 20, ground := Ground.data }, { on := 12, ground := Ground.guard }], guard := some (12, true) }) (v := ?_) rfl (by kernel_rfl) (by kernel_rfl) (by kernel_rfl) (fun _ _ _ h => h) (Or.inl ⟨by rfl, ?hy18⟩) (by assumption) ?_
            case hy18 => (intro w hSw; (try dsimp only at hSw); go_simp; try with_reducible rfl)
            (try simp only [Act.put, List.setIfInBounds_toArray, List.set_cons_zero, List.set_cons_succ])
            refine wpAnyH_take (i := 22) (oi := { dst := some 80, op := Op.pick (Operand.tmp 70) (Operand.tmp 79) (Operand.const (Value.bool false)), type := 4, pos := "law.go:72", after := #[{ on := 12, ground := Ground.data }, { on := 21, ground := Ground.data }], guard := none }) (v := ?_) rfl (by kernel_rfl) (by kernel_rfl) (by kernel_rfl) (fun _ _ _ h => h) (Or.inl ⟨by rfl, ?hy19⟩) (by assumption) ?_
            case hy19 => (intro w hSw; (try dsimp only at hSw); go_simp; try with_reducible rfl)
            (try simp only [Act.put, List.setIfInBounds_toArray, List.set_cons_zero, List.set_cons_succ])
            refine wpAnyH_take (i := 23) (oi := { dst := some 4, op := Op.assign (Operand.tmp 80), type := 4, pos := "law.go:72", after := #[{ on := 22, ground := Ground.data }, { on := 19, ground := Ground.chain }, { on := 0, ground := Ground.phase }, { on := 1, ground := Ground.phase }, { on := 2, ground := Ground.phase }, { on := 3, ground := Ground.phase }, { on := 4, ground := Ground.phase }, { on := 5, ground := Ground.phase }, { on := 6, ground := Ground.phase }, { on := 7, ground := Ground.phase }, { on := 8, ground := Ground.phase }, { on := 9, ground := Ground.phase }, { on := 10, ground := Ground.phase }, { on := 11, ground := Ground.phase }, { on := 12, ground := Ground.phase }, { on := 13, ground := Ground.phase }, { on := 14, ground := Ground.phase }, { on := 15, ground := Ground.phase }, { on := 16, ground := Ground.phase }, { on := 17, ground := Ground.phase }, { on := 18, ground := Ground.phase }, { on := 19, ground := Ground.phase }, { on := 20, ground := Ground.phase }, { on := 21, ground := Ground.phase }, { on := 22, ground := Ground.phase }], guard := none }) (v := ?_) rfl (by kernel_rfl) (by kernel_rfl) (by kernel_rfl) (fun _ _ _ h => h) (Or.inl ⟨by rfl, ?hy20⟩) (by assumption) ?_
            case hy20 => (intro w hSw; (try dsimp only at hSw); go_simp; try with_reducible rfl)
            (try simp only [Act.put, List.setIfInBounds_toArray, List.set_cons_zero, List.set_cons_succ])
            refine wpAnyH_done (by kernel_rfl) ?_ _
            all_goals
              go_wp2
              go_ret
              exact ⟨rfl, hwC.trans (hT19.1.mono hwC.size)⟩
end Go.Proofs.Ytogihaiedemdhaa

/-
  The law that lists put together in whichever brackets are the same.
-/
import Derived.Test.YthgbmijgoaihcaaSo10
import Derived.Test.YthgbmijgoaihcaaMg15
import Derived.Test.YthgbmijgoaihcaaMg30
import Derived.Test.YthgbmijgoaihcaaMgRows
namespace Go.Proofs.Ythgbmijgoaihcaa
open Go.RowKit
set_option linter.unusedVariables false

theorem isMerge_bad2 (ls : List (List Ent)) (m : List Ent) (h : ¬ ls.all rises = true) (hm : IsMerge ls m) : m = [] := by
  unfold IsMerge at hm
  rw [if_neg h] at hm
  exact hm
set_option maxRecDepth 100000 in
set_option maxHeartbeats 3200000 in
theorem law_brackets (a0 : Option Addr) (c0 : Nat) (l0 : List Ent) (a1 : Option Addr) (c1 : Nat) (l1 : List Ent) (a2 : Option Addr) (c2 : Nat) (l2 : List Ent) (w : World)
    (h0 : l0.length ≤ c0 ∧ c0 ≤ maxLen ∧ Ents w a0 l0) (h1 : l1.length ≤ c1 ∧ c1 ≤ maxLen ∧ Ents w a1 l1) (h2 : l2.length ≤ c2 ∧ c2 ≤ maxLen ∧ Ents w a2 l2) :
    Calls Try.prog 12 #[.agg #[.slice a0 l0.length c0, .slice a1 l1.length c1, .slice a2 l2.length c2]] w fun e w' => e = .returned (.bool true) ∧ Below w.heap.size w w' := by
  have HSH := Lib.hid (fun w' => mshown_any sorts w')
  have HR0 : Hid (RowsOk w [⟨a0, c0, l0⟩, ⟨a1, c1, l1⟩, ⟨a2, c2, l2⟩]) := Lib.hid (fun r hr => by
    simp only [List.mem_cons, List.not_mem_nil, or_false] at hr
    rcases hr with rfl | rfl | rfl
    · exact h0
    · exact h1
    · exact h2)
  clear h0 h1 h2
  have HB0 : Hid (Below w.heap.size w (w.alloc (.cells #[.slice a0 l0.length c0, .slice a1 l1.length c1, .slice a2 l2.length c2] 50))) := Lib.hid ((Below.refl _ _).alloc (Nat.le_refl _) _)
  have HBK : Hid ((w.alloc (.cells #[.slice a0 l0.length c0, .slice a1 l1.length c1, .slice a2 l2.length c2] 50)).heap[w.heap.size]? = some (.cells (([⟨a0, c0, l0⟩, ⟨a1, c1, l1⟩, ⟨a2, c2, l2⟩] : List Row).map Row.val).toArray 50 (0, 0))) := Lib.hid (by rw [heap_at]; rfl)
  have HER : Hid (EntRows (w.alloc (.cells #[.slice a0 l0.length c0, .slice a1 l1.length c1, .slice a2 l2.length c2] 50)) (some ⟨w.heap.size, 0, none⟩) [l0, l1, l2]) := Lib.hid (rows_blk HBK.out (HR0.out.below HB0.out))
  have HFW := Lib.hid (fun w' hb => few20_any (some ⟨w.heap.size, 0, none⟩) 3 [l0, l1, l2] w' (by simp) (by unfold maxLen; decide) hb)
  have HFE : Hid (few20 [l0, l1, l2] = [l0.take 500, l1.take 500, l2.take 500]) := Lib.hid rfl
  have HT : Hid ((l0.take 500).length ≤ 500 ∧ (l1.take 500).length ≤ 500 ∧ (l2.take 500).length ≤ 500) := Lib.hid (by simp only [List.length_take]; omega)
  generalize l0.take 500 = y0 at *
  generalize l1.take 500 = y1 at *
  generalize l2.take 500 = y2 at *
  clear HR0 HBK
  go_enter Try.func12, Try.ntmps12
  go_wp2_with fail
  refine (HSH.out _).mono ?_
  rintro _ w1 ⟨rfl, hb1⟩
  have HB1 := Lib.hid hb1
  have HW1 := Lib.hid (HB0.out.trans (hb1.mono HB0.out.size))
  clear hb1
  go_wp2_with fail
  refine (HFW.out _ (HER.out.below HB1.out)).mono ?_
  rintro _ w2 ⟨v2, rs, rfl, hrs, hrl, hb2⟩
  obtain ⟨y, c, rfl, hy, hyn, _⟩ := hrs.read hb2
  rw [hrl, HFE.out] at hy
  have hrn : rs.length = 3 := by have := congrArg List.length hrl; rw [HFE.out] at this; simpa using this
  have HW2 := Lib.hid (HW1.out.trans (hb2.mono HW1.out.size))
  have HY := Lib.hid hy
  rw [hrn]
  have hm := fun (w' : World) (hb : EntRows w' y [y0, y1, y2]) => merge_any y c [y0, y1, y2] w' (by simp) hb hyn 1500 (by decide) (by have := HT.out; simp; omega)
  have HME : Hid (∀ w', EntRows w' y [y0, y1, y2] → Calls Try.prog 33 #[.slice y 3 c] w' fun e w'' => ∃ v, e = .returned v ∧ Merged w'' w'.heap.size v [y0, y1, y2] ∧ Below w'.heap.size w' w'') := Lib.hid hm
  clear hrs hrl hy hyn hrn hb2 HFW HER HFE hm HB1 HB0
  go_wp2_with fail
  go_loopw [13] (fun kv wr => ∃ k : Nat, k ≤ 3 ∧ kv = .int .i64 k ∧ Hid (([y0, y1, y2].take k).all rises = true) ∧ Hid (Below w2.heap.size w2 wr)) (fun kv _ => 3 - (intOf kv).toNat)
  case atStart => exact ⟨0, by omega, rfl, Lib.hid rfl, Lib.hid (Below.refl _ _)⟩
  case round =>
    obtain ⟨k, hk, rfl, HA, HW⟩ := hrel
    obtain ⟨wA, rfl⟩ : ∃ wA, wA = wr := ⟨_, rfl⟩
    have HYA := Lib.hid (HY.out.below HW.out)
    have HWA := Lib.hid (HW2.out.trans (HW.out.mono HW2.out.size))
    by_cases hlt : k < 3
    · obtain ⟨b, off, x, cx, rfl, hc, hxl, hxm, hx⟩ := HYA.out k hlt
      have hink : (k : Int) < 3 := by omega
      have hk0 : (0 : Int) ≤ (k : Int) := by omega
      have HTK : Hid (([y0, y1, y2].take (k + 1)).all rises = (([y0, y1, y2].take k).all rises && rises ([y0, y1, y2][k]'hlt))) := Lib.hid (by
        have h3 : k < [y0, y1, y2].length := hlt
        rw [List.take_succ_eq_append_getElem h3, List.all_append, List.all_cons, List.all_nil, Bool.and_true])
      have HBAD : Hid (rises ([y0, y1, y2][k]'hlt) = false → ¬ [y0, y1, y2].all rises = true) := Lib.hid (fun h hall => by
        rw [List.all_eq_true] at hall
        rw [hall _ (List.getElem_mem hlt)] at h
        cases h)
      generalize ([y0, y1, y2][k]'hlt) = z at *
      obtain ⟨rb, hrb⟩ : ∃ rb, rises z = rb := ⟨_, rfl⟩
      have HR := Lib.hid (rises_any x cx z wA (Nat.le_trans hxl hxm) hx)
      rw [hrb] at HR HTK HBAD
      clear hx hrb
      go_wp2_with fail
      refine HR.out.mono ?_
      rintro _ w3 ⟨rfl, hb3⟩
      have HW3 := Lib.hid (HWA.out.trans (hb3.mono HWA.out.size))
      have HY3 := Lib.hid (HYA.out.below hb3)
      have HX3 := Lib.hid (HW.out.trans (hb3.mono HW.out.size))
      clear hb3
      cases rb with
      | false =>
        have HBD := Lib.hid (HBAD.out rfl)
        clear HBAD
        go_wp2_with fail
        refine (HME.out _ HY3.out).mono ?_
        rintro _ w4 ⟨v4, rfl, ⟨m, hm4, him⟩, hb4⟩
        have hm0 := isMerge_bad2 _ _ HBD.out him
        subst hm0
        obtain ⟨x4, c4, rfl, _⟩ := hm4.read
        have HW4 := Lib.hid (HW3.out.trans (hb4.mono HW3.out.size))
        clear him hm4 hb4
        go_wp2
        go_ret
        exact ⟨rfl, HW4.out⟩
      | true =>
        clear HBAD
        go_wp2
        exact ⟨⟨k + 1, by omega, by go_num, Lib.hid (by rw [HTK.out, HA.out]; rfl), HX3⟩, by simp [intOf]; omega⟩
    · obtain rfl : k = 3 := by omega
      obtain ⟨b, off, x0, k0, rfl, d0, q0, m0, E0⟩ := HYA.out 0 (by simp)
      obtain ⟨_, _, x1, k1, eq1, d1, q1, m1, E1⟩ := HYA.out 1 (by simp)
      obtain ⟨_, _, x2, k2, eq2, d2, q2, m2, E2⟩ := HYA.out 2 (by simp)
      cases eq1
      cases eq2
      simp only [List.getElem_cons_zero, List.getElem_cons_succ, Nat.add_zero] at d0 d1 d2 q0 q1 q2 E0 E1 E2
      have hall := HA.out
      have HRI : Hid (rises y0 = true ∧ rises y1 = true ∧ rises y2 = true) := Lib.hid (by simpa [List.all_cons] using hall)
      have HRO : Hid (∀ w', Below wA.heap.size wA w' → ∀ r ∈ ([⟨x0, k0, y0⟩, ⟨x1, k1, y1⟩, ⟨x2, k2, y2⟩] : List Row), r.l.length ≤ r.cap ∧ r.cap ≤ maxLen ∧ Ents w' r.a r.l) := Lib.hid (fun w' hb r hr => by
        simp only [List.mem_cons, List.not_mem_nil, or_false] at hr
        rcases hr with rfl | rfl | rfl
        · exact ⟨q0, m0, E0.below hb⟩
        · exact ⟨q1, m1, E1.below hb⟩
        · exact ⟨q2, m2, E2.below hb⟩)
      have KS : Hid (∀ w', Below wA.heap.size wA w' → (w'.cell? ⟨b, off, none⟩ = some (.slice x0 y0.length k0) ∧ w'.cell? ⟨b, off + 1, none⟩ = some (.slice x1 y1.length k1) ∧ w'.cell? ⟨b, off + 2, none⟩ = some (.slice x2 y2.length k2) ∧ Below wA.heap.size wA w')) :=
        Lib.hid (fun w' hb => ⟨cell_later2 hb d0, cell_later2 hb d1, cell_later2 hb d2, hb⟩)
      have HR12 : Hid (∀ w', Below wA.heap.size wA w' → RowsOk w' [⟨x1, k1, y1⟩, ⟨x2, k2, y2⟩]) := Lib.hid (fun w' hb r hr => HRO.out w' hb r (by simp only [List.mem_cons, List.not_mem_nil, or_false] at hr ⊢; exact Or.inr hr))
      have HR01 : Hid (∀ w', Below wA.heap.size wA w' → RowsOk w' [⟨x0, k0, y0⟩, ⟨x1, k1, y1⟩]) := Lib.hid (fun w' hb r hr => HRO.out w' hb r (by simp only [List.mem_cons, List.not_mem_nil, or_false] at hr ⊢; rcases hr with h | h; exact Or.inl h; exact Or.inr (Or.inl h)))
      have HR0m : Hid (∀ w' y k m, Below wA.heap.size wA w' → Rd w' y k m → RowsOk w' [⟨x0, k0, y0⟩, ⟨y, k, m⟩]) := Lib.hid (fun w' y k m hb hr r hmem => by
        simp only [List.mem_cons, List.not_mem_nil, or_false] at hmem
        rcases hmem with rfl | rfl
        · exact HRO.out w' hb _ (by simp)
        · exact ⟨hr.len, hr.cap, hr.ents⟩)
      have HRm2 : Hid (∀ w' y k m, Below wA.heap.size wA w' → Rd w' y k m → RowsOk w' [⟨y, k, m⟩, ⟨x2, k2, y2⟩]) := Lib.hid (fun w' y k m hb hr r hmem => by
        simp only [List.mem_cons, List.not_mem_nil, or_false] at hmem
        rcases hmem with rfl | rfl
        · exact ⟨hr.len, hr.cap, hr.ents⟩
        · exact HRO.out w' hb _ (by simp))
      have HS12 : Hid (y1.length + (y2.length + 0) ≤ 10000) := Lib.hid (by have := HT.out; omega)
      have HS01 : Hid (y0.length + (y1.length + 0) ≤ 10000) := Lib.hid (by have := HT.out; omega)
      have HL12 : Hid (∀ m, IsMerge [y1, y2] m → y0.length + (m.length + 0) ≤ 10000) := Lib.hid (fun m him => by
        have := isMerge_len him
        simp only [List.map_cons, List.map_nil, List.sum_cons, List.sum_nil] at this
        have := HT.out; omega)
      have HL01 : Hid (∀ m, IsMerge [y0, y1] m → m.length + (y2.length + 0) ≤ 10000) := Lib.hid (fun m him => by
        have := isMerge_len him
        simp only [List.map_cons, List.map_nil, List.sum_cons, List.sum_nil] at this
        have := HT.out; omega)
      obtain ⟨M, HM⟩ : ∃ M, Hid (refM [y0, y1, y2] = M) := ⟨_, Lib.hid rfl⟩
      have HUR : Hid (∀ m r, IsMerge [y1, y2] m → IsMerge [y0, m] r → r = M) := Lib.hid (fun m r hm hr => by
        rw [← HM.out]
        exact (merge_right HRI.out.1 HRI.out.2.1 HRI.out.2.2 hm hr).uniq (refM_merge _))
      have HUL : Hid (∀ m r, IsMerge [y0, y1] m → IsMerge [m, y2] r → r = M) := Lib.hid (fun m r hm hr => by
        rw [← HM.out]
        exact (merge_left HRI.out.1 HRI.out.2.1 HRI.out.2.2 hm hr).uniq (refM_merge _))
      have HUM : Hid (∀ r, IsMerge [y0, y1, y2] r → r = M) := Lib.hid (fun r hr => by rw [← HM.out]; exact hr.uniq (refM_merge _))
      have HMR : Hid (rises M = true) := Lib.hid (by rw [← HM.out]; exact (refM_merge _).rises)
      clear q0 q1 q2 m0 m1 m2 E0 E1 E2 d0 d1 d2 hall HSH HA HW
      go_wp2
      refine wp_region_held_drew (S := (fun w' => w'.cell? ⟨b, off, none⟩ = some (.slice x0 y0.length k0) ∧ w'.cell? ⟨b, off + 1, none⟩ = some (.slice x1 y1.length k1) ∧ w'.cell? ⟨b, off + 2, none⟩ = some (.slice x2 y2.length k2) ∧ Below wA.heap.size wA w')) (by kernel_rfl) ?_ (fun hS0 => ?_)
      · exact KS.out _ (Below.refl _ _).drew
      refine wpAnyH_take (i := 0) (oi := { dst := some 30, op := Op.move (Operand.tmp 4), type := 25, pos := "law.go:100", after := #[], guard := none }) (v := ?_) rfl (by kernel_rfl) (by kernel_rfl) (by kernel_rfl) (fun _ _ _ h => h) (Or.inl ⟨by rfl, ?hy1⟩) (by assumption) ?_
      case hy1 => (intro w hSw; (try dsimp only at hSw); go_simp; try with_reducible rfl)
      (try simp only [Act.put, List.setIfInBounds_toArray, List.set_cons_zero, List.set_cons_succ])
      refine wpAnyH_take (i := 1) (oi := { dst := some 31, op := Op.indexAddr 25 (Operand.tmp 30) (Operand.const (Value.int IntKind.i64 0)), type := 0, pos := "law.go:100", after := #[{ on := 0, ground := Ground.data }], guard := none }) (v := ?_) rfl (by kernel_rfl) (by kernel_rfl) (by kernel_rfl) (fun _ _ _ h => h) (Or.inl ⟨by rfl, ?hy2⟩) (by assumption) ?_
      case hy2 => (intro w hSw; (try dsimp only at hSw); go_simp; try with_reducible rfl)
      (try simp only [Act.put, List.setIfInBounds_toArray, List.set_cons_zero, List.set_cons_succ])
      refine wpAnyH_take (i := 2) (oi := { dst := some 32, op := Op.load 22 (Operand.tmp 31), type := 22, pos := "law.go:100", after := #[{ on := 1, ground := Ground.data }], guard := none }) (v := ?_) rfl (by kernel_rfl) (by kernel_rfl) (by kernel_rfl) (fun _ _ _ h => h) (Or.inl ⟨by rfl, ?hy3⟩) (by assumption) ?_
      case hy3 => (intro w hSw; (try dsimp only at hSw); go_simp; try with_reducible rfl)
      (try simp only [Act.put, List.setIfInBounds_toArray, List.set_cons_zero, List.set_cons_succ])
      refine wpAnyH_take (i := 3) (oi := { dst := some 33, op := Op.move (Operand.tmp 4), type := 25, pos := "law.go:100", after := #[], guard := none }) (v := ?_) rfl (by kernel_rfl) (by kernel_rfl) (by kernel_rfl) (fun _ _ _ h => h) (Or.inl ⟨by rfl, ?hy4⟩) (by assumption) ?_
      case hy4 => (intro w hSw; (try dsimp only at hSw); go_simp; try with_reducible rfl)
      (try simp only [Act.put, List.setIfInBounds_toArray, List.set_cons_zero, List.set_cons_succ])
      refine wpAnyH_take (i := 4) (oi := { dst := some 34, op := Op.indexAddr 25 (Operand.tmp 33) (Operand.const (Value.int IntKind.i64 1)), type := 0, pos := "law.go:100", after := #[{ on := 3, ground := Ground.data }], guard := none }) (v := ?_) rfl (by kernel_rfl) (by kernel_rfl) (by kernel_rfl) (fun _ _ _ h => h) (Or.inl ⟨by rfl, ?hy5⟩) (by assumption) ?_
      case hy5 => (intro w hSw; (try dsimp only at hSw); go_simp; try with_reducible rfl)
      (try simp only [Act.put, List.setIfInBounds_toArray, List.set_cons_zero, List.set_cons_succ])
      refine wpAnyH_take (i := 5) (oi := { dst := some 35, op := Op.load 22 (Operand.tmp 34), type := 22, pos := "law.go:100", after := #[{ on := 4, ground := Ground.data }], guard := none }) (v := ?_) rfl (by kernel_rfl) (by kernel_rfl) (by kernel_rfl) (fun _ _ _ h => h) (Or.inl ⟨by rfl, ?hy6⟩) (by assumption) ?_
      case hy6 => (intro w hSw; (try dsimp only at hSw); go_simp; try with_reducible rfl)
      (try simp only [Act.put, List.setIfInBounds_toArray, List.set_cons_zero, List.set_cons_succ])
      refine wpAnyH_take (i := 6) (oi := { dst := some 36, op := Op.move (Operand.tmp 4), type := 25, pos := "law.go:100", after := #[], guard := none }) (v := ?_) rfl (by kernel_rfl) (by kernel_rfl) (by kernel_rfl) (fun _ _ _ h => h) (Or.inl ⟨by rfl, ?hy7⟩) (by assumption) ?_
      case hy7 => (intro w hSw; (try dsimp only at hSw); go_simp; try with_reducible rfl)
      (try simp only [Act.put, List.setIfInBounds_toArray, List.set_cons_zero, List.set_cons_succ])
      refine wpAnyH_take (i := 7) (oi := { dst := some 37, op := Op.indexAddr 25 (Operand.tmp 36) (Operand.const (Value.int IntKind.i64 2)), type := 0, pos := "law.go:100", after := #[{ on := 6, ground := Ground.data }], guard := none }) (v := ?_) rfl (by kernel_rfl) (by kernel_rfl) (by kernel_rfl) (fun _ _ _ h => h) (Or.inl ⟨by rfl, ?hy8⟩) (by assumption) ?_
      case hy8 => (intro w hSw; (try dsimp only at hSw); go_simp; try with_reducible rfl)
      (try simp only [Act.put, List.setIfInBounds_toArray, List.set_cons_zero, List.set_cons_succ])
      refine wpAnyH_take (i := 8) (oi := { dst := some 38, op := Op.load 22 (Operand.tmp 37), type := 22, pos := "law.go:100", after := #[{ on := 7, ground := Ground.data }], guard := none }) (v := ?_) rfl (by kernel_rfl) (by kernel_rfl) (by kernel_rfl) (fun _ _ _ h => h) (Or.inl ⟨by rfl, ?hy9⟩) (by assumption) ?_
      case hy9 => (intro w hSw; (try dsimp only at hSw); go_simp; try with_reducible rfl)
      (try simp only [Act.put, List.setIfInBounds_toArray, List.set_cons_zero, List.set_cons_succ])
      refine wpAnyH_ready (rs := [9]) (by kernel_rfl) (by simp) (AllReadyH.cons (o := { dst := some 39, op := Op.buildSlice 25 2 #[(0, Operand.tmp 35), (1, Operand.tmp 38)], type := 25, pos := "law.go:100", after := #[{ on := 5, ground := Ground.data }, { on := 8, ground := Ground.data }], guard := none }) rfl (fun K hK => ?_) AllReadyH.nil)
      go_simp
      (try dsimp only)
      refine Shut.out hK _ _ ?_ (fun hS9 => ?_)
      · exact KS.out _ (hS0.2.2.2.alloc hS0.2.2.2.size _)
      clear hK K
      (try simp only [Act.put, List.setIfInBounds_toArray, List.set_cons_zero, List.set_cons_succ])
      refine wpAnyH_ready (rs := [10]) (by kernel_rfl) (by simp) (AllReadyH.cons (o := { dst := some 40, op := Op.call { callee := Callee.value (Operand.func 33), args := #[Operand.tmp 39], argTypes := #[25] }, type := 22, pos := "law.go:100", after := #[{ on := 9, ground := Ground.data }], guard := none }) rfl (fun K hK => ?_) AllReadyH.nil)
      go_simp
      refine (merge_rows _ wA.heap.size [⟨x1, k1, y1⟩, ⟨x2, k2, y2⟩] 2 22 (0, 0) rfl (by exact heap_at' rfl) (HR12.out _ hS9.2.2.2) (by decide) HS12.out).mono ?_
      rintro _ w4 ⟨z4, n4, m4, rfl, hr4, him4, hb4⟩
      (try dsimp only)
      refine Shut.out hK _ _ ?_ (fun hS10 => ?_)
      · exact KS.out _ (hS9.2.2.2.trans (hb4.mono hS9.2.2.2.size))
      clear hK K
      (try simp only [Act.put, List.setIfInBounds_toArray, List.set_cons_zero, List.set_cons_succ])
      refine wpAnyH_ready (rs := [11]) (by kernel_rfl) (by simp) (AllReadyH.cons (o := { dst := some 41, op := Op.buildSlice 25 2 #[(0, Operand.tmp 32), (1, Operand.tmp 40)], type := 25, pos := "law.go:100", after := #[{ on := 2, ground := Ground.data }, { on := 10, ground := Ground.data }], guard := none }) rfl (fun K hK => ?_) AllReadyH.nil)
      go_simp
      (try dsimp only)
      refine Shut.out hK _ _ ?_ (fun hS11 => ?_)
      · exact KS.out _ (hS10.2.2.2.alloc hS10.2.2.2.size _)
      clear hK K
      (try simp only [Act.put, List.setIfInBounds_toArray, List.set_cons_zero, List.set_cons_succ])
      refine wpAnyH_ready (rs := [12]) (by kernel_rfl) (by simp) (AllReadyH.cons (o := { dst := some 42, op := Op.call { callee := Callee.value (Operand.func 33), args := #[Operand.tmp 41], argTypes := #[25] }, type := 22, pos := "law.go:100", after := #[{ on := 11, ground := Ground.data }, { on := 10, ground := Ground.chain }], guard := none }) rfl (fun K hK => ?_) AllReadyH.nil)
      go_simp
      refine (merge_rows _ w4.heap.size [⟨x0, k0, y0⟩, ⟨z4, n4, m4⟩] 2 22 (0, 0) rfl (by exact heap_at' rfl) (HR0m.out _ _ _ _ hS11.2.2.2 (hr4.below ((Below.refl _ _).alloc (Nat.le_refl _) _))) (by decide) (HL12.out m4 him4)).mono ?_
      rintro _ w5 ⟨z5, n5, m5, rfl, hr5, him5, hb5⟩
      (try dsimp only)
      refine Shut.out hK _ _ ?_ (fun hS12 => ?_)
      · exact KS.out _ (hS11.2.2.2.trans (hb5.mono hS11.2.2.2.size))
      clear hK K
      (try simp only [Act.put, List.setIfInBounds_toArray, List.set_cons_zero, List.set_cons_succ])
      refine wpAnyH_take (i := 13) (oi := { dst := some 6, op := Op.assign (Operand.tmp 42), type := 22, pos := "law.go:100", after := #[{ on := 12, ground := Ground.data }, { on := 12, ground := Ground.chain }, { on := 0, ground := Ground.phase }, { on := 1, ground := Ground.phase }, { on := 2, ground := Ground.phase }, { on := 3, ground := Ground.phase }, { on := 4, ground := Ground.phase }, { on := 5, ground := Ground.phase }, { on := 6, ground := Ground.phase }, { on := 7, ground := Ground.phase }, { on := 8, ground := Ground.phase }, { on := 9, ground := Ground.phase }, { on := 10, ground := Ground.phase }, { on := 11, ground := Ground.phase }, { on := 12, ground := Ground.phase }], guard := none }) (v := ?_) rfl (by kernel_rfl) (by kernel_rfl) (by kernel_rfl) (fun _ _ _ h => h) (Or.inl ⟨by rfl, ?hy10⟩) (by assumption) ?_
      case hy10 => (intro w hSw; (try dsimp only at hSw); go_simp; try with_reducible rfl)
      (try simp only [Act.put, List.setIfInBounds_toArray, List.set_cons_zero, List.set_cons_succ])
      refine wpAnyH_done (by kernel_rfl) ?_ _
      have HB5 := Lib.hid hS12.2.2.2
      have HRA := Lib.hid hr5
      have hu := HUR.out m4 m5 him4 him5
      subst hu
      clear hS0 hS9 hS10 hS11 hS12 hr4 hr5 hb4 hb5 him4 him5 HUR HL12 HR12 HR0m
      go_wp2
      refine wp_region_held_drew (S := (fun w' => w'.cell? ⟨b, off, none⟩ = some (.slice x0 y0.length k0) ∧ w'.cell? ⟨b, off + 1, none⟩ = some (.slice x1 y1.length k1) ∧ w'.cell? ⟨b, off + 2, none⟩ = some (.slice x2 y2.length k2) ∧ Below wA.heap.size wA w')) (by kernel_rfl) ?_ (fun hS0 => ?_)
      · exact KS.out _ HB5.out.drew
      refine wpAnyH_take (i := 0) (oi := { dst := some 43, op := Op.move (Operand.tmp 4), type := 25, pos := "law.go:101", after := #[], guard := none }) (v := ?_) rfl (by kernel_rfl) (by kernel_rfl) (by kernel_rfl) (fun _ _ _ h => h) (Or.inl ⟨by rfl, ?hy1⟩) (by assumption) ?_
      case hy1 => (intro w hSw; (try dsimp only at hSw); go_simp; try with_reducible rfl)
      (try simp only [Act.put, List.setIfInBounds_toArray, List.set_cons_zero, List.set_cons_succ])
      refine wpAnyH_take (i := 1) (oi := { dst := some 44, op := Op.indexAddr 25 (Operand.tmp 43) (Operand.const (Value.int IntKind.i64 0)), type := 0, pos := "law.go:101", after := #[{ on := 0, ground := Ground.data }], guard := none }) (v := ?_) rfl (by kernel_rfl) (by kernel_rfl) (by kernel_rfl) (fun _ _ _ h => h) (Or.inl ⟨by rfl, ?hy2⟩) (by assumption) ?_
      case hy2 => (intro w hSw; (try dsimp only at hSw); go_simp; try with_reducible rfl)
      (try simp only [Act.put, List.setIfInBounds_toArray, List.set_cons_zero, List.set_cons_succ])
      refine wpAnyH_take (i := 2) (oi := { dst := some 45, op := Op.load 22 (Operand.tmp 44), type := 22, pos := "law.go:101", after := #[{ on := 1, ground := Ground.data }], guard := none }) (v := ?_) rfl (by kernel_rfl) (by kernel_rfl) (by kernel_rfl) (fun _ _ _ h => h) (Or.inl ⟨by rfl, ?hy3⟩) (by assumption) ?_
      case hy3 => (intro w hSw; (try dsimp only at hSw); go_simp; try with_reducible rfl)
      (try simp only [Act.put, List.setIfInBounds_toArray, List.set_cons_zero, List.set_cons_succ])
      refine wpAnyH_take (i := 3) (oi := { dst := some 46, op := Op.move (Operand.tmp 4), type := 25, pos := "law.go:101", after := #[], guard := none }) (v := ?_) rfl (by kernel_rfl) (by kernel_rfl) (by kernel_rfl) (fun _ _ _ h => h) (Or.inl ⟨by rfl, ?hy4⟩) (by assumption) ?_
      case hy4 => (intro w hSw; (try dsimp only at hSw); go_simp; try with_reducible rfl)
      (try simp only [Act.put, List.setIfInBounds_toArray, List.set_cons_zero, List.set_cons_succ])
      refine wpAnyH_take (i := 4) (oi := { dst := some 47, op := Op.indexAddr 25 (Operand.tmp 46) (Operand.const (Value.int IntKind.i64 1)), type := 0, pos := "law.go:101", after := #[{ on := 3, ground := Ground.data }], guard := none }) (v := ?_) rfl (by kernel_rfl) (by kernel_rfl) (by kernel_rfl) (fun _ _ _ h => h) (Or.inl ⟨by rfl, ?hy5⟩) (by assumption) ?_
      case hy5 => (intro w hSw; (try dsimp only at hSw); go_simp; try with_reducible rfl)
      (try simp only [Act.put, List.setIfInBounds_toArray, List.set_cons_zero, List.set_cons_succ])
      refine wpAnyH_take (i := 5) (oi := { dst := some 48, op := Op.load 22 (Operand.tmp 47), type := 22, pos := "law.go:101", after := #[{ on := 4, ground := Ground.data }], guard := none }) (v := ?_) rfl (by kernel_rfl) (by kernel_rfl) (by kernel_rfl) (fun _ _ _ h => h) (Or.inl ⟨by rfl, ?hy6⟩) (by assumption) ?_
      case hy6 => (intro w hSw; (try dsimp only at hSw); go_simp; try with_reducible rfl)
      (try simp only [Act.put, List.setIfInBounds_toArray, List.set_cons_zero, List.set_cons_succ])
      refine wpAnyH_take (i := 8) (oi := { dst := some 51, op := Op.move (Operand.tmp 4), type := 25, pos := "law.go:101", after := #[], guard := none }) (v := ?_) rfl (by kernel_rfl) (by kernel_rfl) (by kernel_rfl) (fun _ _ _ h => h) (Or.inl ⟨by rfl, ?hy7⟩) (by assumption) ?_
      case hy7 => (intro w hSw; (try dsimp only at hSw); go_simp; try with_reducible rfl)
      (try simp only [Act.put, List.setIfInBounds_toArray, List.set_cons_zero, List.set_cons_succ])
      refine wpAnyH_take (i := 9) (oi := { dst := some 52, op := Op.indexAddr 25 (Operand.tmp 51) (Operand.const (Value.int IntKind.i64 2)), type := 0, pos := "law.go:101", after := #[{ on := 8, ground := Ground.data }], guard := none }) (v := ?_) rfl (by kernel_rfl) (by kernel_rfl) (by kernel_rfl) (fun _ _ _ h => h) (Or.inl ⟨by rfl, ?hy8⟩) (by assumption) ?_
      case hy8 => (intro w hSw; (try dsimp only at hSw); go_simp; try with_reducible rfl)
      (try simp only [Act.put, List.setIfInBounds_toArray, List.set_cons_zero, List.set_cons_succ])
      refine wpAnyH_take (i := 10) (oi := { dst := some 53, op := Op.load 22 (Operand.tmp 52), type := 22, pos := "law.go:101", after := #[{ on := 9, ground := Ground.data }], guard := none }) (v := ?_) rfl (by kernel_rfl) (by kernel_rfl) (by kernel_rfl) (fun _ _ _ h => h) (Or.inl ⟨by rfl, ?hy9⟩) (by assumption) ?_
      case hy9 => (intro w hSw; (try dsimp only at hSw); go_simp; try with_reducible rfl)
      (try simp only [Act.put, List.setIfInBounds_toArray, List.set_cons_zero, List.set_cons_succ])
      refine wpAnyH_ready (rs := [6]) (by kernel_rfl) (by simp) (AllReadyH.cons (o := { dst := some 49, op := Op.buildSlice 25 2 #[(0, Operand.tmp 45), (1, Operand.tmp 48)], type := 25, pos := "law.go:101", after := #[{ on := 2, ground := Ground.data }, { on := 5, ground := Ground.data }], guard := none }) rfl (fun K hK => ?_) AllReadyH.nil)
      go_simp
      (try dsimp only)
      refine Shut.out hK _ _ ?_ (fun hS6 => ?_)
      · exact KS.out _ (hS0.2.2.2.alloc hS0.2.2.2.size _)
      clear hK K
      (try simp only [Act.put, List.setIfInBounds_toArray, List.set_cons_zero, List.set_cons_succ])
      refine wpAnyH_ready (rs := [7]) (by kernel_rfl) (by simp) (AllReadyH.cons (o := { dst := some 50, op := Op.call { callee := Callee.value (Operand.func 33), args := #[Operand.tmp 49], argTypes := #[25] }, type := 22, pos := "law.go:101", after := #[{ on := 6, ground := Ground.data }], guard := none }) rfl (fun K hK => ?_) AllReadyH.nil)
      go_simp
      refine (merge_rows _ w5.heap.size [⟨x0, k0, y0⟩, ⟨x1, k1, y1⟩] 2 22 (0, 0) rfl (by exact heap_at' rfl) (HR01.out _ hS6.2.2.2) (by decide) HS01.out).mono ?_
      rintro _ w6 ⟨z6, n6, m6, rfl, hr6, him6, hb6⟩
      (try dsimp only)
      refine Shut.out hK _ _ ?_ (fun hS7 => ?_)
      · exact KS.out _ (hS6.2.2.2.trans (hb6.mono hS6.2.2.2.size))
      clear hK K
      (try simp only [Act.put, List.setIfInBounds_toArray, List.set_cons_zero, List.set_cons_succ])
      refine wpAnyH_ready (rs := [11]) (by kernel_rfl) (by simp) (AllReadyH.cons (o := { dst := some 54, op := Op.buildSlice 25 2 #[(0, Operand.tmp 50), (1, Operand.tmp 53)], type := 25, pos := "law.go:101", after := #[{ on := 7, ground := Ground.data }, { on := 10, ground := Ground.data }], guard := none }) rfl (fun K hK => ?_) AllReadyH.nil)
      go_simp
      (try dsimp only)
      refine Shut.out hK _ _ ?_ (fun hS11 => ?_)
      · exact KS.out _ (hS7.2.2.2.alloc hS7.2.2.2.size _)
      clear hK K
      (try simp only [Act.put, List.setIfInBounds_toArray, List.set_cons_zero, List.set_cons_succ])
      refine wpAnyH_ready (rs := [12]) (by kernel_rfl) (by simp) (AllReadyH.cons (o := { dst := some 55, op := Op.call { callee := Callee.value (Operand.func 33), args := #[Operand.tmp 54], argTypes := #[25] }, type := 22, pos := "law.go:101", after := #[{ on := 11, ground := Ground.data }, { on := 7, ground := Ground.chain }], guard := none }) rfl (fun K hK => ?_) AllReadyH.nil)
      go_simp
      refine (merge_rows _ w6.heap.size [⟨z6, n6, m6⟩, ⟨x2, k2, y2⟩] 2 22 (0, 0) rfl (by exact heap_at' rfl) (HRm2.out _ _ _ _ hS11.2.2.2 (hr6.below ((Below.refl _ _).alloc (Nat.le_refl _) _))) (by decide) (HL01.out m6 him6)).mono ?_
      rintro _ w7 ⟨z7, n7, m7, rfl, hr7, him7, hb7⟩
      (try dsimp only)
      refine Shut.out hK _ _ ?_ (fun hS12 => ?_)
      · exact KS.out _ (hS11.2.2.2.trans (hb7.mono hS11.2.2.2.size))
      clear hK K
      (try simp only [Act.put, List.setIfInBounds_toArray, List.set_cons_zero, List.set_cons_succ])
      refine wpAnyH_take (i := 13) (oi := { dst := some 7, op := Op.assign (Operand.tmp 55), type := 22, pos := "law.go:101", after := #[{ on := 12, ground := Ground.data }, { on := 12, ground := Ground.chain }, { on := 0, ground := Ground.phase }, { on := 1, ground := Ground.phase }, { on := 2, ground := Ground.phase }, { on := 3, ground := Ground.phase }, { on := 4, ground := Ground.phase }, { on := 5, ground := Ground.phase }, { on := 6, ground := Ground.phase }, { on := 7, ground := Ground.phase }, { on := 8, ground := Ground.phase }, { on := 9, ground := Ground.phase }, { on := 10, ground := Ground.phase }, { on := 11, ground := Ground.phase }, { on := 12, ground := Ground.phase }], guard := none }) (v := ?_) rfl (by kernel_rfl) (by kernel_rfl) (by kernel_rfl) (fun _ _ _ h => h) (Or.inl ⟨by rfl, ?hy10⟩) (by assumption) ?_
      case hy10 => (intro w hSw; (try dsimp only at hSw); go_simp; try with_reducible rfl)
      (try simp only [Act.put, List.setIfInBounds_toArray, List.set_cons_zero, List.set_cons_succ])
      refine wpAnyH_done (by kernel_rfl) ?_ _
      have HB7 := Lib.hid hS12.2.2.2
      have hb57 : Below w5.heap.size w5 w7 := (((Below.refl w5.heap.size w5).drew.alloc (Nat.le_refl _) (.cells #[.slice x0 y0.length k0, .slice x1 y1.length k1] 22)).trans (hb6.mono (by simp))).trans ((((Below.refl w6.heap.size w6).alloc (Nat.le_refl _) (.cells #[.slice z6 m6.length n6, .slice x2 y2.length k2] 22)).trans (hb7.mono (by simp))).mono (Nat.le_trans (by simp) hb6.size))
      have HRB := Lib.hid hr7
      have hu := HUL.out m6 m7 him6 him7
      subst hu
      clear hS0 hS6 hS7 hS11 hS12 hr6 hr7 hb6 hb7 him6 him7 HUL HL01 HR01 HRm2
      have hxm : m7.length ≤ maxLen := Nat.le_trans HRB.out.len HRB.out.cap
      have HW7 := Lib.hid (HWA.out.trans (HB7.out.mono HWA.out.size))
      have HRA5 : Hid (Rd w5 z5 n5 m7) := HRA
      have HBX : Hid (Below w5.heap.size w5 w7) := Lib.hid (hb57)
      have HS1 := Lib.hid (same_any z5 z7 n5 n7 m7 m7 w7 hxm hxm (HRA5.out.ents.below HBX.out) HRB.out.ents rfl)
      clear hb57
      go_wp2_with fail
      refine HS1.out.mono ?_
      rintro _ w8 ⟨rfl, hb8⟩
      have HW8 := Lib.hid (HW7.out.trans (hb8.mono HW7.out.size))
      have HE8 := Lib.hid ((HRA5.out.ents.below HBX.out).below hb8)
      have HY8 := Lib.hid (HYA.out.below (HB7.out.trans (hb8.mono HB7.out.size)))
      clear hb8
      go_wp2_with fail
      refine (HME.out _ HY8.out).mono ?_
      rintro _ w9 ⟨v9, rfl, ⟨m, hm9, him⟩, hb9⟩
      have hu := HUM.out m him
      subst hu
      obtain ⟨z9, n9, rfl, q9, p9, E9, _⟩ := hm9.read
      have HW9 := Lib.hid (HW8.out.trans (hb9.mono HW8.out.size))
      have HE9 := Lib.hid (HE8.out.below hb9)
      have HS2 := Lib.hid (same_any z5 z9 n5 n9 m m w9 hxm hxm HE9.out E9 rfl)
      clear hb9 hm9 him E9
      go_wp2_with fail
      refine HS2.out.mono ?_
      rintro _ w10 ⟨rfl, hb10⟩
      have HW10 := Lib.hid (HW9.out.trans (hb10.mono HW9.out.size))
      have hr := rises_any z5 n5 m w10 hxm (HE9.out.below hb10)
      rw [HMR.out] at hr
      have HRR := Lib.hid hr
      clear hb10 hr
      go_wp2_with fail
      refine HRR.out.mono ?_
      rintro _ w11 ⟨rfl, hb11⟩
      have HW11 := Lib.hid (HW10.out.trans (hb11.mono HW10.out.size))
      clear hb11
      go_wp2
      go_ret
      exact ⟨rfl, HW11.out⟩
end Go.Proofs.Ythgbmijgoaihcaa

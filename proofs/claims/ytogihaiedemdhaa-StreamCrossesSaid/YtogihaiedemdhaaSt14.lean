/-
  StreamCrosses.
-/
import Derived.Test.YtogihaiedemdhaaSt13
namespace Go.Proofs.Ytogihaiedemdhaa
open Go.RowKit Go.ChangeShapes Go.WideShapes Go.ChangeAt
set_option linter.unusedVariables false

theorem rcross_run (key nonce : List UInt8) (count : Nat) (a : Option Addr) (cap : Nat) (l : List UInt8) (w : World) (hk : key.length = 32) (hn : nonce.length = 12) (hc : count < 4294967296) (h : BA w a cap l) :
    Calls Try.prog 23 #[.agg (cells8 key).toArray, .agg (cells8 nonce).toArray, .int .u32 count, .slice a l.length cap] w fun e w' => ∃ A c, e = .returned (.slice A l.length c) ∧ RunN w' A l.length c (crossF key nonce count l) ∧ Below w.heap.size w w' := by
  refine (rcross_any key nonce count a cap l w hk hn hc h.2.2.1 h.2.2.2.2).mono ?_
  rintro _ w' ⟨v, rfl, ho, hb⟩
  have ho' := ho
  obtain ⟨_, h2⟩ := ho
  rcases h2 with ⟨rfl, h0⟩ | ⟨g, c, _, rfl, _⟩
  · have hl : l = [] := List.eq_nil_of_length_eq_zero h0
    subst hl
    exact ⟨none, 0, rfl, to_string_run w' 32 9 5 none [] 0 Try.underlying32 Try.underlying5 Try.underlying9 (bytes_nil _ _), hb⟩
  · rw [← crossF_length key nonce count l] at ho'
    obtain ⟨_, h1, h2, _, h3⟩ := bytes_owns ho'
    refine ⟨some ⟨g, 0, none⟩, c, rfl, ?_, hb⟩
    have := to_string_run w' 32 9 5 _ (crossF key nonce count l) c Try.underlying32 Try.underlying5 Try.underlying9 h3
    rw [crossF_length] at this
    exact this

set_option maxRecDepth 100000 in
set_option maxHeartbeats 1600000 in
theorem law_crosses (key nonce : List UInt8) (count : Nat) (a1 : Option Addr) (cap1 : Nat) (l1 : List UInt8) (w : World) (hk : key.length = 32) (hn : nonce.length = 12) (hc : count < 4294967296) (h1 : BA w a1 cap1 l1) :
    Calls Try.prog 9 #[.agg (placeCells key nonce count).toArray, .slice a1 l1.length cap1] w fun e w' => e = .returned (.bool true) ∧ Below w.heap.size w w' := by
  have HC1 : Hid (∀ w', Below w.heap.size w w' → Calls Try.prog 22 #[.agg (cells8 key).toArray, .agg (cells8 nonce).toArray, .int .u32 count, .slice a1 l1.length cap1] w' fun e w'' => ∃ g c, e = .returned (.slice (some ⟨g, 0, none⟩) l1.length c) ∧ Hid (w''.ownsRow w'.heap.size 5 1 (.slice (some ⟨g, 0, none⟩) l1.length c) l1.length (cells8 (crossF key nonce count l1)) ∧ BA w'' (some ⟨g, 0, none⟩) c (crossF key nonce count l1)) ∧ Below w'.heap.size w' w'') := Lib.hid (fun w' h => cross_ba key nonce count a1 cap1 l1 w' hk hn hc (h1.below h))
  have HC2 : Hid (∀ w', Below w.heap.size w w' → Calls Try.prog 23 #[.agg (cells8 key).toArray, .agg (cells8 nonce).toArray, .int .u32 count, .slice a1 l1.length cap1] w' fun e w'' => ∃ A c, e = .returned (.slice A l1.length c) ∧ RunN w'' A l1.length c (crossF key nonce count l1) ∧ Below w'.heap.size w' w'') := Lib.hid (fun w' h => rcross_run key nonce count a1 cap1 l1 w' hk hn hc (h1.below h))
  have HFL := Lib.hid (crossF_length key nonce count l1)
  generalize crossF key nonce count l1 = F at *
  obtain ⟨pb, hK⟩ : ∃ pb, w.heap.size = pb := ⟨_, rfl⟩
  have HP0 := Lib.hid (PL.start key nonce count w hk hn)
  have HI32 : Hid (some 32 = some (cells8 key).length) := Lib.hid (by rw [cells8_length, hk])
  have HI12 : Hid (some 12 = some (cells8 nonce).length) := Lib.hid (by rw [cells8_length, hn])
  rw [hK] at HP0
  have HB1 := Lib.hid h1
  have hm1 : l1.length ≤ 140737488351232 := h1.2.2.1
  obtain ⟨n1, hn1⟩ : ∃ n1, l1.length = n1 := ⟨_, rfl⟩
  rw [hn1] at hm1 HC1 HC2 HFL ⊢
  have HN1 := Lib.hid hn1
  clear hk hn h1 hn1
  generalize placeCells key nonce count = pc at *
  go_enter Try.func9, Try.ntmps9
  go_wp2_with (first
    | ((with_reducible refine (sshown_any _).mono ?_); rintro _ w1 ⟨rfl, hb1⟩; have HP1 := Lib.hid (HP0.out.later hb1); have hc1 := HP1.out.2.2.1; have hcv : (convert 32 9 (.slice a1 n1 cap1)).run Try.prog w1 = .ok (.string ⟨l1.toArray⟩) w1 := runN_of (HB1.out.below HP1.out.bel) HN1.out; clear HP0)
    | (refine wpList_load_mid rfl 22 _ rfl pb 0 (by rfl) (cells8 key) _ HP1.out.1 Try.underlying22 rfl (info32.trans HI32.out) ?_)
    | (refine wpList_load_mid rfl 23 _ rfl pb 32 (by rfl) (cells8 nonce) _ HP1.out.2.1 Try.underlying23 rfl (info12.trans HI12.out) ?_)
    | ((with_reducible refine (HC1.out _ HP1.out.bel).mono ?_); rintro _ w2 ⟨g1, c1, rfl, hx1, hb2⟩; have HP2 := Lib.hid (HP1.out.later hb2); have hs1 := Lib.hid HP1.out.bel.size; clear HP1 hc1 hcv))
  have HX1 := Lib.hid hx1.out.2
  have hO2 : Hid (w2.ownsRow w.heap.size 5 1 (.slice (some ⟨g1, 0, none⟩) n1 c1) n1 (cells8 F)) := Lib.hid (by
    obtain ⟨r1, r2⟩ := hx1.out.1
    refine ⟨r1, ?_⟩
    rcases r2 with r2 | ⟨g', cap', cur, hv', hg, r⟩
    · exact Or.inl r2
    · exact Or.inr ⟨g', cap', cur, hv', Nat.le_trans hs1.out hg, r⟩)
  have hS : PL w pb key nonce count w2 ∧ BA w2 (some ⟨g1, 0, none⟩) c1 F := ⟨HP2.out, HX1.out⟩
  have hgp : w.heap.size ≤ g1 := (hO2.out.lt g1 rfl).1
  clear hx1 HP2 HX1 hb2
  refine wp_region_held_drew (S := (fun w' => w'.rangeAt pb 0 (cells8 key) ∧ w'.rangeAt pb 32 (cells8 nonce) ∧ w'.cell? ⟨pb, 44, none⟩ = some (.int .u32 (count : Nat)) ∧ Below w.heap.size w w' ∧ (convert 32 9 (.slice (some ⟨g1, 0, none⟩) n1 c1)).run Try.prog w' = .ok (.string ⟨F.toArray⟩) w')) (by kernel_rfl) ?_ (fun hS0 => ?_)
  · exact ⟨hS.1.1, hS.1.2.1, hS.1.2.2.1, hS.1.2.2.2.drew, (runN_of hS.2.drew HFL.out : RunN w2.drew (some ⟨g1, 0, none⟩) n1 c1 F)⟩
  refine wpAnyH_take (i := 0) (oi := { dst := some 21, op := Op.move (Operand.tmp 7), type := 32, pos := "law.go:36", after := #[], guard := none }) (v := ?_) rfl (by kernel_rfl) (by kernel_rfl) (by kernel_rfl) (fun _ _ _ h => h) (Or.inl ⟨by rfl, ?hy1⟩) (by assumption) ?_
  case hy1 => (intro w hSw; (try dsimp only at hSw); go_simp; try with_reducible rfl)
  (try simp only [Act.put, List.setIfInBounds_toArray, List.set_cons_zero, List.set_cons_succ])
  refine wpAnyH_take (i := 1) (oi := { dst := some 22, op := Op.convert 32 9 (Operand.tmp 21), type := 9, pos := "law.go:36", after := #[{ on := 0, ground := Ground.data }], guard := none }) (v := ?_) rfl (by kernel_rfl) (by kernel_rfl) (by kernel_rfl) (fun _ _ _ h => h) (Or.inl ⟨by rfl, ?hy2⟩) (by assumption) ?_
  case hy2 => (intro w hSw; (try dsimp only at hSw); go_simp; try with_reducible rfl)
  (try simp only [Act.put, List.setIfInBounds_toArray, List.set_cons_zero, List.set_cons_succ])
  refine wpAnyH_take (i := 2) (oi := { dst := some 23, op := Op.fieldAddr 26 (Operand.tmp 2) 0, type := 0, pos := "law.go:36", after := #[], guard := none }) (v := ?_) rfl (by kernel_rfl) (by kernel_rfl) (by kernel_rfl) (fun _ _ _ h => h) (Or.inl ⟨by rfl, ?hy3⟩) (by assumption) ?_
  case hy3 => (intro w hSw; (try dsimp only at hSw); go_simp; try with_reducible rfl)
  (try simp only [Act.put, List.setIfInBounds_toArray, List.set_cons_zero, List.set_cons_succ])
  refine wpAnyH_take (i := 3) (oi := { dst := some 24, op := Op.load 22 (Operand.tmp 23), type := 22, pos := "law.go:36", after := #[{ on := 2, ground := Ground.data }], guard := none }) (v := _) rfl (by kernel_rfl) (by kernel_rfl) (by kernel_rfl) (fun _ _ _ h => h) (yieldsIf_load_mid (by rfl) 22 _ rfl pb 0 (by rfl) (cells8 key) _ (fun w' hw' => hw'.1) Try.underlying22 rfl (info32.trans HI32.out)) (by assumption) ?_
  (try simp only [Act.put, List.setIfInBounds_toArray, List.set_cons_zero, List.set_cons_succ])
  refine wpAnyH_take (i := 4) (oi := { dst := some 25, op := Op.fieldAddr 26 (Operand.tmp 2) 1, type := 0, pos := "law.go:36", after := #[], guard := none }) (v := ?_) rfl (by kernel_rfl) (by kernel_rfl) (by kernel_rfl) (fun _ _ _ h => h) (Or.inl ⟨by rfl, ?hy5⟩) (by assumption) ?_
  case hy5 => (intro w hSw; (try dsimp only at hSw); go_simp; try with_reducible rfl)
  (try simp only [Act.put, List.setIfInBounds_toArray, List.set_cons_zero, List.set_cons_succ])
  refine wpAnyH_take (i := 5) (oi := { dst := some 26, op := Op.load 23 (Operand.tmp 25), type := 23, pos := "law.go:36", after := #[{ on := 4, ground := Ground.data }], guard := none }) (v := _) rfl (by kernel_rfl) (by kernel_rfl) (by kernel_rfl) (fun _ _ _ h => h) (yieldsIf_load_mid (by rfl) 23 _ rfl pb 32 (by rfl) (cells8 nonce) _ (fun w' hw' => hw'.2.1) Try.underlying23 rfl (info12.trans HI12.out)) (by assumption) ?_
  (try simp only [Act.put, List.setIfInBounds_toArray, List.set_cons_zero, List.set_cons_succ])
  refine wpAnyH_take (i := 6) (oi := { dst := some 27, op := Op.fieldAddr 26 (Operand.tmp 2) 2, type := 0, pos := "law.go:36", after := #[], guard := none }) (v := ?_) rfl (by kernel_rfl) (by kernel_rfl) (by kernel_rfl) (fun _ _ _ h => h) (Or.inl ⟨by rfl, ?hy7⟩) (by assumption) ?_
  case hy7 => (intro w hSw; (try dsimp only at hSw); go_simp; try with_reducible rfl)
  (try simp only [Act.put, List.setIfInBounds_toArray, List.set_cons_zero, List.set_cons_succ])
  refine wpAnyH_take (i := 7) (oi := { dst := some 28, op := Op.load 24 (Operand.tmp 27), type := 24, pos := "law.go:36", after := #[{ on := 6, ground := Ground.data }], guard := none }) (v := ?_) rfl (by kernel_rfl) (by kernel_rfl) (by kernel_rfl) (fun _ _ _ h => h) (Or.inl ⟨by rfl, ?hy8⟩) (by assumption) ?_
  case hy8 => (intro w hSw; (try dsimp only at hSw); go_simp; try with_reducible rfl)
  (try simp only [Act.put, List.setIfInBounds_toArray, List.set_cons_zero, List.set_cons_succ])
  refine wpAnyH_take (i := 8) (oi := { dst := some 29, op := Op.move (Operand.tmp 1), type := 32, pos := "law.go:36", after := #[], guard := none }) (v := ?_) rfl (by kernel_rfl) (by kernel_rfl) (by kernel_rfl) (fun _ _ _ h => h) (Or.inl ⟨by rfl, ?hy9⟩) (by assumption) ?_
  case hy9 => (intro w hSw; (try dsimp only at hSw); go_simp; try with_reducible rfl)
  (try simp only [Act.put, List.setIfInBounds_toArray, List.set_cons_zero, List.set_cons_succ])
  refine wpAnyH_ready (rs := [9]) (by kernel_rfl) (by simp) (AllReadyH.cons (o := { dst := some 30, op := Op.call { callee := Callee.value (Operand.func 23), args := #[Operand.tmp 24, Operand.tmp 26, Operand.tmp 28, Operand.tmp 29], argTypes := #[22, 23, 24, 32] }, type := 32, pos := "law.go:36", after := #[{ on := 3, ground := Ground.data }, { on := 5, ground := Ground.data }, { on := 7, ground := Ground.data }, { on := 8, ground := Ground.data }], guard := none }) rfl (fun K hK => ?_) AllReadyH.nil)
  go_simp
  refine (HC2.out _ hS0.2.2.2.1).mono ?_
  rintro _ w4 ⟨A2, c2, rfl, hx2, hb4⟩
  (try dsimp only)
  refine Shut.out hK _ _ ?_ (fun hS9 => ?_)
  · have hL := PL.later (w0 := w) (show PL w pb key nonce count _ from ⟨hS0.1, hS0.2.1, hS0.2.2.1, hS0.2.2.2.1⟩) hb4; exact ⟨hL.1, hL.2.1, hL.2.2.1, hL.2.2.2, (runN_of (hS.2.drew.below hb4) HFL.out : RunN w4 (some ⟨g1, 0, none⟩) n1 c1 F)⟩
  clear hK K
  (try simp only [Act.put, List.setIfInBounds_toArray, List.set_cons_zero, List.set_cons_succ])
  refine wpAnyH_change (S2 := (fun w' => w'.rangeAt pb 0 (cells8 key) ∧ w'.rangeAt pb 32 (cells8 nonce) ∧ w'.cell? ⟨pb, 44, none⟩ = some (.int .u32 (count : Nat)) ∧ Below w.heap.size w w' ∧ (convert 32 9 (.slice (some ⟨g1, 0, none⟩) n1 c1)).run Try.prog w' = .ok (.string ⟨F.toArray⟩) w' ∧ (convert 32 9 (.slice A2 n1 c2)).run Try.prog w' = .ok (.string ⟨F.toArray⟩) w')) (fun w' h => ⟨h.1, h.2.1, h.2.2.1, h.2.2.2.1, h.2.2.2.2.1⟩) _ _ _ _ ?_
  have hT9 := (⟨hS9.1, hS9.2.1, hS9.2.2.1, hS9.2.2.2.1, hS9.2.2.2.2, hx2⟩ : (fun w' => w'.rangeAt pb 0 (cells8 key) ∧ w'.rangeAt pb 32 (cells8 nonce) ∧ w'.cell? ⟨pb, 44, none⟩ = some (.int .u32 (count : Nat)) ∧ Below w.heap.size w w' ∧ (convert 32 9 (.slice (some ⟨g1, 0, none⟩) n1 c1)).run Try.prog w' = .ok (.string ⟨F.toArray⟩) w' ∧ (convert 32 9 (.slice A2 n1 c2)).run Try.prog w' = .ok (.string ⟨F.toArray⟩) w') w4)
  refine wpAnyH_take (i := 10) (oi := { dst := some 31, op := Op.convert 32 9 (Operand.tmp 30), type := 9, pos := "law.go:36", after := #[{ on := 9, ground := Ground.data }], guard := none }) (v := ?_) rfl (by kernel_rfl) (by kernel_rfl) (by kernel_rfl) (fun _ _ _ h => h) (Or.inl ⟨by rfl, ?hy10⟩) (by assumption) ?_
  case hy10 => (intro w hSw; (try dsimp only at hSw); go_simp; try with_reducible rfl)
  (try simp only [Act.put, List.setIfInBounds_toArray, List.set_cons_zero, List.set_cons_succ])
  refine wpAnyH_take (i := 11) (oi := { dst := some 32, op := Op.binOp BinOp.eql 9 (Operand.tmp 22) (Operand.tmp 31) 9, type := 4, pos := "law.go:36", after := #[{ on := 1, ground := Ground.data }, { on := 10, ground := Ground.data }], guard := none }) (v := ?_) rfl (by kernel_rfl) (by kernel_rfl) (by kernel_rfl) (fun _ _ _ h => h) (Or.inl ⟨by rfl, ?hy11⟩) (by assumption) ?_
  case hy11 => (intro w hSw; (try dsimp only at hSw); go_simp; try with_reducible rfl)
  (try simp only [Act.put, List.setIfInBounds_toArray, List.set_cons_zero, List.set_cons_succ])
  refine wpAnyH_take (i := 12) (oi := { dst := some 8, op := Op.assign (Operand.tmp 32), type := 4, pos := "law.go:36", after := #[{ on := 11, ground := Ground.data }, { on := 9, ground := Ground.chain }, { on := 0, ground := Ground.phase }, { on := 1, ground := Ground.phase }, { on := 2, ground := Ground.phase }, { on := 3, ground := Ground.phase }, { on := 4, ground := Ground.phase }, { on := 5, ground := Ground.phase }, { on := 6, ground := Ground.phase }, { on := 7, ground := Ground.phase }, { on := 8, ground := Ground.phase }, { on := 9, ground := Ground.phase }, { on := 10, ground := Ground.phase }, { on := 11, ground := Ground.phase }], guard := none }) (v := ?_) rfl (by kernel_rfl) (by kernel_rfl) (by kernel_rfl) (fun _ _ _ h => h) (Or.inl ⟨by rfl, ?hy12⟩) (by assumption) ?_
  case hy12 => (intro w hSw; (try dsimp only at hSw); go_simp; try with_reducible rfl)
  (try simp only [Act.put, List.setIfInBounds_toArray, List.set_cons_zero, List.set_cons_succ])
  refine wpAnyH_done (by kernel_rfl) ?_ _
  have hO4 : Hid (w4.ownsRow w.heap.size 5 1 (.slice (some ⟨g1, 0, none⟩) n1 c1) n1 (cells8 F)) := Lib.hid (hO2.out.drew.kept (row := none) ⟨hb4.os, hb4.tape, hb4.output, hb4.size, fun k hk _ => hb4.block k hk⟩ (by simp [Value.ownBlock]))
  have hw4 : Below w.heap.size w w4 := hT9.2.2.2.1
  clear hS0 hS9 hT9 hO2 hS hb4 hx2
  go_wp2
  go_loopw [35] (fun iv wr => ∃ (i : Nat) (m : List UInt8), i ≤ n1 ∧ iv = .int .i64 i ∧ Hid (m.length = n1) ∧ Hid (wr.ownsRow w.heap.size 5 1 (.slice (some ⟨g1, 0, none⟩) n1 c1) n1 (cells8 m)) ∧ Below w.heap.size w wr) (fun iv _ => n1 - (intOf iv).toNat)
  case atStart => exact ⟨0, F, by omega, rfl, HFL, hO4, hw4⟩
  case round =>
    obtain ⟨i, m, hi, rfl, hml, hrow, hwr⟩ := hrel
    by_cases hlt : i < n1
    · have i1 : (i : Int) < (n1 : Int) := by omega
      have i0 : (0 : Int) ≤ (i : Int) := by omega
      have hpc : i < m.length := by rw [hml.out]; exact hlt
      have hcell := hrow.out.cellAt i (by omega)
      rw [cells8_getElem? _ _ hpc] at hcell
      have hfr := hrow.out.frozenAt i
      have hx := xor8 m[i] 85
      rw [show (((85 : UInt8).toNat : Nat) : Int) = 85 from rfl] at hx
      generalize hc8 : m[i] ^^^ 85 = c8 at hx
      generalize m[i].toNat = v1 at *
      go_wp2
      have h5 := hrow.out.stored i (.int .u8 (c8.toNat : Nat))
      rw [cells8_set] at h5
      exact ⟨⟨i + 1, m.set i c8, by omega, by go_num, Lib.hid (by rw [List.length_set]; exact hml.out), Lib.hid h5.1, hwr.setCell (by show w.heap.size ≤ g1; exact hgp) _⟩, by simp [intOf]; omega⟩
    · have i1 : ¬ (i : Int) < (n1 : Int) := by omega
      have hcv : (convert 32 9 (.slice a1 n1 cap1)).run Try.prog wr = .ok (.string ⟨l1.toArray⟩) wr := runN_of (HB1.out.below hwr) HN1.out
      go_wp2
      go_ret
      rw [hK] at hwr
      exact ⟨rfl, hwr⟩
end Go.Proofs.Ytogihaiedemdhaa

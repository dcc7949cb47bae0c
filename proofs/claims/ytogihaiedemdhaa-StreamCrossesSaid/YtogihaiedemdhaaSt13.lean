/-
  StreamLater.
-/
import Derived.Test.YtogihaiedemdhaaSt12
namespace Go.Proofs.Ytogihaiedemdhaa
open Go.RowKit Go.ChangeShapes Go.WideShapes Go.ChangeAt
set_option linter.unusedVariables false

theorem crossF_later (key nonce : List UInt8) (count : Nat) (l : List UInt8) (q : Nat) : (crossF key nonce count l).drop (64 * q) = crossF key nonce ((count + q) % 4294967296) (l.drop (64 * q)) := by
  apply List.ext_getElem (by rw [List.length_drop, crossF_length, crossF_length, List.length_drop])
  intro i h1 h2
  have h3 : i < (l.drop (64 * q)).length := by rw [crossF_length] at h2; exact h2
  have h4 : 64 * q + i < l.length := by rw [List.length_drop] at h3; omega
  rw [List.getElem_drop, crossF_get _ _ _ _ _ h4, crossF_get _ _ _ _ _ h3, List.getElem_drop]
  unfold ksAt
  rw [show (64 * q + i) / 64 = q + i / 64 by omega, show (64 * q + i) % 64 = i % 64 by omega, show (count + (q + i / 64)) % 4294967296 = ((count + q) % 4294967296 + i / 64) % 4294967296 by omega]
theorem BA.tail {w : World} {a : Option Addr} {cap : Nat} {l : List UInt8} (h : BA w a cap l) (k : Nat) : BA w (cutFrom a cap k 1) (cap - k) (l.drop k) := by
  obtain ⟨h1, h2, h3, h4, h5⟩ := h
  refine ⟨by rw [List.length_drop]; omega, by omega, by rw [List.length_drop]; omega, fun e => ?_, h5.drop h1 k⟩
  unfold cutFrom at e
  by_cases hk : cap = k
  · omega
  · rw [if_neg hk] at e
    cases a with
    | none => have := h4 rfl; omega
    | some x => simp at e

set_option maxRecDepth 100000 in
set_option maxHeartbeats 1600000 in
theorem law_later (key nonce : List UInt8) (count : Nat) (a1 : Option Addr) (cap1 : Nat) (l1 : List UInt8) (bn : Nat) (w : World) (hk : key.length = 32) (hn : nonce.length = 12) (hc : count < 4294967296) (h1 : BA w a1 cap1 l1) (hbn : bn < 65536) :
    Calls Try.prog 11 #[.agg (placeCells key nonce count).toArray, .slice a1 l1.length cap1, .int .u16 bn] w fun e w' => e = .returned (.bool true) ∧ Below w.heap.size w w' := by
  obtain ⟨n1, hn1⟩ : ∃ n1, l1.length = n1 := ⟨_, rfl⟩
  have hm1 : l1.length ≤ 140737488351232 := h1.2.2.1
  rw [hn1] at hm1
  obtain ⟨d, d1, d2, d3, d4⟩ : ∃ d : Nat, (n1 : Int) / 64 = (d : Int) ∧ (n1 : Int).tdiv 64 = (d : Int) ∧ IntKind.i64.wrap (d : Int) = (d : Int) ∧ 64 * d ≤ n1 := ⟨n1 / 64, by omega, by rw [Int.tdiv_eq_ediv_of_nonneg (by omega)]; omega, IntWalk.i64_in _ (by omega), by omega⟩
  obtain ⟨d', e1, e2⟩ : ∃ d' : Nat, (d : Int) + 1 = (d' : Int) ∧ d' = d + 1 := ⟨d + 1, by omega, rfl⟩
  have e3 : IntKind.i64.wrap (d' : Int) = (d' : Int) := IntWalk.i64_in _ (by omega)
  have e4 : ((d' : Int) == 0) = false := by simp; omega
  have e5 : ¬ (d' : Int) = 0 := by omega
  obtain ⟨q, q1, q2, q3, q4, q5⟩ : ∃ q : Nat, (bn : Int) % (d' : Int) = (q : Int) ∧ (bn : Int).tmod (d' : Int) = (q : Int) ∧ IntKind.i64.wrap (q : Int) = (q : Int) ∧ q ≤ d ∧ q < 65536 := by
    have h0 : bn % d' < d' := Nat.mod_lt _ (by omega)
    have h00 : bn % d' ≤ bn := Nat.mod_le _ _
    exact ⟨bn % d', by omega, by rw [Int.tmod_eq_emod_of_nonneg (by omega)]; omega, IntWalk.i64_in _ (by omega), by omega, by omega⟩
  obtain ⟨k, k1, k2, k3, k4, k5⟩ : ∃ k : Nat, (64 : Int) * (q : Int) = (k : Int) ∧ IntKind.i64.wrap (k : Int) = (k : Int) ∧ (k : Int) / 64 = (q : Int) ∧ (k : Int).tdiv 64 = (q : Int) ∧ k = 64 * q := ⟨64 * q, by omega, IntWalk.i64_in _ (by omega), by omega, by rw [Int.tdiv_eq_ediv_of_nonneg (by omega)]; omega, rfl⟩
  have hkn : k ≤ n1 := by omega
  obtain ⟨c2, s1, s2, s3, s4⟩ : ∃ c2 : Nat, ((count : Int) + (q : Int)) % 4294967296 = (c2 : Int) ∧ IntKind.u32.wrap ((count : Int) + (q : Int)) = (c2 : Int) ∧ c2 = (count + q) % 4294967296 ∧ c2 < 4294967296 := ⟨(count + q) % 4294967296, by omega, by rw [IntKind.wrap_u32]; omega, rfl, by omega⟩
  have s5 : IntKind.u32.wrap (q : Int) = (q : Int) := by rw [IntKind.wrap_u32]; omega
  have s6 : (q : Int) % 4294967296 = (q : Int) := by omega
  have HC1 : Hid (∀ w', Below w.heap.size w w' → Calls Try.prog 22 #[.agg (cells8 key).toArray, .agg (cells8 nonce).toArray, .int .u32 count, .slice a1 l1.length cap1] w' fun e w'' => ∃ g c, e = .returned (.slice (some ⟨g, 0, none⟩) l1.length c) ∧ Hid (w''.ownsRow w'.heap.size 5 1 (.slice (some ⟨g, 0, none⟩) l1.length c) l1.length (cells8 (crossF key nonce count l1)) ∧ BA w'' (some ⟨g, 0, none⟩) c (crossF key nonce count l1)) ∧ Below w'.heap.size w' w'') := Lib.hid (fun w' h => cross_ba key nonce count a1 cap1 l1 w' hk hn hc (h1.below h))
  have HC2 : Hid (∀ w', Below w.heap.size w w' → Calls Try.prog 22 #[.agg (cells8 key).toArray, .agg (cells8 nonce).toArray, .int .u32 c2, .slice (cutFrom a1 cap1 k 1) (n1 - k) (cap1 - k)] w' fun e w'' => ∃ g c, e = .returned (.slice (some ⟨g, 0, none⟩) (n1 - k) c) ∧ BA w'' (some ⟨g, 0, none⟩) c ((crossF key nonce count l1).drop k) ∧ Below w'.heap.size w' w'') := Lib.hid (fun w' h => by
    have h3 := cross_ba key nonce c2 (cutFrom a1 cap1 k 1) (cap1 - k) (l1.drop k) w' hk hn s4 ((h1.below h).tail k)
    rw [s3, k5, ← crossF_later, ← k5, List.length_drop, hn1, ← s3] at h3
    refine h3.mono ?_
    rintro _ w'' ⟨g, c, rfl, hh, hb⟩
    exact ⟨g, c, rfl, hh.out.2, hb⟩)
  have HFL := Lib.hid (crossF_length key nonce count l1)
  generalize crossF key nonce count l1 = F at *
  obtain ⟨pb, hK⟩ : ∃ pb, w.heap.size = pb := ⟨_, rfl⟩
  have HP0 := Lib.hid (PL.start key nonce count w hk hn)
  have HI32 : Hid (some 32 = some (cells8 key).length) := Lib.hid (by rw [cells8_length, hk])
  have HI12 : Hid (some 12 = some (cells8 nonce).length) := Lib.hid (by rw [cells8_length, hn])
  rw [hK] at HP0
  have HB1 := Lib.hid h1
  rw [hn1] at HC1 HFL ⊢
  have HN1 := Lib.hid hn1
  obtain ⟨i0, hi0, hs1⟩ : ∃ i0, Try.prog.info? 5 = some i0 ∧ i0.size = 1 := by
    obtain ⟨i0, hi0, _, hz1, _⟩ := info_parts Try.infoB
    exact ⟨i0, hi0, hz1⟩
  have r1 := fun (a : Option Addr) (cap : Nat) (w : World) => run_cut_from Try.underlying32 hi0 a n1 cap k .i64 hkn w
  rw [hs1] at r1
  have R1 := Lib.hid r1
  clear r1 hi0 hs1
  clear hk hn h1 hn1 k5 s3 e2 d4 q5
  generalize placeCells key nonce count = pc at *
  go_enter Try.func11, Try.ntmps11
  go_wp2_with (first
    | ((with_reducible refine (sshown_any _).mono ?_); rintro _ w1 ⟨rfl, hb1⟩; have HP1 := Lib.hid (HP0.out.later hb1); have hc1 := HP1.out.2.2.1; clear HP0)
    | (refine wpList_load_mid rfl 22 _ rfl pb 0 (by rfl) (cells8 key) _ HP1.out.1 Try.underlying22 rfl (info32.trans HI32.out) ?_)
    | (refine wpList_load_mid rfl 23 _ rfl pb 32 (by rfl) (cells8 nonce) _ HP1.out.2.1 Try.underlying23 rfl (info12.trans HI12.out) ?_)
    | ((with_reducible refine (HC1.out _ HP1.out.bel).mono ?_); rintro _ w2 ⟨g1, c1, rfl, hx1, hb2⟩; have HP2 := Lib.hid (HP1.out.later hb2); clear HP1 hc1))
  have HX1 := Lib.hid hx1.out.2
  have hS : PL w pb key nonce count w2 ∧ BA w2 (some ⟨g1, 0, none⟩) c1 F := ⟨HP2.out, HX1.out⟩
  clear hx1 HP2 HX1 hb2
  have r1 := R1.out a1 cap1
  refine wp_region_held_drew (S := (fun w' => w'.rangeAt pb 0 (cells8 key) ∧ w'.rangeAt pb 32 (cells8 nonce) ∧ w'.cell? ⟨pb, 44, none⟩ = some (.int .u32 (count : Nat)) ∧ Below w.heap.size w w' ∧ BA w' (some ⟨g1, 0, none⟩) c1 F)) (by kernel_rfl) ?_ (fun hS0 => ?_)
  · exact ⟨hS.1.1, hS.1.2.1, hS.1.2.2.1, hS.1.2.2.2.drew, hS.2.drew⟩
  refine wpAnyH_take (i := 0) (oi := { dst := some 28, op := Op.fieldAddr 26 (Operand.tmp 3) 0, type := 0, pos := "law.go:54", after := #[], guard := none }) (v := ?_) rfl (by kernel_rfl) (by kernel_rfl) (by kernel_rfl) (fun _ _ _ h => h) (Or.inl ⟨by rfl, ?hy1⟩) (by assumption) ?_
  case hy1 => (intro w hSw; (try dsimp only at hSw); go_simp; try with_reducible rfl)
  (try simp only [Act.put, List.setIfInBounds_toArray, List.set_cons_zero, List.set_cons_succ])
  refine wpAnyH_take (i := 1) (oi := { dst := some 29, op := Op.load 22 (Operand.tmp 28), type := 22, pos := "law.go:54", after := #[{ on := 0, ground := Ground.data }], guard := none }) (v := _) rfl (by kernel_rfl) (by kernel_rfl) (by kernel_rfl) (fun _ _ _ h => h) (yieldsIf_load_mid (by rfl) 22 _ rfl pb 0 (by rfl) (cells8 key) _ (fun w' hw' => hw'.1) Try.underlying22 rfl (info32.trans HI32.out)) (by assumption) ?_
  (try simp only [Act.put, List.setIfInBounds_toArray, List.set_cons_zero, List.set_cons_succ])
  refine wpAnyH_take (i := 2) (oi := { dst := some 30, op := Op.fieldAddr 26 (Operand.tmp 3) 1, type := 0, pos := "law.go:54", after := #[], guard := none }) (v := ?_) rfl (by kernel_rfl) (by kernel_rfl) (by kernel_rfl) (fun _ _ _ h => h) (Or.inl ⟨by rfl, ?hy3⟩) (by assumption) ?_
  case hy3 => (intro w hSw; (try dsimp only at hSw); go_simp; try with_reducible rfl)
  (try simp only [Act.put, List.setIfInBounds_toArray, List.set_cons_zero, List.set_cons_succ])
  refine wpAnyH_take (i := 3) (oi := { dst := some 31, op := Op.load 23 (Operand.tmp 30), type := 23, pos := "law.go:54", after := #[{ on := 2, ground := Ground.data }], guard := none }) (v := _) rfl (by kernel_rfl) (by kernel_rfl) (by kernel_rfl) (fun _ _ _ h => h) (yieldsIf_load_mid (by rfl) 23 _ rfl pb 32 (by rfl) (cells8 nonce) _ (fun w' hw' => hw'.2.1) Try.underlying23 rfl (info12.trans HI12.out)) (by assumption) ?_
  (try simp only [Act.put, List.setIfInBounds_toArray, List.set_cons_zero, List.set_cons_succ])
  refine wpAnyH_take (i := 4) (oi := { dst := some 32, op := Op.fieldAddr 26 (Operand.tmp 3) 2, type := 0, pos := "law.go:54", after := #[], guard := none }) (v := ?_) rfl (by kernel_rfl) (by kernel_rfl) (by kernel_rfl) (fun _ _ _ h => h) (Or.inl ⟨by rfl, ?hy5⟩) (by assumption) ?_
  case hy5 => (intro w hSw; (try dsimp only at hSw); go_simp; try with_reducible rfl)
  (try simp only [Act.put, List.setIfInBounds_toArray, List.set_cons_zero, List.set_cons_succ])
  refine wpAnyH_take (i := 5) (oi := { dst := some 33, op := Op.load 24 (Operand.tmp 32), type := 24, pos := "law.go:54", after := #[{ on := 4, ground := Ground.data }], guard := none }) (v := ?_) rfl (by kernel_rfl) (by kernel_rfl) (by kernel_rfl) (fun _ _ _ h => h) (Or.inl ⟨by rfl, ?hy6⟩) (by assumption) ?_
  case hy6 => (intro w hSw; (try dsimp only at hSw); go_simp; try with_reducible rfl)
  (try simp only [Act.put, List.setIfInBounds_toArray, List.set_cons_zero, List.set_cons_succ])
  refine wpAnyH_take (i := 6) (oi := { dst := some 34, op := Op.move (Operand.tmp 8), type := 3, pos := "law.go:54", after := #[], guard := none }) (v := ?_) rfl (by kernel_rfl) (by kernel_rfl) (by kernel_rfl) (fun _ _ _ h => h) (Or.inl ⟨by rfl, ?hy7⟩) (by assumption) ?_
  case hy7 => (intro w hSw; (try dsimp only at hSw); go_simp; try with_reducible rfl)
  (try simp only [Act.put, List.setIfInBounds_toArray, List.set_cons_zero, List.set_cons_succ])
  refine wpAnyH_take (i := 7) (oi := { dst := some 35, op := Op.binOp BinOp.quo 3 (Operand.tmp 34) (Operand.const (Value.int IntKind.i64 64)) 3, type := 3, pos := "law.go:54", after := #[{ on := 6, ground := Ground.data }], guard := none }) (v := ?_) rfl (by kernel_rfl) (by kernel_rfl) (by kernel_rfl) (fun _ _ _ h => h) (Or.inl ⟨by rfl, ?hy8⟩) (by assumption) ?_
  case hy8 => (intro w hSw; (try dsimp only at hSw); go_simp; try with_reducible rfl)
  (try simp only [Act.put, List.setIfInBounds_toArray, List.set_cons_zero, List.set_cons_succ])
  refine wpAnyH_take (i := 8) (oi := { dst := some 36, op := Op.convert 3 24 (Operand.tmp 35), type := 24, pos := "law.go:54", after := #[{ on := 7, ground := Ground.data }], guard := none }) (v := ?_) rfl (by kernel_rfl) (by kernel_rfl) (by kernel_rfl) (fun _ _ _ h => h) (Or.inl ⟨by rfl, ?hy9⟩) (by assumption) ?_
  case hy9 => (intro w hSw; (try dsimp only at hSw); go_simp; try with_reducible rfl)
  (try simp only [Act.put, List.setIfInBounds_toArray, List.set_cons_zero, List.set_cons_succ])
  refine wpAnyH_take (i := 9) (oi := { dst := some 37, op := Op.binOp BinOp.add 24 (Operand.tmp 33) (Operand.tmp 36) 24, type := 24, pos := "law.go:54", after := #[{ on := 5, ground := Ground.data }, { on := 8, ground := Ground.data }], guard := none }) (v := ?_) rfl (by kernel_rfl) (by kernel_rfl) (by kernel_rfl) (fun _ _ _ h => h) (Or.inl ⟨by rfl, ?hy10⟩) (by assumption) ?_
  case hy10 => (intro w hSw; (try dsimp only at hSw); go_simp; try with_reducible rfl)
  (try simp only [Act.put, List.setIfInBounds_toArray, List.set_cons_zero, List.set_cons_succ])
  refine wpAnyH_take (i := 10) (oi := { dst := some 38, op := Op.move (Operand.tmp 1), type := 32, pos := "law.go:54", after := #[], guard := none }) (v := ?_) rfl (by kernel_rfl) (by kernel_rfl) (by kernel_rfl) (fun _ _ _ h => h) (Or.inl ⟨by rfl, ?hy11⟩) (by assumption) ?_
  case hy11 => (intro w hSw; (try dsimp only at hSw); go_simp; try with_reducible rfl)
  (try simp only [Act.put, List.setIfInBounds_toArray, List.set_cons_zero, List.set_cons_succ])
  refine wpAnyH_take (i := 11) (oi := { dst := some 39, op := Op.move (Operand.tmp 8), type := 3, pos := "law.go:54", after := #[], guard := none }) (v := ?_) rfl (by kernel_rfl) (by kernel_rfl) (by kernel_rfl) (fun _ _ _ h => h) (Or.inl ⟨by rfl, ?hy12⟩) (by assumption) ?_
  case hy12 => (intro w hSw; (try dsimp only at hSw); go_simp; try with_reducible rfl)
  (try simp only [Act.put, List.setIfInBounds_toArray, List.set_cons_zero, List.set_cons_succ])
  refine wpAnyH_take (i := 12) (oi := { dst := some 40, op := Op.slice 32 (Operand.tmp 38) (some (Operand.tmp 39)) none none, type := 32, pos := "law.go:54", after := #[{ on := 10, ground := Ground.data }, { on := 11, ground := Ground.data }], guard := none }) (v := ?_) rfl (by kernel_rfl) (by kernel_rfl) (by kernel_rfl) (fun _ _ _ h => h) (Or.inl ⟨by rfl, ?hy13⟩) (by assumption) ?_
  case hy13 => (intro w hSw; (try dsimp only at hSw); go_simp; try with_reducible rfl)
  (try simp only [Act.put, List.setIfInBounds_toArray, List.set_cons_zero, List.set_cons_succ])
  refine wpAnyH_ready (rs := [13]) (by kernel_rfl) (by simp) (AllReadyH.cons (o := { dst := some 41, op := Op.call { callee := Callee.value (Operand.func 22), args := #[Operand.tmp 29, Operand.tmp 31, Operand.tmp 37, Operand.tmp 40], argTypes := #[22, 23, 24, 32] }, type := 32, pos := "law.go:54", after := #[{ on := 1, ground := Ground.data }, { on := 3, ground := Ground.data }, { on := 9, ground := Ground.data }, { on := 12, ground := Ground.data }], guard := none }) rfl (fun K hK => ?_) AllReadyH.nil)
  go_simp
  refine (HC2.out _ hS0.2.2.2.1).mono ?_
  rintro _ w4 ⟨g2, c2', rfl, hx2, hb4⟩
  (try dsimp only)
  refine Shut.out hK _ _ ?_ (fun hS13 => ?_)
  · have hL := PL.later (w0 := w) (show PL w pb key nonce count _ from ⟨hS0.1, hS0.2.1, hS0.2.2.1, hS0.2.2.2.1⟩) hb4; exact ⟨hL.1, hL.2.1, hL.2.2.1, hL.2.2.2, hS0.2.2.2.2.below hb4⟩
  clear hK K
  (try simp only [Act.put, List.setIfInBounds_toArray, List.set_cons_zero, List.set_cons_succ])
  refine wpAnyH_take (i := 14) (oi := { dst := some 10, op := Op.assign (Operand.tmp 41), type := 32, pos := "law.go:54", after := #[{ on := 13, ground := Ground.data }, { on := 13, ground := Ground.chain }, { on := 0, ground := Ground.phase }, { on := 1, ground := Ground.phase }, { on := 2, ground := Ground.phase }, { on := 3, ground := Ground.phase }, { on := 4, ground := Ground.phase }, { on := 5, ground := Ground.phase }, { on := 6, ground := Ground.phase }, { on := 7, ground := Ground.phase }, { on := 8, ground := Ground.phase }, { on := 9, ground := Ground.phase }, { on := 10, ground := Ground.phase }, { on := 11, ground := Ground.phase }, { on := 12, ground := Ground.phase }, { on := 13, ground := Ground.phase }], guard := none }) (v := ?_) rfl (by kernel_rfl) (by kernel_rfl) (by kernel_rfl) (fun _ _ _ h => h) (Or.inl ⟨by rfl, ?hy14⟩) (by assumption) ?_
  case hy14 => (intro w hSw; (try dsimp only at hSw); go_simp; try with_reducible rfl)
  (try simp only [Act.put, List.setIfInBounds_toArray, List.set_cons_zero, List.set_cons_succ])
  refine wpAnyH_done (by kernel_rfl) ?_ _
  go_wp2
  have r2 := R1.out (some ⟨g1, 0, none⟩) c1
  have hBT : BA w4 (cutFrom (some ⟨g1, 0, none⟩) c1 k 1) (c1 - k) (F.drop k) := hS13.2.2.2.2.tail k
  have hDL : Hid ((F.drop k).length = n1 - k) := Lib.hid (by rw [List.length_drop, HFL.out])
  have hS2 : BA w4 (cutFrom (some ⟨g1, 0, none⟩) c1 k 1) (c1 - k) (F.drop k) ∧ BA w4 (some ⟨g2, 0, none⟩) c2' (F.drop k) ∧ Below w.heap.size w w4 := ⟨hBT, hx2, hS13.2.2.2.1⟩
  clear hBT hx2
  generalize cutFrom (some ⟨g1, 0, none⟩) c1 k 1 = A5 at *
  generalize F.drop k = D at *
  generalize n1 - k = m at *
  generalize c1 - k = c5 at *
  refine wp_region_held_drew (S := (fun w' => (convert 32 9 (.slice A5 m c5)).run Try.prog w' = .ok (.string ⟨D.toArray⟩) w' ∧ (convert 32 9 (.slice (some ⟨g2, 0, none⟩) m c2')).run Try.prog w' = .ok (.string ⟨D.toArray⟩) w')) (by kernel_rfl) ?_ (fun hS0 => ?_)
  · exact ⟨(runN_of hS2.1.drew hDL.out : RunN w4.drew A5 m c5 D), (runN_of hS2.2.1.drew hDL.out : RunN w4.drew (some ⟨g2, 0, none⟩) m c2' D)⟩
  refine wpAnyH_take (i := 0) (oi := { dst := some 42, op := Op.move (Operand.tmp 7), type := 4, pos := "law.go:55", after := #[], guard := none }) (v := ?_) rfl (by kernel_rfl) (by kernel_rfl) (by kernel_rfl) (fun _ _ _ h => h) (Or.inl ⟨by rfl, ?hy1⟩) (by assumption) ?_
  case hy1 => (intro w hSw; (try dsimp only at hSw); go_simp; try with_reducible rfl)
  (try simp only [Act.put, List.setIfInBounds_toArray, List.set_cons_zero, List.set_cons_succ])
  refine wpAnyH_take (i := 1) (oi := { dst := some 43, op := Op.move (Operand.tmp 42), type := 4, pos := "law.go:55", after := #[{ on := 0, ground := Ground.data }], guard := none }) (v := ?_) rfl (by kernel_rfl) (by kernel_rfl) (by kernel_rfl) (fun _ _ _ h => h) (Or.inl ⟨by rfl, ?hy2⟩) (by assumption) ?_
  case hy2 => (intro w hSw; (try dsimp only at hSw); go_simp; try with_reducible rfl)
  (try simp only [Act.put, List.setIfInBounds_toArray, List.set_cons_zero, List.set_cons_succ])
  refine wpAnyH_take (i := 2) (oi := { dst := some 44, op := Op.move (Operand.tmp 9), type := 32, pos := "law.go:55", after := #[{ on := 1, ground := Ground.guard }], guard := some (1, true) }) (v := ?_) rfl (by kernel_rfl) (by kernel_rfl) (by kernel_rfl) (fun _ _ _ h => h) (Or.inl ⟨by rfl, ?hy3⟩) (by assumption) ?_
  case hy3 => (intro w hSw; (try dsimp only at hSw); go_simp; try with_reducible rfl)
  (try simp only [Act.put, List.setIfInBounds_toArray, List.set_cons_zero, List.set_cons_succ])
  refine wpAnyH_take (i := 3) (oi := { dst := some 45, op := Op.call { callee := Callee.builtin Builtin.len, args := #[Operand.tmp 44], argTypes := #[32] }, type := 3, pos := "law.go:55", after := #[{ on := 2, ground := Ground.data }, { on := 1, ground := Ground.guard }], guard := some (1, true) }) (v := ?_) rfl (by kernel_rfl) (by kernel_rfl) (by kernel_rfl) (fun _ _ _ h => h) (Or.inl ⟨by rfl, ?hy4⟩) (by assumption) ?_
  case hy4 => (intro w hSw; (try dsimp only at hSw); go_simp; try with_reducible rfl)
  (try simp only [Act.put, List.setIfInBounds_toArray, List.set_cons_zero, List.set_cons_succ])
  refine wpAnyH_take (i := 4) (oi := { dst := some 46, op := Op.move (Operand.tmp 1), type := 32, pos := "law.go:55", after := #[{ on := 1, ground := Ground.guard }], guard := some (1, true) }) (v := ?_) rfl (by kernel_rfl) (by kernel_rfl) (by kernel_rfl) (fun _ _ _ h => h) (Or.inl ⟨by rfl, ?hy5⟩) (by assumption) ?_
  case hy5 => (intro w hSw; (try dsimp only at hSw); go_simp; try with_reducible rfl)
  (try simp only [Act.put, List.setIfInBounds_toArray, List.set_cons_zero, List.set_cons_succ])
  refine wpAnyH_take (i := 5) (oi := { dst := some 47, op := Op.call { callee := Callee.builtin Builtin.len, args := #[Operand.tmp 46], argTypes := #[32] }, type := 3, pos := "law.go:55", after := #[{ on := 4, ground := Ground.data }, { on := 1, ground := Ground.guard }], guard := some (1, true) }) (v := ?_) rfl (by kernel_rfl) (by kernel_rfl) (by kernel_rfl) (fun _ _ _ h => h) (Or.inl ⟨by rfl, ?hy6⟩) (by assumption) ?_
  case hy6 => (intro w hSw; (try dsimp only at hSw); go_simp; try with_reducible rfl)
  (try simp only [Act.put, List.setIfInBounds_toArray, List.set_cons_zero, List.set_cons_succ])
  refine wpAnyH_take (i := 6) (oi := { dst := some 48, op := Op.binOp BinOp.eql 3 (Operand.tmp 45) (Operand.tmp 47) 3, type := 4, pos := "law.go:55", after := #[{ on := 3, ground := Ground.data }, { on := 5, ground := Ground.data }, { on := 1, ground := Ground.guard }], guard := some (1, true) }) (v := ?_) rfl (by kernel_rfl) (by kernel_rfl) (by kernel_rfl) (fun _ _ _ h => h) (Or.inl ⟨by rfl, ?hy7⟩) (by assumption) ?_
  case hy7 => (intro w hSw; (try dsimp only at hSw); go_simp; try with_reducible rfl)
  (try simp only [Act.put, List.setIfInBounds_toArray, List.set_cons_zero, List.set_cons_succ])
  refine wpAnyH_take (i := 7) (oi := { dst := some 49, op := Op.pick (Operand.tmp 43) (Operand.tmp 48) (Operand.const (Value.bool false)), type := 4, pos := "law.go:55", after := #[{ on := 1, ground := Ground.data }, { on := 6, ground := Ground.data }], guard := none }) (v := ?_) rfl (by kernel_rfl) (by kernel_rfl) (by kernel_rfl) (fun _ _ _ h => h) (Or.inl ⟨by rfl, ?hy8⟩) (by assumption) ?_
  case hy8 => (intro w hSw; (try dsimp only at hSw); go_simp; try with_reducible rfl)
  (try simp only [Act.put, List.setIfInBounds_toArray, List.set_cons_zero, List.set_cons_succ])
  refine wpAnyH_take (i := 8) (oi := { dst := some 50, op := Op.move (Operand.tmp 49), type := 4, pos := "law.go:55", after := #[{ on := 7, ground := Ground.data }, { on := 1, ground := Ground.chain }], guard := none }) (v := ?_) rfl (by kernel_rfl) (by kernel_rfl) (by kernel_rfl) (fun _ _ _ h => h) (Or.inl ⟨by rfl, ?hy9⟩) (by assumption) ?_
  case hy9 => (intro w hSw; (try dsimp only at hSw); go_simp; try with_reducible rfl)
  (try simp only [Act.put, List.setIfInBounds_toArray, List.set_cons_zero, List.set_cons_succ])
  refine wpAnyH_take (i := 9) (oi := { dst := some 51, op := Op.move (Operand.tmp 9), type := 32, pos := "law.go:55", after := #[{ on := 8, ground := Ground.guard }], guard := some (8, true) }) (v := ?_) rfl (by kernel_rfl) (by kernel_rfl) (by kernel_rfl) (fun _ _ _ h => h) (Or.inl ⟨by rfl, ?hy10⟩) (by assumption) ?_
  case hy10 => (intro w hSw; (try dsimp only at hSw); go_simp; try with_reducible rfl)
  (try simp only [Act.put, List.setIfInBounds_toArray, List.set_cons_zero, List.set_cons_succ])
  refine wpAnyH_take (i := 10) (oi := { dst := some 52, op := Op.move (Operand.tmp 8), type := 3, pos := "law.go:55", after := #[{ on := 8, ground := Ground.guard }], guard := some (8, true) }) (v := ?_) rfl (by kernel_rfl) (by kernel_rfl) (by kernel_rfl) (fun _ _ _ h => h) (Or.inl ⟨by rfl, ?hy11⟩) (by assumption) ?_
  case hy11 => (intro w hSw; (try dsimp only at hSw); go_simp; try with_reducible rfl)
  (try simp only [Act.put, List.setIfInBounds_toArray, List.set_cons_zero, List.set_cons_succ])
  refine wpAnyH_take (i := 11) (oi := { dst := some 53, op := Op.slice 32 (Operand.tmp 51) (some (Operand.tmp 52)) none none, type := 32, pos := "law.go:55", after := #[{ on := 9, ground := Ground.data }, { on := 10, ground := Ground.data }, { on := 8, ground := Ground.guard }], guard := some (8, true) }) (v := ?_) rfl (by kernel_rfl) (by kernel_rfl) (by kernel_rfl) (fun _ _ _ h => h) (Or.inl ⟨by rfl, ?hy12⟩) (by assumption) ?_
  case hy12 => (intro w hSw; (try dsimp only at hSw); go_simp; try with_reducible rfl)
  (try simp only [Act.put, List.setIfInBounds_toArray, List.set_cons_zero, List.set_cons_succ])
  refine wpAnyH_take (i := 12) (oi := { dst := some 54, op := Op.convert 32 9 (Operand.tmp 53), type := 9, pos := "law.go:55", after := #[{ on := 11, ground := Ground.data }, { on := 8, ground := Ground.guard }], guard := some (8, true) }) (v := ?_) rfl (by kernel_rfl) (by kernel_rfl) (by kernel_rfl) (fun _ _ _ h => h) (Or.inl ⟨by rfl, ?hy13⟩) (by assumption) ?_
  case hy13 => (intro w hSw; (try dsimp only at hSw); go_simp; try with_reducible rfl)
  (try simp only [Act.put, List.setIfInBounds_toArray, List.set_cons_zero, List.set_cons_succ])
  refine wpAnyH_take (i := 13) (oi := { dst := some 55, op := Op.move (Operand.tmp 10), type := 32, pos := "law.go:55", after := #[{ on := 8, ground := Ground.guard }], guard := some (8, true) }) (v := ?_) rfl (by kernel_rfl) (by kernel_rfl) (by kernel_rfl) (fun _ _ _ h => h) (Or.inl ⟨by rfl, ?hy14⟩) (by assumption) ?_
  case hy14 => (intro w hSw; (try dsimp only at hSw); go_simp; try with_reducible rfl)
  (try simp only [Act.put, List.setIfInBounds_toArray, List.set_cons_zero, List.set_cons_succ])
  refine wpAnyH_take (i := 14) (oi := { dst := some 56, op := Op.convert 32 9 (Operand.tmp 55), type := 9, pos := "law.go:55", after := #[{ on := 13, ground := Ground.data }, { on := 8, ground := Ground.guard }], guard := some (8, true) }) (v := ?_) rfl (by kernel_rfl) (by kernel_rfl) (by kernel_rfl) (fun _ _ _ h => h) (Or.inl ⟨by rfl, ?hy15⟩) (by assumption) ?_
  case hy15 => (intro w hSw; (try dsimp only at hSw); go_simp; try with_reducible rfl)
  (try simp only [Act.put, List.setIfInBounds_toArray, List.set_cons_zero, List.set_cons_succ])
  refine wpAnyH_take (i := 15) (oi := { dst := some 57, op := Op.binOp BinOp.eql 9 (Operand.tmp 54) (Operand.tmp 56) 9, type := 4, pos := "law.go:55", after := #[{ on := 12, ground := Ground.data }, { on := 14, ground := Ground.data }, { on := 8, ground := Ground.guard }], guard := some (8, true) }) (v := ?_) rfl (by kernel_rfl) (by kernel_rfl) (by kernel_rfl) (fun _ _ _ h => h) (Or.inl ⟨by rfl, ?hy16⟩) (by assumption) ?_
  case hy16 => (intro w hSw; (try dsimp only at hSw); go_simp; try with_reducible rfl)
  (try simp only [Act.put, List.setIfInBounds_toArray, List.set_cons_zero, List.set_cons_succ])
  refine wpAnyH_take (i := 16) (oi := { dst := some 58, op := Op.pick (Operand.tmp 50) (Operand.tmp 57) (Operand.const (Value.bool false)), type := 4, pos := "law.go:55", after := #[{ on := 8, ground := Ground.data }, { on := 15, ground := Ground.data }], guard := none }) (v := ?_) rfl (by kernel_rfl) (by kernel_rfl) (by kernel_rfl) (fun _ _ _ h => h) (Or.inl ⟨by rfl, ?hy17⟩) (by assumption) ?_
  case hy17 => (intro w hSw; (try dsimp only at hSw); go_simp; try with_reducible rfl)
  (try simp only [Act.put, List.setIfInBounds_toArray, List.set_cons_zero, List.set_cons_succ])
  refine wpAnyH_take (i := 17) (oi := { dst := some 6, op := Op.assign (Operand.tmp 58), type := 4, pos := "law.go:55", after := #[{ on := 16, ground := Ground.data }, { on := 8, ground := Ground.chain }, { on := 0, ground := Ground.phase }, { on := 1, ground := Ground.phase }, { on := 2, ground := Ground.phase }, { on := 3, ground := Ground.phase }, { on := 4, ground := Ground.phase }, { on := 5, ground := Ground.phase }, { on := 6, ground := Ground.phase }, { on := 7, ground := Ground.phase }, { on := 8, ground := Ground.phase }, { on := 9, ground := Ground.phase }, { on := 10, ground := Ground.phase }, { on := 11, ground := Ground.phase }, { on := 12, ground := Ground.phase }, { on := 13, ground := Ground.phase }, { on := 14, ground := Ground.phase }, { on := 15, ground := Ground.phase }, { on := 16, ground := Ground.phase }], guard := none }) (v := ?_) rfl (by kernel_rfl) (by kernel_rfl) (by kernel_rfl) (fun _ _ _ h => h) (Or.inl ⟨by rfl, ?hy18⟩) (by assumption) ?_
  case hy18 => (intro w hSw; (try dsimp only at hSw); go_simp; try with_reducible rfl)
  (try simp only [Act.put, List.setIfInBounds_toArray, List.set_cons_zero, List.set_cons_succ])
  refine wpAnyH_done (by kernel_rfl) ?_ _
  all_goals
    go_wp2
    go_ret
    exact ⟨rfl, hS2.2.2.drew⟩
end Go.Proofs.Ytogihaiedemdhaa

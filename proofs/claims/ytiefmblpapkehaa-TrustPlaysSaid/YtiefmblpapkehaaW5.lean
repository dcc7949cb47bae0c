import Derived.Test.YtiefmblpapkehaaW4
import Derived.Test.YtiefmblpapkehaaDraw
namespace Go.Proofs.Ytiefmblpapkehaa
open Go.RowKit
set_option linter.unusedVariables false

/-- Both counters in a world. -/
def St (w0 : World) (b c m o m' o' : Nat) (w : World) : Prop := Two 41 w b m o ∧ Two 29 w c m' o' ∧ Below w0.heap.size w0 w ∧ w0.heap.size ≤ b ∧ w0.heap.size ≤ c ∧ b ≠ c
theorem St.bel {w0 w : World} {b c m o m' o' : Nat} (h : St w0 b c m o m' o' w) : Below w0.heap.size w0 w := h.2.2.1
theorem St.drew {w0 w : World} {b c m o m' o' : Nat} (h : St w0 b c m o m' o' w) : St w0 b c m o m' o' w.drew := ⟨h.1, h.2.1, h.2.2.1.drew, h.2.2.2⟩
theorem St.k0 {w0 w : World} {b c m o m' o' : Nat} (h : St w0 b c m o m' o' w) : w.cell? ⟨c, 0, none⟩ = some (.int .u64 (m' : Nat)) := h.2.1.c0
theorem St.k1 {w0 w : World} {b c m o m' o' : Nat} (h : St w0 b c m o m' o' w) : w.cell? ⟨c, 1, none⟩ = some (.int .u64 (o' : Nat)) := h.2.1.c1

theorem mark_st {w0 w : World} {b c m o m' o' n : Nat} (h : St w0 b c m o m' o' w) (hn : n < 18446744073709551616) (hm : m < 18446744073709551616) : Calls Try.prog 11 #[.pointer (some ⟨b, 0, none⟩), .int .u64 n] w fun e w' =>
    e = .returned (.int .i64 (markE m n)) ∧ St w0 b c (marked m n) o m' o' w' := by
  obtain ⟨h1, h2, h3, h4, h5, h6⟩ := h
  exact (mark_any b m o n w h1 hn hm).mono fun e w' ⟨he, t, g⟩ => ⟨he, t, h2.kept g (by simp; omega), below_own h3 g h4, h4, h5, h6⟩
theorem rmark_st {w0 w : World} {b c m o m' o' n : Nat} (h : St w0 b c m o m' o' w) (hn : n < 18446744073709551616) (hm : m' < 18446744073709551616) : Calls Try.prog 12 #[.pointer (some ⟨c, 0, none⟩), .int .u64 n] w fun e w' =>
    e = .returned (.int .i64 (markE m' n)) ∧ St w0 b c m o (marked m' n) o' w' ∧ w'.cell? ⟨c, 0, none⟩ = some (.int .u64 (marked m' n : Nat)) ∧ w'.cell? ⟨c, 1, none⟩ = some (.int .u64 (o' : Nat)) := by
  obtain ⟨h1, h2, h3, h4, h5, h6⟩ := h
  exact (rmark_any c m' o' n w h2 hn hm).mono fun e w' ⟨he, t, g⟩ => ⟨he, ⟨h1.kept g (by simp; omega), t, below_own h3 g h5, h4, h5, h6⟩, t.c0, t.c1⟩
theorem open_st {w0 w : World} {b c m o m' o' : Nat} (h : St w0 b c m o m' o' w) (ho : o < 18446744073709551616) : Calls Try.prog 9 #[.pointer (some ⟨b, 0, none⟩)] w fun e w' =>
    e = .returned (.tuple #[.int .u64 (openV o : Nat), .int .i64 (openE o)]) ∧ St w0 b c m (opened o) m' o' w' := by
  obtain ⟨h1, h2, h3, h4, h5, h6⟩ := h
  exact (open_any b m o w h1 ho).mono fun e w' ⟨he, t, g⟩ => ⟨he, t, h2.kept g (by simp; omega), below_own h3 g h4, h4, h5, h6⟩
theorem ropen_st {w0 w : World} {b c m o m' o' : Nat} (h : St w0 b c m o m' o' w) (ho : o' < 18446744073709551616) : Calls Try.prog 10 #[.pointer (some ⟨c, 0, none⟩)] w fun e w' =>
    e = .returned (.tuple #[.int .u64 (openV o' : Nat), .int .i64 (openE o')]) ∧ St w0 b c m o m' (opened o') w' := by
  obtain ⟨h1, h2, h3, h4, h5, h6⟩ := h
  exact (ropen_any c m' o' w h2 ho).mono fun e w' ⟨he, t, g⟩ => ⟨he, h1.kept g (by simp; omega), t, below_own h3 g h5, h4, h5, h6⟩
theorem marks_st {w0 w : World} {b c m o m' o' : Nat} (h : St w0 b c m o m' o' w) : Calls Try.prog 13 #[.pointer (some ⟨b, 0, none⟩)] w fun e w' => e = .returned (.int .u64 (m : Nat)) ∧ w = w' := marks_any b m o w h.1
theorem opens_st {w0 w : World} {b c m o m' o' : Nat} (h : St w0 b c m o m' o' w) : Calls Try.prog 14 #[.pointer (some ⟨b, 0, none⟩)] w fun e w' => e = .returned (.int .u64 (o : Nat)) ∧ w = w' := opens_any b m o w h.1

theorem marked_le (m n k : Nat) (h : m ≤ k) : marked m n ≤ k + 1 := by unfold marked; split <;> omega
theorem opened_le (o k : Nat) (h : o ≤ k) : opened o ≤ k + 1 := by unfold opened; split <;> omega

set_option maxRecDepth 100000 in
set_option maxHeartbeats 4000000 in
theorem law_plays (a : Option Addr) (cap : Nat) (l : List Nat) (w : World) (hl : l.length ≤ maxLen) (hb : Nums .u64 w a l) (hw : ∀ n ∈ l, n < 18446744073709551616) :
    Calls Try.prog 3 #[.slice a l.length cap] w fun e w' => e = .returned (.bool true) ∧ Below w.heap.size w w' := by
  unfold maxLen at hl
  go_enter Try.func3, Try.ntmps3
  go_wp2_with fail
  refine (shown_any _).mono ?_
  rintro e w1 ⟨rfl, hw1⟩
  go_wp2_with fail
  refine (new_any _).mono ?_
  rintro e w2 ⟨rfl, t2, hw2⟩
  have hs0 : St w w1.heap.size w2.heap.size 0 0 0 0 (w2.alloc (.cells #[.int .u64 0, .int .u64 0] 29)) :=
    ⟨t2.below ((Below.refl _ _).alloc (Nat.le_refl _) _), heap_at _ _, (hw1.trans (hw2.mono hw1.size)).alloc (Nat.le_trans hw1.size hw2.size) _, hw1.size, Nat.le_trans hw1.size hw2.size, by have := t2.lt; omega⟩
  go_wp2_with fail
  generalize hb1 : w1.heap.size = b at *
  generalize hb2 : w2.heap.size = c at *
  generalize w2.alloc (.cells #[.int .u64 0, .int .u64 0] 29) = w3 at *
  clear hw1 hw2 t2 hb1 hb2
  go_loopw [19] (fun i wr => ∃ k m o : Nat, k ≤ l.length ∧ m ≤ k ∧ o ≤ k ∧ k ≤ 1000 ∧ i = .int .i64 k ∧ St w b c m o m o wr) (fun i _ => l.length - (intOf i).toNat)
  case atStart => exact ⟨0, 0, 0, by omega, by omega, by omega, by omega, rfl, hs0⟩
  case round =>
    obtain ⟨k, m, o, hk, hm, ho, hk1, rfl, hst⟩ := hrel
    clear hs0
    by_cases hlt : k < l.length
    · by_cases h1 : k < 1000
      · obtain ⟨bb, off, rfl, hc⟩ := (hb.below hst.bel) k hlt
        have hn := hw l[k] (List.getElem_mem hlt)
        have hin : (k : Int) < (l.length : Int) := by omega
        have h1n : ¬ (1000 ≤ (k : Int)) := by omega
        have HG := Lib.hid (fun (w' : World) (h : Below w.heap.size w w') => (hb.below h).get k hlt)
        generalize l[k] = n at *
        by_cases hz : n = 0
        · have hz1 : ((n : Int) == 0) = true := by simp; omega
          clear hz
          go_wp2_with fail
          refine (open_st hst (by omega)).mono ?_
          rintro e w5 ⟨rfl, hs5⟩
          go_wp2_with fail
          refine (ropen_st hs5 (by omega)).mono ?_
          rintro e w6 ⟨rfl, hs6⟩
          have ho6 := opened_le o k ho
          have hc6 := HG.out w6 hs6.bel
          clear hs5 hst hc hc6
          go_wp2_with fail
          generalize opened o = p at *
          have hst := hs6
          refine wp_region_held_drew (S := (fun w' => w'.cell? ⟨bb, off + k, none⟩ = some (.int .u64 (n : Nat)) ∧ Below w.heap.size w w')) (by kernel_rfl) ?_ (fun hS0 => ?_)
          · exact ⟨HG.out _ (St.bel hst.drew), St.bel hst.drew⟩
          refine wpAnyH_take (i := 0) (oi := { dst := some 47, op := Op.move (Operand.tmp 4), type := 24, pos := "law.go:41", after := #[], guard := none }) (v := ?_) rfl (by kernel_rfl) (by kernel_rfl) (by kernel_rfl) (fun _ _ _ h => h) (Or.inl ⟨by rfl, ?hy1⟩) (by assumption) ?_
          case hy1 => (intro w hSw; (try dsimp only at hSw); go_simp; try with_reducible rfl)
          (try simp only [Act.put, List.setIfInBounds_toArray, List.set_cons_zero, List.set_cons_succ])
          refine wpAnyH_take (i := 1) (oi := { dst := some 48, op := Op.move (Operand.tmp 0), type := 22, pos := "law.go:41", after := #[], guard := none }) (v := ?_) rfl (by kernel_rfl) (by kernel_rfl) (by kernel_rfl) (fun _ _ _ h => h) (Or.inl ⟨by rfl, ?hy2⟩) (by assumption) ?_
          case hy2 => (intro w hSw; (try dsimp only at hSw); go_simp; try with_reducible rfl)
          (try simp only [Act.put, List.setIfInBounds_toArray, List.set_cons_zero, List.set_cons_succ])
          refine wpAnyH_take (i := 2) (oi := { dst := some 49, op := Op.move (Operand.tmp 6), type := 3, pos := "law.go:41", after := #[], guard := none }) (v := ?_) rfl (by kernel_rfl) (by kernel_rfl) (by kernel_rfl) (fun _ _ _ h => h) (Or.inl ⟨by rfl, ?hy3⟩) (by assumption) ?_
          case hy3 => (intro w hSw; (try dsimp only at hSw); go_simp; try with_reducible rfl)
          (try simp only [Act.put, List.setIfInBounds_toArray, List.set_cons_zero, List.set_cons_succ])
          refine wpAnyH_take (i := 3) (oi := { dst := some 50, op := Op.indexAddr 22 (Operand.tmp 48) (Operand.tmp 49), type := 0, pos := "law.go:41", after := #[{ on := 1, ground := Ground.data }, { on := 2, ground := Ground.data }], guard := none }) (v := ?_) rfl (by kernel_rfl) (by kernel_rfl) (by kernel_rfl) (fun _ _ _ h => h) (Or.inl ⟨by rfl, ?hy4⟩) (by assumption) ?_
          case hy4 => (intro w hSw; (try dsimp only at hSw); go_simp; try with_reducible rfl)
          (try simp only [Act.put, List.setIfInBounds_toArray, List.set_cons_zero, List.set_cons_succ])
          refine wpAnyH_take (i := 4) (oi := { dst := some 51, op := Op.load 27 (Operand.tmp 50), type := 27, pos := "law.go:41", after := #[{ on := 3, ground := Ground.data }], guard := none }) (v := ?_) rfl (by kernel_rfl) (by kernel_rfl) (by kernel_rfl) (fun _ _ _ h => h) (Or.inl ⟨by rfl, ?hy5⟩) (by assumption) ?_
          case hy5 => (intro w hSw; (try dsimp only at hSw); go_simp; try with_reducible rfl)
          (try simp only [Act.put, List.setIfInBounds_toArray, List.set_cons_zero, List.set_cons_succ])
          refine wpAnyH_take (i := 6) (oi := { dst := some 53, op := Op.move (Operand.tmp 5), type := 26, pos := "law.go:41", after := #[], guard := none }) (v := ?_) rfl (by kernel_rfl) (by kernel_rfl) (by kernel_rfl) (fun _ _ _ h => h) (Or.inl ⟨by rfl, ?hy6⟩) (by assumption) ?_
          case hy6 => (intro w hSw; (try dsimp only at hSw); go_simp; try with_reducible rfl)
          (try simp only [Act.put, List.setIfInBounds_toArray, List.set_cons_zero, List.set_cons_succ])
          refine wpAnyH_take (i := 7) (oi := { dst := some 54, op := Op.move (Operand.tmp 0), type := 22, pos := "law.go:41", after := #[], guard := none }) (v := ?_) rfl (by kernel_rfl) (by kernel_rfl) (by kernel_rfl) (fun _ _ _ h => h) (Or.inl ⟨by rfl, ?hy7⟩) (by assumption) ?_
          case hy7 => (intro w hSw; (try dsimp only at hSw); go_simp; try with_reducible rfl)
          (try simp only [Act.put, List.setIfInBounds_toArray, List.set_cons_zero, List.set_cons_succ])
          refine wpAnyH_take (i := 8) (oi := { dst := some 55, op := Op.move (Operand.tmp 6), type := 3, pos := "law.go:41", after := #[], guard := none }) (v := ?_) rfl (by kernel_rfl) (by kernel_rfl) (by kernel_rfl) (fun _ _ _ h => h) (Or.inl ⟨by rfl, ?hy8⟩) (by assumption) ?_
          case hy8 => (intro w hSw; (try dsimp only at hSw); go_simp; try with_reducible rfl)
          (try simp only [Act.put, List.setIfInBounds_toArray, List.set_cons_zero, List.set_cons_succ])
          refine wpAnyH_take (i := 9) (oi := { dst := some 56, op := Op.indexAddr 22 (Operand.tmp 54) (Operand.tmp 55), type := 0, pos := "law.go:41", after := #[{ on := 7, ground := Ground.data }, { on := 8, ground := Ground.data }], guard := none }) (v := ?_) rfl (by kernel_rfl) (by kernel_rfl) (by kernel_rfl) (fun _ _ _ h => h) (Or.inl ⟨by rfl, ?hy9⟩) (by assumption) ?_
          case hy9 => (intro w hSw; (try dsimp only at hSw); go_simp; try with_reducible rfl)
          (try simp only [Act.put, List.setIfInBounds_toArray, List.set_cons_zero, List.set_cons_succ])
          refine wpAnyH_take (i := 10) (oi := { dst := some 57, op := Op.load 27 (Operand.tmp 56), type := 27, pos := "law.go:41", after := #[{ on := 9, ground := Ground.data }], guard := none }) (v := ?_) rfl (by kernel_rfl) (by kernel_rfl) (by kernel_rfl) (fun _ _ _ h => h) (Or.inl ⟨by rfl, ?hy10⟩) (by assumption) ?_
          case hy10 => (intro w hSw; (try dsimp only at hSw); go_simp; try with_reducible rfl)
          (try simp only [Act.put, List.setIfInBounds_toArray, List.set_cons_zero, List.set_cons_succ])
          refine wpAnyH_ready (rs := [5]) (by kernel_rfl) (by simp) (AllReadyH.cons (o := { dst := some 52, op := Op.call { callee := Callee.value (Operand.func 11), args := #[Operand.tmp 47, Operand.tmp 51], argTypes := #[24, 27] }, type := 30, pos := "law.go:41", after := #[{ on := 0, ground := Ground.data }, { on := 4, ground := Ground.data }], guard := none }) rfl (fun K hK => ?_) AllReadyH.nil)
          go_simp
          refine (mark_st hst.drew hn (by omega)).mono ?_
          rintro e w4 ⟨rfl, h4⟩
          (try dsimp only)
          refine Shut.out hK _ _ ?_ (fun hS5 => ?_)
          · exact ⟨HG.out _ h4.bel, h4.bel⟩
          clear hK K
          (try simp only [Act.put, List.setIfInBounds_toArray, List.set_cons_zero, List.set_cons_succ])
          refine wpAnyH_ready (rs := [11]) (by kernel_rfl) (by simp) (AllReadyH.cons (o := { dst := some 58, op := Op.call { callee := Callee.value (Operand.func 12), args := #[Operand.tmp 53, Operand.tmp 57], argTypes := #[26, 27] }, type := 30, pos := "law.go:41", after := #[{ on := 6, ground := Ground.data }, { on := 10, ground := Ground.data }, { on := 5, ground := Ground.chain }], guard := none }) rfl (fun K hK => ?_) AllReadyH.nil)
          go_simp
          refine (rmark_st h4 hn (by omega)).mono ?_
          rintro e w5 ⟨rfl, h5, h5a, h5b⟩
          (try dsimp only)
          refine Shut.out hK _ _ ?_ (fun hS11 => ?_)
          · exact ⟨HG.out _ h5.bel, h5.bel⟩
          clear hK K
          (try simp only [Act.put, List.setIfInBounds_toArray, List.set_cons_zero, List.set_cons_succ])
          refine wpAnyH_change (S2 := (fun w' => w'.cell? ⟨bb, off + k, none⟩ = some (.int .u64 (n : Nat)) ∧ w'.cell? ⟨c, 0, none⟩ = some (.int .u64 (marked m n : Nat)) ∧ w'.cell? ⟨c, 1, none⟩ = some (.int .u64 (p : Nat)) ∧ Below w.heap.size w w')) (fun w' h => ⟨h.1, h.2.2.2⟩) _ _ _ _ ?_
          have hT11 := And.intro (HG.out _ h5.bel) (And.intro h5a (And.intro h5b h5.bel))
          refine wpAnyH_take (i := 12) (oi := { dst := some 59, op := Op.binOp BinOp.neq 30 (Operand.tmp 52) (Operand.tmp 58) 30, type := 4, pos := "law.go:41", after := #[{ on := 5, ground := Ground.data }, { on := 11, ground := Ground.data }], guard := none }) (v := ?_) rfl (by kernel_rfl) (by kernel_rfl) (by kernel_rfl) (fun _ _ _ h => h) (Or.inl ⟨by rfl, ?hy11⟩) (by assumption) ?_
          case hy11 => (intro w hSw; (try dsimp only at hSw); go_simp; try with_reducible rfl)
          (try simp only [Act.put, List.setIfInBounds_toArray, List.set_cons_zero, List.set_cons_succ])
          refine wpAnyH_take (i := 13) (oi := { dst := some 60, op := Op.move (Operand.tmp 59), type := 4, pos := "law.go:41", after := #[{ on := 12, ground := Ground.data }, { on := 11, ground := Ground.chain }], guard := none }) (v := ?_) rfl (by kernel_rfl) (by kernel_rfl) (by kernel_rfl) (fun _ _ _ h => h) (Or.inl ⟨by rfl, ?hy12⟩) (by assumption) ?_
          case hy12 => (intro w hSw; (try dsimp only at hSw); go_simp; try with_reducible rfl)
          (try simp only [Act.put, List.setIfInBounds_toArray, List.set_cons_zero, List.set_cons_succ])
          refine wpAnyH_take (i := 14) (oi := { dst := some 61, op := Op.move (Operand.tmp 4), type := 24, pos := "law.go:41", after := #[{ on := 13, ground := Ground.guard }], guard := some (13, false) }) (v := ?_) rfl (by kernel_rfl) (by kernel_rfl) (by kernel_rfl) (fun _ _ _ h => h) (Or.inl ⟨by rfl, ?hy13⟩) (by assumption) ?_
          case hy13 => (intro w hSw; (try dsimp only at hSw); go_simp; try with_reducible rfl)
          (try simp only [Act.put, List.setIfInBounds_toArray, List.set_cons_zero, List.set_cons_succ])
          refine wpAnyH_take (i := 16) (oi := { dst := some 63, op := Op.move (Operand.tmp 5), type := 26, pos := "law.go:41", after := #[{ on := 13, ground := Ground.guard }], guard := some (13, false) }) (v := ?_) rfl (by kernel_rfl) (by kernel_rfl) (by kernel_rfl) (fun _ _ _ h => h) (Or.inl ⟨by rfl, ?hy14⟩) (by assumption) ?_
          case hy14 => (intro w hSw; (try dsimp only at hSw); go_simp; try with_reducible rfl)
          (try simp only [Act.put, List.setIfInBounds_toArray, List.set_cons_zero, List.set_cons_succ])
          refine wpAnyH_take (i := 17) (oi := { dst := some 64, op := Op.nilCheck (Operand.tmp 63), type := 0, pos := "law.go:41", after := #[{ on := 16, ground := Ground.data }, { on := 13, ground := Ground.guard }], guard := some (13, false) }) (v := ?_) rfl (by kernel_rfl) (by kernel_rfl) (by kernel_rfl) (fun _ _ _ h => h) (Or.inl ⟨by rfl, ?hy15⟩) (by assumption) ?_
          case hy15 => (intro w hSw; (try dsimp only at hSw); go_simp; try with_reducible rfl)
          (try simp only [Act.put, List.setIfInBounds_toArray, List.set_cons_zero, List.set_cons_succ])
          refine wpAnyH_take (i := 18) (oi := { dst := some 65, op := Op.fieldAddr 29 (Operand.tmp 64) 0, type := 0, pos := "law.go:41", after := #[{ on := 17, ground := Ground.data }, { on := 13, ground := Ground.guard }], guard := some (13, false) }) (v := ?_) rfl (by kernel_rfl) (by kernel_rfl) (by kernel_rfl) (fun _ _ _ h => h) (Or.inl ⟨by rfl, ?hy16⟩) (by assumption) ?_
          case hy16 => (intro w hSw; (try dsimp only at hSw); go_simp; try with_reducible rfl)
          (try simp only [Act.put, List.setIfInBounds_toArray, List.set_cons_zero, List.set_cons_succ])
          refine wpAnyH_take (i := 19) (oi := { dst := some 66, op := Op.load 27 (Operand.tmp 65), type := 27, pos := "law.go:41", after := #[{ on := 18, ground := Ground.data }, { on := 13, ground := Ground.guard }], guard := some (13, false) }) (v := ?_) rfl (by kernel_rfl) (by kernel_rfl) (by kernel_rfl) (fun _ _ _ h => h) (Or.inl ⟨by rfl, ?hy17⟩) (by assumption) ?_
          case hy17 => (intro w hSw; (try dsimp only at hSw); go_simp; try with_reducible rfl)
          (try simp only [Act.put, List.setIfInBounds_toArray, List.set_cons_zero, List.set_cons_succ])
          refine wpAnyH_ready (rs := [15]) (by kernel_rfl) (by simp) (AllReadyH.cons (o := { dst := some 62, op := Op.call { callee := Callee.value (Operand.func 13), args := #[Operand.tmp 61], argTypes := #[24] }, type := 27, pos := "law.go:41", after := #[{ on := 14, ground := Ground.data }, { on := 13, ground := Ground.chain }, { on := 13, ground := Ground.guard }], guard := some (13, false) }) rfl (fun K hK => ?_) AllReadyH.nil)
          go_simp
          refine (marks_st h5).mono ?_
          rintro e w6 ⟨rfl, rfl⟩
          (try dsimp only)
          refine Shut.out hK _ _ ?_ (fun hS15 => ?_)
          · assumption
          clear hK K
          (try simp only [Act.put, List.setIfInBounds_toArray, List.set_cons_zero, List.set_cons_succ])
          refine wpAnyH_take (i := 20) (oi := { dst := some 67, op := Op.binOp BinOp.neq 27 (Operand.tmp 62) (Operand.tmp 66) 27, type := 4, pos := "law.go:41", after := #[{ on := 15, ground := Ground.data }, { on := 19, ground := Ground.data }, { on := 13, ground := Ground.guard }], guard := some (13, false) }) (v := ?_) rfl (by kernel_rfl) (by kernel_rfl) (by kernel_rfl) (fun _ _ _ h => h) (Or.inl ⟨by rfl, ?hy18⟩) (by assumption) ?_
          case hy18 => (intro w hSw; (try dsimp only at hSw); go_simp; try with_reducible rfl)
          (try simp only [Act.put, List.setIfInBounds_toArray, List.set_cons_zero, List.set_cons_succ])
          refine wpAnyH_take (i := 21) (oi := { dst := some 68, op := Op.pick (Operand.tmp 60) (Operand.const (Value.bool true)) (Operand.tmp 67), type := 4, pos := "law.go:41", after := #[{ on := 13, ground := Ground.data }, { on := 20, ground := Ground.data }], guard := none }) (v := ?_) rfl (by kernel_rfl) (by kernel_rfl) (by kernel_rfl) (fun _ _ _ h => h) (Or.inl ⟨by rfl, ?hy19⟩) (by assumption) ?_
          case hy19 => (intro w hSw; (try dsimp only at hSw); go_simp; try with_reducible rfl)
          (try simp only [Act.put, List.setIfInBounds_toArray, List.set_cons_zero, List.set_cons_succ])
          refine wpAnyH_take (i := 22) (oi := { dst := some 69, op := Op.move (Operand.tmp 68), type := 4, pos := "law.go:41", after := #[{ on := 21, ground := Ground.data }, { on := 15, ground := Ground.chain }], guard := none }) (v := ?_) rfl (by kernel_rfl) (by kernel_rfl) (by kernel_rfl) (fun _ _ _ h => h) (Or.inl ⟨by rfl, ?hy20⟩) (by assumption) ?_
          case hy20 => (intro w hSw; (try dsimp only at hSw); go_simp; try with_reducible rfl)
          (try simp only [Act.put, List.setIfInBounds_toArray, List.set_cons_zero, List.set_cons_succ])
          refine wpAnyH_take (i := 23) (oi := { dst := some 70, op := Op.move (Operand.tmp 4), type := 24, pos := "law.go:41", after := #[{ on := 22, ground := Ground.guard }], guard := some (22, false) }) (v := ?_) rfl (by kernel_rfl) (by kernel_rfl) (by kernel_rfl) (fun _ _ _ h => h) (Or.inl ⟨by rfl, ?hy21⟩) (by assumption) ?_
          case hy21 => (intro w hSw; (try dsimp only at hSw); go_simp; try with_reducible rfl)
          (try simp only [Act.put, List.setIfInBounds_toArray, List.set_cons_zero, List.set_cons_succ])
          refine wpAnyH_take (i := 25) (oi := { dst := some 72, op := Op.move (Operand.tmp 5), type := 26, pos := "law.go:41", after := #[{ on := 22, ground := Ground.guard }], guard := some (22, false) }) (v := ?_) rfl (by kernel_rfl) (by kernel_rfl) (by kernel_rfl) (fun _ _ _ h => h) (Or.inl ⟨by rfl, ?hy22⟩) (by assumption) ?_
          case hy22 => (intro w hSw; (try dsimp only at hSw); go_simp; try with_reducible rfl)
          (try simp only [Act.put, List.setIfInBounds_toArray, List.set_cons_zero, List.set_cons_succ])
          refine wpAnyH_take (i := 26) (oi := { dst := some 73, op := Op.nilCheck (Operand.tmp 72), type := 0, pos := "law.go:41", after := #[{ on := 25, ground := Ground.data }, { on := 22, ground := Ground.guard }], guard := some (22, false) }) (v := ?_) rfl (by kernel_rfl) (by kernel_rfl) (by kernel_rfl) (fun _ _ _ h => h) (Or.inl ⟨by rfl, ?hy23⟩) (by assumption) ?_
          case hy23 => (intro w hSw; (try dsimp only at hSw); go_simp; try with_reducible rfl)
          (try simp only [Act.put, List.setIfInBounds_toArray, List.set_cons_zero, List.set_cons_succ])
          refine wpAnyH_take (i := 27) (oi := { dst := some 74, op := Op.fieldAddr 29 (Operand.tmp 73) 1, type := 0, pos := "law.go:41", after := #[{ on := 26, ground := Ground.data }, { on := 22, ground := Ground.guard }], guard := some (22, false) }) (v := ?_) rfl (by kernel_rfl) (by kernel_rfl) (by kernel_rfl) (fun _ _ _ h => h) (Or.inl ⟨by rfl, ?hy24⟩) (by assumption) ?_
          case hy24 => (intro w hSw; (try dsimp only at hSw); go_simp; try with_reducible rfl)
          (try simp only [Act.put, List.setIfInBounds_toArray, List.set_cons_zero, List.set_cons_succ])
          refine wpAnyH_take (i := 28) (oi := { dst := some 75, op := Op.load 27 (Operand.tmp 74), type := 27, pos := "law.go:41", after := #[{ on := 27, ground := Ground.data }, { on := 22, ground := Ground.guard }], guard := some (22, false) }) (v := ?_) rfl (by kernel_rfl) (by kernel_rfl) (by kernel_rfl) (fun _ _ _ h => h) (Or.inl ⟨by rfl, ?hy25⟩) (by assumption) ?_
          case hy25 => (intro w hSw; (try dsimp only at hSw); go_simp; try with_reducible rfl)
          (try simp only [Act.put, List.setIfInBounds_toArray, List.set_cons_zero, List.set_cons_succ])
          refine wpAnyH_ready (rs := [24]) (by kernel_rfl) (by simp) (AllReadyH.cons (o := { dst := some 71, op := Op.call { callee := Callee.value (Operand.func 14), args := #[Operand.tmp 70], argTypes := #[24] }, type := 27, pos := "law.go:41", after := #[{ on := 23, ground := Ground.data }, { on := 22, ground := Ground.chain }, { on := 22, ground := Ground.guard }], guard := some (22, false) }) rfl (fun K hK => ?_) AllReadyH.nil)
          go_simp
          refine (opens_st h5).mono ?_
          rintro e w6 ⟨rfl, rfl⟩
          (try dsimp only)
          refine Shut.out hK _ _ ?_ (fun hS24 => ?_)
          · assumption
          clear hK K
          (try simp only [Act.put, List.setIfInBounds_toArray, List.set_cons_zero, List.set_cons_succ])
          refine wpAnyH_take (i := 29) (oi := { dst := some 76, op := Op.binOp BinOp.neq 27 (Operand.tmp 71) (Operand.tmp 75) 27, type := 4, pos := "law.go:41", after := #[{ on := 24, ground := Ground.data }, { on := 28, ground := Ground.data }, { on := 22, ground := Ground.guard }], guard := some (22, false) }) (v := ?_) rfl (by kernel_rfl) (by kernel_rfl) (by kernel_rfl) (fun _ _ _ h => h) (Or.inl ⟨by rfl, ?hy26⟩) (by assumption) ?_
          case hy26 => (intro w hSw; (try dsimp only at hSw); go_simp; try with_reducible rfl)
          (try simp only [Act.put, List.setIfInBounds_toArray, List.set_cons_zero, List.set_cons_succ])
          refine wpAnyH_take (i := 30) (oi := { dst := some 77, op := Op.pick (Operand.tmp 69) (Operand.const (Value.bool true)) (Operand.tmp 76), type := 4, pos := "law.go:41", after := #[{ on := 22, ground := Ground.data }, { on := 29, ground := Ground.data }], guard := none }) (v := ?_) rfl (by kernel_rfl) (by kernel_rfl) (by kernel_rfl) (fun _ _ _ h => h) (Or.inl ⟨by rfl, ?hy27⟩) (by assumption) ?_
          case hy27 => (intro w hSw; (try dsimp only at hSw); go_simp; try with_reducible rfl)
          (try simp only [Act.put, List.setIfInBounds_toArray, List.set_cons_zero, List.set_cons_succ])
          refine wpAnyH_done (by kernel_rfl) ?_ _
          skip
          all_goals
            go_wp2_with fail
            exact ⟨⟨k + 1, marked m n, p, by omega, marked_le _ _ _ hm, by omega, by omega, by go_num, h5⟩, by simp [intOf]; omega⟩
        · have hz1 : ((n : Int) == 0) = false := by simp; omega
          clear hz
          go_wp2_with fail
          refine wp_region_held_drew (S := (fun w' => w'.cell? ⟨bb, off + k, none⟩ = some (.int .u64 (n : Nat)) ∧ Below w.heap.size w w')) (by kernel_rfl) ?_ (fun hS0 => ?_)
          · exact ⟨HG.out _ (St.bel hst.drew), St.bel hst.drew⟩
          refine wpAnyH_take (i := 0) (oi := { dst := some 47, op := Op.move (Operand.tmp 4), type := 24, pos := "law.go:41", after := #[], guard := none }) (v := ?_) rfl (by kernel_rfl) (by kernel_rfl) (by kernel_rfl) (fun _ _ _ h => h) (Or.inl ⟨by rfl, ?hy1⟩) (by assumption) ?_
          case hy1 => (intro w hSw; (try dsimp only at hSw); go_simp; try with_reducible rfl)
          (try simp only [Act.put, List.setIfInBounds_toArray, List.set_cons_zero, List.set_cons_succ])
          refine wpAnyH_take (i := 1) (oi := { dst := some 48, op := Op.move (Operand.tmp 0), type := 22, pos := "law.go:41", after := #[], guard := none }) (v := ?_) rfl (by kernel_rfl) (by kernel_rfl) (by kernel_rfl) (fun _ _ _ h => h) (Or.inl ⟨by rfl, ?hy2⟩) (by assumption) ?_
          case hy2 => (intro w hSw; (try dsimp only at hSw); go_simp; try with_reducible rfl)
          (try simp only [Act.put, List.setIfInBounds_toArray, List.set_cons_zero, List.set_cons_succ])
          refine wpAnyH_take (i := 2) (oi := { dst := some 49, op := Op.move (Operand.tmp 6), type := 3, pos := "law.go:41", after := #[], guard := none }) (v := ?_) rfl (by kernel_rfl) (by kernel_rfl) (by kernel_rfl) (fun _ _ _ h => h) (Or.inl ⟨by rfl, ?hy3⟩) (by assumption) ?_
          case hy3 => (intro w hSw; (try dsimp only at hSw); go_simp; try with_reducible rfl)
          (try simp only [Act.put, List.setIfInBounds_toArray, List.set_cons_zero, List.set_cons_succ])
          refine wpAnyH_take (i := 3) (oi := { dst := some 50, op := Op.indexAddr 22 (Operand.tmp 48) (Operand.tmp 49), type := 0, pos := "law.go:41", after := #[{ on := 1, ground := Ground.data }, { on := 2, ground := Ground.data }], guard := none }) (v := ?_) rfl (by kernel_rfl) (by kernel_rfl) (by kernel_rfl) (fun _ _ _ h => h) (Or.inl ⟨by rfl, ?hy4⟩) (by assumption) ?_
          case hy4 => (intro w hSw; (try dsimp only at hSw); go_simp; try with_reducible rfl)
          (try simp only [Act.put, List.setIfInBounds_toArray, List.set_cons_zero, List.set_cons_succ])
          refine wpAnyH_take (i := 4) (oi := { dst := some 51, op := Op.load 27 (Operand.tmp 50), type := 27, pos := "law.go:41", after := #[{ on := 3, ground := Ground.data }], guard := none }) (v := ?_) rfl (by kernel_rfl) (by kernel_rfl) (by kernel_rfl) (fun _ _ _ h => h) (Or.inl ⟨by rfl, ?hy5⟩) (by assumption) ?_
          case hy5 => (intro w hSw; (try dsimp only at hSw); go_simp; try with_reducible rfl)
          (try simp only [Act.put, List.setIfInBounds_toArray, List.set_cons_zero, List.set_cons_succ])
          refine wpAnyH_take (i := 6) (oi := { dst := some 53, op := Op.move (Operand.tmp 5), type := 26, pos := "law.go:41", after := #[], guard := none }) (v := ?_) rfl (by kernel_rfl) (by kernel_rfl) (by kernel_rfl) (fun _ _ _ h => h) (Or.inl ⟨by rfl, ?hy6⟩) (by assumption) ?_
          case hy6 => (intro w hSw; (try dsimp only at hSw); go_simp; try with_reducible rfl)
          (try simp only [Act.put, List.setIfInBounds_toArray, List.set_cons_zero, List.set_cons_succ])
          refine wpAnyH_take (i := 7) (oi := { dst := some 54, op := Op.move (Operand.tmp 0), type := 22, pos := "law.go:41", after := #[], guard := none }) (v := ?_) rfl (by kernel_rfl) (by kernel_rfl) (by kernel_rfl) (fun _ _ _ h => h) (Or.inl ⟨by rfl, ?hy7⟩) (by assumption) ?_
          case hy7 => (intro w hSw; (try dsimp only at hSw); go_simp; try with_reducible rfl)
          (try simp only [Act.put, List.setIfInBounds_toArray, List.set_cons_zero, List.set_cons_succ])
          refine wpAnyH_take (i := 8) (oi := { dst := some 55, op := Op.move (Operand.tmp 6), type := 3, pos := "law.go:41", after := #[], guard := none }) (v := ?_) rfl (by kernel_rfl) (by kernel_rfl) (by kernel_rfl) (fun _ _ _ h => h) (Or.inl ⟨by rfl, ?hy8⟩) (by assumption) ?_
          case hy8 => (intro w hSw; (try dsimp only at hSw); go_simp; try with_reducible rfl)
          (try simp only [Act.put, List.setIfInBounds_toArray, List.set_cons_zero, List.set_cons_succ])
          refine wpAnyH_take (i := 9) (oi := { dst := some 56, op := Op.indexAddr 22 (Operand.tmp 54) (Operand.tmp 55), type := 0, pos := "law.go:41", after := #[{ on := 7, ground := Ground.data }, { on := 8, ground := Ground.data }], guard := none }) (v := ?_) rfl (by kernel_rfl) (by kernel_rfl) (by kernel_rfl) (fun _ _ _ h => h) (Or.inl ⟨by rfl, ?hy9⟩) (by assumption) ?_
          case hy9 => (intro w hSw; (try dsimp only at hSw); go_simp; try with_reducible rfl)
          (try simp only [Act.put, List.setIfInBounds_toArray, List.set_cons_zero, List.set_cons_succ])
          refine wpAnyH_take (i := 10) (oi := { dst := some 57, op := Op.load 27 (Operand.tmp 56), type := 27, pos := "law.go:41", after := #[{ on := 9, ground := Ground.data }], guard := none }) (v := ?_) rfl (by kernel_rfl) (by kernel_rfl) (by kernel_rfl) (fun _ _ _ h => h) (Or.inl ⟨by rfl, ?hy10⟩) (by assumption) ?_
          case hy10 => (intro w hSw; (try dsimp only at hSw); go_simp; try with_reducible rfl)
          (try simp only [Act.put, List.setIfInBounds_toArray, List.set_cons_zero, List.set_cons_succ])
          refine wpAnyH_ready (rs := [5]) (by kernel_rfl) (by simp) (AllReadyH.cons (o := { dst := some 52, op := Op.call { callee := Callee.value (Operand.func 11), args := #[Operand.tmp 47, Operand.tmp 51], argTypes := #[24, 27] }, type := 30, pos := "law.go:41", after := #[{ on := 0, ground := Ground.data }, { on := 4, ground := Ground.data }], guard := none }) rfl (fun K hK => ?_) AllReadyH.nil)
          go_simp
          refine (mark_st hst.drew hn (by omega)).mono ?_
          rintro e w4 ⟨rfl, h4⟩
          (try dsimp only)
          refine Shut.out hK _ _ ?_ (fun hS5 => ?_)
          · exact ⟨HG.out _ h4.bel, h4.bel⟩
          clear hK K
          (try simp only [Act.put, List.setIfInBounds_toArray, List.set_cons_zero, List.set_cons_succ])
          refine wpAnyH_ready (rs := [11]) (by kernel_rfl) (by simp) (AllReadyH.cons (o := { dst := some 58, op := Op.call { callee := Callee.value (Operand.func 12), args := #[Operand.tmp 53, Operand.tmp 57], argTypes := #[26, 27] }, type := 30, pos := "law.go:41", after := #[{ on := 6, ground := Ground.data }, { on := 10, ground := Ground.data }, { on := 5, ground := Ground.chain }], guard := none }) rfl (fun K hK => ?_) AllReadyH.nil)
          go_simp
          refine (rmark_st h4 hn (by omega)).mono ?_
          rintro e w5 ⟨rfl, h5, h5a, h5b⟩
          (try dsimp only)
          refine Shut.out hK _ _ ?_ (fun hS11 => ?_)
          · exact ⟨HG.out _ h5.bel, h5.bel⟩
          clear hK K
          (try simp only [Act.put, List.setIfInBounds_toArray, List.set_cons_zero, List.set_cons_succ])
          refine wpAnyH_change (S2 := (fun w' => w'.cell? ⟨bb, off + k, none⟩ = some (.int .u64 (n : Nat)) ∧ w'.cell? ⟨c, 0, none⟩ = some (.int .u64 (marked m n : Nat)) ∧ w'.cell? ⟨c, 1, none⟩ = some (.int .u64 (o : Nat)) ∧ Below w.heap.size w w')) (fun w' h => ⟨h.1, h.2.2.2⟩) _ _ _ _ ?_
          have hT11 := And.intro (HG.out _ h5.bel) (And.intro h5a (And.intro h5b h5.bel))
          refine wpAnyH_take (i := 12) (oi := { dst := some 59, op := Op.binOp BinOp.neq 30 (Operand.tmp 52) (Operand.tmp 58) 30, type := 4, pos := "law.go:41", after := #[{ on := 5, ground := Ground.data }, { on := 11, ground := Ground.data }], guard := none }) (v := ?_) rfl (by kernel_rfl) (by kernel_rfl) (by kernel_rfl) (fun _ _ _ h => h) (Or.inl ⟨by rfl, ?hy11⟩) (by assumption) ?_
          case hy11 => (intro w hSw; (try dsimp only at hSw); go_simp; try with_reducible rfl)
          (try simp only [Act.put, List.setIfInBounds_toArray, List.set_cons_zero, List.set_cons_succ])
          refine wpAnyH_take (i := 13) (oi := { dst := some 60, op := Op.move (Operand.tmp 59), type := 4, pos := "law.go:41", after := #[{ on := 12, ground := Ground.data }, { on := 11, ground := Ground.chain }], guard := none }) (v := ?_) rfl (by kernel_rfl) (by kernel_rfl) (by kernel_rfl) (fun _ _ _ h => h) (Or.inl ⟨by rfl, ?hy12⟩) (by assumption) ?_
          case hy12 => (intro w hSw; (try dsimp only at hSw); go_simp; try with_reducible rfl)
          (try simp only [Act.put, List.setIfInBounds_toArray, List.set_cons_zero, List.set_cons_succ])
          refine wpAnyH_take (i := 14) (oi := { dst := some 61, op := Op.move (Operand.tmp 4), type := 24, pos := "law.go:41", after := #[{ on := 13, ground := Ground.guard }], guard := some (13, false) }) (v := ?_) rfl (by kernel_rfl) (by kernel_rfl) (by kernel_rfl) (fun _ _ _ h => h) (Or.inl ⟨by rfl, ?hy13⟩) (by assumption) ?_
          case hy13 => (intro w hSw; (try dsimp only at hSw); go_simp; try with_reducible rfl)
          (try simp only [Act.put, List.setIfInBounds_toArray, List.set_cons_zero, List.set_cons_succ])
          refine wpAnyH_take (i := 16) (oi := { dst := some 63, op := Op.move (Operand.tmp 5), type := 26, pos := "law.go:41", after := #[{ on := 13, ground := Ground.guard }], guard := some (13, false) }) (v := ?_) rfl (by kernel_rfl) (by kernel_rfl) (by kernel_rfl) (fun _ _ _ h => h) (Or.inl ⟨by rfl, ?hy14⟩) (by assumption) ?_
          case hy14 => (intro w hSw; (try dsimp only at hSw); go_simp; try with_reducible rfl)
          (try simp only [Act.put, List.setIfInBounds_toArray, List.set_cons_zero, List.set_cons_succ])
          refine wpAnyH_take (i := 17) (oi := { dst := some 64, op := Op.nilCheck (Operand.tmp 63), type := 0, pos := "law.go:41", after := #[{ on := 16, ground := Ground.data }, { on := 13, ground := Ground.guard }], guard := some (13, false) }) (v := ?_) rfl (by kernel_rfl) (by kernel_rfl) (by kernel_rfl) (fun _ _ _ h => h) (Or.inl ⟨by rfl, ?hy15⟩) (by assumption) ?_
          case hy15 => (intro w hSw; (try dsimp only at hSw); go_simp; try with_reducible rfl)
          (try simp only [Act.put, List.setIfInBounds_toArray, List.set_cons_zero, List.set_cons_succ])
          refine wpAnyH_take (i := 18) (oi := { dst := some 65, op := Op.fieldAddr 29 (Operand.tmp 64) 0, type := 0, pos := "law.go:41", after := #[{ on := 17, ground := Ground.data }, { on := 13, ground := Ground.guard }], guard := some (13, false) }) (v := ?_) rfl (by kernel_rfl) (by kernel_rfl) (by kernel_rfl) (fun _ _ _ h => h) (Or.inl ⟨by rfl, ?hy16⟩) (by assumption) ?_
          case hy16 => (intro w hSw; (try dsimp only at hSw); go_simp; try with_reducible rfl)
          (try simp only [Act.put, List.setIfInBounds_toArray, List.set_cons_zero, List.set_cons_succ])
          refine wpAnyH_take (i := 19) (oi := { dst := some 66, op := Op.load 27 (Operand.tmp 65), type := 27, pos := "law.go:41", after := #[{ on := 18, ground := Ground.data }, { on := 13, ground := Ground.guard }], guard := some (13, false) }) (v := ?_) rfl (by kernel_rfl) (by kernel_rfl) (by kernel_rfl) (fun _ _ _ h => h) (Or.inl ⟨by rfl, ?hy17⟩) (by assumption) ?_
          case hy17 => (intro w hSw; (try dsimp only at hSw); go_simp; try with_reducible rfl)
          (try simp only [Act.put, List.setIfInBounds_toArray, List.set_cons_zero, List.set_cons_succ])
          refine wpAnyH_ready (rs := [15]) (by kernel_rfl) (by simp) (AllReadyH.cons (o := { dst := some 62, op := Op.call { callee := Callee.value (Operand.func 13), args := #[Operand.tmp 61], argTypes := #[24] }, type := 27, pos := "law.go:41", after := #[{ on := 14, ground := Ground.data }, { on := 13, ground := Ground.chain }, { on := 13, ground := Ground.guard }], guard := some (13, false) }) rfl (fun K hK => ?_) AllReadyH.nil)
          go_simp
          refine (marks_st h5).mono ?_
          rintro e w6 ⟨rfl, rfl⟩
          (try dsimp only)
          refine Shut.out hK _ _ ?_ (fun hS15 => ?_)
          · assumption
          clear hK K
          (try simp only [Act.put, List.setIfInBounds_toArray, List.set_cons_zero, List.set_cons_succ])
          refine wpAnyH_take (i := 20) (oi := { dst := some 67, op := Op.binOp BinOp.neq 27 (Operand.tmp 62) (Operand.tmp 66) 27, type := 4, pos := "law.go:41", after := #[{ on := 15, ground := Ground.data }, { on := 19, ground := Ground.data }, { on := 13, ground := Ground.guard }], guard := some (13, false) }) (v := ?_) rfl (by kernel_rfl) (by kernel_rfl) (by kernel_rfl) (fun _ _ _ h => h) (Or.inl ⟨by rfl, ?hy18⟩) (by assumption) ?_
          case hy18 => (intro w hSw; (try dsimp only at hSw); go_simp; try with_reducible rfl)
          (try simp only [Act.put, List.setIfInBounds_toArray, List.set_cons_zero, List.set_cons_succ])
          refine wpAnyH_take (i := 21) (oi := { dst := some 68, op := Op.pick (Operand.tmp 60) (Operand.const (Value.bool true)) (Operand.tmp 67), type := 4, pos := "law.go:41", after := #[{ on := 13, ground := Ground.data }, { on := 20, ground := Ground.data }], guard := none }) (v := ?_) rfl (by kernel_rfl) (by kernel_rfl) (by kernel_rfl) (fun _ _ _ h => h) (Or.inl ⟨by rfl, ?hy19⟩) (by assumption) ?_
          case hy19 => (intro w hSw; (try dsimp only at hSw); go_simp; try with_reducible rfl)
          (try simp only [Act.put, List.setIfInBounds_toArray, List.set_cons_zero, List.set_cons_succ])
          refine wpAnyH_take (i := 22) (oi := { dst := some 69, op := Op.move (Operand.tmp 68), type := 4, pos := "law.go:41", after := #[{ on := 21, ground := Ground.data }, { on := 15, ground := Ground.chain }], guard := none }) (v := ?_) rfl (by kernel_rfl) (by kernel_rfl) (by kernel_rfl) (fun _ _ _ h => h) (Or.inl ⟨by rfl, ?hy20⟩) (by assumption) ?_
          case hy20 => (intro w hSw; (try dsimp only at hSw); go_simp; try with_reducible rfl)
          (try simp only [Act.put, List.setIfInBounds_toArray, List.set_cons_zero, List.set_cons_succ])
          refine wpAnyH_take (i := 23) (oi := { dst := some 70, op := Op.move (Operand.tmp 4), type := 24, pos := "law.go:41", after := #[{ on := 22, ground := Ground.guard }], guard := some (22, false) }) (v := ?_) rfl (by kernel_rfl) (by kernel_rfl) (by kernel_rfl) (fun _ _ _ h => h) (Or.inl ⟨by rfl, ?hy21⟩) (by assumption) ?_
          case hy21 => (intro w hSw; (try dsimp only at hSw); go_simp; try with_reducible rfl)
          (try simp only [Act.put, List.setIfInBounds_toArray, List.set_cons_zero, List.set_cons_succ])
          refine wpAnyH_take (i := 25) (oi := { dst := some 72, op := Op.move (Operand.tmp 5), type := 26, pos := "law.go:41", after := #[{ on := 22, ground := Ground.guard }], guard := some (22, false) }) (v := ?_) rfl (by kernel_rfl) (by kernel_rfl) (by kernel_rfl) (fun _ _ _ h => h) (Or.inl ⟨by rfl, ?hy22⟩) (by assumption) ?_
          case hy22 => (intro w hSw; (try dsimp only at hSw); go_simp; try with_reducible rfl)
          (try simp only [Act.put, List.setIfInBounds_toArray, List.set_cons_zero, List.set_cons_succ])
          refine wpAnyH_take (i := 26) (oi := { dst := some 73, op := Op.nilCheck (Operand.tmp 72), type := 0, pos := "law.go:41", after := #[{ on := 25, ground := Ground.data }, { on := 22, ground := Ground.guard }], guard := some (22, false) }) (v := ?_) rfl (by kernel_rfl) (by kernel_rfl) (by kernel_rfl) (fun _ _ _ h => h) (Or.inl ⟨by rfl, ?hy23⟩) (by assumption) ?_
          case hy23 => (intro w hSw; (try dsimp only at hSw); go_simp; try with_reducible rfl)
          (try simp only [Act.put, List.setIfInBounds_toArray, List.set_cons_zero, List.set_cons_succ])
          refine wpAnyH_take (i := 27) (oi := { dst := some 74, op := Op.fieldAddr 29 (Operand.tmp 73) 1, type := 0, pos := "law.go:41", after := #[{ on := 26, ground := Ground.data }, { on := 22, ground := Ground.guard }], guard := some (22, false) }) (v := ?_) rfl (by kernel_rfl) (by kernel_rfl) (by kernel_rfl) (fun _ _ _ h => h) (Or.inl ⟨by rfl, ?hy24⟩) (by assumption) ?_
          case hy24 => (intro w hSw; (try dsimp only at hSw); go_simp; try with_reducible rfl)
          (try simp only [Act.put, List.setIfInBounds_toArray, List.set_cons_zero, List.set_cons_succ])
          refine wpAnyH_take (i := 28) (oi := { dst := some 75, op := Op.load 27 (Operand.tmp 74), type := 27, pos := "law.go:41", after := #[{ on := 27, ground := Ground.data }, { on := 22, ground := Ground.guard }], guard := some (22, false) }) (v := ?_) rfl (by kernel_rfl) (by kernel_rfl) (by kernel_rfl) (fun _ _ _ h => h) (Or.inl ⟨by rfl, ?hy25⟩) (by assumption) ?_
          case hy25 => (intro w hSw; (try dsimp only at hSw); go_simp; try with_reducible rfl)
          (try simp only [Act.put, List.setIfInBounds_toArray, List.set_cons_zero, List.set_cons_succ])
          refine wpAnyH_ready (rs := [24]) (by kernel_rfl) (by simp) (AllReadyH.cons (o := { dst := some 71, op := Op.call { callee := Callee.value (Operand.func 14), args := #[Operand.tmp 70], argTypes := #[24] }, type := 27, pos := "law.go:41", after := #[{ on := 23, ground := Ground.data }, { on := 22, ground := Ground.chain }, { on := 22, ground := Ground.guard }], guard := some (22, false) }) rfl (fun K hK => ?_) AllReadyH.nil)
          go_simp
          refine (opens_st h5).mono ?_
          rintro e w6 ⟨rfl, rfl⟩
          (try dsimp only)
          refine Shut.out hK _ _ ?_ (fun hS24 => ?_)
          · assumption
          clear hK K
          (try simp only [Act.put, List.setIfInBounds_toArray, List.set_cons_zero, List.set_cons_succ])
          refine wpAnyH_take (i := 29) (oi := { dst := some 76, op := Op.binOp BinOp.neq 27 (Operand.tmp 71) (Operand.tmp 75) 27, type := 4, pos := "law.go:41", after := #[{ on := 24, ground := Ground.data }, { on := 28, ground := Ground.data }, { on := 22, ground := Ground.guard }], guard := some (22, false) }) (v := ?_) rfl (by kernel_rfl) (by kernel_rfl) (by kernel_rfl) (fun _ _ _ h => h) (Or.inl ⟨by rfl, ?hy26⟩) (by assumption) ?_
          case hy26 => (intro w hSw; (try dsimp only at hSw); go_simp; try with_reducible rfl)
          (try simp only [Act.put, List.setIfInBounds_toArray, List.set_cons_zero, List.set_cons_succ])
          refine wpAnyH_take (i := 30) (oi := { dst := some 77, op := Op.pick (Operand.tmp 69) (Operand.const (Value.bool true)) (Operand.tmp 76), type := 4, pos := "law.go:41", after := #[{ on := 22, ground := Ground.data }, { on := 29, ground := Ground.data }], guard := none }) (v := ?_) rfl (by kernel_rfl) (by kernel_rfl) (by kernel_rfl) (fun _ _ _ h => h) (Or.inl ⟨by rfl, ?hy27⟩) (by assumption) ?_
          case hy27 => (intro w hSw; (try dsimp only at hSw); go_simp; try with_reducible rfl)
          (try simp only [Act.put, List.setIfInBounds_toArray, List.set_cons_zero, List.set_cons_succ])
          refine wpAnyH_done (by kernel_rfl) ?_ _
          skip
          all_goals
            go_wp2_with fail
            exact ⟨⟨k + 1, marked m n, o, by omega, marked_le _ _ _ hm, by omega, by omega, by go_num, h5⟩, by simp [intOf]; omega⟩
      · have h1n : 1000 ≤ (k : Int) := by omega
        have hin : (k : Int) < (l.length : Int) := by omega
        go_wp2_with fail
        go_ret
        exact ⟨rfl, hst.bel⟩
    · obtain rfl : k = l.length := by omega
      go_wp2_with fail
      go_ret
      exact ⟨rfl, hst.bel⟩
end Go.Proofs.Ytiefmblpapkehaa

/-
  The reference's View: the walk.
-/
import Derived.Test.YthgbmijgoaihcaaMg4
import Derived.Deep.RegionLaw
namespace Go.Proofs.Ythgbmijgoaihcaa
open Go.RowKit
set_option linter.unusedVariables false

theorem viewR_len (l : List Ent) (s k : Nat) : (viewRTo l s k).length ≤ k := by
  induction k with
  | zero => exact Nat.le_refl _
  | succ k ih =>
    unfold viewRTo
    rw [List.length_append]
    have : (if (l.getD k default).seq ≤ s ∧ newer l s k = false then pairOf (l.getD k default) else []).length ≤ 1 := by
      split
      · unfold pairOf; split <;> simp
      · simp
    omega
section laws
variable {P : Program} {ops : Array Oper} {o : Oper} {a : Act} {Q : Exit → Act → World → Prop}
theorem step_app_pr {E0 : Prop} {K : Act → World → Prop} (w : World) (hgd : o.guard = none) (s x : Operand) (t : TypeId) (ho : o.op = .call { callee := .builtin .append, args := #[s, x], argTypes := #[t, t] })
    (ht : P.underlying t = some (.slice 61)) {z : Value} (hi : (P.info? 61).map (fun i => (i.zero, i.size, i.bytes)) = some (some z, 2, 32)) (hzc : z.cells.size = 2)
    {B0 : Nat} {v : Value} {l : List Pr} (hs : a.eval s = v) (hown : OwnP w B0 v l) {B : Nat} {e : Pr} {fr : Nat × Nat} (hx : a.eval x = .slice (some ⟨B, 0, none⟩) 1 1) (hB : w.heap[B]? = some (.cells (prCells e).toArray 61 fr))
    (hl : l.length + 1 ≤ 4398046511104) (hK : B0 ≤ w.heap.size)
    (h : ∀ v' w', OwnP w' B0 v' (l ++ [e]) → Below B0 w w' → K (a.put o.dst v') w') : if Region.wanted o (yielded ops a.tmps) = true then Oper.wp P o a w K Q else E0 := by
  obtain ⟨i0, hi0, hz0, hz1, hz2⟩ := info_parts hi
  refine step_append_lies (w := w) hgd s x t ho B0 61 i0 z 2 32 ht hi0 hz0 hz1 hz2 hzc (by decide) v l.length (prsCells l) hs hown ⟨B, 0, none⟩ 1 1 (prsCells [e]) hx (by rw [prsCells_length]; rfl)
    (by have := World.news_of_block hB; simpa [prsCells] using this) (prsCells_one _) (by omega) (by unfold maxLen; omega) (by omega) hK _ rfl ?_
  intro g cap w' h1 h2 h3 h4
  refine h _ _ ?_ ?_
  · rw [← prsCells_append] at h1
    simpa [OwnP] using h1
  · exact (Below.refl B0 w).grown h2 hK (fun k hk => (hown.lt k hk).1)
end laws
theorem cell_below {w w' : World} {K g j : Nat} {v : Value} (hb : Below K w w') (hg : g < K) (h : w.cell? ⟨g, j, none⟩ = some v) : w'.cell? ⟨g, j, none⟩ = some v := by
  rw [hb.cell (p := ⟨g, j, none⟩) hg]; exact h
set_option maxRecDepth 100000 in
set_option maxHeartbeats 3200000 in
theorem rview_any (a : Option Addr) (cap : Nat) (l : List Ent) (s : Nat) (w : World) (hl : l.length ≤ cap) (hm : cap ≤ maxLen) (hl2 : l.length ≤ 2932031007400) (hs : s < 18446744073709551616) (hb : Ents w a l) :
    Calls Try.prog 30 #[.slice a l.length cap, .int .u64 s] w fun e w' => ∃ v, e = .returned v ∧ OwnP w' w.heap.size v (viewR l s) ∧ Below w.heap.size w w' := by
  have hle : l.length ≤ 9223372036854775807 := by omega
  have HM := Lib.hid (rrises_any a cap l w (Nat.le_trans hl hm) hb)
  obtain ⟨K, HK⟩ : ∃ K, Hid (w.heap.size = K) := ⟨_, Lib.hid rfl⟩
  rw [HK.out] at HM ⊢
  cases hr : rises l with
  | false =>
    rw [hr] at HM
    have hv : Hid (viewR l s = []) := Lib.hid (by unfold viewR; rw [hr]; rfl)
    go_enter Try.func30, Try.ntmps30
    go_wp2_with (first
      | ((with_reducible refine HM.out.mono ?_); rintro _ w1 ⟨rfl, hb1⟩))
    go_ret
    exact ⟨_, rfl, by rw [hv.out]; exact OwnP.nil _ _, hb1⟩
  | true =>
    rw [hr] at HM
    have hv : Hid (viewR l s = viewRTo l s l.length) := Lib.hid (by unfold viewR; rw [hr]; rfl)
    go_enter Try.func30, Try.ntmps30
    go_wp2_with (first
      | ((with_reducible refine HM.out.mono ?_); rintro _ w1 ⟨rfl, hw1⟩))
    clear HM
    go_loopw [5, 6] (fun ov iv wr => ∃ (k : Nat), k ≤ l.length ∧ iv = .int .i64 k ∧ Hid (OwnP wr K ov (viewRTo l s k)) ∧ Below K w wr) (fun _ iv _ => l.length - (intOf iv).toNat)
    case atStart => exact ⟨0, by omega, rfl, Lib.hid (OwnP.nil _ _), hw1⟩
    case round =>
      obtain ⟨k, hk, rfl, hown, hwr⟩ := hrel
      have hKw : K ≤ wr.heap.size := by have := hwr.size; rw [HK.out] at this; exact this
      by_cases hlt : k < l.length
      · have hbK : ∀ b o, a = some ⟨b, o, none⟩ → b < K := fun b o e => by
          obtain ⟨b1, o1, e1, ⟨d0, _⟩, _⟩ := hb k hlt
          rw [e1] at e; cases e
          have := cell_lt d0
          rw [HK.out] at this; exact this
        have hbr := hb.below (w' := wr) (by rw [HK.out]; exact hwr)
        obtain ⟨b, off, rfl, ⟨c0, c1, c2, c3⟩, hok⟩ := hbr k hlt
        replace hbK : b < K := hbK b off rfl
        have hin : (k : Int) < (l.length : Int) := by omega
        have h0 : (0 : Int) ≤ (k : Int) := by omega
        have hr3 := viewR_len l s k
        have HS : Hid (viewRTo l s (k + 1) = viewRTo l s k ++ (if (l.getD k default).seq ≤ s ∧ newer l s k = false then pairOf (l.getD k default) else [])) := Lib.hid rfl
        -- the test 'newer' is walked in three ways
        have HN : ∃ nb : Bool, Hid (newer l s k = nb) ∧ ((nb = false ∧ k = 0) ∨ ∃ j y, ∃ hj : k = j + 1, EntAt wr b (off + j * 4) y ∧ j < l.length ∧ nb = (y.user.toList == (l[k]'hlt).user.toList && decide (y.seq ≤ s))) := by
          refine ⟨_, Lib.hid rfl, ?_⟩
          cases k with
          | zero => exact Or.inl ⟨by simp [newer], rfl⟩
          | succ j =>
            have hj : j < l.length := by omega
            obtain ⟨_, _, e', ge, _⟩ := hbr j hj
            cases e'
            exact Or.inr ⟨j, l[j], rfl, ge, hj, by simp [newer, List.getD_eq_getElem?_getD, hj, hlt]⟩
        rw [show l.getD k default = l[k] by simp [List.getD_eq_getElem?_getD, hlt]] at HS
        obtain ⟨nb, hnb, HN⟩ := HN
        rw [hnb.out] at HS
        clear hbr hb hnb
        generalize l[k] = x at *
        generalize viewRTo l s k = out at *
        have hlo : out.length + 1 ≤ 4398046511104 := by omega
        -- behind 'newer': one text for all ways
        have REST : ∀ (wq : World) (nq : Nat), True := fun _ _ => trivial
        clear REST
        rcases HN with ⟨rfl, rfl⟩ | ⟨j, y, rfl, ⟨g0, g1, g2, g3⟩, hj, rfl⟩
        · have HNB : Hid (false = false) := Lib.hid rfl
          rw [Nat.zero_mul, Nat.add_zero] at c0 c1 c2 c3
          have hin0 : (0 : Int) < (l.length : Int) := by omega
          by_cases e1 : x.seq ≤ s
          · by_cases e2 : x.kind = 1
            · have f1 : decide ((x.seq : Int) ≤ (s : Int)) = true := by simp; omega
              have f2 : ((x.kind : Int) == 1) = true := by simp; omega
              have HR : Hid (viewRTo l s (0 + 1) = out ++ [(x.user, x.value)]) := Lib.hid (HS.out.trans (by rw [if_pos ⟨e1, HNB.out⟩]; unfold pairOf; rw [if_pos e2]))
              clear HS HNB e2
              go_wp2
              go_quiet (fail)
              go_wp2
              have hbd : Below wr.heap.size wr (wr.drewN nq) := below_drewN (Below.refl _ _) nq
              have HSD : Hid ((wr.drewN nq).heap.size = wr.heap.size) := Lib.hid (by simp [World.drewN])
              have c0d := cell_later2 hbd c0
              have c3d := cell_later2 hbd c3
              generalize wr.drewN nq = wd at *
              clear c0 c1 c2 c3
              refine wp_region_held_drew (S := (fun w' => w'.cell? ⟨b, off, none⟩ = some (Value.string x.user) ∧ w'.cell? ⟨b, off + 3, none⟩ = some (Value.string x.value))) (by kernel_rfl) ?_ (fun hS0 => ?_)
              · exact ⟨c0d, c3d⟩
              refine wpAnyH_take (i := 0) (oi := { dst := some 62, op := Op.move (Operand.tmp 5), type := 39, pos := "ref.go:75", after := #[], guard := none }) (v := ?_) rfl (by kernel_rfl) (by kernel_rfl) (by kernel_rfl) (fun _ _ _ h => h) (Or.inl ⟨by rfl, ?hy1⟩) (by assumption) ?_
              case hy1 => (intro w hSw; (try dsimp only at hSw); go_simp; try with_reducible rfl)
              (try simp only [Act.put, List.setIfInBounds_toArray, List.set_cons_zero, List.set_cons_succ])
              refine wpAnyH_take (i := 1) (oi := { dst := some 63, op := Op.move (Operand.tmp 0), type := 22, pos := "ref.go:75", after := #[], guard := none }) (v := ?_) rfl (by kernel_rfl) (by kernel_rfl) (by kernel_rfl) (fun _ _ _ h => h) (Or.inl ⟨by rfl, ?hy2⟩) (by assumption) ?_
              case hy2 => (intro w hSw; (try dsimp only at hSw); go_simp; try with_reducible rfl)
              (try simp only [Act.put, List.setIfInBounds_toArray, List.set_cons_zero, List.set_cons_succ])
              refine wpAnyH_take (i := 2) (oi := { dst := some 64, op := Op.move (Operand.tmp 6), type := 3, pos := "ref.go:75", after := #[], guard := none }) (v := ?_) rfl (by kernel_rfl) (by kernel_rfl) (by kernel_rfl) (fun _ _ _ h => h) (Or.inl ⟨by rfl, ?hy3⟩) (by assumption) ?_
              case hy3 => (intro w hSw; (try dsimp only at hSw); go_simp; try with_reducible rfl)
              (try simp only [Act.put, List.setIfInBounds_toArray, List.set_cons_zero, List.set_cons_succ])
              refine wpAnyH_take (i := 3) (oi := { dst := some 65, op := Op.indexAddr 22 (Operand.tmp 63) (Operand.tmp 64), type := 0, pos := "ref.go:75", after := #[{ on := 1, ground := Ground.data }, { on := 2, ground := Ground.data }], guard := none }) (v := ?_) rfl (by kernel_rfl) (by kernel_rfl) (by kernel_rfl) (fun _ _ _ h => h) (Or.inl ⟨by rfl, ?hy4⟩) (by assumption) ?_
              case hy4 => (intro w hSw; (try dsimp only at hSw); go_simp; try with_reducible rfl)
              (try simp only [Act.put, List.setIfInBounds_toArray, List.set_cons_zero, List.set_cons_succ])
              refine wpAnyH_take (i := 4) (oi := { dst := some 66, op := Op.fieldAddr 33 (Operand.tmp 65) 0, type := 0, pos := "ref.go:75", after := #[{ on := 3, ground := Ground.data }], guard := none }) (v := ?_) rfl (by kernel_rfl) (by kernel_rfl) (by kernel_rfl) (fun _ _ _ h => h) (Or.inl ⟨by rfl, ?hy5⟩) (by assumption) ?_
              case hy5 => (intro w hSw; (try dsimp only at hSw); go_simp; try with_reducible rfl)
              (try simp only [Act.put, List.setIfInBounds_toArray, List.set_cons_zero, List.set_cons_succ])
              refine wpAnyH_take (i := 5) (oi := { dst := some 67, op := Op.load 9 (Operand.tmp 66), type := 9, pos := "ref.go:75", after := #[{ on := 4, ground := Ground.data }], guard := none }) (v := ?_) rfl (by kernel_rfl) (by kernel_rfl) (by kernel_rfl) (fun _ _ _ h => h) (Or.inl ⟨by rfl, ?hy6⟩) (by assumption) ?_
              case hy6 => (intro w hSw; (try dsimp only at hSw); go_simp; try with_reducible rfl)
              (try simp only [Act.put, List.setIfInBounds_toArray, List.set_cons_zero, List.set_cons_succ])
              refine wpAnyH_take (i := 6) (oi := { dst := some 68, op := Op.move (Operand.tmp 0), type := 22, pos := "ref.go:75", after := #[], guard := none }) (v := ?_) rfl (by kernel_rfl) (by kernel_rfl) (by kernel_rfl) (fun _ _ _ h => h) (Or.inl ⟨by rfl, ?hy7⟩) (by assumption) ?_
              case hy7 => (intro w hSw; (try dsimp only at hSw); go_simp; try with_reducible rfl)
              (try simp only [Act.put, List.setIfInBounds_toArray, List.set_cons_zero, List.set_cons_succ])
              refine wpAnyH_take (i := 7) (oi := { dst := some 69, op := Op.move (Operand.tmp 6), type := 3, pos := "ref.go:75", after := #[], guard := none }) (v := ?_) rfl (by kernel_rfl) (by kernel_rfl) (by kernel_rfl) (fun _ _ _ h => h) (Or.inl ⟨by rfl, ?hy8⟩) (by assumption) ?_
              case hy8 => (intro w hSw; (try dsimp only at hSw); go_simp; try with_reducible rfl)
              (try simp only [Act.put, List.setIfInBounds_toArray, List.set_cons_zero, List.set_cons_succ])
              refine wpAnyH_take (i := 8) (oi := { dst := some 70, op := Op.indexAddr 22 (Operand.tmp 68) (Operand.tmp 69), type := 0, pos := "ref.go:75", after := #[{ on := 6, ground := Ground.data }, { on := 7, ground := Ground.data }], guard := none }) (v := ?_) rfl (by kernel_rfl) (by kernel_rfl) (by kernel_rfl) (fun _ _ _ h => h) (Or.inl ⟨by rfl, ?hy9⟩) (by assumption) ?_
              case hy9 => (intro w hSw; (try dsimp only at hSw); go_simp; try with_reducible rfl)
              (try simp only [Act.put, List.setIfInBounds_toArray, List.set_cons_zero, List.set_cons_succ])
              refine wpAnyH_take (i := 9) (oi := { dst := some 71, op := Op.fieldAddr 33 (Operand.tmp 70) 3, type := 0, pos := "ref.go:75", after := #[{ on := 8, ground := Ground.data }], guard := none }) (v := ?_) rfl (by kernel_rfl) (by kernel_rfl) (by kernel_rfl) (fun _ _ _ h => h) (Or.inl ⟨by rfl, ?hy10⟩) (by assumption) ?_
              case hy10 => (intro w hSw; (try dsimp only at hSw); go_simp; try with_reducible rfl)
              (try simp only [Act.put, List.setIfInBounds_toArray, List.set_cons_zero, List.set_cons_succ])
              refine wpAnyH_take (i := 10) (oi := { dst := some 72, op := Op.load 9 (Operand.tmp 71), type := 9, pos := "ref.go:75", after := #[{ on := 9, ground := Ground.data }], guard := none }) (v := ?_) rfl (by kernel_rfl) (by kernel_rfl) (by kernel_rfl) (fun _ _ _ h => h) (Or.inl ⟨by rfl, ?hy11⟩) (by assumption) ?_
              case hy11 => (intro w hSw; (try dsimp only at hSw); go_simp; try with_reducible rfl)
              (try simp only [Act.put, List.setIfInBounds_toArray, List.set_cons_zero, List.set_cons_succ])
              refine wpAnyH_take (i := 11) (oi := { dst := some 73, op := Op.build 61 #[(0, Operand.tmp 67), (1, Operand.tmp 72)], type := 61, pos := "ref.go:75", after := #[{ on := 5, ground := Ground.data }, { on := 10, ground := Ground.data }], guard := none }) (v := ?_) rfl (by kernel_rfl) (by kernel_rfl) (by kernel_rfl) (fun _ _ _ h => h) (Or.inl ⟨by rfl, ?hy12⟩) (by assumption) ?_
              case hy12 => (intro w hSw; (try dsimp only at hSw); go_simp; try with_reducible rfl)
              (try simp only [Act.put, List.setIfInBounds_toArray, List.set_cons_zero, List.set_cons_succ])
              refine wpAnyH_ready (rs := [12]) (by kernel_rfl) (by simp) (AllReadyH.cons (o := { dst := some 74, op := Op.buildSlice 39 1 #[(0, Operand.tmp 73)], type := 39, pos := "ref.go:75", after := #[{ on := 11, ground := Ground.data }], guard := none }) rfl (fun K hK => ?_) AllReadyH.nil)
              go_simp
              (try dsimp only)
              refine Shut.out hK _ _ ?_ (fun hS12 => ?_)
              · exact ⟨cell_later2 ((Below.refl wd.heap.size wd).drew.alloc (Nat.le_refl _) _) c0d, cell_later2 ((Below.refl wd.heap.size wd).drew.alloc (Nat.le_refl _) _) c3d⟩
              clear hK K
              (try simp only [Act.put, List.setIfInBounds_toArray, List.set_cons_zero, List.set_cons_succ])
              refine wpAnyH_ready (rs := [13]) (by kernel_rfl) (by simp) (AllReadyH.cons (o := { dst := some 75, op := Op.call { callee := Callee.builtin Builtin.append, args := #[Operand.tmp 62, Operand.tmp 74], argTypes := #[39, 39] }, type := 39, pos := "ref.go:75", after := #[{ on := 0, ground := Ground.data }, { on := 12, ground := Ground.data }], guard := none }) rfl (fun K hK => ?_) AllReadyH.nil)
              refine step_app_pr _ (by rfl) _ _ _ (by rfl) Try.underlying39 infoPr rfl (by rfl) (OwnP.later hown.out (hbd.trans (((Below.refl wd.heap.size wd).drew.alloc (Nat.le_refl _) _).mono (Nat.le_of_eq HSD.out.symm)))) (e := (x.user, x.value)) (by rfl) (heap_at' (by simp)) hlo (by have := HSD.out; simp; omega) ?_
              intro v' w2 hown2 hb2
              (try dsimp only)
              refine Shut.out hK _ _ ?_ (fun hS13 => ?_)
              · exact ⟨cell_below hb2 hbK hS12.1, cell_below hb2 hbK hS12.2⟩
              clear hK K
              (try simp only [Act.put, List.setIfInBounds_toArray, List.set_cons_zero, List.set_cons_succ])
              refine wpAnyH_take (i := 14) (oi := { dst := some 5, op := Op.assign (Operand.tmp 75), type := 39, pos := "ref.go:75", after := #[{ on := 13, ground := Ground.data }, { on := 13, ground := Ground.chain }, { on := 0, ground := Ground.phase }, { on := 1, ground := Ground.phase }, { on := 2, ground := Ground.phase }, { on := 3, ground := Ground.phase }, { on := 4, ground := Ground.phase }, { on := 5, ground := Ground.phase }, { on := 6, ground := Ground.phase }, { on := 7, ground := Ground.phase }, { on := 8, ground := Ground.phase }, { on := 9, ground := Ground.phase }, { on := 10, ground := Ground.phase }, { on := 11, ground := Ground.phase }, { on := 12, ground := Ground.phase }, { on := 13, ground := Ground.phase }], guard := none }) (v := ?_) rfl (by kernel_rfl) (by kernel_rfl) (by kernel_rfl) (fun _ _ _ h => h) (Or.inl ⟨by rfl, ?hy13⟩) (by assumption) ?_
              case hy13 => (intro w hSw; (try dsimp only at hSw); go_simp; try with_reducible rfl)
              (try simp only [Act.put, List.setIfInBounds_toArray, List.set_cons_zero, List.set_cons_succ])
              refine wpAnyH_done (by kernel_rfl) ?_ _
              go_wp2
              have hbe : Below K wr w2 := ((hbd.trans (((Below.refl wd.heap.size wd).drew.alloc (Nat.le_refl _) _).mono (Nat.le_of_eq HSD.out.symm))).mono hKw).trans hb2
              exact ⟨⟨0 + 1, by omega, by go_num, Lib.hid (by rw [HR.out]; exact hown2), hwr.trans hbe⟩, by simp [intOf]; omega⟩
            · have f1 : decide ((x.seq : Int) ≤ (s : Int)) = true := by simp; omega
              have f2 : ((x.kind : Int) == 1) = false := by simp; omega
              have HR : Hid (viewRTo l s (0 + 1) = out) := Lib.hid (HS.out.trans (by rw [if_pos ⟨e1, HNB.out⟩]; unfold pairOf; rw [if_neg e2, List.append_nil]))
              clear HS HNB e2
              go_wp2
              go_quiet (fail)
              go_wp2
              have hbe : Below wr.heap.size wr (wr.drewN nq) := below_drewN (Below.refl _ _) _
              exact ⟨⟨0 + 1, by omega, by go_num, Lib.hid (by rw [HR.out]; exact OwnP.later hown.out hbe), hwr.trans (hbe.mono hKw)⟩, by simp [intOf]; omega⟩
          · have f1 : decide ((x.seq : Int) ≤ (s : Int)) = false := by simp; omega
            have HR : Hid (viewRTo l s (0 + 1) = out) := Lib.hid (HS.out.trans (by rw [if_neg (fun h => e1 h.1), List.append_nil]))
            clear HS HNB
            go_wp2
            go_quiet (fail)
            go_wp2
            have hbe : Below wr.heap.size wr (wr.drewN nq) := below_drewN (Below.refl _ _) _
            exact ⟨⟨0 + 1, by omega, by go_num, Lib.hid (by rw [HR.out]; exact OwnP.later hown.out hbe), hwr.trans (hbe.mono hKw)⟩, by simp [intOf]; omega⟩
        · have hin1 : (j : Int) + 1 < (l.length : Int) := by omega
          have h01 : (0 : Int) ≤ (j : Int) + 1 := by omega
          by_cases q1 : y.user.toList = x.user.toList
          · have d1 : (y.user.toList == x.user.toList) = true := by simp [q1]
            clear q1
            by_cases q2 : y.seq ≤ s
            · have d2 : decide ((y.seq : Int) ≤ (s : Int)) = true := by simp; omega
              have HR : Hid (viewRTo l s (j + 1 + 1) = out) := Lib.hid (HS.out.trans (by rw [d1]; simp [q2]))
              clear HS
              by_cases e1 : x.seq ≤ s
              · have f1 : decide ((x.seq : Int) ≤ (s : Int)) = true := by simp; omega
                go_wp2
                go_quiet (fail)
                go_wp2
                have hbe : Below wr.heap.size wr (wr.drewN nq) := below_drewN (Below.refl _ _) _
                exact ⟨⟨j + 1 + 1, by omega, by go_num, Lib.hid (by rw [HR.out]; exact OwnP.later hown.out hbe), hwr.trans (hbe.mono hKw)⟩, by simp [intOf]; omega⟩
              · have f1 : decide ((x.seq : Int) ≤ (s : Int)) = false := by simp; omega
                go_wp2
                go_quiet (fail)
                go_wp2
                have hbe : Below wr.heap.size wr (wr.drewN nq) := below_drewN (Below.refl _ _) _
                exact ⟨⟨j + 1 + 1, by omega, by go_num, Lib.hid (by rw [HR.out]; exact OwnP.later hown.out hbe), hwr.trans (hbe.mono hKw)⟩, by simp [intOf]; omega⟩
            · have d2 : decide ((y.seq : Int) ≤ (s : Int)) = false := by simp; omega
              have HNB : Hid ((y.user.toList == x.user.toList && decide (y.seq ≤ s)) = false) := Lib.hid (by simp [q2])
              by_cases e1 : x.seq ≤ s
              · by_cases e2 : x.kind = 1
                · have f1 : decide ((x.seq : Int) ≤ (s : Int)) = true := by simp; omega
                  have f2 : ((x.kind : Int) == 1) = true := by simp; omega
                  have HR : Hid (viewRTo l s (j + 1 + 1) = out ++ [(x.user, x.value)]) := Lib.hid (HS.out.trans (by rw [if_pos ⟨e1, HNB.out⟩]; unfold pairOf; rw [if_pos e2]))
                  clear HS HNB e2
                  go_wp2
                  go_quiet (fail)
                  go_wp2
                  have hbd : Below wr.heap.size wr (wr.drewN nq) := below_drewN (Below.refl _ _) nq
                  have HSD : Hid ((wr.drewN nq).heap.size = wr.heap.size) := Lib.hid (by simp [World.drewN])
                  have c0d := cell_later2 hbd c0
                  have c3d := cell_later2 hbd c3
                  generalize wr.drewN nq = wd at *
                  clear c0 c1 c2 c3
                  refine wp_region_held_drew (S := (fun w' => w'.cell? ⟨b, off + (j + 1) * 4, none⟩ = some (Value.string x.user) ∧ w'.cell? ⟨b, off + (j + 1) * 4 + 3, none⟩ = some (Value.string x.value))) (by kernel_rfl) ?_ (fun hS0 => ?_)
                  · exact ⟨c0d, c3d⟩
                  refine wpAnyH_take (i := 0) (oi := { dst := some 62, op := Op.move (Operand.tmp 5), type := 39, pos := "ref.go:75", after := #[], guard := none }) (v := ?_) rfl (by kernel_rfl) (by kernel_rfl) (by kernel_rfl) (fun _ _ _ h => h) (Or.inl ⟨by rfl, ?hy1⟩) (by assumption) ?_
                  case hy1 => (intro w hSw; (try dsimp only at hSw); go_simp; try with_reducible rfl)
                  (try simp only [Act.put, List.setIfInBounds_toArray, List.set_cons_zero, List.set_cons_succ])
                  refine wpAnyH_take (i := 1) (oi := { dst := some 63, op := Op.move (Operand.tmp 0), type := 22, pos := "ref.go:75", after := #[], guard := none }) (v := ?_) rfl (by kernel_rfl) (by kernel_rfl) (by kernel_rfl) (fun _ _ _ h => h) (Or.inl ⟨by rfl, ?hy2⟩) (by assumption) ?_
                  case hy2 => (intro w hSw; (try dsimp only at hSw); go_simp; try with_reducible rfl)
                  (try simp only [Act.put, List.setIfInBounds_toArray, List.set_cons_zero, List.set_cons_succ])
                  refine wpAnyH_take (i := 2) (oi := { dst := some 64, op := Op.move (Operand.tmp 6), type := 3, pos := "ref.go:75", after := #[], guard := none }) (v := ?_) rfl (by kernel_rfl) (by kernel_rfl) (by kernel_rfl) (fun _ _ _ h => h) (Or.inl ⟨by rfl, ?hy3⟩) (by assumption) ?_
                  case hy3 => (intro w hSw; (try dsimp only at hSw); go_simp; try with_reducible rfl)
                  (try simp only [Act.put, List.setIfInBounds_toArray, List.set_cons_zero, List.set_cons_succ])
                  refine wpAnyH_take (i := 3) (oi := { dst := some 65, op := Op.indexAddr 22 (Operand.tmp 63) (Operand.tmp 64), type := 0, pos := "ref.go:75", after := #[{ on := 1, ground := Ground.data }, { on := 2, ground := Ground.data }], guard := none }) (v := ?_) rfl (by kernel_rfl) (by kernel_rfl) (by kernel_rfl) (fun _ _ _ h => h) (Or.inl ⟨by rfl, ?hy4⟩) (by assumption) ?_
                  case hy4 => (intro w hSw; (try dsimp only at hSw); go_simp; try with_reducible rfl)
                  (try simp only [Act.put, List.setIfInBounds_toArray, List.set_cons_zero, List.set_cons_succ])
                  refine wpAnyH_take (i := 4) (oi := { dst := some 66, op := Op.fieldAddr 33 (Operand.tmp 65) 0, type := 0, pos := "ref.go:75", after := #[{ on := 3, ground := Ground.data }], guard := none }) (v := ?_) rfl (by kernel_rfl) (by kernel_rfl) (by kernel_rfl) (fun _ _ _ h => h) (Or.inl ⟨by rfl, ?hy5⟩) (by assumption) ?_
                  case hy5 => (intro w hSw; (try dsimp only at hSw); go_simp; try with_reducible rfl)
                  (try simp only [Act.put, List.setIfInBounds_toArray, List.set_cons_zero, List.set_cons_succ])
                  refine wpAnyH_take (i := 5) (oi := { dst := some 67, op := Op.load 9 (Operand.tmp 66), type := 9, pos := "ref.go:75", after := #[{ on := 4, ground := Ground.data }], guard := none }) (v := ?_) rfl (by kernel_rfl) (by kernel_rfl) (by kernel_rfl) (fun _ _ _ h => h) (Or.inl ⟨by rfl, ?hy6⟩) (by assumption) ?_
                  case hy6 => (intro w hSw; (try dsimp only at hSw); go_simp; try with_reducible rfl)
                  (try simp only [Act.put, List.setIfInBounds_toArray, List.set_cons_zero, List.set_cons_succ])
                  refine wpAnyH_take (i := 6) (oi := { dst := some 68, op := Op.move (Operand.tmp 0), type := 22, pos := "ref.go:75", after := #[], guard := none }) (v := ?_) rfl (by kernel_rfl) (by kernel_rfl) (by kernel_rfl) (fun _ _ _ h => h) (Or.inl ⟨by rfl, ?hy7⟩) (by assumption) ?_
                  case hy7 => (intro w hSw; (try dsimp only at hSw); go_simp; try with_reducible rfl)
                  (try simp only [Act.put, List.setIfInBounds_toArray, List.set_cons_zero, List.set_cons_succ])
                  refine wpAnyH_take (i := 7) (oi := { dst := some 69, op := Op.move (Operand.tmp 6), type := 3, pos := "ref.go:75", after := #[], guard := none }) (v := ?_) rfl (by kernel_rfl) (by kernel_rfl) (by kernel_rfl) (fun _ _ _ h => h) (Or.inl ⟨by rfl, ?hy8⟩) (by assumption) ?_
                  case hy8 => (intro w hSw; (try dsimp only at hSw); go_simp; try with_reducible rfl)
                  (try simp only [Act.put, List.setIfInBounds_toArray, List.set_cons_zero, List.set_cons_succ])
                  refine wpAnyH_take (i := 8) (oi := { dst := some 70, op := Op.indexAddr 22 (Operand.tmp 68) (Operand.tmp 69), type := 0, pos := "ref.go:75", after := #[{ on := 6, ground := Ground.data }, { on := 7, ground := Ground.data }], guard := none }) (v := ?_) rfl (by kernel_rfl) (by kernel_rfl) (by kernel_rfl) (fun _ _ _ h => h) (Or.inl ⟨by rfl, ?hy9⟩) (by assumption) ?_
                  case hy9 => (intro w hSw; (try dsimp only at hSw); go_simp; try with_reducible rfl)
                  (try simp only [Act.put, List.setIfInBounds_toArray, List.set_cons_zero, List.set_cons_succ])
                  refine wpAnyH_take (i := 9) (oi := { dst := some 71, op := Op.fieldAddr 33 (Operand.tmp 70) 3, type := 0, pos := "ref.go:75", after := #[{ on := 8, ground := Ground.data }], guard := none }) (v := ?_) rfl (by kernel_rfl) (by kernel_rfl) (by kernel_rfl) (fun _ _ _ h => h) (Or.inl ⟨by rfl, ?hy10⟩) (by assumption) ?_
                  case hy10 => (intro w hSw; (try dsimp only at hSw); go_simp; try with_reducible rfl)
                  (try simp only [Act.put, List.setIfInBounds_toArray, List.set_cons_zero, List.set_cons_succ])
                  refine wpAnyH_take (i := 10) (oi := { dst := some 72, op := Op.load 9 (Operand.tmp 71), type := 9, pos := "ref.go:75", after := #[{ on := 9, ground := Ground.data }], guard := none }) (v := ?_) rfl (by kernel_rfl) (by kernel_rfl) (by kernel_rfl) (fun _ _ _ h => h) (Or.inl ⟨by rfl, ?hy11⟩) (by assumption) ?_
                  case hy11 => (intro w hSw; (try dsimp only at hSw); go_simp; try with_reducible rfl)
                  (try simp only [Act.put, List.setIfInBounds_toArray, List.set_cons_zero, List.set_cons_succ])
                  refine wpAnyH_take (i := 11) (oi := { dst := some 73, op := Op.build 61 #[(0, Operand.tmp 67), (1, Operand.tmp 72)], type := 61, pos := "ref.go:75", after := #[{ on := 5, ground := Ground.data }, { on := 10, ground := Ground.data }], guard := none }) (v := ?_) rfl (by kernel_rfl) (by kernel_rfl) (by kernel_rfl) (fun _ _ _ h => h) (Or.inl ⟨by rfl, ?hy12⟩) (by assumption) ?_
                  case hy12 => (intro w hSw; (try dsimp only at hSw); go_simp; try with_reducible rfl)
                  (try simp only [Act.put, List.setIfInBounds_toArray, List.set_cons_zero, List.set_cons_succ])
                  refine wpAnyH_ready (rs := [12]) (by kernel_rfl) (by simp) (AllReadyH.cons (o := { dst := some 74, op := Op.buildSlice 39 1 #[(0, Operand.tmp 73)], type := 39, pos := "ref.go:75", after := #[{ on := 11, ground := Ground.data }], guard := none }) rfl (fun K hK => ?_) AllReadyH.nil)
                  go_simp
                  (try dsimp only)
                  refine Shut.out hK _ _ ?_ (fun hS12 => ?_)
                  · exact ⟨cell_later2 ((Below.refl wd.heap.size wd).drew.alloc (Nat.le_refl _) _) c0d, cell_later2 ((Below.refl wd.heap.size wd).drew.alloc (Nat.le_refl _) _) c3d⟩
                  clear hK K
                  (try simp only [Act.put, List.setIfInBounds_toArray, List.set_cons_zero, List.set_cons_succ])
                  refine wpAnyH_ready (rs := [13]) (by kernel_rfl) (by simp) (AllReadyH.cons (o := { dst := some 75, op := Op.call { callee := Callee.builtin Builtin.append, args := #[Operand.tmp 62, Operand.tmp 74], argTypes := #[39, 39] }, type := 39, pos := "ref.go:75", after := #[{ on := 0, ground := Ground.data }, { on := 12, ground := Ground.data }], guard := none }) rfl (fun K hK => ?_) AllReadyH.nil)
                  refine step_app_pr _ (by rfl) _ _ _ (by rfl) Try.underlying39 infoPr rfl (by rfl) (OwnP.later hown.out (hbd.trans (((Below.refl wd.heap.size wd).drew.alloc (Nat.le_refl _) _).mono (Nat.le_of_eq HSD.out.symm)))) (e := (x.user, x.value)) (by rfl) (heap_at' (by simp)) hlo (by have := HSD.out; simp; omega) ?_
                  intro v' w2 hown2 hb2
                  (try dsimp only)
                  refine Shut.out hK _ _ ?_ (fun hS13 => ?_)
                  · exact ⟨cell_below hb2 hbK hS12.1, cell_below hb2 hbK hS12.2⟩
                  clear hK K
                  (try simp only [Act.put, List.setIfInBounds_toArray, List.set_cons_zero, List.set_cons_succ])
                  refine wpAnyH_take (i := 14) (oi := { dst := some 5, op := Op.assign (Operand.tmp 75), type := 39, pos := "ref.go:75", after := #[{ on := 13, ground := Ground.data }, { on := 13, ground := Ground.chain }, { on := 0, ground := Ground.phase }, { on := 1, ground := Ground.phase }, { on := 2, ground := Ground.phase }, { on := 3, ground := Ground.phase }, { on := 4, ground := Ground.phase }, { on := 5, ground := Ground.phase }, { on := 6, ground := Ground.phase }, { on := 7, ground := Ground.phase }, { on := 8, ground := Ground.phase }, { on := 9, ground := Ground.phase }, { on := 10, ground := Ground.phase }, { on := 11, ground := Ground.phase }, { on := 12, ground := Ground.phase }, { on := 13, ground := Ground.phase }], guard := none }) (v := ?_) rfl (by kernel_rfl) (by kernel_rfl) (by kernel_rfl) (fun _ _ _ h => h) (Or.inl ⟨by rfl, ?hy13⟩) (by assumption) ?_
                  case hy13 => (intro w hSw; (try dsimp only at hSw); go_simp; try with_reducible rfl)
                  (try simp only [Act.put, List.setIfInBounds_toArray, List.set_cons_zero, List.set_cons_succ])
                  refine wpAnyH_done (by kernel_rfl) ?_ _
                  go_wp2
                  have hbe : Below K wr w2 := ((hbd.trans (((Below.refl wd.heap.size wd).drew.alloc (Nat.le_refl _) _).mono (Nat.le_of_eq HSD.out.symm))).mono hKw).trans hb2
                  exact ⟨⟨j + 1 + 1, by omega, by go_num, Lib.hid (by rw [HR.out]; exact hown2), hwr.trans hbe⟩, by simp [intOf]; omega⟩
                · have f1 : decide ((x.seq : Int) ≤ (s : Int)) = true := by simp; omega
                  have f2 : ((x.kind : Int) == 1) = false := by simp; omega
                  have HR : Hid (viewRTo l s (j + 1 + 1) = out) := Lib.hid (HS.out.trans (by rw [if_pos ⟨e1, HNB.out⟩]; unfold pairOf; rw [if_neg e2, List.append_nil]))
                  clear HS HNB e2
                  go_wp2
                  go_quiet (fail)
                  go_wp2
                  have hbe : Below wr.heap.size wr (wr.drewN nq) := below_drewN (Below.refl _ _) _
                  exact ⟨⟨j + 1 + 1, by omega, by go_num, Lib.hid (by rw [HR.out]; exact OwnP.later hown.out hbe), hwr.trans (hbe.mono hKw)⟩, by simp [intOf]; omega⟩
              · have f1 : decide ((x.seq : Int) ≤ (s : Int)) = false := by simp; omega
                have HR : Hid (viewRTo l s (j + 1 + 1) = out) := Lib.hid (HS.out.trans (by rw [if_neg (fun h => e1 h.1), List.append_nil]))
                clear HS HNB
                go_wp2
                go_quiet (fail)
                go_wp2
                have hbe : Below wr.heap.size wr (wr.drewN nq) := below_drewN (Below.refl _ _) _
                exact ⟨⟨j + 1 + 1, by omega, by go_num, Lib.hid (by rw [HR.out]; exact OwnP.later hown.out hbe), hwr.trans (hbe.mono hKw)⟩, by simp [intOf]; omega⟩
          · have d1 : (y.user.toList == x.user.toList) = false := by simp [q1]
            have HNB : Hid ((y.user.toList == x.user.toList && decide (y.seq ≤ s)) = false) := Lib.hid (by simp [q1])
            clear q1
            by_cases e1 : x.seq ≤ s
            · by_cases e2 : x.kind = 1
              · have f1 : decide ((x.seq : Int) ≤ (s : Int)) = true := by simp; omega
                have f2 : ((x.kind : Int) == 1) = true := by simp; omega
                have HR : Hid (viewRTo l s (j + 1 + 1) = out ++ [(x.user, x.value)]) := Lib.hid (HS.out.trans (by rw [if_pos ⟨e1, HNB.out⟩]; unfold pairOf; rw [if_pos e2]))
                clear HS HNB e2
                go_wp2
                go_quiet (fail)
                go_wp2
                have hbd : Below wr.heap.size wr (wr.drewN nq) := below_drewN (Below.refl _ _) nq
                have HSD : Hid ((wr.drewN nq).heap.size = wr.heap.size) := Lib.hid (by simp [World.drewN])
                have c0d := cell_later2 hbd c0
                have c3d := cell_later2 hbd c3
                generalize wr.drewN nq = wd at *
                clear c0 c1 c2 c3
                refine wp_region_held_drew (S := (fun w' => w'.cell? ⟨b, off + (j + 1) * 4, none⟩ = some (Value.string x.user) ∧ w'.cell? ⟨b, off + (j + 1) * 4 + 3, none⟩ = some (Value.string x.value))) (by kernel_rfl) ?_ (fun hS0 => ?_)
                · exact ⟨c0d, c3d⟩
                refine wpAnyH_take (i := 0) (oi := { dst := some 62, op := Op.move (Operand.tmp 5), type := 39, pos := "ref.go:75", after := #[], guard := none }) (v := ?_) rfl (by kernel_rfl) (by kernel_rfl) (by kernel_rfl) (fun _ _ _ h => h) (Or.inl ⟨by rfl, ?hy1⟩) (by assumption) ?_
                case hy1 => (intro w hSw; (try dsimp only at hSw); go_simp; try with_reducible rfl)
                (try simp only [Act.put, List.setIfInBounds_toArray, List.set_cons_zero, List.set_cons_succ])
                refine wpAnyH_take (i := 1) (oi := { dst := some 63, op := Op.move (Operand.tmp 0), type := 22, pos := "ref.go:75", after := #[], guard := none }) (v := ?_) rfl (by kernel_rfl) (by kernel_rfl) (by kernel_rfl) (fun _ _ _ h => h) (Or.inl ⟨by rfl, ?hy2⟩) (by assumption) ?_
                case hy2 => (intro w hSw; (try dsimp only at hSw); go_simp; try with_reducible rfl)
                (try simp only [Act.put, List.setIfInBounds_toArray, List.set_cons_zero, List.set_cons_succ])
                refine wpAnyH_take (i := 2) (oi := { dst := some 64, op := Op.move (Operand.tmp 6), type := 3, pos := "ref.go:75", after := #[], guard := none }) (v := ?_) rfl (by kernel_rfl) (by kernel_rfl) (by kernel_rfl) (fun _ _ _ h => h) (Or.inl ⟨by rfl, ?hy3⟩) (by assumption) ?_
                case hy3 => (intro w hSw; (try dsimp only at hSw); go_simp; try with_reducible rfl)
                (try simp only [Act.put, List.setIfInBounds_toArray, List.set_cons_zero, List.set_cons_succ])
                refine wpAnyH_take (i := 3) (oi := { dst := some 65, op := Op.indexAddr 22 (Operand.tmp 63) (Operand.tmp 64), type := 0, pos := "ref.go:75", after := #[{ on := 1, ground := Ground.data }, { on := 2, ground := Ground.data }], guard := none }) (v := ?_) rfl (by kernel_rfl) (by kernel_rfl) (by kernel_rfl) (fun _ _ _ h => h) (Or.inl ⟨by rfl, ?hy4⟩) (by assumption) ?_
                case hy4 => (intro w hSw; (try dsimp only at hSw); go_simp; try with_reducible rfl)
                (try simp only [Act.put, List.setIfInBounds_toArray, List.set_cons_zero, List.set_cons_succ])
                refine wpAnyH_take (i := 4) (oi := { dst := some 66, op := Op.fieldAddr 33 (Operand.tmp 65) 0, type := 0, pos := "ref.go:75", after := #[{ on := 3, ground := Ground.data }], guard := none }) (v := ?_) rfl (by kernel_rfl) (by kernel_rfl) (by kernel_rfl) (fun _ _ _ h => h) (Or.inl ⟨by rfl, ?hy5⟩) (by assumption) ?_
                case hy5 => (intro w hSw; (try dsimp only at hSw); go_simp; try with_reducible rfl)
                (try simp only [Act.put, List.setIfInBounds_toArray, List.set_cons_zero, List.set_cons_succ])
                refine wpAnyH_take (i := 5) (oi := { dst := some 67, op := Op.load 9 (Operand.tmp 66), type := 9, pos := "ref.go:75", after := #[{ on := 4, ground := Ground.data }], guard := none }) (v := ?_) rfl (by kernel_rfl) (by kernel_rfl) (by kernel_rfl) (fun _ _ _ h => h) (Or.inl ⟨by rfl, ?hy6⟩) (by assumption) ?_
                case hy6 => (intro w hSw; (try dsimp only at hSw); go_simp; try with_reducible rfl)
                (try simp only [Act.put, List.setIfInBounds_toArray, List.set_cons_zero, List.set_cons_succ])
                refine wpAnyH_take (i := 6) (oi := { dst := some 68, op := Op.move (Operand.tmp 0), type := 22, pos := "ref.go:75", after := #[], guard := none }) (v := ?_) rfl (by kernel_rfl) (by kernel_rfl) (by kernel_rfl) (fun _ _ _ h => h) (Or.inl ⟨by rfl, ?hy7⟩) (by assumption) ?_
                case hy7 => (intro w hSw; (try dsimp only at hSw); go_simp; try with_reducible rfl)
                (try simp only [Act.put, List.setIfInBounds_toArray, List.set_cons_zero, List.set_cons_succ])
                refine wpAnyH_take (i := 7) (oi := { dst := some 69, op := Op.move (Operand.tmp 6), type := 3, pos := "ref.go:75", after := #[], guard := none }) (v := ?_) rfl (by kernel_rfl) (by kernel_rfl) (by kernel_rfl) (fun _ _ _ h => h) (Or.inl ⟨by rfl, ?hy8⟩) (by assumption) ?_
                case hy8 => (intro w hSw; (try dsimp only at hSw); go_simp; try with_reducible rfl)
                (try simp only [Act.put, List.setIfInBounds_toArray, List.set_cons_zero, List.set_cons_succ])
                refine wpAnyH_take (i := 8) (oi := { dst := some 70, op := Op.indexAddr 22 (Operand.tmp 68) (Operand.tmp 69), type := 0, pos := "ref.go:75", after := #[{ on := 6, ground := Ground.data }, { on := 7, ground := Ground.data }], guard := none }) (v := ?_) rfl (by kernel_rfl) (by kernel_rfl) (by kernel_rfl) (fun _ _ _ h => h) (Or.inl ⟨by rfl, ?hy9⟩) (by assumption) ?_
                case hy9 => (intro w hSw; (try dsimp only at hSw); go_simp; try with_reducible rfl)
                (try simp only [Act.put, List.setIfInBounds_toArray, List.set_cons_zero, List.set_cons_succ])
                refine wpAnyH_take (i := 9) (oi := { dst := some 71, op := Op.fieldAddr 33 (Operand.tmp 70) 3, type := 0, pos := "ref.go:75", after := #[{ on := 8, ground := Ground.data }], guard := none }) (v := ?_) rfl (by kernel_rfl) (by kernel_rfl) (by kernel_rfl) (fun _ _ _ h => h) (Or.inl ⟨by rfl, ?hy10⟩) (by assumption) ?_
                case hy10 => (intro w hSw; (try dsimp only at hSw); go_simp; try with_reducible rfl)
                (try simp only [Act.put, List.setIfInBounds_toArray, List.set_cons_zero, List.set_cons_succ])
                refine wpAnyH_take (i := 10) (oi := { dst := some 72, op := Op.load 9 (Operand.tmp 71), type := 9, pos := "ref.go:75", after := #[{ on := 9, ground := Ground.data }], guard := none }) (v := ?_) rfl (by kernel_rfl) (by kernel_rfl) (by kernel_rfl) (fun _ _ _ h => h) (Or.inl ⟨by rfl, ?hy11⟩) (by assumption) ?_
                case hy11 => (intro w hSw; (try dsimp only at hSw); go_simp; try with_reducible rfl)
                (try simp only [Act.put, List.setIfInBounds_toArray, List.set_cons_zero, List.set_cons_succ])
                refine wpAnyH_take (i := 11) (oi := { dst := some 73, op := Op.build 61 #[(0, Operand.tmp 67), (1, Operand.tmp 72)], type := 61, pos := "ref.go:75", after := #[{ on := 5, ground := Ground.data }, { on := 10, ground := Ground.data }], guard := none }) (v := ?_) rfl (by kernel_rfl) (by kernel_rfl) (by kernel_rfl) (fun _ _ _ h => h) (Or.inl ⟨by rfl, ?hy12⟩) (by assumption) ?_
                case hy12 => (intro w hSw; (try dsimp only at hSw); go_simp; try with_reducible rfl)
                (try simp only [Act.put, List.setIfInBounds_toArray, List.set_cons_zero, List.set_cons_succ])
                refine wpAnyH_ready (rs := [12]) (by kernel_rfl) (by simp) (AllReadyH.cons (o := { dst := some 74, op := Op.buildSlice 39 1 #[(0, Operand.tmp 73)], type := 39, pos := "ref.go:75", after := #[{ on := 11, ground := Ground.data }], guard := none }) rfl (fun K hK => ?_) AllReadyH.nil)
                go_simp
                (try dsimp only)
                refine Shut.out hK _ _ ?_ (fun hS12 => ?_)
                · exact ⟨cell_later2 ((Below.refl wd.heap.size wd).drew.alloc (Nat.le_refl _) _) c0d, cell_later2 ((Below.refl wd.heap.size wd).drew.alloc (Nat.le_refl _) _) c3d⟩
                clear hK K
                (try simp only [Act.put, List.setIfInBounds_toArray, List.set_cons_zero, List.set_cons_succ])
                refine wpAnyH_ready (rs := [13]) (by kernel_rfl) (by simp) (AllReadyH.cons (o := { dst := some 75, op := Op.call { callee := Callee.builtin Builtin.append, args := #[Operand.tmp 62, Operand.tmp 74], argTypes := #[39, 39] }, type := 39, pos := "ref.go:75", after := #[{ on := 0, ground := Ground.data }, { on := 12, ground := Ground.data }], guard := none }) rfl (fun K hK => ?_) AllReadyH.nil)
                refine step_app_pr _ (by rfl) _ _ _ (by rfl) Try.underlying39 infoPr rfl (by rfl) (OwnP.later hown.out (hbd.trans (((Below.refl wd.heap.size wd).drew.alloc (Nat.le_refl _) _).mono (Nat.le_of_eq HSD.out.symm)))) (e := (x.user, x.value)) (by rfl) (heap_at' (by simp)) hlo (by have := HSD.out; simp; omega) ?_
                intro v' w2 hown2 hb2
                (try dsimp only)
                refine Shut.out hK _ _ ?_ (fun hS13 => ?_)
                · exact ⟨cell_below hb2 hbK hS12.1, cell_below hb2 hbK hS12.2⟩
                clear hK K
                (try simp only [Act.put, List.setIfInBounds_toArray, List.set_cons_zero, List.set_cons_succ])
                refine wpAnyH_take (i := 14) (oi := { dst := some 5, op := Op.assign (Operand.tmp 75), type := 39, pos := "ref.go:75", after := #[{ on := 13, ground := Ground.data }, { on := 13, ground := Ground.chain }, { on := 0, ground := Ground.phase }, { on := 1, ground := Ground.phase }, { on := 2, ground := Ground.phase }, { on := 3, ground := Ground.phase }, { on := 4, ground := Ground.phase }, { on := 5, ground := Ground.phase }, { on := 6, ground := Ground.phase }, { on := 7, ground := Ground.phase }, { on := 8, ground := Ground.phase }, { on := 9, ground := Ground.phase }, { on := 10, ground := Ground.phase }, { on := 11, ground := Ground.phase }, { on := 12, ground := Ground.phase }, { on := 13, ground := Ground.phase }], guard := none }) (v := ?_) rfl (by kernel_rfl) (by kernel_rfl) (by kernel_rfl) (fun _ _ _ h => h) (Or.inl ⟨by rfl, ?hy13⟩) (by assumption) ?_
                case hy13 => (intro w hSw; (try dsimp only at hSw); go_simp; try with_reducible rfl)
                (try simp only [Act.put, List.setIfInBounds_toArray, List.set_cons_zero, List.set_cons_succ])
                refine wpAnyH_done (by kernel_rfl) ?_ _
                go_wp2
                have hbe : Below K wr w2 := ((hbd.trans (((Below.refl wd.heap.size wd).drew.alloc (Nat.le_refl _) _).mono (Nat.le_of_eq HSD.out.symm))).mono hKw).trans hb2
                exact ⟨⟨j + 1 + 1, by omega, by go_num, Lib.hid (by rw [HR.out]; exact hown2), hwr.trans hbe⟩, by simp [intOf]; omega⟩
              · have f1 : decide ((x.seq : Int) ≤ (s : Int)) = true := by simp; omega
                have f2 : ((x.kind : Int) == 1) = false := by simp; omega
                have HR : Hid (viewRTo l s (j + 1 + 1) = out) := Lib.hid (HS.out.trans (by rw [if_pos ⟨e1, HNB.out⟩]; unfold pairOf; rw [if_neg e2, List.append_nil]))
                clear HS HNB e2
                go_wp2
                go_quiet (fail)
                go_wp2
                have hbe : Below wr.heap.size wr (wr.drewN nq) := below_drewN (Below.refl _ _) _
                exact ⟨⟨j + 1 + 1, by omega, by go_num, Lib.hid (by rw [HR.out]; exact OwnP.later hown.out hbe), hwr.trans (hbe.mono hKw)⟩, by simp [intOf]; omega⟩
            · have f1 : decide ((x.seq : Int) ≤ (s : Int)) = false := by simp; omega
              have HR : Hid (viewRTo l s (j + 1 + 1) = out) := Lib.hid (HS.out.trans (by rw [if_neg (fun h => e1 h.1), List.append_nil]))
              clear HS HNB
              go_wp2
              go_quiet (fail)
              go_wp2
              have hbe : Below wr.heap.size wr (wr.drewN nq) := below_drewN (Below.refl _ _) _
              exact ⟨⟨j + 1 + 1, by omega, by go_num, Lib.hid (by rw [HR.out]; exact OwnP.later hown.out hbe), hwr.trans (hbe.mono hKw)⟩, by simp [intOf]; omega⟩
      · obtain rfl : k = l.length := by omega
        have hin : ¬ (l.length : Int) < (l.length : Int) := by omega
        go_wp2
        go_ret
        refine ⟨_, rfl, ?_, ?_⟩
        · rw [hv.out]
          first
            | exact hown.out
            | (rw [HK.out]; exact hown.out)
        · first
            | exact hwr
            | (rw [HK.out]; exact hwr)
end Go.Proofs.Ythgbmijgoaihcaa

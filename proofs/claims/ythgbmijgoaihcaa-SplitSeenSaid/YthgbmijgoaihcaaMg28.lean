/-
  The law's 'few': up to 20 lists of up to 500 entries, walked.
-/
import Derived.Test.YthgbmijgoaihcaaMg22
import Derived.Test.YthgbmijgoaihcaaSplit1
import Derived.Deep.DeepCutAuto
namespace Go.Proofs.Ythgbmijgoaihcaa
open Go.RowKit
set_option linter.unusedVariables false

/-- Rows of lists that lay there ahead of the call, in a block of the call's own. -/
def RowsSt (w0 : World) (wr : World) (v : Value) (rs : List Row) : Prop := wr.ownsRow w0.heap.size 22 1 v rs.length (rs.map Row.val) ∧ RowsOk w0 rs
theorem RowsSt.nil (w0 w : World) : RowsSt w0 w (.slice none 0 0) [] := ⟨World.ownsRow_nil _ _ _ _, fun r hr => by simp at hr⟩
theorem RowsSt.later {w0 w w' : World} {v : Value} {rs : List Row} (h : RowsSt w0 w v rs) (hb : Below w.heap.size w w') : RowsSt w0 w' v rs := by
  have hlt := fun g hg => (h.1.lt g hg).2
  obtain ⟨⟨h1, h2⟩, h3⟩ := h
  refine ⟨⟨h1, ?_⟩, h3⟩
  rcases h2 with h2 | ⟨g, cap, cur, hv', hg, hh, r⟩
  · exact Or.inl h2
  · exact Or.inr ⟨g, cap, cur, hv', hg, by rw [hb.block g (hlt g (by rw [hv']; rfl))]; exact hh, r⟩
theorem RowsSt.read {w0 wr : World} {v : Value} {rs : List Row} (h : RowsSt w0 wr v rs) (hb : Below w0.heap.size w0 wr) : ∃ y c, v = .slice y rs.length c ∧ EntRows wr y (rs.map (·.l)) ∧ (y = none → c = 0) ∧ rs.length ≤ c ∧ c ≤ maxLen := by
  obtain ⟨h1, h3⟩ := h
  rcases h1.2 with ⟨rfl, hn⟩ | ⟨g, cap, cur, rfl, hg, hh, h5, h6, h7⟩
  · have : rs = [] := List.eq_nil_of_length_eq_zero hn
    subst this
    exact ⟨none, 0, rfl, fun i hi => by simp at hi, fun _ => rfl, by simp, by unfold maxLen; omega⟩
  · refine ⟨some ⟨g, 0, none⟩, cap, rfl, fun i hi => ?_, (fun h => by cases h), h5, h6⟩
    have hi' : i < rs.length := by simpa using hi
    obtain ⟨r1, r2, r3⟩ := h3 rs[i] (List.getElem_mem hi')
    refine ⟨g, 0, rs[i].a, rs[i].cap, rfl, ?_, ?_, r2, ?_⟩
    · rw [Nat.zero_add, h1.cellAt i (by omega)]
      simp [hi', Row.val]
    · simpa using r1
    · simpa using r3.below hb
section laws
variable {P : Program} {ops : Array Oper} {o : Oper} {a : Act} {Q : Exit → Act → World → Prop}
theorem RowsSt.snoc {w0 w w' : World} {v' : Value} {rs : List Row} {r : Row} (h1 : w'.ownsRow w0.heap.size 22 1 v' (rs.length + 1) (rs.map Row.val ++ [r.val])) (hr : r.l.length ≤ r.cap ∧ r.cap ≤ maxLen ∧ Ents w0 r.a r.l) (h3 : RowsOk w0 rs) : RowsSt w0 w' v' (rs ++ [r]) := by
  refine ⟨by simpa using h1, fun x hx => ?_⟩
  rcases List.mem_append.1 hx with q | q
  · exact h3 x q
  · simp at q; subst q; exact hr
theorem step_app_row {E0 : Prop} {K : Act → World → Prop} (w : World) (hgd : o.guard = none) (s x : Operand) (t : TypeId) (ho : o.op = .call { callee := .builtin .append, args := #[s, x], argTypes := #[t, t] })
    (ht : P.underlying t = some (.slice 22)) (hi : (P.info? 22).map (fun i => (i.zero, i.size, i.bytes)) = some (some (.slice none 0 0), 1, 24))
    {w0 : World} {v : Value} {rs : List Row} (hs : a.eval s = v) (hown : RowsSt w0 w v rs) {B : Nat} {r : Row} {p : Nat} (hp : r.l.length = p) {fr : Nat × Nat} (hx : a.eval x = .slice (some ⟨B, 0, none⟩) 1 1) (hB : w.heap[B]? = some (.cells #[.slice r.a p r.cap] 22 fr))
    (hr : r.l.length ≤ r.cap ∧ r.cap ≤ maxLen ∧ Ents w0 r.a r.l)
    (hl : rs.length + 1 ≤ 5864062014805) (hK : w0.heap.size ≤ w.heap.size)
    (h : ∀ v' w', RowsSt w0 w' v' (rs ++ [r]) → Below w0.heap.size w w' → K (a.put o.dst v') w') : if Region.wanted o (yielded ops a.tmps) = true then Oper.wp P o a w K Q else E0 := by
  subst hp
  obtain ⟨i0, hi0, hz0, hz1, hz2⟩ := info_parts hi
  refine step_append_lies (w := w) hgd s x t ho w0.heap.size 22 i0 (.slice none 0 0) 1 24 ht hi0 hz0 hz1 hz2 rfl (by decide) v rs.length (rs.map Row.val) hs hown.1 ⟨B, 0, none⟩ 1 1 [r.val] hx rfl
    (by have := World.news_of_block hB; simpa [Row.val] using this) (by intro u hu; simp at hu; subst hu; rfl) (by omega) (by unfold maxLen; omega) (by omega) hK _ rfl ?_
  intro g cap w' h1 h2 h3 h4
  refine h _ _ (RowsSt.snoc (w := w) (by simpa using h1) hr hown.2) ?_
  exact (Below.refl _ w).grown h2 hK (fun k hk => (hown.1.lt k hk).1)
variable {rest : List Oper}
theorem app_row (w : World) (hgd : o.guard = none) (s x : Operand) (t : TypeId) (ho : o.op = .call { callee := .builtin .append, args := #[s, x], argTypes := #[t, t] })
    (ht : P.underlying t = some (.slice 22)) (hi : (P.info? 22).map (fun i => (i.zero, i.size, i.bytes)) = some (some (.slice none 0 0), 1, 24))
    {w0 : World} {v : Value} {rs : List Row} (hs : a.eval s = v) (hown : RowsSt w0 w v rs) {B : Nat} {r : Row} {p : Nat} (hp : r.l.length = p) {fr : Nat × Nat} (hx : a.eval x = .slice (some ⟨B, 0, none⟩) 1 1) (hB : w.heap[B]? = some (.cells #[.slice r.a p r.cap] 22 fr))
    (hr : r.l.length ≤ r.cap ∧ r.cap ≤ maxLen ∧ Ents w0 r.a r.l)
    (hl : rs.length + 1 ≤ 5864062014805) (hK : w0.heap.size ≤ w.heap.size)
    (h : ∀ v' w', RowsSt w0 w' v' (rs ++ [r]) → Below w0.heap.size w w' → wpList P ops Q rest (a.put o.dst v') w') : wpList P ops Q (o :: rest) a w := by
  subst hp
  obtain ⟨i0, hi0, hz0, hz1, hz2⟩ := info_parts hi
  refine wpList_append_lies w hgd s x t ho w0.heap.size 22 i0 (.slice none 0 0) 1 24 ht hi0 hz0 hz1 hz2 rfl (by decide) v rs.length (rs.map Row.val) hs hown.1 ⟨B, 0, none⟩ 1 1 [r.val] hx rfl
    (by have := World.news_of_block hB; simpa [Row.val] using this) (by intro u hu; simp at hu; subst hu; rfl) (by omega) (by unfold maxLen; omega) (by omega) hK _ rfl ?_
  intro g cap w' h1 h2 h3 h4
  refine h _ _ (RowsSt.snoc (w := w) (by simpa using h1) hr hown.2) ?_
  exact (Below.refl _ w).grown h2 hK (fun k hk => (hown.1.lt k hk).1)
end laws
theorem cell_below2 {w w' : World} {K g j : Nat} {v : Value} (hb : Below K w w') (hg : g < K) (h : w.cell? ⟨g, j, none⟩ = some v) : w'.cell? ⟨g, j, none⟩ = some v := by
  rw [hb.cell (p := ⟨g, j, none⟩) hg]; exact h
def few20 (ls : List (List Ent)) : List (List Ent) := (ls.take 20).map (·.take 500)
def fewTo (ls : List (List Ent)) (k : Nat) : List (List Ent) := ((ls.take k).take 20).map (·.take 500)
theorem fewTo_lt (ls : List (List Ent)) (k : Nat) (h : k < ls.length) (h20 : k < 20) : fewTo ls (k + 1) = fewTo ls k ++ [ls[k].take 500] := by
  unfold fewTo
  rw [List.take_take, List.take_take, Nat.min_eq_right (by omega), Nat.min_eq_right (by omega), List.take_succ_eq_append_getElem h, List.map_append]
  rfl
theorem fewTo_ge (ls : List (List Ent)) (k : Nat) (h20 : 20 ≤ k) : fewTo ls (k + 1) = fewTo ls k := by
  unfold fewTo
  rw [List.take_take, List.take_take, Nat.min_eq_left (by omega), Nat.min_eq_left (by omega)]
theorem fewTo_len (ls : List (List Ent)) (k : Nat) : (fewTo ls k).length ≤ 20 := by unfold fewTo; simp; omega

set_option maxRecDepth 100000 in
set_option maxHeartbeats 1600000 in
theorem few20_any (a : Option Addr) (cap : Nat) (ls : List (List Ent)) (w : World) (hl : ls.length ≤ cap) (hm : cap ≤ maxLen) (hb : EntRows w a ls) :
    Calls Try.prog 34 #[.slice a ls.length cap] w fun e w' => ∃ v rs, e = .returned v ∧ RowsSt w w' v rs ∧ rs.map (·.l) = few20 ls ∧ Below w.heap.size w w' := by
  have hl1 : ls.length ≤ 9223372036854775807 := by unfold maxLen at hm; omega
  obtain ⟨K, HK⟩ : ∃ K, Hid (w.heap.size = K) := ⟨_, Lib.hid rfl⟩
  have HB := Lib.hid hb
  obtain ⟨n, hn⟩ : ∃ n, ls.length = n := ⟨_, rfl⟩
  have HN := Lib.hid hn
  rw [hn] at hl hl1 ⊢
  clear hb hn
  obtain ⟨i0, hi0⟩ : ∃ i0, Try.prog.info? 33 = some i0 := by
    obtain ⟨i0, hi0, _⟩ := info_parts Try.infoE
    exact ⟨i0, hi0⟩
  have HCUT := Lib.hid (fun (x : Option Addr) (ln c p : Nat) (hp : p ≤ c) (w : World) => run_cut_to (P := Try.prog) Try.underlying22 hi0 x ln c p .i64 hp w)
  clear hi0
  go_enter Try.func34, Try.ntmps34
  go_wp2_with fail
  go_loopw [3, 7] (fun ov kv wr => ∃ (k : Nat) (rs : List Row), k ≤ n ∧ kv = .int .i64 k ∧ Hid (RowsSt w wr ov rs) ∧ Hid (rs.map (·.l) = fewTo ls k) ∧ Hid (Below w.heap.size w wr)) (fun _ kv _ => n - (intOf kv).toNat)
  case atStart => exact ⟨0, [], by omega, rfl, Lib.hid (RowsSt.nil _ _), Lib.hid (by simp [fewTo]), Lib.hid (Below.refl _ _)⟩
  case round =>
    obtain ⟨k, rs, hk, rfl, HO, HF, HW⟩ := hrel
    obtain ⟨wA, rfl⟩ : ∃ wA, wA = wr := ⟨_, rfl⟩
    have hKw : K ≤ wA.heap.size := by have := HW.out.size; rw [HK.out] at this; exact this
    by_cases hlt : k < n
    · have hlt' : k < ls.length := by have := HN.out; omega
      have hink : (k : Int) < (n : Int) := by omega
      have hk0 : (0 : Int) ≤ (k : Int) := by omega
      by_cases h20 : k < 20
      · have hk20 : (k : Int) < 20 := by omega
        have hlo : rs.length + 1 ≤ 5864062014805 := by
          have h1 := congrArg List.length HF.out
          have h2 := fewTo_len ls k
          simp at h1; omega
        obtain ⟨b, off, x, c, rfl, hc0, hxl, hxm, hx⟩ := HB.out k hlt'
        have hbK : b < K := by have := cell_lt hc0; rw [HK.out] at this; exact this
        have hc : wA.cell? ⟨b, off + k, none⟩ = some (.slice x ls[k].length c) := cell_later2 HW.out hc0
        have HFN := Lib.hid (fewTo_lt ls k hlt' h20)
        generalize ls[k] = y at *
        obtain ⟨p, hp⟩ : ∃ p, min y.length 500 = p := ⟨_, rfl⟩
        have hpl : p ≤ y.length := by omega
        have hly : y.length ≤ 9223372036854775807 := by unfold maxLen at hxm; omega
        have HT : Hid (y.take 500 = y.take p) := Lib.hid (by rw [← hp, List.take_eq_take_iff]; omega)
        have HR : Hid ((y.take p).length ≤ c ∧ c ≤ maxLen ∧ Ents w x (y.take p)) := Lib.hid ⟨by simp; omega, hxm, hx.take p⟩
        have HPL : Hid ((y.take p).length = p) := Lib.hid (by simp; omega)
        have hcut := HCUT.out x y.length c p (by omega)
        have hcp : p ≤ c := by omega
        clear hx hc0 hxm h20 hxl
        by_cases h5 : y.length ≤ 500
        · obtain rfl : p = y.length := by omega
          have h6 : (y.length : Int) ≤ 500 := by omega
          have HMIN : Hid ((if (500 : Int) < (y.length : Int) then (500 : Int) else (y.length : Int)) = (y.length : Int)) := Lib.hid (if_neg (by omega))
          clear hp
          go_wp2
          refine wp_region_held_drew (S := (fun w' => w'.cell? ⟨b, off + k, none⟩ = some (.slice x y.length c))) (by kernel_rfl) ?_ (fun hS0 => ?_)
          · exact hc
          refine wpAnyH_take (i := 0) (oi := { dst := some 12, op := Op.move (Operand.tmp 3), type := 25, pos := "law.go:24", after := #[], guard := none }) (v := ?_) rfl (by kernel_rfl) (by kernel_rfl) (by kernel_rfl) (fun _ _ _ h => h) (Or.inl ⟨by rfl, ?hy1⟩) (by assumption) ?_
          case hy1 => (intro w hSw; (try dsimp only at hSw); go_simp; try with_reducible rfl)
          (try simp only [Act.put, List.setIfInBounds_toArray, List.set_cons_zero, List.set_cons_succ])
          refine wpAnyH_take (i := 1) (oi := { dst := some 13, op := Op.move (Operand.tmp 0), type := 25, pos := "law.go:24", after := #[], guard := none }) (v := ?_) rfl (by kernel_rfl) (by kernel_rfl) (by kernel_rfl) (fun _ _ _ h => h) (Or.inl ⟨by rfl, ?hy2⟩) (by assumption) ?_
          case hy2 => (intro w hSw; (try dsimp only at hSw); go_simp; try with_reducible rfl)
          (try simp only [Act.put, List.setIfInBounds_toArray, List.set_cons_zero, List.set_cons_succ])
          refine wpAnyH_take (i := 2) (oi := { dst := some 14, op := Op.move (Operand.tmp 4), type := 3, pos := "law.go:24", after := #[], guard := none }) (v := ?_) rfl (by kernel_rfl) (by kernel_rfl) (by kernel_rfl) (fun _ _ _ h => h) (Or.inl ⟨by rfl, ?hy3⟩) (by assumption) ?_
          case hy3 => (intro w hSw; (try dsimp only at hSw); go_simp; try with_reducible rfl)
          (try simp only [Act.put, List.setIfInBounds_toArray, List.set_cons_zero, List.set_cons_succ])
          refine wpAnyH_take (i := 3) (oi := { dst := some 15, op := Op.indexAddr 25 (Operand.tmp 13) (Operand.tmp 14), type := 0, pos := "law.go:24", after := #[{ on := 1, ground := Ground.data }, { on := 2, ground := Ground.data }], guard := none }) (v := ?_) rfl (by kernel_rfl) (by kernel_rfl) (by kernel_rfl) (fun _ _ _ h => h) (Or.inl ⟨by rfl, ?hy4⟩) (by assumption) ?_
          case hy4 => (intro w hSw; (try dsimp only at hSw); go_simp; try with_reducible rfl)
          (try simp only [Act.put, List.setIfInBounds_toArray, List.set_cons_zero, List.set_cons_succ])
          refine wpAnyH_take (i := 4) (oi := { dst := some 16, op := Op.load 22 (Operand.tmp 15), type := 22, pos := "law.go:24", after := #[{ on := 3, ground := Ground.data }], guard := none }) (v := ?_) rfl (by kernel_rfl) (by kernel_rfl) (by kernel_rfl) (fun _ _ _ h => h) (Or.inl ⟨by rfl, ?hy5⟩) (by assumption) ?_
          case hy5 => (intro w hSw; (try dsimp only at hSw); go_simp; try with_reducible rfl)
          (try simp only [Act.put, List.setIfInBounds_toArray, List.set_cons_zero, List.set_cons_succ])
          refine wpAnyH_take (i := 5) (oi := { dst := some 17, op := Op.move (Operand.tmp 0), type := 25, pos := "law.go:24", after := #[], guard := none }) (v := ?_) rfl (by kernel_rfl) (by kernel_rfl) (by kernel_rfl) (fun _ _ _ h => h) (Or.inl ⟨by rfl, ?hy6⟩) (by assumption) ?_
          case hy6 => (intro w hSw; (try dsimp only at hSw); go_simp; try with_reducible rfl)
          (try simp only [Act.put, List.setIfInBounds_toArray, List.set_cons_zero, List.set_cons_succ])
          refine wpAnyH_take (i := 6) (oi := { dst := some 18, op := Op.move (Operand.tmp 4), type := 3, pos := "law.go:24", after := #[], guard := none }) (v := ?_) rfl (by kernel_rfl) (by kernel_rfl) (by kernel_rfl) (fun _ _ _ h => h) (Or.inl ⟨by rfl, ?hy7⟩) (by assumption) ?_
          case hy7 => (intro w hSw; (try dsimp only at hSw); go_simp; try with_reducible rfl)
          (try simp only [Act.put, List.setIfInBounds_toArray, List.set_cons_zero, List.set_cons_succ])
          refine wpAnyH_take (i := 7) (oi := { dst := some 19, op := Op.indexAddr 25 (Operand.tmp 17) (Operand.tmp 18), type := 0, pos := "law.go:24", after := #[{ on := 5, ground := Ground.data }, { on := 6, ground := Ground.data }], guard := none }) (v := ?_) rfl (by kernel_rfl) (by kernel_rfl) (by kernel_rfl) (fun _ _ _ h => h) (Or.inl ⟨by rfl, ?hy8⟩) (by assumption) ?_
          case hy8 => (intro w hSw; (try dsimp only at hSw); go_simp; try with_reducible rfl)
          (try simp only [Act.put, List.setIfInBounds_toArray, List.set_cons_zero, List.set_cons_succ])
          refine wpAnyH_take (i := 8) (oi := { dst := some 20, op := Op.load 22 (Operand.tmp 19), type := 22, pos := "law.go:24", after := #[{ on := 7, ground := Ground.data }], guard := none }) (v := ?_) rfl (by kernel_rfl) (by kernel_rfl) (by kernel_rfl) (fun _ _ _ h => h) (Or.inl ⟨by rfl, ?hy9⟩) (by assumption) ?_
          case hy9 => (intro w hSw; (try dsimp only at hSw); go_simp; try with_reducible rfl)
          (try simp only [Act.put, List.setIfInBounds_toArray, List.set_cons_zero, List.set_cons_succ])
          refine wpAnyH_take (i := 9) (oi := { dst := some 21, op := Op.call { callee := Callee.builtin Builtin.len, args := #[Operand.tmp 20], argTypes := #[22] }, type := 3, pos := "law.go:24", after := #[{ on := 8, ground := Ground.data }], guard := none }) (v := ?_) rfl (by kernel_rfl) (by kernel_rfl) (by kernel_rfl) (fun _ _ _ h => h) (Or.inl ⟨by rfl, ?hy10⟩) (by assumption) ?_
          case hy10 => (intro w hSw; (try dsimp only at hSw); go_simp; try with_reducible rfl)
          (try simp only [Act.put, List.setIfInBounds_toArray, List.set_cons_zero, List.set_cons_succ])
          refine wpAnyH_ready (rs := [10]) (by kernel_rfl) (by simp) (AllReadyH.cons (o := { dst := some 22, op := Op.call { callee := Callee.builtin Builtin.min, args := #[Operand.tmp 21, Operand.const (Value.int IntKind.i64 500)], argTypes := #[3, 3] }, type := 3, pos := "law.go:24", after := #[{ on := 9, ground := Ground.data }], guard := none }) rfl (fun K hK => ?_) AllReadyH.nil)
          go_simp
          try rw [HMIN.out]
          (try dsimp only)
          refine Shut.out hK _ _ ?_ (fun hS10 => ?_)
          · exact hc
          clear hK K
          (try simp only [Act.put, List.setIfInBounds_toArray, List.set_cons_zero, List.set_cons_succ])
          refine wpAnyH_take (i := 11) (oi := { dst := some 23, op := Op.slice 22 (Operand.tmp 16) none (some (Operand.tmp 22)) none, type := 22, pos := "law.go:24", after := #[{ on := 4, ground := Ground.data }, { on := 10, ground := Ground.data }], guard := none }) (v := ?_) rfl (by kernel_rfl) (by kernel_rfl) (by kernel_rfl) (fun _ _ _ h => h) (Or.inl ⟨by rfl, ?hy11⟩) (by assumption) ?_
          case hy11 => (intro w hSw; (try dsimp only at hSw); go_simp; try with_reducible rfl)
          (try simp only [Act.put, List.setIfInBounds_toArray, List.set_cons_zero, List.set_cons_succ])
          refine wpAnyH_ready (rs := [12]) (by kernel_rfl) (by simp) (AllReadyH.cons (o := { dst := some 24, op := Op.buildSlice 25 1 #[(0, Operand.tmp 23)], type := 25, pos := "law.go:24", after := #[{ on := 11, ground := Ground.data }], guard := none }) rfl (fun K hK => ?_) AllReadyH.nil)
          go_simp
          (try dsimp only)
          refine Shut.out hK _ _ ?_ (fun hS12 => ?_)
          · exact cell_later2 ((Below.refl wA.heap.size wA).drew.alloc (Nat.le_refl _) _) hc
          clear hK K
          (try simp only [Act.put, List.setIfInBounds_toArray, List.set_cons_zero, List.set_cons_succ])
          refine wpAnyH_ready (rs := [13]) (by kernel_rfl) (by simp) (AllReadyH.cons (o := { dst := some 25, op := Op.call { callee := Callee.builtin Builtin.append, args := #[Operand.tmp 12, Operand.tmp 24], argTypes := #[25, 25] }, type := 25, pos := "law.go:24", after := #[{ on := 0, ground := Ground.data }, { on := 12, ground := Ground.data }], guard := none }) rfl (fun K hK => ?_) AllReadyH.nil)
          refine step_app_row _ (by rfl) _ _ _ (by rfl) Try.underlying25 Try.infoEs (w0 := w) (by rfl) (HO.out.later ((Below.refl wA.heap.size wA).drew.alloc (Nat.le_refl _) _)) (r := ⟨x, c, _⟩) HPL.out (by rfl) (heap_at' (by simp)) HR.out hlo (by rw [HK.out]; exact Nat.le_trans hKw (by simp)) ?_
          intro v' w2 hown2 hb2
          (try dsimp only)
          refine Shut.out hK _ _ ?_ (fun hS13 => ?_)
          · exact cell_below2 hb2 (by rw [HK.out]; exact hbK) hS12
          clear hK K
          (try simp only [Act.put, List.setIfInBounds_toArray, List.set_cons_zero, List.set_cons_succ])
          refine wpAnyH_take (i := 14) (oi := { dst := some 3, op := Op.assign (Operand.tmp 25), type := 25, pos := "law.go:24", after := #[{ on := 13, ground := Ground.data }, { on := 13, ground := Ground.chain }, { on := 0, ground := Ground.phase }, { on := 1, ground := Ground.phase }, { on := 2, ground := Ground.phase }, { on := 3, ground := Ground.phase }, { on := 4, ground := Ground.phase }, { on := 5, ground := Ground.phase }, { on := 6, ground := Ground.phase }, { on := 7, ground := Ground.phase }, { on := 8, ground := Ground.phase }, { on := 9, ground := Ground.phase }, { on := 10, ground := Ground.phase }, { on := 11, ground := Ground.phase }, { on := 12, ground := Ground.phase }, { on := 13, ground := Ground.phase }], guard := none }) (v := ?_) rfl (by kernel_rfl) (by kernel_rfl) (by kernel_rfl) (fun _ _ _ h => h) (Or.inl ⟨by rfl, ?hy12⟩) (by assumption) ?_
          case hy12 => (intro w hSw; (try dsimp only at hSw); go_simp; try with_reducible rfl)
          (try simp only [Act.put, List.setIfInBounds_toArray, List.set_cons_zero, List.set_cons_succ])
          refine wpAnyH_done (by kernel_rfl) ?_ _
          go_wp2
          exact ⟨⟨k + 1, rs ++ [⟨x, c, y.take y.length⟩], by omega, by go_num, Lib.hid hown2, Lib.hid (by rw [HFN.out, HT.out, ← HF.out]; simp), Lib.hid (HW.out.trans (((((Below.refl wA.heap.size wA).drew.alloc (Nat.le_refl _) _)).mono (by rw [HK.out]; exact hKw)).trans hb2))⟩, by simp [intOf]; omega⟩
        · obtain rfl : p = 500 := by omega
          have h6 : ¬ (y.length : Int) ≤ 500 := by omega
          have HMIN : Hid ((if (500 : Int) < (y.length : Int) then (500 : Int) else (y.length : Int)) = 500) := Lib.hid (if_pos (by omega))
          have hc5 : (500 : Int) ≤ (c : Int) := by omega
          clear hp
          go_wp2
          refine wp_region_held_drew (S := (fun w' => w'.cell? ⟨b, off + k, none⟩ = some (.slice x y.length c))) (by kernel_rfl) ?_ (fun hS0 => ?_)
          · exact hc
          refine wpAnyH_take (i := 0) (oi := { dst := some 12, op := Op.move (Operand.tmp 3), type := 25, pos := "law.go:24", after := #[], guard := none }) (v := ?_) rfl (by kernel_rfl) (by kernel_rfl) (by kernel_rfl) (fun _ _ _ h => h) (Or.inl ⟨by rfl, ?hy1⟩) (by assumption) ?_
          case hy1 => (intro w hSw; (try dsimp only at hSw); go_simp; try with_reducible rfl)
          (try simp only [Act.put, List.setIfInBounds_toArray, List.set_cons_zero, List.set_cons_succ])
          refine wpAnyH_take (i := 1) (oi := { dst := some 13, op := Op.move (Operand.tmp 0), type := 25, pos := "law.go:24", after := #[], guard := none }) (v := ?_) rfl (by kernel_rfl) (by kernel_rfl) (by kernel_rfl) (fun _ _ _ h => h) (Or.inl ⟨by rfl, ?hy2⟩) (by assumption) ?_
          case hy2 => (intro w hSw; (try dsimp only at hSw); go_simp; try with_reducible rfl)
          (try simp only [Act.put, List.setIfInBounds_toArray, List.set_cons_zero, List.set_cons_succ])
          refine wpAnyH_take (i := 2) (oi := { dst := some 14, op := Op.move (Operand.tmp 4), type := 3, pos := "law.go:24", after := #[], guard := none }) (v := ?_) rfl (by kernel_rfl) (by kernel_rfl) (by kernel_rfl) (fun _ _ _ h => h) (Or.inl ⟨by rfl, ?hy3⟩) (by assumption) ?_
          case hy3 => (intro w hSw; (try dsimp only at hSw); go_simp; try with_reducible rfl)
          (try simp only [Act.put, List.setIfInBounds_toArray, List.set_cons_zero, List.set_cons_succ])
          refine wpAnyH_take (i := 3) (oi := { dst := some 15, op := Op.indexAddr 25 (Operand.tmp 13) (Operand.tmp 14), type := 0, pos := "law.go:24", after := #[{ on := 1, ground := Ground.data }, { on := 2, ground := Ground.data }], guard := none }) (v := ?_) rfl (by kernel_rfl) (by kernel_rfl) (by kernel_rfl) (fun _ _ _ h => h) (Or.inl ⟨by rfl, ?hy4⟩) (by assumption) ?_
          case hy4 => (intro w hSw; (try dsimp only at hSw); go_simp; try with_reducible rfl)
          (try simp only [Act.put, List.setIfInBounds_toArray, List.set_cons_zero, List.set_cons_succ])
          refine wpAnyH_take (i := 4) (oi := { dst := some 16, op := Op.load 22 (Operand.tmp 15), type := 22, pos := "law.go:24", after := #[{ on := 3, ground := Ground.data }], guard := none }) (v := ?_) rfl (by kernel_rfl) (by kernel_rfl) (by kernel_rfl) (fun _ _ _ h => h) (Or.inl ⟨by rfl, ?hy5⟩) (by assumption) ?_
          case hy5 => (intro w hSw; (try dsimp only at hSw); go_simp; try with_reducible rfl)
          (try simp only [Act.put, List.setIfInBounds_toArray, List.set_cons_zero, List.set_cons_succ])
          refine wpAnyH_take (i := 5) (oi := { dst := some 17, op := Op.move (Operand.tmp 0), type := 25, pos := "law.go:24", after := #[], guard := none }) (v := ?_) rfl (by kernel_rfl) (by kernel_rfl) (by kernel_rfl) (fun _ _ _ h => h) (Or.inl ⟨by rfl, ?hy6⟩) (by assumption) ?_
          case hy6 => (intro w hSw; (try dsimp only at hSw); go_simp; try with_reducible rfl)
          (try simp only [Act.put, List.setIfInBounds_toArray, List.set_cons_zero, List.set_cons_succ])
          refine wpAnyH_take (i := 6) (oi := { dst := some 18, op := Op.move (Operand.tmp 4), type := 3, pos := "law.go:24", after := #[], guard := none }) (v := ?_) rfl (by kernel_rfl) (by kernel_rfl) (by kernel_rfl) (fun _ _ _ h => h) (Or.inl ⟨by rfl, ?hy7⟩) (by assumption) ?_
          case hy7 => (intro w hSw; (try dsimp only at hSw); go_simp; try with_reducible rfl)
          (try simp only [Act.put, List.setIfInBounds_toArray, List.set_cons_zero, List.set_cons_succ])
          refine wpAnyH_take (i := 7) (oi := { dst := some 19, op := Op.indexAddr 25 (Operand.tmp 17) (Operand.tmp 18), type := 0, pos := "law.go:24", after := #[{ on := 5, ground := Ground.data }, { on := 6, ground := Ground.data }], guard := none }) (v := ?_) rfl (by kernel_rfl) (by kernel_rfl) (by kernel_rfl) (fun _ _ _ h => h) (Or.inl ⟨by rfl, ?hy8⟩) (by assumption) ?_
          case hy8 => (intro w hSw; (try dsimp only at hSw); go_simp; try with_reducible rfl)
          (try simp only [Act.put, List.setIfInBounds_toArray, List.set_cons_zero, List.set_cons_succ])
          refine wpAnyH_take (i := 8) (oi := { dst := some 20, op := Op.load 22 (Operand.tmp 19), type := 22, pos := "law.go:24", after := #[{ on := 7, ground := Ground.data }], guard := none }) (v := ?_) rfl (by kernel_rfl) (by kernel_rfl) (by kernel_rfl) (fun _ _ _ h => h) (Or.inl ⟨by rfl, ?hy9⟩) (by assumption) ?_
          case hy9 => (intro w hSw; (try dsimp only at hSw); go_simp; try with_reducible rfl)
          (try simp only [Act.put, List.setIfInBounds_toArray, List.set_cons_zero, List.set_cons_succ])
          refine wpAnyH_take (i := 9) (oi := { dst := some 21, op := Op.call { callee := Callee.builtin Builtin.len, args := #[Operand.tmp 20], argTypes := #[22] }, type := 3, pos := "law.go:24", after := #[{ on := 8, ground := Ground.data }], guard := none }) (v := ?_) rfl (by kernel_rfl) (by kernel_rfl) (by kernel_rfl) (fun _ _ _ h => h) (Or.inl ⟨by rfl, ?hy10⟩) (by assumption) ?_
          case hy10 => (intro w hSw; (try dsimp only at hSw); go_simp; try with_reducible rfl)
          (try simp only [Act.put, List.setIfInBounds_toArray, List.set_cons_zero, List.set_cons_succ])
          refine wpAnyH_ready (rs := [10]) (by kernel_rfl) (by simp) (AllReadyH.cons (o := { dst := some 22, op := Op.call { callee := Callee.builtin Builtin.min, args := #[Operand.tmp 21, Operand.const (Value.int IntKind.i64 500)], argTypes := #[3, 3] }, type := 3, pos := "law.go:24", after := #[{ on := 9, ground := Ground.data }], guard := none }) rfl (fun K hK => ?_) AllReadyH.nil)
          go_simp
          try rw [HMIN.out]
          (try dsimp only)
          refine Shut.out hK _ _ ?_ (fun hS10 => ?_)
          · exact hc
          clear hK K
          (try simp only [Act.put, List.setIfInBounds_toArray, List.set_cons_zero, List.set_cons_succ])
          refine wpAnyH_take (i := 11) (oi := { dst := some 23, op := Op.slice 22 (Operand.tmp 16) none (some (Operand.tmp 22)) none, type := 22, pos := "law.go:24", after := #[{ on := 4, ground := Ground.data }, { on := 10, ground := Ground.data }], guard := none }) (v := ?_) rfl (by kernel_rfl) (by kernel_rfl) (by kernel_rfl) (fun _ _ _ h => h) (Or.inl ⟨by rfl, ?hy11⟩) (by assumption) ?_
          case hy11 => (intro w hSw; (try dsimp only at hSw); go_simp; try with_reducible rfl)
          (try simp only [Act.put, List.setIfInBounds_toArray, List.set_cons_zero, List.set_cons_succ])
          refine wpAnyH_ready (rs := [12]) (by kernel_rfl) (by simp) (AllReadyH.cons (o := { dst := some 24, op := Op.buildSlice 25 1 #[(0, Operand.tmp 23)], type := 25, pos := "law.go:24", after := #[{ on := 11, ground := Ground.data }], guard := none }) rfl (fun K hK => ?_) AllReadyH.nil)
          go_simp
          (try dsimp only)
          refine Shut.out hK _ _ ?_ (fun hS12 => ?_)
          · exact cell_later2 ((Below.refl wA.heap.size wA).drew.alloc (Nat.le_refl _) _) hc
          clear hK K
          (try simp only [Act.put, List.setIfInBounds_toArray, List.set_cons_zero, List.set_cons_succ])
          refine wpAnyH_ready (rs := [13]) (by kernel_rfl) (by simp) (AllReadyH.cons (o := { dst := some 25, op := Op.call { callee := Callee.builtin Builtin.append, args := #[Operand.tmp 12, Operand.tmp 24], argTypes := #[25, 25] }, type := 25, pos := "law.go:24", after := #[{ on := 0, ground := Ground.data }, { on := 12, ground := Ground.data }], guard := none }) rfl (fun K hK => ?_) AllReadyH.nil)
          refine step_app_row _ (by rfl) _ _ _ (by rfl) Try.underlying25 Try.infoEs (w0 := w) (by rfl) (HO.out.later ((Below.refl wA.heap.size wA).drew.alloc (Nat.le_refl _) _)) (r := ⟨x, c, _⟩) HPL.out (by rfl) (heap_at' (by simp)) HR.out hlo (by rw [HK.out]; exact Nat.le_trans hKw (by simp)) ?_
          intro v' w2 hown2 hb2
          (try dsimp only)
          refine Shut.out hK _ _ ?_ (fun hS13 => ?_)
          · exact cell_below2 hb2 (by rw [HK.out]; exact hbK) hS12
          clear hK K
          (try simp only [Act.put, List.setIfInBounds_toArray, List.set_cons_zero, List.set_cons_succ])
          refine wpAnyH_take (i := 14) (oi := { dst := some 3, op := Op.assign (Operand.tmp 25), type := 25, pos := "law.go:24", after := #[{ on := 13, ground := Ground.data }, { on := 13, ground := Ground.chain }, { on := 0, ground := Ground.phase }, { on := 1, ground := Ground.phase }, { on := 2, ground := Ground.phase }, { on := 3, ground := Ground.phase }, { on := 4, ground := Ground.phase }, { on := 5, ground := Ground.phase }, { on := 6, ground := Ground.phase }, { on := 7, ground := Ground.phase }, { on := 8, ground := Ground.phase }, { on := 9, ground := Ground.phase }, { on := 10, ground := Ground.phase }, { on := 11, ground := Ground.phase }, { on := 12, ground := Ground.phase }, { on := 13, ground := Ground.phase }], guard := none }) (v := ?_) rfl (by kernel_rfl) (by kernel_rfl) (by kernel_rfl) (fun _ _ _ h => h) (Or.inl ⟨by rfl, ?hy12⟩) (by assumption) ?_
          case hy12 => (intro w hSw; (try dsimp only at hSw); go_simp; try with_reducible rfl)
          (try simp only [Act.put, List.setIfInBounds_toArray, List.set_cons_zero, List.set_cons_succ])
          refine wpAnyH_done (by kernel_rfl) ?_ _
          go_wp2
          exact ⟨⟨k + 1, rs ++ [⟨x, c, y.take 500⟩], by omega, by go_num, Lib.hid hown2, Lib.hid (by rw [HFN.out, ← HF.out]; simp), Lib.hid (HW.out.trans (((((Below.refl wA.heap.size wA).drew.alloc (Nat.le_refl _) _)).mono (by rw [HK.out]; exact hKw)).trans hb2))⟩, by simp [intOf]; omega⟩
      · have hk20 : ¬ (k : Int) < 20 := by omega
        have HFN := Lib.hid (fewTo_ge ls k (by omega))
        go_wp2
        exact ⟨⟨k + 1, rs, by omega, by go_num, HO, Lib.hid (by rw [HFN.out]; exact HF.out), HW⟩, by simp [intOf]; omega⟩
    · obtain rfl : k = n := by omega
      have HE : Hid (rs.map (·.l) = few20 ls) := Lib.hid (by
        rw [HF.out]
        unfold fewTo few20
        rw [List.take_of_length_le (Nat.le_of_eq HN.out)])
      go_wp2
      go_ret
      exact ⟨_, rs, rfl, HO.out, HE.out, HW.out⟩
end Go.Proofs.Ythgbmijgoaihcaa

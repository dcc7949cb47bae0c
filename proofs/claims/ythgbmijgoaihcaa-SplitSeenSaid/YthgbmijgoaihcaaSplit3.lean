/-
  The program's Split: the closure that is told a key's entries.
-/
import Derived.Test.YthgbmijgoaihcaaSplit2
import Derived.Test.YthgbmijgoaihcaaPile
namespace Go.Proofs.Ythgbmijgoaihcaa
open Go.RowKit
set_option linter.unusedVariables false

/-- The three captured variables. -/
def Trio (T I : TypeId) (Bo Br Bm : Nat) (m : Int) (w : World) (v : Value) (r : Int) : Prop :=
  w.heap[Bo]? = some (.cells #[v] T (0, 0)) ∧ w.heap[Br]? = some (.cells #[.int .i64 r] I (0, 0)) ∧ w.heap[Bm]? = some (.cells #[.int .i64 m] I (0, 0))
theorem Trio.below {T I : TypeId} {Bo Br Bm : Nat} {m : Int} {w w' : World} {v : Value} {r : Int} {B : Nat} (h : Trio T I Bo Br Bm m w v r) (hb : Below B w w') (h1 : Bo < B) (h2 : Br < B) (h3 : Bm < B) : Trio T I Bo Br Bm m w' v r :=
  ⟨by rw [hb.block _ h1]; exact h.1, by rw [hb.block _ h2]; exact h.2.1, by rw [hb.block _ h3]; exact h.2.2⟩
theorem Trio.setO {T I : TypeId} {Bo Br Bm : Nat} {m : Int} {w : World} {v : Value} {r : Int} (h : Trio T I Bo Br Bm m w v r) (h1 : Bm < Bo) (h2 : Bo < Br) (u : Value) : Trio T I Bo Br Bm m (w.setCell ⟨Bo, 0, none⟩ u) u r :=
  ⟨one_setCell h.1, by rw [Below.heap_setCell _ _ _ _ (by show Br ≠ Bo; omega)]; exact h.2.1, by rw [Below.heap_setCell _ _ _ _ (by show Bm ≠ Bo; omega)]; exact h.2.2⟩
theorem Trio.setR {T I : TypeId} {Bo Br Bm : Nat} {m : Int} {w : World} {v : Value} {r : Int} (h : Trio T I Bo Br Bm m w v r) (h1 : Bm < Bo) (h2 : Bo < Br) (u : Int) : Trio T I Bo Br Bm m (w.setCell ⟨Br, 0, none⟩ (.int .i64 u)) v u :=
  ⟨by rw [Below.heap_setCell _ _ _ _ (by show Bo ≠ Br; omega)]; exact h.1, one_setCell h.2.1, by rw [Below.heap_setCell _ _ _ _ (by show Bm ≠ Br; omega)]; exact h.2.2⟩
theorem Trio.other {T I : TypeId} {Bo Br Bm : Nat} {m : Int} {w : World} {v : Value} {r : Int} (h : Trio T I Bo Br Bm m w v r) {g j : Nat} (h1 : Bm < g) (h2 : Bo < g) (h3 : Br < g) (u : Value) : Trio T I Bo Br Bm m (w.setCell ⟨g, j, none⟩ u) v r :=
  ⟨by rw [Below.heap_setCell _ _ _ _ (by show Bo ≠ g; omega)]; exact h.1, by rw [Below.heap_setCell _ _ _ _ (by show Br ≠ g; omega)]; exact h.2.1, by rw [Below.heap_setCell _ _ _ _ (by show Bm ≠ g; omega)]; exact h.2.2⟩
theorem Trio.cells {T I : TypeId} {Bo Br Bm : Nat} {m : Int} {w : World} {v : Value} {r : Int} (h : Trio T I Bo Br Bm m w v r) :
    w.cell? ⟨Bo, 0, none⟩ = some v ∧ w.cell? ⟨Br, 0, none⟩ = some (.int .i64 r) ∧ w.cell? ⟨Bm, 0, none⟩ = some (.int .i64 m) ∧ w.frozen? ⟨Bo, 0, none⟩ = false ∧ w.frozen? ⟨Br, 0, none⟩ = false :=
  ⟨cell_of_one h.1, cell_of_one h.2.1, cell_of_one h.2.2, free_of_one h.1, free_of_one h.2.1⟩

theorem Pile.last {F E : TypeId} {w : World} {base K g cap : Nat} {outs : List (List Ent)} {now : List Ent} (h : Pile F E w base K (.slice (some ⟨g, 0, none⟩) (outs.length + 1) cap) outs now) :
    ∃ vl, w.cell? ⟨g, outs.length, none⟩ = some vl ∧ w.frozen? ⟨g, outs.length, none⟩ = false ∧ OwnE E w K vl now ∧ base ≤ g ∧ g < K ∧ outs.length + 1 ≤ cap ∧ cap ≤ maxLen := by
  obtain ⟨h0, g', cap', cur, vl, hv, hg, hgK, hh, h1, h2, h3, h4, h5, h6⟩ := h
  cases hv
  exact ⟨vl, by simp [World.cell?, hh, h4], by simp [World.frozen?, hh], h5, hg, hgK, h1, h2⟩
theorem Pile.shape {F E : TypeId} {w : World} {base K : Nat} {v : Value} {outs : List (List Ent)} {now : List Ent} (h : Pile F E w base K v outs now) : ∃ g cap, v = .slice (some ⟨g, 0, none⟩) (outs.length + 1) cap := by
  obtain ⟨h0, g', cap', cur, vl, hv, _⟩ := h
  exact ⟨g', cap', hv⟩
theorem Pile.below {F E : TypeId} {w w' : World} {base K : Nat} {v : Value} {outs : List (List Ent)} {now : List Ent} (h : Pile F E w base K v outs now) (hb : Below w.heap.size w w') : Pile F E w' base K v outs now := by
  obtain ⟨h0, g, cap, cur, vl, rfl, hg, hgK, hh, h1, h2, h3, h4, h5, h6⟩ := h
  refine ⟨Nat.le_trans h0 hb.size, g, cap, cur, vl, rfl, hg, hgK, by rw [hb.block g (Nat.lt_of_lt_of_le hgK h0)]; exact hh, h1, h2, h3, h4, h5.later hb, fun i hi => ?_⟩
  obtain ⟨x', c', e1, e2, e3, e4, e5⟩ := h6 i hi
  exact ⟨x', c', e1, e2, e3, e4.below hb, e5⟩
theorem OutsV.later {F : TypeId} {w w' : World} {base : Nat} {v : Value} {outs : List (List Ent)} {vals : List Value} (h : OutsV F w base w.heap.size v outs vals) (hb : Below w.heap.size w w') : OutsV F w' base w'.heap.size v outs vals := by
  obtain ⟨h0, h1, ⟨h2, h3⟩, h4⟩ := h
  refine ⟨Nat.le_refl _, fun g hg => Nat.lt_of_lt_of_le (h1 g hg) hb.size, ⟨h2, ?_⟩, fun i hi => ?_⟩
  · rcases h3 with h3 | ⟨g, cap, cur, hv', hg, hh, r⟩
    · exact Or.inl h3
    · exact Or.inr ⟨g, cap, cur, hv', hg, by rw [hb.block g (h1 g (by rw [hv']; rfl))]; exact hh, r⟩
  · obtain ⟨x, cap, e1, e2, e3, e4, e5⟩ := h4 i hi
    exact ⟨x, cap, e1, e2, e3, e4.below hb, fun y hy => ⟨(e5 y hy).1, Nat.lt_of_lt_of_le (e5 y hy).2.1 hb.size, (e5 y hy).2.2⟩⟩

def Inv (Bo Br Bm base : Nat) (m : Int) (w : World) (s : List (List Ent) × List Ent × Nat) : Prop :=
  Bm < Bo ∧ Bo < Br ∧ Br < base ∧ base ≤ w.heap.size ∧ ∃ v r, Trio 25 3 Bo Br Bm m w v r ∧
    ((s.2.1 = [] ∧ s.1 = [] ∧ s.2.2 = 0 ∧ v = .slice none 0 0) ∨ (s.2.1 ≠ [] ∧ r = max 1 m - min (max 1 m) s.2.2 ∧ ∃ K, base ≤ K ∧ Pile 22 33 w base K v s.1 s.2.1))

/-- The closure's last stores. -/
theorem Inv.fin {Bo Br Bm base g3 c3 K : Nat} {m r r' : Int} {w5 w6 : World} {full : List (List Ent)} {now now' : List Ent} {n' : Nat} {v6 : Value}
    (h1 : Bm < Bo) (h2 : Bo < Br) (h3 : Br < base) (h4 : base ≤ w5.heap.size) (hK : base ≤ K)
    (hT : Trio 25 3 Bo Br Bm m w5 (.slice (some ⟨g3, 0, none⟩) (full.length + 1) c3) r) (hP : Pile 22 33 w5 base K (.slice (some ⟨g3, 0, none⟩) (full.length + 1) c3) full now)
    (hb : Below K w5 w6) (ho : OwnE 33 w6 K v6 now') (hne : now' ≠ []) (hr : r' = max 1 m - min (max 1 m) (n' : Int)) :
    Inv Bo Br Bm base m ((w6.setCell ⟨g3, full.length, none⟩ v6).setCell ⟨Br, 0, none⟩ (.int .i64 r')) (full, now', n') ∧ Below Bo w5 ((w6.setCell ⟨g3, full.length, none⟩ v6).setCell ⟨Br, 0, none⟩ (.int .i64 r')) := by
  obtain ⟨vl, _, _, _, hg, hgK, _⟩ := hP.last
  have hP6 := (hP.store hb ho).low h3 hK (.int .i64 r')
  have hT6 := ((hT.below hb (by omega) (by omega) (by omega)).other (g := g3) (j := full.length) (by omega) (by omega) (by omega) v6).setR h1 h2 r'
  refine ⟨⟨h1, h2, h3, by have := hb.size; simp [World.setCell]; omega, _, _, hT6, Or.inr ⟨hne, hr, K, hK, hP6⟩⟩, ?_⟩
  exact (((hb.mono (by omega)).setCell (by show Bo ≤ g3; omega) v6).setCell (by show Bo ≤ Br; omega) _)

theorem OwnE.low {E : TypeId} {w : World} {K : Nat} {v : Value} {l : List Ent} (h : OwnE E w K v l) {b : Nat} (hb : b < K) (u : Value) : OwnE E (w.setCell ⟨b, 0, none⟩ u) K v l := by
  refine ⟨ownsRow_setCell_other h.1 (fun e => ?_) u, h.2⟩
  obtain ⟨x, c, rfl, q1, q2, q3, q4, q5, q6⟩ := h.read
  have := (q4 _ e).1
  have hx : (⟨b, 0, none⟩ : Addr).block = b := rfl
  omega
theorem cell_below {w w' : World} {K g j : Nat} {v : Value} (hb : Below K w w') (hg : g < K) (h : w.cell? ⟨g, j, none⟩ = some v) : w'.cell? ⟨g, j, none⟩ = some v := by rw [hb.cell (p := ⟨g, j, none⟩) hg]; exact h
theorem frozen_below {w w' : World} {K g j : Nat} (hb : Below K w w') (hg : g < K) (h : w.frozen? ⟨g, j, none⟩ = false) : w'.frozen? ⟨g, j, none⟩ = false := by rw [hb.frozen (p := ⟨g, j, none⟩) hg]; exact h

set_option maxRecDepth 100000 in
set_option maxHeartbeats 1600000 in

theorem clo_push (Bo Br Bm base : Nat) (m : Int) (w W0 : World) (v : Value) (r : Int) (full : List (List Ent)) (vals : List Value) (yg : Option Addr) (cc : Nat) (g : List Ent)
    (h1 : Bm < Bo) (h2 : Bo < Br) (h3 : Br < base) (h4 : base ≤ w.heap.size) (ht : Trio 25 3 Bo Br Bm m w v r) (hv : OutsV 22 w base w.heap.size v full vals)
    (hcond : full = [] ∨ (full ≠ [] ∧ r < (count g : Int))) (hm : -9223372036854775808 ≤ m ∧ m ≤ 9223372036854775807)
    (hE : Ents W0 yg g) (hW : Below W0.heap.size W0 w) (hW0 : W0.heap.size ≤ Bm) (hg : g ≠ []) (hgl : g.length ≤ 1000000) (hgc : count g ≤ 1000000000000) (hfl : full.length ≤ 1000000) :
    Calls Try.prog 39 #[.slice yg g.length cc, .pointer (some ⟨Bo, 0, none⟩), .pointer (some ⟨Br, 0, none⟩), .pointer (some ⟨Bm, 0, none⟩)] w fun e w' => e = .returned (.tuple #[]) ∧ Inv Bo Br Bm base m w' (full, g, count g) ∧ Below Bo w w' := by
  have hcg : count g ≤ 4611686018427387904 := by omega
  have hEw := hE.below hW
  obtain ⟨xv, cv, rfl, hvc, hvm, hvx⟩ := hv.outs.read
  clear hvx
  have hyg : ∀ z, yg = some z → z.spot = none := by
    intro z hz
    obtain ⟨b, off, e, _⟩ := hE 0 (List.length_pos_iff.2 hg)
    rw [e] at hz; cases hz; rfl
  obtain ⟨t1, t2, t3, t4, t5⟩ := ht.cells
  have hfl2 : full.length ≤ 1000000000000 := by omega
  have hgl2 : g.length ≤ 1000000000000 := by omega
  have HT := Lib.hid ht
  clear ht
  have HE := Lib.hid hE
  clear hE
  have HG := Lib.hid hg
  clear hg
  go_enter Try.func39, Try.ntmps39
  have hBo : Bo < base := by omega
  have hBm : Bm < base := by omega
  have hlo : Bo < w.heap.size := by omega
  have hlr : Br < w.heap.size := by omega
  have hlm : Bm < w.heap.size := by omega
  have hWo : W0.heap.size ≤ (⟨Bo, 0, none⟩ : Addr).block := by show _ ≤ Bo; omega
  have hWr : W0.heap.size ≤ (⟨Br, 0, none⟩ : Addr).block := by show _ ≤ Br; omega
  have hWb : W0.heap.size ≤ base := by omega
  have hn0 : (0 : Int) ≤ (count g : Int) := by omega
  have hfi : ((full.length : Int) + 1) - 1 = (full.length : Int) := by omega
  have hfw : IntKind.i64.wrap (full.length : Int) = (full.length : Int) := IntWalk.i64_in _ (by omega)
  have HV := Lib.hid hv
  clear hv
  have hm2 : m ≤ 9223372036854775807 := hm.2
  clear hm
  by_cases hm1 : m < 1
  ·
    rcases hcond with hne | ⟨hne, hr⟩
    case' inl => have hq : ((full.length : Int) == 0) = true := by simp [hne]
    all_goals have HN := Lib.hid hne
    all_goals clear hne
    case' inr => have hz : 0 < full.length := List.length_pos_iff.2 HN.out
    all_goals
     go_wp2_with (first
      | ((with_reducible refine (count_any yg cc g w hcg hEw).mono ?_); rintro _ w1 ⟨rfl, hb1⟩; obtain ⟨a1, a2, a3, a4, a5⟩ := (HT.out.below hb1 hlo hlr hlm).cells)
      | (at_builtin; refine app_nil _ rfl _ _ 25 rfl 33 Try.underlying25 Try.infoEs rfl rfl (HV.out.later (hb1.alloc hb1.size _)) rfl (heap_at w1 _) hfl2 (Nat.le_trans h4 (hb1.alloc hb1.size _).size) ?_; intro g3 c3 w3 hP3 hb3; have hK3 := Nat.le_trans (Nat.le_trans h4 (hb1.alloc hb1.size _).size) hb3.size; have hBoK := Nat.lt_of_lt_of_le hBo hK3; have hBrK := Nat.lt_of_lt_of_le h3 hK3; have hBmK := Nat.lt_of_lt_of_le hBm hK3; have hbw3 := Lib.hid (((hb1.mono h4).alloc (Nat.le_trans h4 hb1.size) _).trans hb3); have hT3 := Lib.hid (HT.out.below hbw3.out hBo h3 hBm); obtain ⟨b1, b2, b3, b4, b5⟩ := hT3.out.cells; obtain ⟨vl3, hc3, hp3, ho3, hgb3, hgK3, _, _⟩ := hP3.last; have hT4 := Lib.hid (hT3.out.setO h1 h2 (.slice (some ⟨g3, 0, none⟩) (full.length + 1) c3)); have hW3 := Lib.hid (hW.trans (hbw3.out.mono hWb)); have hTx := Lib.hid (hT4.out.setR h1 h2 1); have hPx := Lib.hid ((hP3.low hBo hK3 (.slice (some ⟨g3, 0, none⟩) (full.length + 1) c3)).low h3 hK3 (.int .i64 1)); have hox := Lib.hid ((ho3.low hBoK (.slice (some ⟨g3, 0, none⟩) (full.length + 1) c3)).low hBrK (.int .i64 1)); have hWx := Lib.hid ((hW3.out.setCell (p := ⟨Bo, 0, none⟩) hWo (.slice (some ⟨g3, 0, none⟩) (full.length + 1) c3)).setCell (p := ⟨Br, 0, none⟩) hWr (.int .i64 1)); clear hP3 ho3 hb3)
      | (at_builtin; refine app_ents _ rfl _ _ 22 rfl Try.underlying22 Try.infoE rfl rfl hox.out rfl (HE.out.below hWx.out) hyg (Nat.zero_le _) hgl2 hPx.out.1 HG.out ?_; intro v6 w6 hown6 hb6 _; obtain ⟨y6, c6, rfl, _⟩ := hown6.read; have HF := Lib.hid (fun r' => Inv.fin (r' := r') (n' := count g) h1 h2 h3 (Nat.le_trans hK3 hPx.out.1) hK3 hTx.out hPx.out hb6 hown6 HG.out); obtain ⟨vl6, hx1, hx2, _⟩ := hPx.out.last; have hc6 := cell_below hb6 hgK3 hx1; have hp6 := frozen_below hb6 hgK3 hx2; clear hx1 hx2; have hT6 := Lib.hid (hTx.out.below hb6 hBoK hBrK hBmK); obtain ⟨e1, e2, e3, e4, e5⟩ := hT6.out.cells))
    all_goals
      go_end0
      refine ⟨rfl, (HF.out _ ?_).1, (((hbw3.out.mono (Nat.le_of_lt hBo)).setCell (p := ⟨Bo, 0, none⟩) (Nat.le_refl Bo) (.slice (some ⟨g3, 0, none⟩) (full.length + 1) c3)).setCell (p := ⟨Br, 0, none⟩) (Nat.le_of_lt h2) (.int .i64 1)).trans (HF.out _ ?_).2⟩
      all_goals omega
  ·
    rcases hcond with hne | ⟨hne, hr⟩
    case' inl => have hq : ((full.length : Int) == 0) = true := by simp [hne]
    all_goals have HN := Lib.hid hne
    all_goals clear hne
    case' inr => have hz : 0 < full.length := List.length_pos_iff.2 HN.out
    all_goals
     go_wp2_with (first
      | ((with_reducible refine (count_any yg cc g w hcg hEw).mono ?_); rintro _ w1 ⟨rfl, hb1⟩; obtain ⟨a1, a2, a3, a4, a5⟩ := (HT.out.below hb1 hlo hlr hlm).cells)
      | (at_builtin; refine app_nil _ rfl _ _ 25 rfl 33 Try.underlying25 Try.infoEs rfl rfl (HV.out.later (hb1.alloc hb1.size _)) rfl (heap_at w1 _) hfl2 (Nat.le_trans h4 (hb1.alloc hb1.size _).size) ?_; intro g3 c3 w3 hP3 hb3; have hK3 := Nat.le_trans (Nat.le_trans h4 (hb1.alloc hb1.size _).size) hb3.size; have hBoK := Nat.lt_of_lt_of_le hBo hK3; have hBrK := Nat.lt_of_lt_of_le h3 hK3; have hBmK := Nat.lt_of_lt_of_le hBm hK3; have hbw3 := Lib.hid (((hb1.mono h4).alloc (Nat.le_trans h4 hb1.size) _).trans hb3); have hT3 := Lib.hid (HT.out.below hbw3.out hBo h3 hBm); obtain ⟨b1, b2, b3, b4, b5⟩ := hT3.out.cells; obtain ⟨vl3, hc3, hp3, ho3, hgb3, hgK3, _, _⟩ := hP3.last; have hT4 := Lib.hid (hT3.out.setO h1 h2 (.slice (some ⟨g3, 0, none⟩) (full.length + 1) c3)); have hW3 := Lib.hid (hW.trans (hbw3.out.mono hWb)); have hTx := Lib.hid (hT4.out.setR h1 h2 m); have hPx := Lib.hid ((hP3.low hBo hK3 (.slice (some ⟨g3, 0, none⟩) (full.length + 1) c3)).low h3 hK3 (.int .i64 m)); have hox := Lib.hid ((ho3.low hBoK (.slice (some ⟨g3, 0, none⟩) (full.length + 1) c3)).low hBrK (.int .i64 m)); have hWx := Lib.hid ((hW3.out.setCell (p := ⟨Bo, 0, none⟩) hWo (.slice (some ⟨g3, 0, none⟩) (full.length + 1) c3)).setCell (p := ⟨Br, 0, none⟩) hWr (.int .i64 m)); clear hP3 ho3 hb3)
      | (at_builtin; refine app_ents _ rfl _ _ 22 rfl Try.underlying22 Try.infoE rfl rfl hox.out rfl (HE.out.below hWx.out) hyg (Nat.zero_le _) hgl2 hPx.out.1 HG.out ?_; intro v6 w6 hown6 hb6 _; obtain ⟨y6, c6, rfl, _⟩ := hown6.read; have HF := Lib.hid (fun r' => Inv.fin (r' := r') (n' := count g) h1 h2 h3 (Nat.le_trans hK3 hPx.out.1) hK3 hTx.out hPx.out hb6 hown6 HG.out); obtain ⟨vl6, hx1, hx2, _⟩ := hPx.out.last; have hc6 := cell_below hb6 hgK3 hx1; have hp6 := frozen_below hb6 hgK3 hx2; clear hx1 hx2; have hT6 := Lib.hid (hTx.out.below hb6 hBoK hBrK hBmK); obtain ⟨e1, e2, e3, e4, e5⟩ := hT6.out.cells))
    all_goals
      go_end0
      refine ⟨rfl, (HF.out _ ?_).1, (((hbw3.out.mono (Nat.le_of_lt hBo)).setCell (p := ⟨Bo, 0, none⟩) (Nat.le_refl Bo) (.slice (some ⟨g3, 0, none⟩) (full.length + 1) c3)).setCell (p := ⟨Br, 0, none⟩) (Nat.le_of_lt h2) (.int .i64 m)).trans (HF.out _ ?_).2⟩
      all_goals omega
set_option maxRecDepth 100000 in
set_option maxHeartbeats 1600000 in
/-- The last table grows. -/
theorem clo_stay (Bo Br Bm base : Nat) (m : Int) (w W0 : World) (v : Value) (r : Int) (outs : List (List Ent)) (now : List Ent) (K n : Nat) (yg : Option Addr) (cc : Nat) (g : List Ent)
    (h1 : Bm < Bo) (h2 : Bo < Br) (h3 : Br < base) (h4 : base ≤ w.heap.size) (ht : Trio 25 3 Bo Br Bm m w v r) (hK : base ≤ K) (hv : Pile 22 33 w base K v outs now)
    (hr : ¬ r < (count g : Int)) (hrn : r = max 1 m - min (max 1 m) (n : Int)) (hm : -9223372036854775808 ≤ m ∧ m ≤ 9223372036854775807)
    (hE : Ents W0 yg g) (hW : Below W0.heap.size W0 w) (hW0 : W0.heap.size ≤ Bm) (hg : g ≠ []) (hgl : g.length ≤ 1000000) (hgc : count g ≤ 1000000000000) (hfl : outs.length ≤ 1000000) (hnl : now.length ≤ 1000000) :
    Calls Try.prog 39 #[.slice yg g.length cc, .pointer (some ⟨Bo, 0, none⟩), .pointer (some ⟨Br, 0, none⟩), .pointer (some ⟨Bm, 0, none⟩)] w fun e w' => e = .returned (.tuple #[]) ∧ Inv Bo Br Bm base m w' (outs, now ++ g, n + count g) ∧ Below Bo w w' := by
  have hcg : count g ≤ 4611686018427387904 := by omega
  have hEw := hE.below hW
  obtain ⟨g3, c3, rfl⟩ := hv.shape
  have hyg : ∀ z, yg = some z → z.spot = none := by
    intro z hz
    obtain ⟨b, off, e, _⟩ := hE 0 (List.length_pos_iff.2 hg)
    rw [e] at hz; cases hz; rfl
  obtain ⟨t1, t2, t3, t4, t5⟩ := ht.cells
  have hfl2 : outs.length + 1 ≤ 1000000000000 := by omega
  have hnl2 : now.length ≤ 1000000000000 := by omega
  have hgl2 : g.length ≤ 1000000000000 := by omega
  have hr0 : 0 ≤ r := by omega
  have hr1 : r ≤ 9223372036854775807 := by omega
  have HR := Lib.hid hrn
  clear hrn hm
  have HT := Lib.hid ht
  clear ht
  have HE := Lib.hid hE
  clear hE
  have HG := Lib.hid (show now ++ g ≠ [] from fun e => hg (List.append_eq_nil_iff.1 e).2)
  have HGg := Lib.hid hg
  clear hg
  have HV := Lib.hid hv
  clear hv
  have hBo : Bo < base := by omega
  have hBm : Bm < base := by omega
  have hlo : Bo < w.heap.size := by omega
  have hlr : Br < w.heap.size := by omega
  have hlm : Bm < w.heap.size := by omega
  have hBoK := Nat.lt_of_lt_of_le hBo hK
  have hBrK := Nat.lt_of_lt_of_le h3 hK
  have hBmK := Nat.lt_of_lt_of_le hBm hK
  have hn0 : (0 : Int) ≤ (count g : Int) := by omega
  have hq : ((outs.length : Int) + 1 == 0) = false := by simp; omega
  have hfi : ((outs.length : Int) + 1) - 1 = (outs.length : Int) := by omega
  have hfw : IntKind.i64.wrap (outs.length : Int) = (outs.length : Int) := IntWalk.i64_in _ (by omega)
  go_enter Try.func39, Try.ntmps39
  go_wp2_with (first
      | ((with_reducible refine (count_any yg cc g w hcg hEw).mono ?_); rintro _ w1 ⟨rfl, hb1⟩; have hT1 := Lib.hid (HT.out.below hb1 hlo hlr hlm); obtain ⟨a1, a2, a3, a4, a5⟩ := hT1.out.cells; have hP1 := Lib.hid (HV.out.below hb1); obtain ⟨vl3, hc3, hp3, ho3, hgb3, hgK3, _, _⟩ := hP1.out.last; have hw1 := Lib.hid hb1; clear hb1)
      | (at_builtin; refine app_ents _ rfl _ _ 22 rfl Try.underlying22 Try.infoE rfl rfl ho3 rfl (HE.out.below (hW.trans (hw1.out.mono hW.size))) hyg hnl2 hgl2 hP1.out.1 HGg.out ?_; intro v6 w6 hown6 hb6 _; obtain ⟨y6, c6, rfl, _⟩ := hown6.read; have HF := Lib.hid (fun r' => Inv.fin (r' := r') (n' := n + count g) h1 h2 h3 (Nat.le_trans hK hP1.out.1) hK hT1.out hP1.out hb6 hown6 HG.out); have hc6 := cell_below hb6 hgK3 hc3; have hp6 := frozen_below hb6 hgK3 hp3; have hT6 := Lib.hid (hT1.out.below hb6 hBoK hBrK hBmK); obtain ⟨e1, e2, e3, e4, e5⟩ := hT6.out.cells))
  all_goals
      go_end0
      have hrn := HR.out
      try rw [← List.length_append]
      refine ⟨rfl, (HF.out _ ?_).1, (hw1.out.mono (Nat.le_of_lt hlo)).trans (HF.out _ ?_).2⟩
      all_goals omega
theorem Inv.below {Bo Br Bm base : Nat} {m : Int} {w w' : World} {s : List (List Ent) × List Ent × Nat} (h : Inv Bo Br Bm base m w s) (hb : Below w.heap.size w w') : Inv Bo Br Bm base m w' s := by
  obtain ⟨h1, h2, h3, h4, v, r, ht, hp⟩ := h
  refine ⟨h1, h2, h3, Nat.le_trans h4 hb.size, v, r, ht.below hb (by omega) (by omega) (by omega), ?_⟩
  rcases hp with hp | ⟨q1, q2, K, q3, q4⟩
  · exact Or.inl hp
  · exact Or.inr ⟨q1, q2, K, q3, q4.below hb⟩

theorem clo_any (Bo Br Bm base : Nat) (m : Int) (w W0 : World) (s : List (List Ent) × List Ent × Nat) (yg : Option Addr) (cc : Nat) (g : List Ent)
    (hi : Inv Bo Br Bm base m w s) (hm : -9223372036854775808 ≤ m ∧ m ≤ 9223372036854775807)
    (hE : Ents W0 yg g) (hW : Below W0.heap.size W0 w) (hW0 : W0.heap.size ≤ Bm) (hg : g ≠ []) (hgl : g.length ≤ 1000000) (hgc : count g ≤ 1000000000000) (hfl : s.1.length < 1000000) (hnl : s.2.1.length ≤ 1000000) :
    Calls Try.prog 39 #[.slice yg g.length cc, .pointer (some ⟨Bo, 0, none⟩), .pointer (some ⟨Br, 0, none⟩), .pointer (some ⟨Bm, 0, none⟩)] w fun e w' => e = .returned (.tuple #[]) ∧ Inv Bo Br Bm base m w' (sstep m s g) ∧ Below Bo w w' := by
  obtain ⟨h1, h2, h3, h4, v, r, ht, hp⟩ := hi
  obtain ⟨outs, now, n⟩ := s
  dsimp only at hp hfl hnl
  have hpos : 0 < count g := by have := count_len g; have := List.length_pos_iff.2 hg; omega
  rcases hp with ⟨rfl, rfl, rfl, rfl⟩ | ⟨hne, hr, K, hK, hpl⟩
  · have hs : sstep m ([], [], 0) g = ([], g, count g) := by unfold sstep; simp
    rw [hs]
    exact clo_push Bo Br Bm base m w W0 _ r [] [] yg cc g h1 h2 h3 h4 ht (OutsV.nil _ _ _ _ (Nat.le_refl _)) (Or.inl rfl) hm hE hW hW0 hg hgl hgc (by simp)
  · by_cases hcut : r < (count g : Int)
    · have hs : sstep m (outs, now, n) g = (outs ++ [now], g, count g) := by unfold sstep; rw [if_pos ⟨hne, by dsimp only; omega⟩]
      rw [hs]
      obtain ⟨vals, hv⟩ := hpl.toOuts
      exact clo_push Bo Br Bm base m w W0 _ r (outs ++ [now]) vals yg cc g h1 h2 h3 h4 ht hv (Or.inr ⟨by simp, hcut⟩) hm hE hW hW0 hg hgl hgc (by simp; omega)
    · have hs : sstep m (outs, now, n) g = (outs, now ++ g, n + count g) := by unfold sstep; rw [if_neg (fun h => by have := h.2; dsimp only at this; omega)]
      rw [hs]
      exact clo_stay Bo Br Bm base m w W0 _ r outs now K n yg cc g h1 h2 h3 h4 ht hK hpl hcut hr hm hE hW hW0 hg hgl hgc (by omega) hnl
end Go.Proofs.Ythgbmijgoaihcaa

/-
  Acts: how a slice of them reads.
-/
import Derived.Test.YtjojomjnbiakoaaDk12
namespace Go.Proofs.Ytjojomjnbiakoaa
open Go.RowKit Go.ChangeShapes Go.WideShapes Go.ChangeAt
set_option linter.unusedVariables false
section reads
variable {P : Program} {w : World} {H : Type} {enc : TypeId × Value → H}

theorem trod_struct6 {base : Nat} {spare : Nat → Bool} {held : Bool} {t : TypeId} {f0 f1 f2 f3 f4 f5 : Field} {fuel : Nat} {c0 c1 c2 c3 c4 c5 : Value} {x : DataW H × List MemPlace} (ht : P.underlying t = some (.struct #[f0, f1, f2, f3, f4, f5])) (hc : P.cellsOf t = 6)
    (o0 : f0.offset = 0) (o1 : f1.offset = 1) (o2 : f2.offset = 2) (o3 : f3.offset = 3) (o4 : f4.offset = 4) (o5 : f5.offset = 5) (s0 : P.cellsOf f0.type = 1) (s1 : P.cellsOf f1.type = 1) (s2 : P.cellsOf f2.type = 1) (s3 : P.cellsOf f3.type = 1) (s4 : P.cellsOf f4.type = 1) (s5 : P.cellsOf f5.type = 1)
    (h : DataW.trod enc P w base spare held (fuel + 1) t [c0, c1, c2, c3, c4, c5] = some x) :
    ∃ y0 y1 y2 y3 y4 y5, DataW.trod enc P w base spare held fuel f0.type [c0] = some y0 ∧ DataW.trod enc P w base spare held fuel f1.type [c1] = some y1 ∧ DataW.trod enc P w base spare held fuel f2.type [c2] = some y2 ∧ DataW.trod enc P w base spare held fuel f3.type [c3] = some y3 ∧ DataW.trod enc P w base spare held fuel f4.type [c4] = some y4 ∧ DataW.trod enc P w base spare held fuel f5.type [c5] = some y5 := by
  simp only [DataW.trod, ht, hc, List.length_cons, List.length_nil, if_true] at h
  simp [Option.bind_eq_some_iff, o0, o1, o2, o3, o4, o5, s0, s1, s2, s3, s4, s5] at h
  obtain ⟨a0, b0, h0, L1, ⟨a1, b1, h1, L2, ⟨a2, b2, h2, L3, ⟨a3, b3, h3, L4, ⟨a4, b4, h4, L5, ⟨a5, b5, h5, rfl⟩, rfl⟩, rfl⟩, rfl⟩, rfl⟩, rfl⟩ := h
  exact ⟨_, _, _, _, _, _, h0, h1, h2, h3, h4, h5⟩

theorem cells6 {base : Nat} {a : Addr} {cs : List Value} (h : w.cells? base a 6 = some cs) :
    ∃ c0 c1 c2 c3 c4 c5, cs = [c0, c1, c2, c3, c4, c5] ∧ w.cell? (a.add 0) = some c0 ∧ w.cell? (a.add 1) = some c1 ∧ w.cell? (a.add 2) = some c2 ∧ w.cell? (a.add 3) = some c3 ∧ w.cell? (a.add 4) = some c4 ∧ w.cell? (a.add 5) = some c5 := by
  unfold World.cells? at h
  split at h
  · simp [List.range_succ, Option.bind_eq_some_iff] at h
    obtain ⟨x, hx, L1, ⟨y, hy, L2, ⟨z, hz, L3, ⟨u, hu, L4, ⟨v, hv, L5, ⟨r, hr, rfl⟩, rfl⟩, rfl⟩, rfl⟩, rfl⟩, rfl⟩ := h
    exact ⟨_, _, _, _, _, _, rfl, hx, hy, hz, hu, hv, hr⟩
  · cases h
theorem trod_bytes {base : Nat} {held : Bool} {t e : TypeId} {fuel : Nat} {v : Value} {x : DataW H × List MemPlace} (ht : P.underlying t = some (.slice e)) (he : P.underlying e = some (.int .u8)) (hc : P.cellsOf e = 1) (hf : DataW.trod enc P w base (fun _ => true) held fuel t [v] = some x) :
    ∃ a cap l, v = .slice a l.length cap ∧ l.length ≤ cap ∧ cap ≤ maxLen ∧ Bytes w a l ∧ (a = none → cap = 0) := by
  rcases open_ints ht he hc hf with ⟨hcs, _⟩ | ⟨y, l, c, zs, hcs, _, hl, hm, hz, _, hcell, hwz⟩
  · simp at hcs
    subst hcs
    exact ⟨none, 0, [], rfl, Nat.le_refl _, by unfold maxLen; omega, bytes_nil _ _, fun _ => rfl⟩
  · simp at hcs
    subst hcs
    obtain ⟨l', hl', hb⟩ := bytes_of_ints hl (by simpa using hz) hcell hwz
    exact ⟨_, c, l', by rw [hl'], by omega, hm, hb, fun h => by cases h⟩
theorem trod_i64s {base : Nat} {held : Bool} {t e : TypeId} {fuel : Nat} {v : Value} {x : DataW H × List MemPlace} (ht : P.underlying t = some (.slice e)) (he : P.underlying e = some (.int .i64)) (hc : P.cellsOf e = 1) (hf : DataW.trod enc P w base (fun _ => true) held fuel t [v] = some x) :
    ∃ a cap l, v = .slice a l.length cap ∧ l.length ≤ cap ∧ cap ≤ maxLen ∧ Ints w a l := by
  rcases open_ints ht he hc hf with ⟨hcs, _⟩ | ⟨y, len, c, zs, hcs, _, hl, hm, hz, _, hcell, hwz⟩
  · simp at hcs
    subst hcs
    exact ⟨none, 0, [], rfl, Nat.le_refl _, by unfold maxLen; omega, ints_nil _ _⟩
  · simp at hcs
    subst hcs
    simp at hz
    refine ⟨some y, c, zs.take len, by simp; omega, by simp; omega, hm, fun i hi => ?_⟩
    have hi' : i < len := by simp at hi; omega
    have h0 := hcell 0 (by omega)
    obtain ⟨b, off, spot⟩ := y
    have hs : spot = none := by simpa [Addr.add] using World.cell?_spot h0
    subst hs
    have h1 := hcell i (by omega)
    rw [addr_add] at h1
    have his : i < zs.length := by omega
    have eg : zs.getD i 0 = zs[i] := by simp [List.getD_eq_getElem?_getD, his]
    rw [eg] at h1
    have hw := wf_i64 (hwz zs[i] (List.getElem_mem _))
    refine ⟨b, off, rfl, ?_, ?_, ?_⟩
    · rw [h1]; simp
    · simpa using hw.1
    · simpa using hw.2
theorem trod_acts {base : Nat} {held : Bool} {t e : TypeId} {f0 f1 f2 f3 f4 f5 : Field} {e3 e5 : TypeId} (ht : P.underlying t = some (.slice e)) (he : P.underlying e = some (.struct #[f0, f1, f2, f3, f4, f5]))
    (hc : P.cellsOf e = 6) (o0 : f0.offset = 0) (o1 : f1.offset = 1) (o2 : f2.offset = 2) (o3 : f3.offset = 3) (o4 : f4.offset = 4) (o5 : f5.offset = 5) (s0 : P.cellsOf f0.type = 1) (s1 : P.cellsOf f1.type = 1) (s2 : P.cellsOf f2.type = 1) (s3 : P.cellsOf f3.type = 1) (s4 : P.cellsOf f4.type = 1) (s5 : P.cellsOf f5.type = 1)
    (t0 : P.underlying f0.type = some (.int .u8)) (t1 : P.underlying f1.type = some .string) (t2 : P.underlying f2.type = some .string) (t3 : P.underlying f3.type = some (.slice e3)) (t3' : P.underlying e3 = some (.int .u8)) (z3 : P.cellsOf e3 = 1) (t4 : P.underlying f4.type = some (.int .i64)) (t5 : P.underlying f5.type = some (.slice e5)) (t5' : P.underlying e5 = some (.int .i64)) (z5 : P.cellsOf e5 = 1)
    {fuel : Nat} {a : Option Addr} {len cap : Nat} {x : DataW H × List MemPlace} (hf : DataW.trod enc P w base (fun _ => true) held fuel t [.slice a len cap] = some x) :
    ∃ l, len = l.length ∧ len ≤ cap ∧ cap ≤ maxLen ∧ Acts w a l ∧ (a = none → cap = 0) := by
  rcases Deep.open_slice ht hf with ⟨hcs, _⟩ | ⟨y, l, c, m, n, D, Pl, hcs, _, hl, hm, hmm, _, hx⟩
  · simp at hcs
    obtain ⟨rfl, rfl, rfl⟩ := hcs
    exact ⟨[], rfl, Nat.le_refl _, by unfold maxLen; omega, fun i h => by simp at h, fun _ => rfl⟩
  · simp at hcs
    obtain ⟨rfl, rfl, rfl⟩ := hcs
    simp only [if_true] at hmm
    subst hmm
    have each : ∀ i, i < m → ∃ e0 : ActM, ∃ xb cb xk ck, ActIn w xb cb xk ck e0 ∧ w.cell? ((y.add (i * 6)).add 0) = some (.int .u8 (e0.kind : Nat)) ∧ w.cell? ((y.add (i * 6)).add 1) = some (.string e0.name) ∧ w.cell? ((y.add (i * 6)).add 2) = some (.string e0.dst) ∧ w.cell? ((y.add (i * 6)).add 3) = some (.slice xb e0.b.length cb) ∧ w.cell? ((y.add (i * 6)).add 4) = some (.int .i64 e0.n) ∧ w.cell? ((y.add (i * 6)).add 5) = some (.slice xk e0.keep.length ck) := by
      intro i hi
      obtain ⟨cs', h1, h2⟩ := hx i hi
      rw [hc] at h1
      obtain ⟨c0, c1, c2, c3, c4, c5, rfl, k0, k1, k2, k3, k4, k5⟩ := cells6 h1
      cases n with
      | zero => simp [DataW.trod] at h2
      | succ n =>
        obtain ⟨y0, y1, y2, y3, y4, y5, w0, w1, w2, w3, w4, w5⟩ := trod_struct6 he hc o0 o1 o2 o3 o4 o5 s0 s1 s2 s3 s4 s5 h2
        obtain ⟨kd, hkd, _, hkdw⟩ := DataW.trod_int t0 w0
        obtain ⟨nm, hnm, _, hnms⟩ := DataW.trod_string t1 w1
        obtain ⟨ds, hds, _, hdss⟩ := DataW.trod_string t2 w2
        obtain ⟨xb, cb, lb, rfl, lb1, lb2, lb3, lb4⟩ := trod_bytes t3 t3' z3 w3
        obtain ⟨nn, hnn, _, hnnw⟩ := DataW.trod_int t4 w4
        obtain ⟨xk, ck, lk, rfl, lk1, lk2, lk3⟩ := trod_i64s t5 t5' z5 w5
        simp only [List.cons.injEq, and_true] at hkd hnm hds hnn
        subst hkd hnm hds hnn
        obtain ⟨q2, q3⟩ := wf_u8 hkdw
        have q4 := wf_i64 hnnw
        obtain ⟨k', rfl⟩ := nat_of q2
        exact ⟨⟨k', nm, ds, lb, nn, lk⟩, xb, cb, xk, ck, ⟨⟨(by omega : k' < 256), hnms, hdss, Nat.le_trans lb1 lb2, q4, Nat.le_trans lk1 lk2⟩, lb3, lk3, lb4⟩, k0, k1, k2, k3, k4, k5⟩
    let dflt : ActM := ⟨0, ⟨#[]⟩, ⟨#[]⟩, [], 0, []⟩
    let f : Nat → ActM := fun i => if h : i < m then (each i h).choose else dflt
    have hff : ∀ i (h : i < m), ∃ xb cb xk ck, ActIn w xb cb xk ck (f i) ∧ w.cell? ((y.add (i * 6)).add 0) = some (.int .u8 ((f i).kind : Nat)) ∧ w.cell? ((y.add (i * 6)).add 1) = some (.string (f i).name) ∧ w.cell? ((y.add (i * 6)).add 2) = some (.string (f i).dst) ∧ w.cell? ((y.add (i * 6)).add 3) = some (.slice xb (f i).b.length cb) ∧ w.cell? ((y.add (i * 6)).add 4) = some (.int .i64 (f i).n) ∧ w.cell? ((y.add (i * 6)).add 5) = some (.slice xk (f i).keep.length ck) := by
      intro i hi
      simp only [f, hi, dif_pos]
      exact (each i hi).choose_spec
    refine ⟨(List.range len).map f, by simp, hl, hm, fun i hi => ?_, fun h => by cases h⟩
    have hi' : i < len := by simpa using hi
    obtain ⟨b, off, spot⟩ := y
    obtain ⟨xb, cb, xk, ck, hin, k0, k1, k2, k3, k4, k5⟩ := hff i (by omega)
    have hs : spot = none := by
      obtain ⟨_, _, _, _, _, j0, _⟩ := hff 0 (by omega)
      have := World.cell?_spot j0
      simpa [Addr.add] using this
    subst hs
    rw [addr_add, addr_add] at k0 k1 k2 k3 k4 k5
    exact ⟨b, off, xb, cb, xk, ck, rfl, by simpa using hin, by simpa using ⟨k0, k1, k2, k3, k4, k5⟩⟩
end reads
set_option maxRecDepth 100000 in
theorem read_acts {H : Type} {enc : TypeId × Value → H} {W : World} {r : Reach} {b0 base : Nat} {held : Bool} {v : Value} {d : DataW H} {p : List MemPlace} (o : Value.okWide Try.prog W r b0 22 v) (h : DataW.Trod enc Try.prog W base (fun _ => true) held 22 v d p) :
    ∃ a cap l, v = .slice a l.length cap ∧ l.length ≤ cap ∧ cap ≤ maxLen ∧ Acts W a l := by
  obtain ⟨a, len, cap, rfl⟩ := okWide_slice Try.underlying22 o
  obtain ⟨fuel, hf⟩ := h
  obtain ⟨l, rfl, h1, h2, h3, _⟩ := trod_acts (e3 := 5) (e5 := 3) Try.underlying22 Try.underlying30 (by kernel_rfl) rfl rfl rfl rfl rfl rfl (by kernel_rfl) (by kernel_rfl) (by kernel_rfl) (by kernel_rfl) (by kernel_rfl) (by kernel_rfl) (by kernel_rfl) (by kernel_rfl) (by kernel_rfl) (by kernel_rfl) (by kernel_rfl) (by kernel_rfl) (by kernel_rfl) (by kernel_rfl) (by kernel_rfl) (by kernel_rfl) hf
  exact ⟨a, cap, l, rfl, h1, h2, h3⟩
end Go.Proofs.Ytjojomjnbiakoaa

/-
  One act: how an argument of that type reads.
-/
import Derived.Test.YtjojomjnbiakoaaDk19
namespace Go.Proofs.Ytjojomjnbiakoaa
open Go.RowKit Go.ChangeShapes Go.WideShapes Go.ChangeAt
set_option linter.unusedVariables false
theorem agg6 {cs : Array Value} {v0 v1 v2 v3 v4 v5 : Value} (h : cs.toList = [v0, v1, v2, v3, v4, v5]) : cs = #[v0, v1, v2, v3, v4, v5] := by
  apply Array.ext'
  rw [h]
theorem six {l : List Value} (h : l.length = 6) : ∃ c0 c1 c2 c3 c4 c5, l = [c0, c1, c2, c3, c4, c5] := by
  match l, h with
  | [c0, c1, c2, c3, c4, c5], _ => exact ⟨_, _, _, _, _, _, rfl⟩
theorem trod_struct6x {P : Program} {w : World} {H : Type} {enc : TypeId × Value → H} {base : Nat} {spare : Nat → Bool} {held : Bool} {t : TypeId} {f0 f1 f2 f3 f4 f5 : Field} {fuel : Nat} {c0 c1 c2 c3 c4 c5 : Value} {x : DataW H × List MemPlace} (ht : P.underlying t = some (.struct #[f0, f1, f2, f3, f4, f5])) (hc : P.cellsOf t = 6)
    (o0 : f0.offset = 0) (o1 : f1.offset = 1) (o2 : f2.offset = 2) (o3 : f3.offset = 3) (o4 : f4.offset = 4) (o5 : f5.offset = 5) (s0 : P.cellsOf f0.type = 1) (s1 : P.cellsOf f1.type = 1) (s2 : P.cellsOf f2.type = 1) (s3 : P.cellsOf f3.type = 1) (s4 : P.cellsOf f4.type = 1) (s5 : P.cellsOf f5.type = 1)
    (h : DataW.trod enc P w base spare held (fuel + 1) t [c0, c1, c2, c3, c4, c5] = some x) :
    ∃ y0 y1 y2 y3 y4 y5, DataW.trod enc P w base spare held fuel f0.type [c0] = some y0 ∧ DataW.trod enc P w base spare held fuel f1.type [c1] = some y1 ∧ DataW.trod enc P w base spare held fuel f2.type [c2] = some y2 ∧ DataW.trod enc P w base spare held fuel f3.type [c3] = some y3 ∧ DataW.trod enc P w base spare held fuel f4.type [c4] = some y4 ∧ DataW.trod enc P w base spare held fuel f5.type [c5] = some y5 ∧ x.1 = .agg [y0.1, y1.1, y2.1, y3.1, y4.1, y5.1] := by
  simp only [DataW.trod, ht, hc, List.length_cons, List.length_nil, if_true] at h
  simp [Option.bind_eq_some_iff, o0, o1, o2, o3, o4, o5, s0, s1, s2, s3, s4, s5] at h
  obtain ⟨a0, b0, h0, L1, ⟨a1, b1, h1, L2, ⟨a2, b2, h2, L3, ⟨a3, b3, h3, L4, ⟨a4, b4, h4, L5, ⟨a5, b5, h5, rfl⟩, rfl⟩, rfl⟩, rfl⟩, rfl⟩, rfl⟩ := h
  exact ⟨_, _, _, _, _, _, h0, h1, h2, h3, h4, h5, rfl⟩
set_option maxRecDepth 100000 in
theorem read_act {H : Type} {enc : TypeId × Value → H} {W : World} {r : Reach} {b0 base : Nat} {held : Bool} {v : Value} {d : DataW H} {p : List MemPlace} (o : Value.okWide Try.prog W r b0 30 v) (h : DataW.Trod enc Try.prog W base (fun _ => true) held 30 v d p) (hz : ∀ n ∈ DataW.weights Try.prog 30 d, n ≤ reachBytes) :
    ∃ xb cb xk ck e0, v = .agg #[.int .u8 (e0.kind : Nat), .string e0.name, .string e0.dst, .slice xb e0.b.length cb, .int .i64 e0.n, .slice xk e0.keep.length ck] ∧ ActIn W xb cb xk ck e0 ∧ e0.b.length ≤ reachBytes := by
  obtain ⟨cs, rfl, hsz⟩ := okWide_struct Try.underlying30 o
  have c6 : Try.prog.cellsOf 30 = 6 := by kernel_rfl
  obtain ⟨fuel, hf⟩ := h
  have hcs : (Value.agg cs).cells.toList = cs.toList := rfl
  rw [hcs] at hf
  obtain ⟨c0, c1, c2, c3, c4, c5, hl⟩ := six (l := cs.toList) (by rw [Array.length_toList, hsz, c6])
  rw [hl] at hf
  cases fuel with
  | zero => simp [DataW.trod] at hf
  | succ fuel =>
    obtain ⟨y0, y1, y2, y3, y4, y5, w0, w1, w2, w3, w4, w5, hx⟩ := trod_struct6x Try.underlying30 c6 rfl rfl rfl rfl rfl rfl (by kernel_rfl) (by kernel_rfl) (by kernel_rfl) (by kernel_rfl) (by kernel_rfl) (by kernel_rfl) hf
    obtain ⟨kd, hkd, _, hkdw⟩ := DataW.trod_int Try.underlying5 w0
    obtain ⟨nm, hnm, _, hnms⟩ := DataW.trod_string Try.underlying9 w1
    obtain ⟨ds, hds, _, hdss⟩ := DataW.trod_string Try.underlying9 w2
    obtain ⟨xb, cb, lb, rfl, lb1, lb2, lb3, lb4⟩ := trod_bytes Try.underlying27 Try.underlying5 (by kernel_rfl) w3
    have hlb : cb ≤ reachBytes := by
      refine reach_bytes Try.underlying27 Try.underlying5 (by kernel_rfl) (by kernel_rfl) (d := y3.1) (ps := y3.2) (base := base) (held := held) (enc := enc) (a := xb) (n := lb.length) (w := W) ⟨fuel, w3⟩ fun n hn => hz n ?_
      simp only at hx
      rw [hx]
      simp only [DataW.weights, Try.underlying30, List.map_cons, List.map_nil, DataW.weightsEach, List.mem_append]
      exact Or.inr (Or.inr (Or.inr (Or.inl hn)))
    obtain ⟨nn, hnn, _, hnnw⟩ := DataW.trod_int Try.underlying3 w4
    obtain ⟨xk, ck, lk, rfl, lk1, lk2, lk3⟩ := trod_i64s Try.underlying28 Try.underlying3 (by kernel_rfl) w5
    simp only [List.cons.injEq, and_true] at hkd hnm hds hnn
    subst hkd hnm hds hnn
    obtain ⟨q2, q3⟩ := wf_u8 hkdw
    have q4 := wf_i64 hnnw
    obtain ⟨k', rfl⟩ := nat_of q2
    refine ⟨xb, cb, xk, ck, ⟨k', nm, ds, lb, nn, lk⟩, ?_, ⟨⟨(by omega : k' < 256), hnms, hdss, Nat.le_trans lb1 lb2, q4, Nat.le_trans lk1 lk2⟩, lb3, lk3, lb4⟩, Nat.le_trans lb1 hlb⟩
    rw [agg6 hl]
end Go.Proofs.Ytjojomjnbiakoaa

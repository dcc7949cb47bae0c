/-
  The reference's Cross.
-/
import Derived.Test.YtogihaiedemdhaaSt9
namespace Go.Proofs.Ytogihaiedemdhaa
open Go.RowKit
set_option linter.unusedVariables false

section laws
variable {P : Program} {ops : Array Oper} {rest : List Oper} {o : Oper} {a : Act} {Q : Exit → Act → World → Prop}
theorem app_byte (w : World) (hgd : o.guard = none) (s x : Operand) (t : TypeId) (ho : o.op = .call { callee := .builtin .append, args := #[s, x], argTypes := #[t, t] })
    {E : TypeId} (ht : P.underlying t = some (.slice E)) {z : Value} (hi : (P.info? E).map (fun i => (i.zero, i.size, i.bytes)) = some (some z, 1, 1)) (hzc : z.cells.size = 1)
    {K n : Nat} {v : Value} {xs : List Value} (hs : a.eval s = v) (hown : w.ownsRow K E 1 v n xs) {B : Nat} {u : Value} {fr : Nat × Nat} (hx : a.eval x = .slice (some ⟨B, 0, none⟩) 1 1) (hB : w.heap[B]? = some (.cells #[u] E fr)) (hu : u.oneCell' = true)
    (hl : n + 1 ≤ 140737488355328) (hK : K ≤ w.heap.size)
    (h : ∀ v' w', w'.ownsRow K E 1 v' (n + 1) (xs ++ [u]) → Below K w w' → v'.ownBlock ≠ none → wpList P ops Q rest (a.put o.dst v') w') : wpList P ops Q (o :: rest) a w :=
  app_bytes w hgd s x t ho ht hi hzc hs hown hx rfl (fun j v' hv => by
    have h1 := World.news_of_block hB j v' (by simpa using hv)
    rwa [addr_add] at h1) (by intro u' hu'; simp at hu'; rw [hu']; exact hu) (by omega) hl hK h
theorem step_app_byte {E0 : Prop} {K : Act → World → Prop} (w : World) (hgd : o.guard = none) (s x : Operand) (t : TypeId) (ho : o.op = .call { callee := .builtin .append, args := #[s, x], argTypes := #[t, t] })
    {E : TypeId} (ht : P.underlying t = some (.slice E)) {z : Value} (hi : (P.info? E).map (fun i => (i.zero, i.size, i.bytes)) = some (some z, 1, 1)) (hzc : z.cells.size = 1)
    {B0 n : Nat} {v : Value} {xs : List Value} (hs : a.eval s = v) (hown : w.ownsRow B0 E 1 v n xs) {B : Nat} {u : Value} {fr : Nat × Nat} (hx : a.eval x = .slice (some ⟨B, 0, none⟩) 1 1) (hB : w.heap[B]? = some (.cells #[u] E fr)) (hu : u.oneCell' = true)
    (hl : n + 1 ≤ 140737488355328) (hK : B0 ≤ w.heap.size)
    (h : ∀ v' w', w'.ownsRow B0 E 1 v' (n + 1) (xs ++ [u]) → Below B0 w w' → K (a.put o.dst v') w') : if Region.wanted o (yielded ops a.tmps) = true then Oper.wp P o a w K Q else E0 := by
  obtain ⟨i0, hi0, hz0, hz1, hz2⟩ := info_parts hi
  refine step_append_lies (w := w) hgd s x t ho B0 E i0 z 1 1 ht hi0 hz0 hz1 hz2 hzc (by decide) v n xs hs hown ⟨B, 0, none⟩ 1 1 [u] hx rfl
    (by have := World.news_of_block hB; simpa using this) (by intro u' hu'; simp at hu'; rw [hu']; exact hu) (by omega) (by unfold maxLen; omega) (by omega) hK _ rfl ?_
  intro g cap w' h2 h3 h4 h5
  exact h _ _ h2 ((Below.refl B0 w).grown h3 hK (fun k hk => (hown.lt k hk).1))
end laws
theorem cell_below {w w' : World} {K g j : Nat} {v : Value} (hb : Below K w w') (hg : g < K) (h : w.cell? ⟨g, j, none⟩ = some v) : w'.cell? ⟨g, j, none⟩ = some v := by
  rw [hb.cell (p := ⟨g, j, none⟩) hg]; exact h
set_option maxRecDepth 100000 in
set_option maxHeartbeats 3200000 in
theorem rcross_any (key nonce : List UInt8) (count : Nat) (a : Option Addr) (cap : Nat) (l : List UInt8) (w : World) (hk : key.length = 32) (hn : nonce.length = 12) (hc : count < 4294967296) (hl : l.length ≤ 140737488351232) (hb : Bytes w a l) :
    Calls Try.prog 23 #[.agg (cells8 key).toArray, .agg (cells8 nonce).toArray, .int .u32 count, .slice a l.length cap] w fun e w' => ∃ v, e = .returned v ∧ w'.ownsRow w.heap.size 5 1 v l.length (cells8 (crossF key nonce count l)) ∧ Below w.heap.size w w' := by
  obtain ⟨K, hK⟩ : ∃ K, w.heap.size = K := ⟨_, rfl⟩
  obtain ⟨N, hN⟩ : ∃ N, K + 1 = N := ⟨_, rfl⟩
  obtain ⟨R, hR⟩ : ∃ R, N + 1 = R := ⟨_, rfl⟩
  obtain ⟨L, hL⟩ : ∃ L, l.length = L := ⟨_, rfl⟩
  have HL := Lib.hid hL
  have HKL := Lib.hid (And.intro hk hn)
  have HB := Lib.hid hb
  rw [hL] at hl ⊢
  clear hk hn hb hL
  have hF0 : Hid (BlkB 22 (((w.alloc (Obj.cells (cells8 key).toArray 22)).alloc (Obj.cells (cells8 nonce).toArray 23)).alloc (Obj.cells #[Value.int IntKind.u8 0, Value.int IntKind.u8 0, Value.int IntKind.u8 0, Value.int IntKind.u8 0, Value.int IntKind.u8 0, Value.int IntKind.u8 0, Value.int IntKind.u8 0, Value.int IntKind.u8 0, Value.int IntKind.u8 0, Value.int IntKind.u8 0, Value.int IntKind.u8 0, Value.int IntKind.u8 0, Value.int IntKind.u8 0, Value.int IntKind.u8 0, Value.int IntKind.u8 0, Value.int IntKind.u8 0, Value.int IntKind.u8 0, Value.int IntKind.u8 0, Value.int IntKind.u8 0, Value.int IntKind.u8 0, Value.int IntKind.u8 0, Value.int IntKind.u8 0, Value.int IntKind.u8 0, Value.int IntKind.u8 0, Value.int IntKind.u8 0, Value.int IntKind.u8 0, Value.int IntKind.u8 0, Value.int IntKind.u8 0, Value.int IntKind.u8 0, Value.int IntKind.u8 0, Value.int IntKind.u8 0, Value.int IntKind.u8 0, Value.int IntKind.u8 0, Value.int IntKind.u8 0, Value.int IntKind.u8 0, Value.int IntKind.u8 0, Value.int IntKind.u8 0, Value.int IntKind.u8 0, Value.int IntKind.u8 0, Value.int IntKind.u8 0, Value.int IntKind.u8 0, Value.int IntKind.u8 0, Value.int IntKind.u8 0, Value.int IntKind.u8 0, Value.int IntKind.u8 0, Value.int IntKind.u8 0, Value.int IntKind.u8 0, Value.int IntKind.u8 0, Value.int IntKind.u8 0, Value.int IntKind.u8 0, Value.int IntKind.u8 0, Value.int IntKind.u8 0, Value.int IntKind.u8 0, Value.int IntKind.u8 0, Value.int IntKind.u8 0, Value.int IntKind.u8 0, Value.int IntKind.u8 0, Value.int IntKind.u8 0, Value.int IntKind.u8 0, Value.int IntKind.u8 0, Value.int IntKind.u8 0, Value.int IntKind.u8 0, Value.int IntKind.u8 0, Value.int IntKind.u8 0] 28)) K key ∧ BlkB 23 (((w.alloc (Obj.cells (cells8 key).toArray 22)).alloc (Obj.cells (cells8 nonce).toArray 23)).alloc (Obj.cells #[Value.int IntKind.u8 0, Value.int IntKind.u8 0, Value.int IntKind.u8 0, Value.int IntKind.u8 0, Value.int IntKind.u8 0, Value.int IntKind.u8 0, Value.int IntKind.u8 0, Value.int IntKind.u8 0, Value.int IntKind.u8 0, Value.int IntKind.u8 0, Value.int IntKind.u8 0, Value.int IntKind.u8 0, Value.int IntKind.u8 0, Value.int IntKind.u8 0, Value.int IntKind.u8 0, Value.int IntKind.u8 0, Value.int IntKind.u8 0, Value.int IntKind.u8 0, Value.int IntKind.u8 0, Value.int IntKind.u8 0, Value.int IntKind.u8 0, Value.int IntKind.u8 0, Value.int IntKind.u8 0, Value.int IntKind.u8 0, Value.int IntKind.u8 0, Value.int IntKind.u8 0, Value.int IntKind.u8 0, Value.int IntKind.u8 0, Value.int IntKind.u8 0, Value.int IntKind.u8 0, Value.int IntKind.u8 0, Value.int IntKind.u8 0, Value.int IntKind.u8 0, Value.int IntKind.u8 0, Value.int IntKind.u8 0, Value.int IntKind.u8 0, Value.int IntKind.u8 0, Value.int IntKind.u8 0, Value.int IntKind.u8 0, Value.int IntKind.u8 0, Value.int IntKind.u8 0, Value.int IntKind.u8 0, Value.int IntKind.u8 0, Value.int IntKind.u8 0, Value.int IntKind.u8 0, Value.int IntKind.u8 0, Value.int IntKind.u8 0, Value.int IntKind.u8 0, Value.int IntKind.u8 0, Value.int IntKind.u8 0, Value.int IntKind.u8 0, Value.int IntKind.u8 0, Value.int IntKind.u8 0, Value.int IntKind.u8 0, Value.int IntKind.u8 0, Value.int IntKind.u8 0, Value.int IntKind.u8 0, Value.int IntKind.u8 0, Value.int IntKind.u8 0, Value.int IntKind.u8 0, Value.int IntKind.u8 0, Value.int IntKind.u8 0, Value.int IntKind.u8 0, Value.int IntKind.u8 0] 28)) N nonce ∧ BlkB 28 (((w.alloc (Obj.cells (cells8 key).toArray 22)).alloc (Obj.cells (cells8 nonce).toArray 23)).alloc (Obj.cells #[Value.int IntKind.u8 0, Value.int IntKind.u8 0, Value.int IntKind.u8 0, Value.int IntKind.u8 0, Value.int IntKind.u8 0, Value.int IntKind.u8 0, Value.int IntKind.u8 0, Value.int IntKind.u8 0, Value.int IntKind.u8 0, Value.int IntKind.u8 0, Value.int IntKind.u8 0, Value.int IntKind.u8 0, Value.int IntKind.u8 0, Value.int IntKind.u8 0, Value.int IntKind.u8 0, Value.int IntKind.u8 0, Value.int IntKind.u8 0, Value.int IntKind.u8 0, Value.int IntKind.u8 0, Value.int IntKind.u8 0, Value.int IntKind.u8 0, Value.int IntKind.u8 0, Value.int IntKind.u8 0, Value.int IntKind.u8 0, Value.int IntKind.u8 0, Value.int IntKind.u8 0, Value.int IntKind.u8 0, Value.int IntKind.u8 0, Value.int IntKind.u8 0, Value.int IntKind.u8 0, Value.int IntKind.u8 0, Value.int IntKind.u8 0, Value.int IntKind.u8 0, Value.int IntKind.u8 0, Value.int IntKind.u8 0, Value.int IntKind.u8 0, Value.int IntKind.u8 0, Value.int IntKind.u8 0, Value.int IntKind.u8 0, Value.int IntKind.u8 0, Value.int IntKind.u8 0, Value.int IntKind.u8 0, Value.int IntKind.u8 0, Value.int IntKind.u8 0, Value.int IntKind.u8 0, Value.int IntKind.u8 0, Value.int IntKind.u8 0, Value.int IntKind.u8 0, Value.int IntKind.u8 0, Value.int IntKind.u8 0, Value.int IntKind.u8 0, Value.int IntKind.u8 0, Value.int IntKind.u8 0, Value.int IntKind.u8 0, Value.int IntKind.u8 0, Value.int IntKind.u8 0, Value.int IntKind.u8 0, Value.int IntKind.u8 0, Value.int IntKind.u8 0, Value.int IntKind.u8 0, Value.int IntKind.u8 0, Value.int IntKind.u8 0, Value.int IntKind.u8 0, Value.int IntKind.u8 0] 28)) R (List.replicate 64 0) ∧ Below K w (((w.alloc (Obj.cells (cells8 key).toArray 22)).alloc (Obj.cells (cells8 nonce).toArray 23)).alloc (Obj.cells #[Value.int IntKind.u8 0, Value.int IntKind.u8 0, Value.int IntKind.u8 0, Value.int IntKind.u8 0, Value.int IntKind.u8 0, Value.int IntKind.u8 0, Value.int IntKind.u8 0, Value.int IntKind.u8 0, Value.int IntKind.u8 0, Value.int IntKind.u8 0, Value.int IntKind.u8 0, Value.int IntKind.u8 0, Value.int IntKind.u8 0, Value.int IntKind.u8 0, Value.int IntKind.u8 0, Value.int IntKind.u8 0, Value.int IntKind.u8 0, Value.int IntKind.u8 0, Value.int IntKind.u8 0, Value.int IntKind.u8 0, Value.int IntKind.u8 0, Value.int IntKind.u8 0, Value.int IntKind.u8 0, Value.int IntKind.u8 0, Value.int IntKind.u8 0, Value.int IntKind.u8 0, Value.int IntKind.u8 0, Value.int IntKind.u8 0, Value.int IntKind.u8 0, Value.int IntKind.u8 0, Value.int IntKind.u8 0, Value.int IntKind.u8 0, Value.int IntKind.u8 0, Value.int IntKind.u8 0, Value.int IntKind.u8 0, Value.int IntKind.u8 0, Value.int IntKind.u8 0, Value.int IntKind.u8 0, Value.int IntKind.u8 0, Value.int IntKind.u8 0, Value.int IntKind.u8 0, Value.int IntKind.u8 0, Value.int IntKind.u8 0, Value.int IntKind.u8 0, Value.int IntKind.u8 0, Value.int IntKind.u8 0, Value.int IntKind.u8 0, Value.int IntKind.u8 0, Value.int IntKind.u8 0, Value.int IntKind.u8 0, Value.int IntKind.u8 0, Value.int IntKind.u8 0, Value.int IntKind.u8 0, Value.int IntKind.u8 0, Value.int IntKind.u8 0, Value.int IntKind.u8 0, Value.int IntKind.u8 0, Value.int IntKind.u8 0, Value.int IntKind.u8 0, Value.int IntKind.u8 0, Value.int IntKind.u8 0, Value.int IntKind.u8 0, Value.int IntKind.u8 0, Value.int IntKind.u8 0] 28)) ∧ (((w.alloc (Obj.cells (cells8 key).toArray 22)).alloc (Obj.cells (cells8 nonce).toArray 23)).alloc (Obj.cells #[Value.int IntKind.u8 0, Value.int IntKind.u8 0, Value.int IntKind.u8 0, Value.int IntKind.u8 0, Value.int IntKind.u8 0, Value.int IntKind.u8 0, Value.int IntKind.u8 0, Value.int IntKind.u8 0, Value.int IntKind.u8 0, Value.int IntKind.u8 0, Value.int IntKind.u8 0, Value.int IntKind.u8 0, Value.int IntKind.u8 0, Value.int IntKind.u8 0, Value.int IntKind.u8 0, Value.int IntKind.u8 0, Value.int IntKind.u8 0, Value.int IntKind.u8 0, Value.int IntKind.u8 0, Value.int IntKind.u8 0, Value.int IntKind.u8 0, Value.int IntKind.u8 0, Value.int IntKind.u8 0, Value.int IntKind.u8 0, Value.int IntKind.u8 0, Value.int IntKind.u8 0, Value.int IntKind.u8 0, Value.int IntKind.u8 0, Value.int IntKind.u8 0, Value.int IntKind.u8 0, Value.int IntKind.u8 0, Value.int IntKind.u8 0, Value.int IntKind.u8 0, Value.int IntKind.u8 0, Value.int IntKind.u8 0, Value.int IntKind.u8 0, Value.int IntKind.u8 0, Value.int IntKind.u8 0, Value.int IntKind.u8 0, Value.int IntKind.u8 0, Value.int IntKind.u8 0, Value.int IntKind.u8 0, Value.int IntKind.u8 0, Value.int IntKind.u8 0, Value.int IntKind.u8 0, Value.int IntKind.u8 0, Value.int IntKind.u8 0, Value.int IntKind.u8 0, Value.int IntKind.u8 0, Value.int IntKind.u8 0, Value.int IntKind.u8 0, Value.int IntKind.u8 0, Value.int IntKind.u8 0, Value.int IntKind.u8 0, Value.int IntKind.u8 0, Value.int IntKind.u8 0, Value.int IntKind.u8 0, Value.int IntKind.u8 0, Value.int IntKind.u8 0, Value.int IntKind.u8 0, Value.int IntKind.u8 0, Value.int IntKind.u8 0, Value.int IntKind.u8 0, Value.int IntKind.u8 0] 28)).heap.size = N + 2) :=
    Lib.hid ⟨heap_keep (heap_keep (heap_at' hK)), heap_keep (heap_at' (by simp; omega)), heap_at' (by simp; omega), (((Below.refl _ _).alloc (by omega) _).alloc (by simp; omega) _).alloc (by simp; omega) _, by simp; omega⟩
  go_enter Try.func23, Try.ntmps23
  go_wp2
  obtain ⟨wo, hwo⟩ : ∃ wo, (((w.alloc (Obj.cells (cells8 key).toArray 22)).alloc (Obj.cells (cells8 nonce).toArray 23)).alloc (Obj.cells #[Value.int IntKind.u8 0, Value.int IntKind.u8 0, Value.int IntKind.u8 0, Value.int IntKind.u8 0, Value.int IntKind.u8 0, Value.int IntKind.u8 0, Value.int IntKind.u8 0, Value.int IntKind.u8 0, Value.int IntKind.u8 0, Value.int IntKind.u8 0, Value.int IntKind.u8 0, Value.int IntKind.u8 0, Value.int IntKind.u8 0, Value.int IntKind.u8 0, Value.int IntKind.u8 0, Value.int IntKind.u8 0, Value.int IntKind.u8 0, Value.int IntKind.u8 0, Value.int IntKind.u8 0, Value.int IntKind.u8 0, Value.int IntKind.u8 0, Value.int IntKind.u8 0, Value.int IntKind.u8 0, Value.int IntKind.u8 0, Value.int IntKind.u8 0, Value.int IntKind.u8 0, Value.int IntKind.u8 0, Value.int IntKind.u8 0, Value.int IntKind.u8 0, Value.int IntKind.u8 0, Value.int IntKind.u8 0, Value.int IntKind.u8 0, Value.int IntKind.u8 0, Value.int IntKind.u8 0, Value.int IntKind.u8 0, Value.int IntKind.u8 0, Value.int IntKind.u8 0, Value.int IntKind.u8 0, Value.int IntKind.u8 0, Value.int IntKind.u8 0, Value.int IntKind.u8 0, Value.int IntKind.u8 0, Value.int IntKind.u8 0, Value.int IntKind.u8 0, Value.int IntKind.u8 0, Value.int IntKind.u8 0, Value.int IntKind.u8 0, Value.int IntKind.u8 0, Value.int IntKind.u8 0, Value.int IntKind.u8 0, Value.int IntKind.u8 0, Value.int IntKind.u8 0, Value.int IntKind.u8 0, Value.int IntKind.u8 0, Value.int IntKind.u8 0, Value.int IntKind.u8 0, Value.int IntKind.u8 0, Value.int IntKind.u8 0, Value.int IntKind.u8 0, Value.int IntKind.u8 0, Value.int IntKind.u8 0, Value.int IntKind.u8 0, Value.int IntKind.u8 0, Value.int IntKind.u8 0] 28)) = wo := ⟨_, rfl⟩
  rw [hwo] at hF0 ⊢
  clear hwo
  have hos := hF0.out.2.2.2.2
  have HOS := Lib.hid hos
  clear hos
  go_loopw [9, 11] (fun vv iv wr => ∃ (i : Nat) (v : Value) (bl : List UInt8), i ≤ L ∧ v = vv ∧ iv = .int .i64 i ∧ Hid (wr.ownsRow (N + 2) 5 1 v i (cells8 ((crossF key nonce count l).take i))) ∧ Hid (BlkB 28 wr R bl ∧ bl.length = 64 ∧ (i % 64 ≠ 0 → bl = blk key nonce ((count + i / 64) % 4294967296))) ∧ Below R wo wr ∧ N + 2 ≤ wr.heap.size) (fun _ iv _ => L - (intOf iv).toNat)
  case atStart => exact ⟨0, _, _, by omega, rfl, rfl, Lib.hid (by simpa [cells8] using World.ownsRow_nil _ _ _ _), Lib.hid ⟨hF0.out.2.2.1, by simp, fun h => absurd rfl h⟩, Below.refl _ _, by have := HOS.out; omega⟩
  case round =>
    obtain ⟨i, v, bl, hiL, hvv, rfl, hown, hbl, hwr, hszr⟩ := hrel
    subst hvv
    by_cases hlt : i < L
    · obtain ⟨cn, hcn, HCN⟩ : ∃ cn, cn < 4294967296 ∧ Hid ((count + i / 64) % 4294967296 = cn) := ⟨_, Nat.mod_lt _ (by omega), Lib.hid rfl⟩
      by_cases h0 : i % 64 = 0
      · have e0 : ((i : Int) % 64 == 0) = true := by simp; omega
        have H0 := Lib.hid h0
        clear h0
        obtain ⟨q, qd, ql⟩ : ∃ q : Nat, (i : Int) / 64 = (q : Int) ∧ i / 64 = q := ⟨i / 64, by omega, rfl⟩
        obtain ⟨q2, q2d, q2l⟩ : ∃ q2 : Nat, (q : Int) % 4294967296 = (q2 : Int) ∧ q % 4294967296 = q2 := ⟨q % 4294967296, by omega, rfl⟩
        obtain ⟨s, p1, p2, q1, r1⟩ := sum_nat count q2
        have hsc : s = cn := by rw [← r1.out, ← HCN.out]; unfold add32; omega
        subst hsc
        clear ql q2l
        have HRB := Lib.hid (fun w' => rblock_any key nonce s w' HKL.out.1 HKL.out.2 q1)
        have hkb := Lib.hid (hF0.out.1.below hwr (by omega))
        have hnb := Lib.hid (hF0.out.2.1.below hwr (by omega))
        have HI32 : Hid (some 32 = some (cells8 key).toArray.size) := Lib.hid (by simp [cells8_length, HKL.out.1])
        have HI12 : Hid (some 12 = some (cells8 nonce).toArray.size) := Lib.hid (by simp [cells8_length, HKL.out.2])
        have HI64 : Hid (some 64 = some (cells8 (blk key nonce s)).toArray.size) := Lib.hid (by simp [cells8_length, blk_length])
        go_upto_region 8 with (first
          | (refine wpList_load_row rfl 22 _ rfl K (by rfl) 22 (cells8 key).toArray (0, 0) _ hkb.out Try.underlying22 rfl (info32.trans HI32.out) ?_)
          | (refine wpList_load_row rfl 23 _ rfl N (by rfl) 23 (cells8 nonce).toArray (0, 0) _ hnb.out Try.underlying23 rfl (info12.trans HI12.out) ?_)
          | ((with_reducible refine (HRB.out _).mono ?_); rintro _ w5 ⟨rfl, hb5⟩; have hR5 := Lib.hid (hbl.out.1.below hb5 (by omega)); have HTH : Hid (w5.there R 0 (cells8 (blk key nonce s)).toArray.size) := Lib.hid (by have h7 := hR5.out.there; rw [hbl.out.2.1] at h7; simpa [cells8_length, blk_length] using h7))
          | (refine wpList_store_mid rfl 28 _ _ rfl R 0 (cells8 (blk key nonce s)).toArray (by rfl) (by rfl) HTH.out (info64.trans HI64.out) (cells8_all _) ?_))
        obtain ⟨w6, hw6, hB6, hO6, hwr6, hsz6, hbw6⟩ : ∃ w6, w5.setCells R 0 (cells8 (blk key nonce s)) = w6 ∧ Hid (BlkB 28 w6 R (blk key nonce s)) ∧ Hid (w6.ownsRow (N + 2) 5 1 v i (cells8 ((crossF key nonce count l).take i))) ∧ Below R wo w6 ∧ N + 2 ≤ w6.heap.size ∧ Below K w w6 := by
          have hbel : Below R wr (w5.setCells R 0 (cells8 (blk key nonce s))) := below_setCells (Nat.le_refl _) _ _ _ (hb5.mono (by omega))
          have hsz : N + 2 ≤ (w5.setCells R 0 (cells8 (blk key nonce s))).heap.size := Nat.le_trans hszr hbel.size
          refine ⟨_, rfl, Lib.hid (hR5.out.put (by rw [hbl.out.2.1, blk_length])), Lib.hid ?_, hwr.trans hbel, hsz, hF0.out.2.2.2.1.trans ((hwr.trans hbel).mono (by omega))⟩
          obtain ⟨h1, h2⟩ := hown.out
          refine ⟨h1, ?_⟩
          rcases h2 with h2 | ⟨g', cap', cur, hv', hg', hh, r⟩
          · exact Or.inl h2
          · have hgl := heap_lt hh
            refine Or.inr ⟨g', cap', cur, hv', hg', ?_, r⟩
            rw [heap_setCells_far R _ _ _ _ (by omega), hb5.block g' hgl]
            exact hh
        rw [hw6]
        clear hw6 e0 qd q2d p1 p2
        have j1 : (i : Int) < (L : Int) := by omega
        have j2 : (0 : Int) ≤ (i : Int) := by omega
        obtain ⟨r, rd, rt, rw', r64, rr⟩ : ∃ r : Nat, (i : Int) % 64 = (r : Int) ∧ (i : Int).tmod 64 = (r : Int) ∧ IntKind.i64.wrap (r : Int) = (r : Int) ∧ r < 64 ∧ Hid (i % 64 = r) := ⟨i % 64, by omega, by rw [Int.tmod_eq_emod_of_nonneg (by omega)]; omega, IntWalk.i64_in _ (by omega), by omega, Lib.hid rfl⟩
        have j3 : (r : Int) < 64 := by omega
        have hpl : i < l.length := by rw [HL.out]; exact hlt
        have hbc := hB6.out.cell r (by rw [blk_length]; exact r64)
        have hbg : (blk key nonce s)[r]'(by rw [blk_length]; exact r64) = ksAt key nonce count i := by
          unfold ksAt
          rw [rr.out, HCN.out]
          have hbi : r < (blk key nonce s).length := by rw [blk_length]; exact r64
          simp [List.getD_eq_getElem?_getD, hbi]
        rw [hbg] at hbc
        clear hbg
        obtain ⟨bb, off, rfl, hlc0⟩ := HB.out i hpl
        have hlc1 := ((HB.out.below (by rw [hK]; exact hbw6)).get i hpl)
        have HBB := Lib.hid (cell_lt hlc0)
        clear hlc0
        obtain ⟨c8, hxo, hcv⟩ : ∃ c8 : UInt8, bits BinOp.xor IntKind.u8 ((l[i]'hpl).toNat : Nat) ((ksAt key nonce count i).toNat : Nat) = (c8.toNat : Nat) ∧ Hid ((crossF key nonce count l).take (i + 1) = (crossF key nonce count l).take i ++ [c8]) := ⟨_, xor8 _ _, Lib.hid (by
          rw [List.take_succ_eq_append_getElem (by rw [crossF_length]; exact hpl)]
          simp [crossF])⟩
        generalize (l[i]'hpl).toNat = v1 at *
        generalize (ksAt key nonce count i).toNat = v2 at *
        have hi47 : i + 1 ≤ 140737488355328 := by omega
        have hs6 : N + 2 ≤ w6.heap.size := hsz6
        have hbR : bb < N + 2 := by have := HBB.out; omega
        have hRN2 : R < N + 2 := by omega
        have hRN3 : R ≤ N + 2 := by omega
        have hS : w6.cell? ⟨bb, off + i, none⟩ = some (.int .u8 (v1 : Nat)) ∧ w6.cell? ⟨R, r, none⟩ = some (.int .u8 (v2 : Nat)) ∧ Below R wo w6 ∧ N + 2 ≤ w6.heap.size := ⟨hlc1, hbc, hwr6, hs6⟩
        go_wp2
        refine wp_region_held_drew (S := (fun w' => w'.cell? ⟨bb, off + i, none⟩ = some (.int .u8 (v1 : Nat)) ∧ w'.cell? ⟨R, r, none⟩ = some (.int .u8 (v2 : Nat)) ∧ Below R wo w' ∧ N + 2 ≤ w'.heap.size)) (by kernel_rfl) ?_ (fun hS0 => ?_)
        · exact ⟨hS.1, hS.2.1, hS.2.2.1.drew, hS.2.2.2⟩
        refine wpAnyH_take (i := 0) (oi := { dst := some 29, op := Op.move (Operand.tmp 9), type := 32, pos := "ref.go:60", after := #[], guard := none }) (v := ?_) rfl (by kernel_rfl) (by kernel_rfl) (by kernel_rfl) (fun _ _ _ h => h) (Or.inl ⟨by rfl, ?hy1⟩) (by assumption) ?_
        case hy1 => (intro w hSw; (try dsimp only at hSw); go_simp; try with_reducible rfl)
        (try simp only [Act.put, List.setIfInBounds_toArray, List.set_cons_zero, List.set_cons_succ])
        refine wpAnyH_take (i := 1) (oi := { dst := some 30, op := Op.move (Operand.tmp 3), type := 32, pos := "ref.go:60", after := #[], guard := none }) (v := ?_) rfl (by kernel_rfl) (by kernel_rfl) (by kernel_rfl) (fun _ _ _ h => h) (Or.inl ⟨by rfl, ?hy2⟩) (by assumption) ?_
        case hy2 => (intro w hSw; (try dsimp only at hSw); go_simp; try with_reducible rfl)
        (try simp only [Act.put, List.setIfInBounds_toArray, List.set_cons_zero, List.set_cons_succ])
        refine wpAnyH_take (i := 2) (oi := { dst := some 31, op := Op.move (Operand.tmp 11), type := 3, pos := "ref.go:60", after := #[], guard := none }) (v := ?_) rfl (by kernel_rfl) (by kernel_rfl) (by kernel_rfl) (fun _ _ _ h => h) (Or.inl ⟨by rfl, ?hy3⟩) (by assumption) ?_
        case hy3 => (intro w hSw; (try dsimp only at hSw); go_simp; try with_reducible rfl)
        (try simp only [Act.put, List.setIfInBounds_toArray, List.set_cons_zero, List.set_cons_succ])
        refine wpAnyH_take (i := 3) (oi := { dst := some 32, op := Op.indexAddr 32 (Operand.tmp 30) (Operand.tmp 31), type := 0, pos := "ref.go:60", after := #[{ on := 1, ground := Ground.data }, { on := 2, ground := Ground.data }], guard := none }) (v := ?_) rfl (by kernel_rfl) (by kernel_rfl) (by kernel_rfl) (fun _ _ _ h => h) (Or.inl ⟨by rfl, ?hy4⟩) (by assumption) ?_
        case hy4 => (intro w hSw; (try dsimp only at hSw); go_simp; try with_reducible rfl)
        (try simp only [Act.put, List.setIfInBounds_toArray, List.set_cons_zero, List.set_cons_succ])
        refine wpAnyH_take (i := 4) (oi := { dst := some 33, op := Op.load 5 (Operand.tmp 32), type := 5, pos := "ref.go:60", after := #[{ on := 3, ground := Ground.data }], guard := none }) (v := ?_) rfl (by kernel_rfl) (by kernel_rfl) (by kernel_rfl) (fun _ _ _ h => h) (Or.inl ⟨by rfl, ?hy5⟩) (by assumption) ?_
        case hy5 => (intro w hSw; (try dsimp only at hSw); go_simp; try with_reducible rfl)
        (try simp only [Act.put, List.setIfInBounds_toArray, List.set_cons_zero, List.set_cons_succ])
        refine wpAnyH_take (i := 5) (oi := { dst := some 34, op := Op.move (Operand.tmp 11), type := 3, pos := "ref.go:60", after := #[], guard := none }) (v := ?_) rfl (by kernel_rfl) (by kernel_rfl) (by kernel_rfl) (fun _ _ _ h => h) (Or.inl ⟨by rfl, ?hy6⟩) (by assumption) ?_
        case hy6 => (intro w hSw; (try dsimp only at hSw); go_simp; try with_reducible rfl)
        (try simp only [Act.put, List.setIfInBounds_toArray, List.set_cons_zero, List.set_cons_succ])
        refine wpAnyH_take (i := 6) (oi := { dst := some 35, op := Op.binOp BinOp.rem 3 (Operand.tmp 34) (Operand.const (Value.int IntKind.i64 64)) 3, type := 3, pos := "ref.go:60", after := #[{ on := 5, ground := Ground.data }], guard := none }) (v := ?_) rfl (by kernel_rfl) (by kernel_rfl) (by kernel_rfl) (fun _ _ _ h => h) (Or.inl ⟨by rfl, ?hy7⟩) (by assumption) ?_
        case hy7 => (intro w hSw; (try dsimp only at hSw); go_simp; try with_reducible rfl)
        (try simp only [Act.put, List.setIfInBounds_toArray, List.set_cons_zero, List.set_cons_succ])
        refine wpAnyH_take (i := 7) (oi := { dst := some 36, op := Op.indexAddr 28 (Operand.tmp 10) (Operand.tmp 35), type := 0, pos := "ref.go:60", after := #[{ on := 6, ground := Ground.data }], guard := none }) (v := ?_) rfl (by kernel_rfl) (by kernel_rfl) (by kernel_rfl) (fun _ _ _ h => h) (Or.inl ⟨by rfl, ?hy8⟩) (by assumption) ?_
        case hy8 => (intro w hSw; (try dsimp only at hSw); go_simp; try with_reducible rfl)
        (try simp only [Act.put, List.setIfInBounds_toArray, List.set_cons_zero, List.set_cons_succ])
        refine wpAnyH_take (i := 8) (oi := { dst := some 37, op := Op.load 5 (Operand.tmp 36), type := 5, pos := "ref.go:60", after := #[{ on := 7, ground := Ground.data }], guard := none }) (v := ?_) rfl (by kernel_rfl) (by kernel_rfl) (by kernel_rfl) (fun _ _ _ h => h) (Or.inl ⟨by rfl, ?hy9⟩) (by assumption) ?_
        case hy9 => (intro w hSw; (try dsimp only at hSw); go_simp; try with_reducible rfl)
        (try simp only [Act.put, List.setIfInBounds_toArray, List.set_cons_zero, List.set_cons_succ])
        refine wpAnyH_take (i := 9) (oi := { dst := some 38, op := Op.binOp BinOp.xor 5 (Operand.tmp 33) (Operand.tmp 37) 5, type := 5, pos := "ref.go:60", after := #[{ on := 4, ground := Ground.data }, { on := 8, ground := Ground.data }], guard := none }) (v := ?_) rfl (by kernel_rfl) (by kernel_rfl) (by kernel_rfl) (fun _ _ _ h => h) (Or.inl ⟨by rfl, ?hy10⟩) (by assumption) ?_
        case hy10 => (intro w hSw; (try dsimp only at hSw); go_simp; try with_reducible rfl)
        (try simp only [Act.put, List.setIfInBounds_toArray, List.set_cons_zero, List.set_cons_succ])
        refine wpAnyH_ready (rs := [10]) (by kernel_rfl) (by simp) (AllReadyH.cons (o := { dst := some 39, op := Op.buildSlice 32 1 #[(0, Operand.tmp 38)], type := 32, pos := "ref.go:60", after := #[{ on := 9, ground := Ground.data }], guard := none }) rfl (fun K hK => ?_) AllReadyH.nil)
        go_simp
        (try dsimp only)
        refine Shut.out hK _ _ ?_ (fun hS10 => ?_)
        · exact ⟨cell_below ((Below.refl (N + 2) w6).alloc hs6 _).drew hbR hS.1, cell_below ((Below.refl (N + 2) w6).alloc hs6 _).drew hRN2 hS.2.1, hS.2.2.1.trans (((Below.refl (N + 2) w6).alloc hs6 _).drew.mono hRN3), Nat.le_trans hS.2.2.2 ((Below.refl (N + 2) w6).alloc hs6 _).drew.size⟩
        clear hK K
        (try simp only [Act.put, List.setIfInBounds_toArray, List.set_cons_zero, List.set_cons_succ])
        refine wpAnyH_ready (rs := [11]) (by kernel_rfl) (by simp) (AllReadyH.cons (o := { dst := some 40, op := Op.call { callee := Callee.builtin Builtin.append, args := #[Operand.tmp 29, Operand.tmp 39], argTypes := #[32, 32] }, type := 32, pos := "ref.go:60", after := #[{ on := 0, ground := Ground.data }, { on := 10, ground := Ground.data }], guard := none }) rfl (fun K hK => ?_) AllReadyH.nil)
        refine step_app_byte _ (by rfl) _ _ _ (by rfl) Try.underlying32 Try.infoB rfl (B0 := N + 2) rfl (World.ownsRow.drew (World.ownsRow.alloc hO6.out _)) rfl (heap_at _ _) rfl hi47 hS10.2.2.2 ?_
        intro v7 w7 ho7 hb7
        (try dsimp only)
        refine Shut.out hK _ _ ?_ (fun hS11 => ?_)
        · exact ⟨cell_below hb7 hbR hS10.1, cell_below hb7 hRN2 hS10.2.1, hS10.2.2.1.trans (hb7.mono hRN3), Nat.le_trans hS10.2.2.2 hb7.size⟩
        clear hK K
        (try simp only [Act.put, List.setIfInBounds_toArray, List.set_cons_zero, List.set_cons_succ])
        refine wpAnyH_take (i := 12) (oi := { dst := some 9, op := Op.assign (Operand.tmp 40), type := 32, pos := "ref.go:60", after := #[{ on := 11, ground := Ground.data }, { on := 11, ground := Ground.chain }, { on := 0, ground := Ground.phase }, { on := 1, ground := Ground.phase }, { on := 2, ground := Ground.phase }, { on := 3, ground := Ground.phase }, { on := 4, ground := Ground.phase }, { on := 5, ground := Ground.phase }, { on := 6, ground := Ground.phase }, { on := 7, ground := Ground.phase }, { on := 8, ground := Ground.phase }, { on := 9, ground := Ground.phase }, { on := 10, ground := Ground.phase }, { on := 11, ground := Ground.phase }], guard := none }) (v := ?_) rfl (by kernel_rfl) (by kernel_rfl) (by kernel_rfl) (fun _ _ _ h => h) (Or.inl ⟨by rfl, ?hy11⟩) (by assumption) ?_
        case hy11 => (intro w hSw; (try dsimp only at hSw); go_simp; try with_reducible rfl)
        (try simp only [Act.put, List.setIfInBounds_toArray, List.set_cons_zero, List.set_cons_succ])
        refine wpAnyH_done (by kernel_rfl) ?_ _
        have hb67 : Below (N + 2) w6 w7 := (((Below.refl _ _).drew).alloc hs6 _).trans hb7
        all_goals go_wp2
        refine ⟨⟨i + 1, v7, blk key nonce s, by omega, rfl, by go_num, Lib.hid ?_, Lib.hid ⟨hB6.out.below hb67 (by omega), blk_length _ _ _, fun h => by rw [← HCN.out, show (i + 1) / 64 = i / 64 by omega]⟩, hwr6.trans (hb67.mono (by omega)), by have := hb67.size; omega⟩, by simp [intOf]; omega⟩
        rw [hcv.out, cells8_append]
        exact ho7
      · have e0 : ((i : Int) % 64 == 0) = false := by simp; omega
        have hcnb := hbl.out.2.2 h0
        rw [HCN.out] at hcnb
        subst hcnb
        obtain ⟨w6, hw6⟩ : ∃ w6 : World, w6 = wr := ⟨_, rfl⟩
        subst hw6
        have hB6 := Lib.hid hbl.out.1
        have hO6 := hown
        have hwr6 := hwr
        have hsz6 := hszr
        have hbw6 : Below K w w6 := hF0.out.2.2.2.1.trans (hwr.mono (by omega))
        have H0 := Lib.hid h0
        clear h0
        go_upto_region 8 with (fail)
        clear e0
        have j1 : (i : Int) < (L : Int) := by omega
        have j2 : (0 : Int) ≤ (i : Int) := by omega
        obtain ⟨r, rd, rt, rw', r64, rr⟩ : ∃ r : Nat, (i : Int) % 64 = (r : Int) ∧ (i : Int).tmod 64 = (r : Int) ∧ IntKind.i64.wrap (r : Int) = (r : Int) ∧ r < 64 ∧ Hid (i % 64 = r) := ⟨i % 64, by omega, by rw [Int.tmod_eq_emod_of_nonneg (by omega)]; omega, IntWalk.i64_in _ (by omega), by omega, Lib.hid rfl⟩
        have j3 : (r : Int) < 64 := by omega
        have hpl : i < l.length := by rw [HL.out]; exact hlt
        have hbc := hB6.out.cell r (by rw [blk_length]; exact r64)
        have hbg : (blk key nonce cn)[r]'(by rw [blk_length]; exact r64) = ksAt key nonce count i := by
          unfold ksAt
          rw [rr.out, HCN.out]
          have hbi : r < (blk key nonce cn).length := by rw [blk_length]; exact r64
          simp [List.getD_eq_getElem?_getD, hbi]
        rw [hbg] at hbc
        clear hbg
        obtain ⟨bb, off, rfl, hlc0⟩ := HB.out i hpl
        have hlc1 := ((HB.out.below (by rw [hK]; exact hbw6)).get i hpl)
        have HBB := Lib.hid (cell_lt hlc0)
        clear hlc0
        obtain ⟨c8, hxo, hcv⟩ : ∃ c8 : UInt8, bits BinOp.xor IntKind.u8 ((l[i]'hpl).toNat : Nat) ((ksAt key nonce count i).toNat : Nat) = (c8.toNat : Nat) ∧ Hid ((crossF key nonce count l).take (i + 1) = (crossF key nonce count l).take i ++ [c8]) := ⟨_, xor8 _ _, Lib.hid (by
          rw [List.take_succ_eq_append_getElem (by rw [crossF_length]; exact hpl)]
          simp [crossF])⟩
        generalize (l[i]'hpl).toNat = v1 at *
        generalize (ksAt key nonce count i).toNat = v2 at *
        have hi47 : i + 1 ≤ 140737488355328 := by omega
        have hs6 : N + 2 ≤ w6.heap.size := hsz6
        have hbR : bb < N + 2 := by have := HBB.out; omega
        have hRN2 : R < N + 2 := by omega
        have hRN3 : R ≤ N + 2 := by omega
        have hS : w6.cell? ⟨bb, off + i, none⟩ = some (.int .u8 (v1 : Nat)) ∧ w6.cell? ⟨R, r, none⟩ = some (.int .u8 (v2 : Nat)) ∧ Below R wo w6 ∧ N + 2 ≤ w6.heap.size := ⟨hlc1, hbc, hwr6, hs6⟩
        go_wp2
        refine wp_region_held_drew (S := (fun w' => w'.cell? ⟨bb, off + i, none⟩ = some (.int .u8 (v1 : Nat)) ∧ w'.cell? ⟨R, r, none⟩ = some (.int .u8 (v2 : Nat)) ∧ Below R wo w' ∧ N + 2 ≤ w'.heap.size)) (by kernel_rfl) ?_ (fun hS0 => ?_)
        · exact ⟨hS.1, hS.2.1, hS.2.2.1.drew, hS.2.2.2⟩
        refine wpAnyH_take (i := 0) (oi := { dst := some 29, op := Op.move (Operand.tmp 9), type := 32, pos := "ref.go:60", after := #[], guard := none }) (v := ?_) rfl (by kernel_rfl) (by kernel_rfl) (by kernel_rfl) (fun _ _ _ h => h) (Or.inl ⟨by rfl, ?hy1⟩) (by assumption) ?_
        case hy1 => (intro w hSw; (try dsimp only at hSw); go_simp; try with_reducible rfl)
        (try simp only [Act.put, List.setIfInBounds_toArray, List.set_cons_zero, List.set_cons_succ])
        refine wpAnyH_take (i := 1) (oi := { dst := some 30, op := Op.move (Operand.tmp 3), type := 32, pos := "ref.go:60", after := #[], guard := none }) (v := ?_) rfl (by kernel_rfl) (by kernel_rfl) (by kernel_rfl) (fun _ _ _ h => h) (Or.inl ⟨by rfl, ?hy2⟩) (by assumption) ?_
        case hy2 => (intro w hSw; (try dsimp only at hSw); go_simp; try with_reducible rfl)
        (try simp only [Act.put, List.setIfInBounds_toArray, List.set_cons_zero, List.set_cons_succ])
        refine wpAnyH_take (i := 2) (oi := { dst := some 31, op := Op.move (Operand.tmp 11), type := 3, pos := "ref.go:60", after := #[], guard := none }) (v := ?_) rfl (by kernel_rfl) (by kernel_rfl) (by kernel_rfl) (fun _ _ _ h => h) (Or.inl ⟨by rfl, ?hy3⟩) (by assumption) ?_
        case hy3 => (intro w hSw; (try dsimp only at hSw); go_simp; try with_reducible rfl)
        (try simp only [Act.put, List.setIfInBounds_toArray, List.set_cons_zero, List.set_cons_succ])
        refine wpAnyH_take (i := 3) (oi := { dst := some 32, op := Op.indexAddr 32 (Operand.tmp 30) (Operand.tmp 31), type := 0, pos := "ref.go:60", after := #[{ on := 1, ground := Ground.data }, { on := 2, ground := Ground.data }], guard := none }) (v := ?_) rfl (by kernel_rfl) (by kernel_rfl) (by kernel_rfl) (fun _ _ _ h => h) (Or.inl ⟨by rfl, ?hy4⟩) (by assumption) ?_
        case hy4 => (intro w hSw; (try dsimp only at hSw); go_simp; try with_reducible rfl)
        (try simp only [Act.put, List.setIfInBounds_toArray, List.set_cons_zero, List.set_cons_succ])
        refine wpAnyH_take (i := 4) (oi := { dst := some 33, op := Op.load 5 (Operand.tmp 32), type := 5, pos := "ref.go:60", after := #[{ on := 3, ground := Ground.data }], guard := none }) (v := ?_) rfl (by kernel_rfl) (by kernel_rfl) (by kernel_rfl) (fun _ _ _ h => h) (Or.inl ⟨by rfl, ?hy5⟩) (by assumption) ?_
        case hy5 => (intro w hSw; (try dsimp only at hSw); go_simp; try with_reducible rfl)
        (try simp only [Act.put, List.setIfInBounds_toArray, List.set_cons_zero, List.set_cons_succ])
        refine wpAnyH_take (i := 5) (oi := { dst := some 34, op := Op.move (Operand.tmp 11), type := 3, pos := "ref.go:60", after := #[], guard := none }) (v := ?_) rfl (by kernel_rfl) (by kernel_rfl) (by kernel_rfl) (fun _ _ _ h => h) (Or.inl ⟨by rfl, ?hy6⟩) (by assumption) ?_
        case hy6 => (intro w hSw; (try dsimp only at hSw); go_simp; try with_reducible rfl)
        (try simp only [Act.put, List.setIfInBounds_toArray, List.set_cons_zero, List.set_cons_succ])
        refine wpAnyH_take (i := 6) (oi := { dst := some 35, op := Op.binOp BinOp.rem 3 (Operand.tmp 34) (Operand.const (Value.int IntKind.i64 64)) 3, type := 3, pos := "ref.go:60", after := #[{ on := 5, ground := Ground.data }], guard := none }) (v := ?_) rfl (by kernel_rfl) (by kernel_rfl) (by kernel_rfl) (fun _ _ _ h => h) (Or.inl ⟨by rfl, ?hy7⟩) (by assumption) ?_
        case hy7 => (intro w hSw; (try dsimp only at hSw); go_simp; try with_reducible rfl)
        (try simp only [Act.put, List.setIfInBounds_toArray, List.set_cons_zero, List.set_cons_succ])
        refine wpAnyH_take (i := 7) (oi := { dst := some 36, op := Op.indexAddr 28 (Operand.tmp 10) (Operand.tmp 35), type := 0, pos := "ref.go:60", after := #[{ on := 6, ground := Ground.data }], guard := none }) (v := ?_) rfl (by kernel_rfl) (by kernel_rfl) (by kernel_rfl) (fun _ _ _ h => h) (Or.inl ⟨by rfl, ?hy8⟩) (by assumption) ?_
        case hy8 => (intro w hSw; (try dsimp only at hSw); go_simp; try with_reducible rfl)
        (try simp only [Act.put, List.setIfInBounds_toArray, List.set_cons_zero, List.set_cons_succ])
        refine wpAnyH_take (i := 8) (oi := { dst := some 37, op := Op.load 5 (Operand.tmp 36), type := 5, pos := "ref.go:60", after := #[{ on := 7, ground := Ground.data }], guard := none }) (v := ?_) rfl (by kernel_rfl) (by kernel_rfl) (by kernel_rfl) (fun _ _ _ h => h) (Or.inl ⟨by rfl, ?hy9⟩) (by assumption) ?_
        case hy9 => (intro w hSw; (try dsimp only at hSw); go_simp; try with_reducible rfl)
        (try simp only [Act.put, List.setIfInBounds_toArray, List.set_cons_zero, List.set_cons_succ])
        refine wpAnyH_take (i := 9) (oi := { dst := some 38, op := Op.binOp BinOp.xor 5 (Operand.tmp 33) (Operand.tmp 37) 5, type := 5, pos := "ref.go:60", after := #[{ on := 4, ground := Ground.data }, { on := 8, ground := Ground.data }], guard := none }) (v := ?_) rfl (by kernel_rfl) (by kernel_rfl) (by kernel_rfl) (fun _ _ _ h => h) (Or.inl ⟨by rfl, ?hy10⟩) (by assumption) ?_
        case hy10 => (intro w hSw; (try dsimp only at hSw); go_simp; try with_reducible rfl)
        (try simp only [Act.put, List.setIfInBounds_toArray, List.set_cons_zero, List.set_cons_succ])
        refine wpAnyH_ready (rs := [10]) (by kernel_rfl) (by simp) (AllReadyH.cons (o := { dst := some 39, op := Op.buildSlice 32 1 #[(0, Operand.tmp 38)], type := 32, pos := "ref.go:60", after := #[{ on := 9, ground := Ground.data }], guard := none }) rfl (fun K hK => ?_) AllReadyH.nil)
        go_simp
        (try dsimp only)
        refine Shut.out hK _ _ ?_ (fun hS10 => ?_)
        · exact ⟨cell_below ((Below.refl (N + 2) w6).alloc hs6 _).drew hbR hS.1, cell_below ((Below.refl (N + 2) w6).alloc hs6 _).drew hRN2 hS.2.1, hS.2.2.1.trans (((Below.refl (N + 2) w6).alloc hs6 _).drew.mono hRN3), Nat.le_trans hS.2.2.2 ((Below.refl (N + 2) w6).alloc hs6 _).drew.size⟩
        clear hK K
        (try simp only [Act.put, List.setIfInBounds_toArray, List.set_cons_zero, List.set_cons_succ])
        refine wpAnyH_ready (rs := [11]) (by kernel_rfl) (by simp) (AllReadyH.cons (o := { dst := some 40, op := Op.call { callee := Callee.builtin Builtin.append, args := #[Operand.tmp 29, Operand.tmp 39], argTypes := #[32, 32] }, type := 32, pos := "ref.go:60", after := #[{ on := 0, ground := Ground.data }, { on := 10, ground := Ground.data }], guard := none }) rfl (fun K hK => ?_) AllReadyH.nil)
        refine step_app_byte _ (by rfl) _ _ _ (by rfl) Try.underlying32 Try.infoB rfl (B0 := N + 2) rfl (World.ownsRow.drew (World.ownsRow.alloc hO6.out _)) rfl (heap_at _ _) rfl hi47 hS10.2.2.2 ?_
        intro v7 w7 ho7 hb7
        (try dsimp only)
        refine Shut.out hK _ _ ?_ (fun hS11 => ?_)
        · exact ⟨cell_below hb7 hbR hS10.1, cell_below hb7 hRN2 hS10.2.1, hS10.2.2.1.trans (hb7.mono hRN3), Nat.le_trans hS10.2.2.2 hb7.size⟩
        clear hK K
        (try simp only [Act.put, List.setIfInBounds_toArray, List.set_cons_zero, List.set_cons_succ])
        refine wpAnyH_take (i := 12) (oi := { dst := some 9, op := Op.assign (Operand.tmp 40), type := 32, pos := "ref.go:60", after := #[{ on := 11, ground := Ground.data }, { on := 11, ground := Ground.chain }, { on := 0, ground := Ground.phase }, { on := 1, ground := Ground.phase }, { on := 2, ground := Ground.phase }, { on := 3, ground := Ground.phase }, { on := 4, ground := Ground.phase }, { on := 5, ground := Ground.phase }, { on := 6, ground := Ground.phase }, { on := 7, ground := Ground.phase }, { on := 8, ground := Ground.phase }, { on := 9, ground := Ground.phase }, { on := 10, ground := Ground.phase }, { on := 11, ground := Ground.phase }], guard := none }) (v := ?_) rfl (by kernel_rfl) (by kernel_rfl) (by kernel_rfl) (fun _ _ _ h => h) (Or.inl ⟨by rfl, ?hy11⟩) (by assumption) ?_
        case hy11 => (intro w hSw; (try dsimp only at hSw); go_simp; try with_reducible rfl)
        (try simp only [Act.put, List.setIfInBounds_toArray, List.set_cons_zero, List.set_cons_succ])
        refine wpAnyH_done (by kernel_rfl) ?_ _
        have hb67 : Below (N + 2) w6 w7 := (((Below.refl _ _).drew).alloc hs6 _).trans hb7
        all_goals go_wp2
        refine ⟨⟨i + 1, v7, blk key nonce cn, by omega, rfl, by go_num, Lib.hid ?_, Lib.hid ⟨hB6.out.below hb67 (by omega), blk_length _ _ _, fun h => by rw [← HCN.out, show (i + 1) / 64 = i / 64 by omega]⟩, hwr6.trans (hb67.mono (by omega)), by have := hb67.size; omega⟩, by simp [intOf]; omega⟩
        rw [hcv.out, cells8_append]
        exact ho7
    · obtain rfl : i = L := by omega
      have hin : ¬ (i : Int) < (i : Int) := by omega
      have HFI : Hid ((crossF key nonce count l).take i = crossF key nonce count l) := Lib.hid (by rw [← HL.out, ← crossF_length key nonce count l, List.take_length])
      have hfin : Hid (wr.ownsRow K 5 1 v i (cells8 (crossF key nonce count l)) ∧ Below K w wr) := Lib.hid (by
        refine ⟨?_, hF0.out.2.2.2.1.trans (hwr.mono (by omega))⟩
        rw [← HFI.out]
        obtain ⟨h1, h2⟩ := hown.out
        refine ⟨h1, ?_⟩
        rcases h2 with h2 | ⟨g', cap', cur, hv', hg, r⟩
        · exact Or.inl h2
        · exact Or.inr ⟨g', cap', cur, hv', by omega, r⟩)
      go_wp2
      go_ret
      refine ⟨v, rfl, ?_, ?_⟩
      · first
          | exact hfin.out.1
          | (rw [hK]; exact hfin.out.1)
      · first
          | exact hfin.out.2
          | (rw [hK]; exact hfin.out.2)
end Go.Proofs.Ytogihaiedemdhaa

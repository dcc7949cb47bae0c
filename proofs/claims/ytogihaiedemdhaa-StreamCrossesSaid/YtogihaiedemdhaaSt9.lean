/-
  Crossed bytes, plainly; stream.Cross.
-/
import Derived.Test.YtogihaiedemdhaaSt8
import Derived.Laws.AppendOwnNone
namespace Go.Proofs.Ytogihaiedemdhaa
open Go.RowKit
set_option linter.unusedVariables false

/-- Byte i of the stream from a count on. -/
def ksAt (key nonce : List UInt8) (count i : Nat) : UInt8 := (blk key nonce ((count + i / 64) % 4294967296)).getD (i % 64) 0
def crossTo (key nonce : List UInt8) (count : Nat) (l : List UInt8) (n : Nat) : List UInt8 := l.mapIdx fun i c => if i < n then c ^^^ ksAt key nonce count i else c
/-- Bytes, each crossed with the stream's. -/
def crossF (key nonce : List UInt8) (count : Nat) (l : List UInt8) : List UInt8 := l.mapIdx fun i c => c ^^^ ksAt key nonce count i
theorem crossTo_length (key nonce : List UInt8) (count : Nat) (l : List UInt8) (n : Nat) : (crossTo key nonce count l n).length = l.length := by simp [crossTo]
theorem crossF_length (key nonce : List UInt8) (count : Nat) (l : List UInt8) : (crossF key nonce count l).length = l.length := by simp [crossF]
theorem crossTo_zero (key nonce : List UInt8) (count : Nat) (l : List UInt8) : crossTo key nonce count l 0 = l := by
  apply List.ext_getElem (crossTo_length _ _ _ _ _)
  intro i h1 h2
  simp [crossTo]
theorem crossTo_all (key nonce : List UInt8) (count : Nat) (l : List UInt8) (n : Nat) (h : l.length ≤ n) : crossTo key nonce count l n = crossF key nonce count l := by
  apply List.ext_getElem (by rw [crossTo_length, crossF_length])
  intro i h1 h2
  rw [crossTo_length] at h1
  simp [crossTo, crossF]
  omega
theorem crossTo_get (key nonce : List UInt8) (count : Nat) (l : List UInt8) (n i : Nat) (h : i < l.length) : (crossTo key nonce count l n)[i]'(by rw [crossTo_length]; exact h) = if i < n then l[i] ^^^ ksAt key nonce count i else l[i] := by simp [crossTo]
theorem crossTo_succ (key nonce : List UInt8) (count : Nat) (l : List UInt8) (n : Nat) (h : n < l.length) : crossTo key nonce count l (n + 1) = (crossTo key nonce count l n).set n (l[n] ^^^ ksAt key nonce count n) := by
  apply List.ext_getElem (by rw [crossTo_length, List.length_set, crossTo_length])
  intro i h1 h2
  rw [crossTo_length] at h1
  rw [crossTo_get _ _ _ _ _ _ h1, List.getElem_set]
  by_cases e : n = i
  · subst e; simp
  · rw [if_neg e, crossTo_get _ _ _ _ _ _ h1]
    have : (i < n + 1) ↔ i < n := by omega
    simp only [this]
theorem ks_block (key nonce : List UInt8) (count n j : Nat) (hn : n % 64 = 0) (hj : j < 64) : ksAt key nonce count (n + j) = (blk key nonce ((count + n / 64) % 4294967296)).getD j 0 := by
  unfold ksAt
  rw [show (n + j) / 64 = n / 64 by omega, show (n + j) % 64 = j by omega]
theorem xor8 (c d : UInt8) : bits BinOp.xor IntKind.u8 (c.toNat : Nat) (d.toNat : Nat) = ((c ^^^ d).toNat : Nat) := by
  rw [u8_xor_nat _ _ c.toNat_lt d.toNat_lt, UInt8.toNat_xor]

section laws
variable {P : Program} {ops : Array Oper} {rest : List Oper} {o : Oper} {a : Act} {Q : Exit → Act → World → Prop}
/-- 'append(out, m...)' of bytes, as many as a machine holds. -/
theorem app_bytes (w : World) (hgd : o.guard = none) (s x : Operand) (t : TypeId) (ho : o.op = .call { callee := .builtin .append, args := #[s, x], argTypes := #[t, t] })
    {E : TypeId} (ht : P.underlying t = some (.slice E)) {z : Value} (hi : (P.info? E).map (fun i => (i.zero, i.size, i.bytes)) = some (some z, 1, 1)) (hzc : z.cells.size = 1)
    {K n : Nat} {v : Value} {xs : List Value} (hs : a.eval s = v) (hown : w.ownsRow K E 1 v n xs) {b off m c : Nat} {ys : List Value} (hx : a.eval x = .slice (some ⟨b, off, none⟩) m c) (hm : ys.length = m)
    (hy : ∀ j u, ys[j]? = some u → w.cell? ⟨b, off + j, none⟩ = some u) (h1 : ∀ u ∈ ys, u.oneCell' = true) (hpos : 0 < m)
    (hl : n + m ≤ 140737488355328) (hK : K ≤ w.heap.size)
    (h : ∀ v' w', w'.ownsRow K E 1 v' (n + m) (xs ++ ys) → Below K w w' → v'.ownBlock ≠ none → wpList P ops Q rest (a.put o.dst v') w') : wpList P ops Q (o :: rest) a w := by
  obtain ⟨i0, hi0, hz0, hz1, hz2⟩ := info_parts hi
  refine wpList_append_lies w hgd s x t ho K E i0 z 1 1 ht hi0 hz0 hz1 hz2 hzc (by decide) v n xs hs hown ⟨b, off, none⟩ m c ys hx (by rw [hm, Nat.mul_one])
    (fun j u hu => by rw [addr_add]; exact hy j u hu) h1 hpos (by unfold maxLen; omega) (by rw [Nat.mul_one]; exact hl) hK _ rfl ?_
  intro g cap w' h2 h3 h4 h5
  exact h _ _ h2 ((Below.refl K w).grown h3 hK (fun k hk => (hown.lt k hk).1)) (by intro hh; cases hh)
end laws

set_option maxRecDepth 100000 in
set_option maxHeartbeats 3200000 in
theorem cross_any (key nonce : List UInt8) (count : Nat) (a : Option Addr) (cap : Nat) (l : List UInt8) (w : World) (hk : key.length = 32) (hn : nonce.length = 12) (hc : count < 4294967296) (hl : l.length ≤ 140737488351232) (hb : Bytes w a l) (hnil : a = none → cap = 0) (hlc : l.length ≤ cap) :
    Calls Try.prog 22 #[.agg (cells8 key).toArray, .agg (cells8 nonce).toArray, .int .u32 count, .slice a l.length cap] w fun e w' => ∃ g c, e = .returned (.slice (some ⟨g, 0, none⟩) l.length c) ∧ w'.ownsRow w.heap.size 5 1 (.slice (some ⟨g, 0, none⟩) l.length c) l.length (cells8 (crossF key nonce count l)) ∧ Below w.heap.size w w' := by
  obtain ⟨K, hK⟩ : ∃ K, w.heap.size = K := ⟨_, rfl⟩
  obtain ⟨N, hN⟩ : ∃ N, K + 1 = N := ⟨_, rfl⟩
  obtain ⟨L, hL⟩ : ∃ L, l.length = L := ⟨_, rfl⟩
  have HL := Lib.hid hL
  have HKL := Lib.hid (And.intro hk hn)
  have HB := Lib.hid hb
  rw [hL] at hl hlc ⊢
  clear hk hn hb hL
  go_enter Try.func22, Try.ntmps22
  go_upto_region 1 with (fail)
  go_cut [9] (fun s9 wx => ∃ g c, s9 = .slice (some ⟨g, 0, none⟩) L c ∧ Hid (BlkB 22 wx K key ∧ BlkB 23 wx N nonce ∧ wx.ownsRow (N + 1) 5 1 (.slice (some ⟨g, 0, none⟩) L c) L (cells8 l) ∧ Below K w wx ∧ N < wx.heap.size ∧ L ≤ c ∧ c ≤ maxLen))
  case first =>
    obtain ⟨w2, hw2, hF⟩ : ∃ w2, (w.alloc (Obj.cells (cells8 key).toArray 22)).alloc (Obj.cells (cells8 nonce).toArray 23) = w2 ∧ Hid (BlkB 22 w2 K key ∧ BlkB 23 w2 N nonce ∧ Below K w w2 ∧ w2.heap.size = N + 1) :=
      ⟨_, rfl, Lib.hid ⟨heap_keep (heap_at' hK), heap_at' (by simp; omega), ((Below.refl _ _).alloc (by omega) _).alloc (by simp; omega) _, by simp; omega⟩⟩
    rw [hw2]
    clear hw2
    have hE : Hid (∀ w3, Below w2.heap.size w2 w3 → BlkB 22 w3 K key ∧ BlkB 23 w3 N nonce ∧ Below K w w3 ∧ N < w3.heap.size) := Lib.hid (fun w3 h => by
      obtain ⟨f1, f2, f3, f4⟩ := hF.out
      exact ⟨f1.below h f1.lt, f2.below h f2.lt, f3.trans (h.mono (by omega)), by have := h.size; omega⟩)
    have hs0 : Hid (N + 1 ≤ w2.heap.size) := Lib.hid (by have := hF.out.2.2.2; omega)
    by_cases hL0 : L = 0
    · subst hL0
      have hl0 : Hid (cells8 l = []) := Lib.hid (by rw [List.eq_nil_of_length_eq_zero HL.out]; rfl)
      have HF : Hid (∃ g c, Value.slice (some ⟨w2.heap.size, 0, none⟩) 0 0 = .slice (some ⟨g, 0, none⟩) 0 c ∧ Hid (BlkB 22 (w2.alloc (.cells #[] 5)) K key ∧ BlkB 23 (w2.alloc (.cells #[] 5)) N nonce ∧ (w2.alloc (.cells #[] 5)).ownsRow (N + 1) 5 1 (.slice (some ⟨g, 0, none⟩) 0 c) 0 (cells8 l) ∧ Below K w (w2.alloc (.cells #[] 5)) ∧ N < (w2.alloc (.cells #[] 5)).heap.size ∧ 0 ≤ c ∧ c ≤ maxLen)) := Lib.hid (by
        obtain ⟨f1, f2, f3, f4⟩ := hE.out _ ((Below.refl _ _).alloc (Nat.le_refl _) (.cells #[] 5))
        exact ⟨_, _, rfl, Lib.hid ⟨f1, f2, by rw [hl0.out]; exact World.ownsRow_made (base := N + 1) w2 #[] 0 hs0.out (small_len _ (by omega)) rfl, f3, f4, Nat.le_refl _, small_len _ (by omega)⟩⟩)
      cases a with
      | none =>
        have hc0 : cap = 0 := hnil rfl
        subst hc0
        go_wp2
        go_meet
        case rel => exact HF.out
      | some x =>
        go_wp2
        go_meet
        case rel => exact HF.out
    · have hpos : 0 < L := by omega
      obtain ⟨b, off, rfl, _⟩ := HB.out 0 (by rw [HL.out]; exact hpos)
      have hsrc : ∀ j u, (cells8 l)[j]? = some u → (w2.alloc (.cells #[] 5)).cell? ⟨b, off + j, none⟩ = some u := fun j u hu => by
        have h3 := ((HB.out.below (by rw [hK]; exact hF.out.2.2.1)).alloc (.cells #[] 5)).news j u hu
        rwa [addr_add] at h3
      have HSR := Lib.hid hsrc
      clear hsrc
      have h0l : 0 + L ≤ 140737488355328 := by omega
      go_wp2_with (at_builtin; refine app_bytes _ rfl _ _ 32 rfl Try.underlying32 Try.infoB rfl (K := N + 1) rfl (World.ownsRow_made (base := N + 1) (e := 5) (size := 1) w2 #[] 0 hs0.out (small_len _ (by omega)) rfl) (b := b) (off := off) (m := L) (c := cap) (ys := cells8 l) rfl (by rw [cells8_length, HL.out]) HSR.out (cells8_one l) hpos h0l (Nat.le_trans hs0.out (by simp)) ?_; intro v3 w3 hown3 hb3 _; rw [List.nil_append, Nat.zero_add] at hown3; obtain ⟨g, c, rfl, hg⟩ := hown3.form hpos; have HO3 := Lib.hid hown3; clear hown3)
      go_meet
      case rel =>
        obtain ⟨f1, f2, f3, f4⟩ := hE.out _ ((Below.refl _ _).alloc (Nat.le_refl _) (.cells #[] 5))
        have h5 : BlkB 22 w3 K key := f1.below hb3 (by omega)
        have h6 : BlkB 23 w3 N nonce := f2.below hb3 (by omega)
        obtain ⟨_, h7, h8, _, _⟩ := bytes_owns (l := l) (by rw [HL.out]; exact HO3.out)
        rw [HL.out] at h7
        exact ⟨_, _, rfl, Lib.hid ⟨h5, h6, HO3.out, f3.trans (hb3.mono (by omega)), by have := hb3.size; omega, h7, h8⟩⟩
  case rest =>
    obtain ⟨g, c, rfl, hF⟩ := hcut
    have hgN : N + 1 ≤ g := (hF.out.2.2.1.lt g rfl).1
    obtain ⟨wo, hwo⟩ : ∃ wo : World, wo = wc := ⟨_, rfl⟩
    subst hwo
    have hO0 : Hid (wo.ownsRow (N + 1) 5 1 (.slice (some ⟨g, 0, none⟩) L c) L (cells8 (crossTo key nonce count l 0))) := Lib.hid (by rw [crossTo_zero]; exact hF.out.2.2.1)
    have hcm : c ≤ maxLen := hF.out.2.2.2.2.2.2
    have hLc : L ≤ c := hF.out.2.2.2.2.2.1
    obtain ⟨i0, hi0, hs1⟩ : ∃ i0, Try.prog.info? 5 = some i0 ∧ i0.size = 1 := by
      obtain ⟨i0, hi0, _, hz1, _⟩ := info_parts Try.infoB
      exact ⟨i0, hi0, hz1⟩
    have r1 := fun (a : Option Addr) (len cap k : Nat) (h : k ≤ len) (w : World) => run_cut_from Try.underlying32 hi0 a len cap k .i64 h w
    rw [hs1] at r1
    have R1 := Lib.hid r1
    clear r1 hi0 hs1
    go_wp2
    go_loopw [2, 10] (fun cv rv wr => ∃ (n cn : Nat) (x : Option Addr) (c' : Nat), n ≤ L ∧ cn < 4294967296 ∧ cv = .int .u32 cn ∧ rv = .slice x (L - n) c' ∧ L - n ≤ c' ∧ c' ≤ maxLen ∧ (n < L → n % 64 = 0 ∧ cn = (count + n / 64) % 4294967296 ∧ x = some ⟨g, n, none⟩) ∧ Hid (wr.ownsRow (N + 1) 5 1 (.slice (some ⟨g, 0, none⟩) L c) L (cells8 (crossTo key nonce count l n))) ∧ Below (N + 1) wo wr) (fun _ rv _ => match rv with | .slice _ n _ => n | _ => 0)
    case atStart => exact ⟨0, count, _, c, by omega, hc, rfl, rfl, by omega, hcm, fun _ => ⟨rfl, by simp; omega, rfl⟩, hO0, Below.refl _ _⟩
    case round =>
      obtain ⟨n, cn, x, c', hnL, hcn, rfl, rfl, hc'1, hc'2, hx, hown, hwr⟩ := hrel
      by_cases hlt : n < L
      · obtain ⟨hn64, hcnt, rfl⟩ := hx hlt
        have HN64 := Lib.hid hn64
        have HCN := Lib.hid hcnt
        clear hx hn64 hcnt
        obtain ⟨m, hm⟩ : ∃ m, L - n = m := ⟨_, rfl⟩
        rw [hm] at hc'1 ⊢
        have hm0 : 0 < m := by omega
        have hmL : m ≤ 140737488351232 := by omega
        have hmn : n + m = L := by omega
        have HMN := Lib.hid hmn
        clear hmn hm
        have im : (0 : Int) < (m : Int) := by omega
        obtain ⟨k, hk1, hk2, hk3, hk4, hk5⟩ : ∃ k : Nat, (if 64 < (m : Int) then 64 else (m : Int)) = (k : Int) ∧ k ≤ 64 ∧ k ≤ m ∧ 0 < k ∧ (k < m → k = 64) := ⟨min 64 m, by split <;> omega, by omega, by omega, by omega, by omega⟩
        have hkb := Lib.hid (hF.out.1.below hwr (by omega))
        have hnb := Lib.hid (hF.out.2.1.below hwr (by omega))
        have HCB : Hid (∀ w', Calls Try.prog 14 #[.agg (cells8 key).toArray, .agg (cells8 nonce).toArray, .int .u32 cn] w' fun e w'' => e = .returned (.agg (cells8 (blk key nonce cn)).toArray) ∧ Below w'.heap.size w' w'') := Lib.hid (fun w' => block_any key nonce cn w' HKL.out.1 HKL.out.2 hcn)
        have HKS : Hid (∀ i (h : i < 64), ksAt key nonce count (n + i) = (blk key nonce cn).getD i 0) := Lib.hid (fun i h => by
          have := ks_block key nonce count n i HN64.out h
          rw [this, ← HCN.out])
        have HBL := Lib.hid (blk_length key nonce cn)
        have HI32 : Hid (some 32 = some (cells8 key).toArray.size) := Lib.hid (by simp [cells8_length, HKL.out.1])
        have HI12 : Hid (some 12 = some (cells8 nonce).toArray.size) := Lib.hid (by simp [cells8_length, HKL.out.2])
        generalize blk key nonce cn = bl at *
        have HI64 : Hid (some 64 = some (cells8 bl).toArray.size) := Lib.hid (by simp [cells8_length, HBL.out])
        have hgl : g < wr.heap.size := (hown.out.lt g rfl).2
        have hNs : N + 1 ≤ wr.heap.size := by omega
        go_wp2_with (first
          | (refine wpList_load_row rfl 22 _ rfl K (by rfl) 22 (cells8 key).toArray (0, 0) _ hkb.out Try.underlying22 rfl (info32.trans HI32.out) ?_)
          | (refine wpList_load_row rfl 23 _ rfl N (by rfl) 23 (cells8 nonce).toArray (0, 0) _ hnb.out Try.underlying23 rfl (info12.trans HI12.out) ?_)
          | ((with_reducible refine (HCB.out _).mono ?_); rintro _ w5 ⟨rfl, hb5⟩; obtain ⟨O, hO⟩ : ∃ O, w5.heap.size = O := ⟨_, rfl⟩; have hZ : Hid (BlkB 28 (w5.alloc (Obj.cells #[Value.int IntKind.u8 0, Value.int IntKind.u8 0, Value.int IntKind.u8 0, Value.int IntKind.u8 0, Value.int IntKind.u8 0, Value.int IntKind.u8 0, Value.int IntKind.u8 0, Value.int IntKind.u8 0, Value.int IntKind.u8 0, Value.int IntKind.u8 0, Value.int IntKind.u8 0, Value.int IntKind.u8 0, Value.int IntKind.u8 0, Value.int IntKind.u8 0, Value.int IntKind.u8 0, Value.int IntKind.u8 0, Value.int IntKind.u8 0, Value.int IntKind.u8 0, Value.int IntKind.u8 0, Value.int IntKind.u8 0, Value.int IntKind.u8 0, Value.int IntKind.u8 0, Value.int IntKind.u8 0, Value.int IntKind.u8 0, Value.int IntKind.u8 0, Value.int IntKind.u8 0, Value.int IntKind.u8 0, Value.int IntKind.u8 0, Value.int IntKind.u8 0, Value.int IntKind.u8 0, Value.int IntKind.u8 0, Value.int IntKind.u8 0, Value.int IntKind.u8 0, Value.int IntKind.u8 0, Value.int IntKind.u8 0, Value.int IntKind.u8 0, Value.int IntKind.u8 0, Value.int IntKind.u8 0, Value.int IntKind.u8 0, Value.int IntKind.u8 0, Value.int IntKind.u8 0, Value.int IntKind.u8 0, Value.int IntKind.u8 0, Value.int IntKind.u8 0, Value.int IntKind.u8 0, Value.int IntKind.u8 0, Value.int IntKind.u8 0, Value.int IntKind.u8 0, Value.int IntKind.u8 0, Value.int IntKind.u8 0, Value.int IntKind.u8 0, Value.int IntKind.u8 0, Value.int IntKind.u8 0, Value.int IntKind.u8 0, Value.int IntKind.u8 0, Value.int IntKind.u8 0, Value.int IntKind.u8 0, Value.int IntKind.u8 0, Value.int IntKind.u8 0, Value.int IntKind.u8 0, Value.int IntKind.u8 0, Value.int IntKind.u8 0, Value.int IntKind.u8 0, Value.int IntKind.u8 0] 28)) O (List.replicate 64 0)) := Lib.hid (heap_at' hO); have HTH : Hid ((w5.alloc (Obj.cells #[Value.int IntKind.u8 0, Value.int IntKind.u8 0, Value.int IntKind.u8 0, Value.int IntKind.u8 0, Value.int IntKind.u8 0, Value.int IntKind.u8 0, Value.int IntKind.u8 0, Value.int IntKind.u8 0, Value.int IntKind.u8 0, Value.int IntKind.u8 0, Value.int IntKind.u8 0, Value.int IntKind.u8 0, Value.int IntKind.u8 0, Value.int IntKind.u8 0, Value.int IntKind.u8 0, Value.int IntKind.u8 0, Value.int IntKind.u8 0, Value.int IntKind.u8 0, Value.int IntKind.u8 0, Value.int IntKind.u8 0, Value.int IntKind.u8 0, Value.int IntKind.u8 0, Value.int IntKind.u8 0, Value.int IntKind.u8 0, Value.int IntKind.u8 0, Value.int IntKind.u8 0, Value.int IntKind.u8 0, Value.int IntKind.u8 0, Value.int IntKind.u8 0, Value.int IntKind.u8 0, Value.int IntKind.u8 0, Value.int IntKind.u8 0, Value.int IntKind.u8 0, Value.int IntKind.u8 0, Value.int IntKind.u8 0, Value.int IntKind.u8 0, Value.int IntKind.u8 0, Value.int IntKind.u8 0, Value.int IntKind.u8 0, Value.int IntKind.u8 0, Value.int IntKind.u8 0, Value.int IntKind.u8 0, Value.int IntKind.u8 0, Value.int IntKind.u8 0, Value.int IntKind.u8 0, Value.int IntKind.u8 0, Value.int IntKind.u8 0, Value.int IntKind.u8 0, Value.int IntKind.u8 0, Value.int IntKind.u8 0, Value.int IntKind.u8 0, Value.int IntKind.u8 0, Value.int IntKind.u8 0, Value.int IntKind.u8 0, Value.int IntKind.u8 0, Value.int IntKind.u8 0, Value.int IntKind.u8 0, Value.int IntKind.u8 0, Value.int IntKind.u8 0, Value.int IntKind.u8 0, Value.int IntKind.u8 0, Value.int IntKind.u8 0, Value.int IntKind.u8 0, Value.int IntKind.u8 0] 28)).there O 0 (cells8 bl).toArray.size) := Lib.hid (by have h7 := hZ.out.there; rw [List.length_replicate] at h7; simpa [cells8_length, HBL.out] using h7))
          | (refine wpList_store_mid rfl 28 _ _ rfl O 0 (cells8 bl).toArray (by rfl) (by rfl) HTH.out (info64.trans HI64.out) (cells8_all bl) ?_))
        have hgO : g < O := by have := hb5.size; omega
        have hS6 : Hid (BlkB 28 ((w5.alloc (Obj.cells #[Value.int IntKind.u8 0, Value.int IntKind.u8 0, Value.int IntKind.u8 0, Value.int IntKind.u8 0, Value.int IntKind.u8 0, Value.int IntKind.u8 0, Value.int IntKind.u8 0, Value.int IntKind.u8 0, Value.int IntKind.u8 0, Value.int IntKind.u8 0, Value.int IntKind.u8 0, Value.int IntKind.u8 0, Value.int IntKind.u8 0, Value.int IntKind.u8 0, Value.int IntKind.u8 0, Value.int IntKind.u8 0, Value.int IntKind.u8 0, Value.int IntKind.u8 0, Value.int IntKind.u8 0, Value.int IntKind.u8 0, Value.int IntKind.u8 0, Value.int IntKind.u8 0, Value.int IntKind.u8 0, Value.int IntKind.u8 0, Value.int IntKind.u8 0, Value.int IntKind.u8 0, Value.int IntKind.u8 0, Value.int IntKind.u8 0, Value.int IntKind.u8 0, Value.int IntKind.u8 0, Value.int IntKind.u8 0, Value.int IntKind.u8 0, Value.int IntKind.u8 0, Value.int IntKind.u8 0, Value.int IntKind.u8 0, Value.int IntKind.u8 0, Value.int IntKind.u8 0, Value.int IntKind.u8 0, Value.int IntKind.u8 0, Value.int IntKind.u8 0, Value.int IntKind.u8 0, Value.int IntKind.u8 0, Value.int IntKind.u8 0, Value.int IntKind.u8 0, Value.int IntKind.u8 0, Value.int IntKind.u8 0, Value.int IntKind.u8 0, Value.int IntKind.u8 0, Value.int IntKind.u8 0, Value.int IntKind.u8 0, Value.int IntKind.u8 0, Value.int IntKind.u8 0, Value.int IntKind.u8 0, Value.int IntKind.u8 0, Value.int IntKind.u8 0, Value.int IntKind.u8 0, Value.int IntKind.u8 0, Value.int IntKind.u8 0, Value.int IntKind.u8 0, Value.int IntKind.u8 0, Value.int IntKind.u8 0, Value.int IntKind.u8 0, Value.int IntKind.u8 0, Value.int IntKind.u8 0] 28)).setCells O 0 (cells8 bl)) O bl ∧ ((w5.alloc (Obj.cells #[Value.int IntKind.u8 0, Value.int IntKind.u8 0, Value.int IntKind.u8 0, Value.int IntKind.u8 0, Value.int IntKind.u8 0, Value.int IntKind.u8 0, Value.int IntKind.u8 0, Value.int IntKind.u8 0, Value.int IntKind.u8 0, Value.int IntKind.u8 0, Value.int IntKind.u8 0, Value.int IntKind.u8 0, Value.int IntKind.u8 0, Value.int IntKind.u8 0, Value.int IntKind.u8 0, Value.int IntKind.u8 0, Value.int IntKind.u8 0, Value.int IntKind.u8 0, Value.int IntKind.u8 0, Value.int IntKind.u8 0, Value.int IntKind.u8 0, Value.int IntKind.u8 0, Value.int IntKind.u8 0, Value.int IntKind.u8 0, Value.int IntKind.u8 0, Value.int IntKind.u8 0, Value.int IntKind.u8 0, Value.int IntKind.u8 0, Value.int IntKind.u8 0, Value.int IntKind.u8 0, Value.int IntKind.u8 0, Value.int IntKind.u8 0, Value.int IntKind.u8 0, Value.int IntKind.u8 0, Value.int IntKind.u8 0, Value.int IntKind.u8 0, Value.int IntKind.u8 0, Value.int IntKind.u8 0, Value.int IntKind.u8 0, Value.int IntKind.u8 0, Value.int IntKind.u8 0, Value.int IntKind.u8 0, Value.int IntKind.u8 0, Value.int IntKind.u8 0, Value.int IntKind.u8 0, Value.int IntKind.u8 0, Value.int IntKind.u8 0, Value.int IntKind.u8 0, Value.int IntKind.u8 0, Value.int IntKind.u8 0, Value.int IntKind.u8 0, Value.int IntKind.u8 0, Value.int IntKind.u8 0, Value.int IntKind.u8 0, Value.int IntKind.u8 0, Value.int IntKind.u8 0, Value.int IntKind.u8 0, Value.int IntKind.u8 0, Value.int IntKind.u8 0, Value.int IntKind.u8 0, Value.int IntKind.u8 0, Value.int IntKind.u8 0, Value.int IntKind.u8 0, Value.int IntKind.u8 0] 28)).setCells O 0 (cells8 bl)).ownsRow (N + 1) 5 1 (.slice (some ⟨g, 0, none⟩) L c) L (cells8 (crossTo key nonce count l n)) ∧ Below (N + 1) wo ((w5.alloc (Obj.cells #[Value.int IntKind.u8 0, Value.int IntKind.u8 0, Value.int IntKind.u8 0, Value.int IntKind.u8 0, Value.int IntKind.u8 0, Value.int IntKind.u8 0, Value.int IntKind.u8 0, Value.int IntKind.u8 0, Value.int IntKind.u8 0, Value.int IntKind.u8 0, Value.int IntKind.u8 0, Value.int IntKind.u8 0, Value.int IntKind.u8 0, Value.int IntKind.u8 0, Value.int IntKind.u8 0, Value.int IntKind.u8 0, Value.int IntKind.u8 0, Value.int IntKind.u8 0, Value.int IntKind.u8 0, Value.int IntKind.u8 0, Value.int IntKind.u8 0, Value.int IntKind.u8 0, Value.int IntKind.u8 0, Value.int IntKind.u8 0, Value.int IntKind.u8 0, Value.int IntKind.u8 0, Value.int IntKind.u8 0, Value.int IntKind.u8 0, Value.int IntKind.u8 0, Value.int IntKind.u8 0, Value.int IntKind.u8 0, Value.int IntKind.u8 0, Value.int IntKind.u8 0, Value.int IntKind.u8 0, Value.int IntKind.u8 0, Value.int IntKind.u8 0, Value.int IntKind.u8 0, Value.int IntKind.u8 0, Value.int IntKind.u8 0, Value.int IntKind.u8 0, Value.int IntKind.u8 0, Value.int IntKind.u8 0, Value.int IntKind.u8 0, Value.int IntKind.u8 0, Value.int IntKind.u8 0, Value.int IntKind.u8 0, Value.int IntKind.u8 0, Value.int IntKind.u8 0, Value.int IntKind.u8 0, Value.int IntKind.u8 0, Value.int IntKind.u8 0, Value.int IntKind.u8 0, Value.int IntKind.u8 0, Value.int IntKind.u8 0, Value.int IntKind.u8 0, Value.int IntKind.u8 0, Value.int IntKind.u8 0, Value.int IntKind.u8 0, Value.int IntKind.u8 0, Value.int IntKind.u8 0, Value.int IntKind.u8 0, Value.int IntKind.u8 0, Value.int IntKind.u8 0, Value.int IntKind.u8 0] 28)).setCells O 0 (cells8 bl))) := Lib.hid (by
          have hbel : Below wr.heap.size wr ((w5.alloc (Obj.cells #[Value.int IntKind.u8 0, Value.int IntKind.u8 0, Value.int IntKind.u8 0, Value.int IntKind.u8 0, Value.int IntKind.u8 0, Value.int IntKind.u8 0, Value.int IntKind.u8 0, Value.int IntKind.u8 0, Value.int IntKind.u8 0, Value.int IntKind.u8 0, Value.int IntKind.u8 0, Value.int IntKind.u8 0, Value.int IntKind.u8 0, Value.int IntKind.u8 0, Value.int IntKind.u8 0, Value.int IntKind.u8 0, Value.int IntKind.u8 0, Value.int IntKind.u8 0, Value.int IntKind.u8 0, Value.int IntKind.u8 0, Value.int IntKind.u8 0, Value.int IntKind.u8 0, Value.int IntKind.u8 0, Value.int IntKind.u8 0, Value.int IntKind.u8 0, Value.int IntKind.u8 0, Value.int IntKind.u8 0, Value.int IntKind.u8 0, Value.int IntKind.u8 0, Value.int IntKind.u8 0, Value.int IntKind.u8 0, Value.int IntKind.u8 0, Value.int IntKind.u8 0, Value.int IntKind.u8 0, Value.int IntKind.u8 0, Value.int IntKind.u8 0, Value.int IntKind.u8 0, Value.int IntKind.u8 0, Value.int IntKind.u8 0, Value.int IntKind.u8 0, Value.int IntKind.u8 0, Value.int IntKind.u8 0, Value.int IntKind.u8 0, Value.int IntKind.u8 0, Value.int IntKind.u8 0, Value.int IntKind.u8 0, Value.int IntKind.u8 0, Value.int IntKind.u8 0, Value.int IntKind.u8 0, Value.int IntKind.u8 0, Value.int IntKind.u8 0, Value.int IntKind.u8 0, Value.int IntKind.u8 0, Value.int IntKind.u8 0, Value.int IntKind.u8 0, Value.int IntKind.u8 0, Value.int IntKind.u8 0, Value.int IntKind.u8 0, Value.int IntKind.u8 0, Value.int IntKind.u8 0, Value.int IntKind.u8 0, Value.int IntKind.u8 0, Value.int IntKind.u8 0, Value.int IntKind.u8 0] 28)).setCells O 0 (cells8 bl)) := below_setCells (by have := hb5.size; omega) _ _ _ (hb5.alloc hb5.size _)
          exact ⟨hZ.out.put (by rw [List.length_replicate, HBL.out]), hown.out.kept (row := none) ⟨hbel.os, hbel.tape, hbel.output, hbel.size, fun k hk _ => hbel.block k hk⟩ (by simp [Value.ownBlock]), hwr.trans (hbel.mono hNs)⟩)
        obtain ⟨w6, hw6⟩ : ∃ w6, (w5.alloc (Obj.cells #[Value.int IntKind.u8 0, Value.int IntKind.u8 0, Value.int IntKind.u8 0, Value.int IntKind.u8 0, Value.int IntKind.u8 0, Value.int IntKind.u8 0, Value.int IntKind.u8 0, Value.int IntKind.u8 0, Value.int IntKind.u8 0, Value.int IntKind.u8 0, Value.int IntKind.u8 0, Value.int IntKind.u8 0, Value.int IntKind.u8 0, Value.int IntKind.u8 0, Value.int IntKind.u8 0, Value.int IntKind.u8 0, Value.int IntKind.u8 0, Value.int IntKind.u8 0, Value.int IntKind.u8 0, Value.int IntKind.u8 0, Value.int IntKind.u8 0, Value.int IntKind.u8 0, Value.int IntKind.u8 0, Value.int IntKind.u8 0, Value.int IntKind.u8 0, Value.int IntKind.u8 0, Value.int IntKind.u8 0, Value.int IntKind.u8 0, Value.int IntKind.u8 0, Value.int IntKind.u8 0, Value.int IntKind.u8 0, Value.int IntKind.u8 0, Value.int IntKind.u8 0, Value.int IntKind.u8 0, Value.int IntKind.u8 0, Value.int IntKind.u8 0, Value.int IntKind.u8 0, Value.int IntKind.u8 0, Value.int IntKind.u8 0, Value.int IntKind.u8 0, Value.int IntKind.u8 0, Value.int IntKind.u8 0, Value.int IntKind.u8 0, Value.int IntKind.u8 0, Value.int IntKind.u8 0, Value.int IntKind.u8 0, Value.int IntKind.u8 0, Value.int IntKind.u8 0, Value.int IntKind.u8 0, Value.int IntKind.u8 0, Value.int IntKind.u8 0, Value.int IntKind.u8 0, Value.int IntKind.u8 0, Value.int IntKind.u8 0, Value.int IntKind.u8 0, Value.int IntKind.u8 0, Value.int IntKind.u8 0, Value.int IntKind.u8 0, Value.int IntKind.u8 0, Value.int IntKind.u8 0, Value.int IntKind.u8 0, Value.int IntKind.u8 0, Value.int IntKind.u8 0, Value.int IntKind.u8 0] 28)).setCells O 0 (cells8 bl) = w6 := ⟨_, rfl⟩
        rw [hw6] at hS6 ⊢
        clear hw6 hZ HTH hO hb5 hkb hnb HCB
        go_loopw [31] (fun iv wj => ∃ i : Nat, i ≤ k ∧ iv = .int .i64 i ∧ Hid (wj.ownsRow (N + 1) 5 1 (.slice (some ⟨g, 0, none⟩) L c) L (cells8 (crossTo key nonce count l (n + i)))) ∧ Hid (BlkB 28 wj O bl) ∧ Below (N + 1) wo wj) (fun iv _ => k - (intOf iv).toNat)
        case atStart => exact ⟨0, by omega, rfl, Lib.hid hS6.out.2.1, Lib.hid hS6.out.1, hS6.out.2.2⟩
        case round =>
          obtain ⟨i, hik, rfl, hrow, hbo, hwj⟩ := hrel
          by_cases hlti : i < k
          · have j1 : (i : Int) < (k : Int) := by omega
            have j2 : (i : Int) < (m : Int) := by omega
            have j3 : (i : Int) < 64 := by omega
            have j4 : (0 : Int) ≤ (i : Int) := by omega
            have hpl : n + i < l.length := by rw [HL.out]; have := HMN.out; omega
            have hpL : n + i < L := by have := HMN.out; omega
            have hst := crossTo_succ key nonce count l (n + i) hpl
            rw [HKS.out i (by omega)] at hst
            have HST := Lib.hid hst
            clear hst
            have hpc : n + i < (crossTo key nonce count l (n + i)).length := by rw [crossTo_length]; exact hpl
            have hcell := hrow.out.cellAt (n + i) (by omega)
            rw [cells8_getElem? _ _ hpc, crossTo_get _ _ _ _ _ _ hpl, if_neg (by omega)] at hcell
            have hfr := hrow.out.frozenAt (n + i)
            have hbc := hbo.out.cell i (by rw [HBL.out]; omega)
            have hbg : bl[i]'(by rw [HBL.out]; omega) = bl.getD i 0 := by
              have hbi : i < bl.length := by rw [HBL.out]; omega
              simp [List.getD_eq_getElem?_getD, hbi]
            rw [hbg] at hbc
            clear hbg
            obtain ⟨c8, hxo, hcv⟩ : ∃ c8 : UInt8, bits BinOp.xor IntKind.u8 ((l[n + i]'hpl).toNat : Nat) ((bl.getD i 0).toNat : Nat) = (c8.toNat : Nat) ∧ Hid (crossTo key nonce count l (n + i + 1) = (crossTo key nonce count l (n + i)).set (n + i) c8) := ⟨_, xor8 _ _, HST⟩
            generalize (l[n + i]'hpl).toNat = v1 at *
            generalize (bl.getD i 0).toNat = v2 at *
            have hOg : ¬ g = O := by omega
            go_wp2
            go_still_tail 9, (by kernel_rfl)
            change wpList _ _ _ _ _ wr.drew
            go_wp2
            have h5 := hrow.out.stored (n + i) (.int .u8 (c8.toNat : Nat))
            rw [cells8_set] at h5
            refine ⟨⟨i + 1, by omega, by go_num, Lib.hid ?_, Lib.hid (hbo.out.keep (Below.heap_setCell _ _ _ _ (by show O ≠ g; omega))), (hwj.setCell (by show N + 1 ≤ g; omega) _).drew⟩, by simp [intOf]; omega⟩
            rw [show n + (i + 1) = n + i + 1 by omega, hcv.out]
            exact World.ownsRow.drew h5.1
          · obtain rfl : i = k := by omega
            have j1 : ¬ (i : Int) < (i : Int) := by omega
            have r1 := fun w => R1.out (some ⟨g, n, none⟩) m c' i hk3 w
            have hfin : Hid (n + i < L → (n + i) % 64 = 0 ∧ (cn + 1) % 4294967296 = (count + (n + i) / 64) % 4294967296 ∧ cutFrom (some ⟨g, n, none⟩) c' i 1 = some ⟨g, n + i, none⟩) := Lib.hid (fun h => by
              have h64 := hk5 (by have := HMN.out; omega)
              have q1 := HN64.out
              have q2 := HCN.out
              refine ⟨by omega, by omega, ?_⟩
              unfold cutFrom
              rw [if_neg (by have := HMN.out; omega), Nat.mul_one]
              simp [addr_add])
            have HLm : Hid (m - i = L - (n + i)) := Lib.hid (by have := HMN.out; omega)
            clear hk1 hk5
            go_wp2
            refine ⟨⟨n + i, (cn + 1) % 4294967296, _, c' - i, by have := HMN.out; omega, by omega, by go_num, by rw [← HLm.out], by have := HLm.out; omega, by omega, hfin.out, hrow, hwj⟩, by show m - i < m; omega⟩
      · obtain rfl : n = L := by omega
        rw [Nat.sub_self]
        have HFI := Lib.hid (crossTo_all key nonce count l n (by rw [HL.out]; exact Nat.le_refl _))
        have hfin : Hid (wr.ownsRow K 5 1 (.slice (some ⟨g, 0, none⟩) n c) n (cells8 (crossF key nonce count l)) ∧ Below K w wr) := Lib.hid (by
          refine ⟨?_, hF.out.2.2.2.1.trans (hwr.mono (by omega))⟩
          rw [← HFI.out]
          obtain ⟨h1, h2⟩ := hown.out
          refine ⟨h1, ?_⟩
          rcases h2 with h2 | ⟨g', cap', cur, hv', hg, r⟩
          · exact Or.inl h2
          · exact Or.inr ⟨g', cap', cur, hv', by omega, r⟩)
        clear hx
        go_wp2
        go_ret
        refine ⟨g, c, rfl, ?_, ?_⟩
        · first
            | exact hfin.out.1
            | (rw [hK]; exact hfin.out.1)
        · first
            | exact hfin.out.2
            | (rw [hK]; exact hfin.out.2)
end Go.Proofs.Ytogihaiedemdhaa

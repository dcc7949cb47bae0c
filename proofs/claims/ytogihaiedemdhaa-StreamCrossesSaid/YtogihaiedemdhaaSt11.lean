/-
  Readings for the crossing laws; StreamPlaces.
-/
import Derived.Test.YtogihaiedemdhaaSt10
import Derived.Test.YtogihaiedemdhaaBl9
import Derived.Deep.QuietTactic
import Derived.BigQuiet
namespace Go.Proofs.Ytogihaiedemdhaa
open Go.RowKit Go.ChangeShapes Go.WideShapes Go.ChangeAt
set_option linter.unusedVariables false

/-- Bytes as an argument gives them. -/
def BA (w : World) (a : Option Addr) (cap : Nat) (l : List UInt8) : Prop := l.length ≤ cap ∧ cap ≤ maxLen ∧ l.length ≤ 140737488351232 ∧ (a = none → cap = 0) ∧ Bytes w a l
section reads
variable {P : Program} {w : World} {H : Type} {enc : TypeId × Value → H}
theorem read_ba {base : Nat} {held : Bool} {t e : TypeId} {r : Reach} {b0 : Nat} {v : Value} {d : DataW H} {ps : List MemPlace} (ht : P.underlying t = some (.slice e)) (he : P.underlying e = some (.int .u8)) (hc : P.cellsOf e = 1) (hb : P.bytesOf e = 1)
    (hval : Value.okWide P w r b0 t v) (hd : DataW.Trod enc P w base (fun _ => true) held t v d ps) (hz : ∀ n ∈ d.weights P t, n ≤ reachBytes) :
    ∃ a cap l, v = .slice a l.length cap ∧ BA w a cap l := by
  obtain ⟨a, cap, l, rfl, h1, h2, h3⟩ := read_bytes ht he hc hval hd
  have h4 : cap ≤ 140737488351232 := reach_bytes ht he hc hb hd hz
  refine ⟨a, cap, l, rfl, h1, h2, by omega, fun h => ?_, h3⟩
  subst h
  obtain ⟨fuel, hf⟩ := hd
  rcases open_ints ht he hc hf with ⟨hcs, _⟩ | ⟨x, l', c, zs, hcs, _⟩
  · simp [Value.cells] at hcs
    exact hcs.2
  · simp [Value.cells] at hcs
end reads

theorem BA.below {w w' : World} {a : Option Addr} {cap : Nat} {l : List UInt8} (h : BA w a cap l) (hb : Below w.heap.size w w') : BA w' a cap l := ⟨h.1, h.2.1, h.2.2.1, h.2.2.2.1, h.2.2.2.2.below hb⟩
theorem cross_ba (key nonce : List UInt8) (count : Nat) (a : Option Addr) (cap : Nat) (l : List UInt8) (w : World) (hk : key.length = 32) (hn : nonce.length = 12) (hc : count < 4294967296) (h : BA w a cap l) :
    Calls Try.prog 22 #[.agg (cells8 key).toArray, .agg (cells8 nonce).toArray, .int .u32 count, .slice a l.length cap] w fun e w' => ∃ g c, e = .returned (.slice (some ⟨g, 0, none⟩) l.length c) ∧ Hid (w'.ownsRow w.heap.size 5 1 (.slice (some ⟨g, 0, none⟩) l.length c) l.length (cells8 (crossF key nonce count l)) ∧ BA w' (some ⟨g, 0, none⟩) c (crossF key nonce count l)) ∧ Below w.heap.size w w' := by
  refine (cross_any key nonce count a cap l w hk hn hc h.2.2.1 h.2.2.2.2 h.2.2.2.1 h.1).mono ?_
  rintro _ w' ⟨g, c, rfl, ho, hb⟩
  have ho' := ho
  rw [← crossF_length key nonce count l] at ho'
  obtain ⟨_, h1, h2, _, h3⟩ := bytes_owns ho'
  exact ⟨g, c, rfl, Lib.hid ⟨ho, h1, h2, by rw [crossF_length]; exact h.2.2.1, (fun e => by cases e), h3⟩, hb⟩

/-- The place's cells lie in their block. -/
def PL (w0 : World) (pb : Nat) (key nonce : List UInt8) (count : Nat) (w' : World) : Prop := w'.rangeAt pb 0 (cells8 key) ∧ w'.rangeAt pb 32 (cells8 nonce) ∧ w'.cell? ⟨pb, 44, none⟩ = some (.int .u32 (count : Nat)) ∧ Below w0.heap.size w0 w'
theorem PL.bel {w0 w : World} {pb count : Nat} {key nonce : List UInt8} (h : PL w0 pb key nonce count w) : Below w0.heap.size w0 w := h.2.2.2
theorem PL.later {w0 w w' : World} {pb count : Nat} {key nonce : List UInt8} (h : PL w0 pb key nonce count w) (hb : Below w.heap.size w w') : PL w0 pb key nonce count w' :=
  ⟨rangeAt_later h.1 hb, rangeAt_later h.2.1 hb, by rw [hb.cell (p := ⟨pb, 44, none⟩) (cell_lt h.2.2.1)]; exact h.2.2.1, h.2.2.2.trans (hb.mono h.2.2.2.size)⟩
theorem PL.start (key nonce : List UInt8) (count : Nat) (w : World) (hk : key.length = 32) (hn : nonce.length = 12) : PL w w.heap.size key nonce count (w.alloc (.cells (placeCells key nonce count).toArray 26)) := by
  have h := place_ranges (w := w.alloc (.cells (placeCells key nonce count).toArray 26)) (K := w.heap.size) (heap_at _ _) hk hn
  exact ⟨h.1, h.2.1, h.2.2, (Below.refl w.heap.size w).alloc (Nat.le_refl _) _⟩
theorem xor_cancel (a b k : UInt8) : (a ^^^ k) ^^^ (b ^^^ k) = a ^^^ b := by
  rw [UInt8.xor_comm b k, UInt8.xor_assoc, ← UInt8.xor_assoc k k b, UInt8.xor_self, UInt8.zero_xor]
theorem crossF_get (key nonce : List UInt8) (count : Nat) (l : List UInt8) (i : Nat) (h : i < l.length) : (crossF key nonce count l)[i]'(by rw [crossF_length]; exact h) = l[i] ^^^ ksAt key nonce count i := by simp [crossF]

set_option maxRecDepth 100000 in
set_option maxHeartbeats 1600000 in
theorem law_places (key nonce : List UInt8) (count : Nat) (a1 : Option Addr) (cap1 : Nat) (l1 : List UInt8) (a2 : Option Addr) (cap2 : Nat) (l2 : List UInt8) (w : World) (hk : key.length = 32) (hn : nonce.length = 12) (hc : count < 4294967296) (h1 : BA w a1 cap1 l1) (h2 : BA w a2 cap2 l2) :
    Calls Try.prog 12 #[.agg (placeCells key nonce count).toArray, .slice a1 l1.length cap1, .slice a2 l2.length cap2] w fun e w' => e = .returned (.bool true) ∧ Below w.heap.size w w' := by
  have HC1 : Hid (∀ w', Below w.heap.size w w' → Calls Try.prog 22 #[.agg (cells8 key).toArray, .agg (cells8 nonce).toArray, .int .u32 count, .slice a1 l1.length cap1] w' fun e w'' => ∃ g c, e = .returned (.slice (some ⟨g, 0, none⟩) l1.length c) ∧ Hid (w''.ownsRow w'.heap.size 5 1 (.slice (some ⟨g, 0, none⟩) l1.length c) l1.length (cells8 (crossF key nonce count l1)) ∧ BA w'' (some ⟨g, 0, none⟩) c (crossF key nonce count l1)) ∧ Below w'.heap.size w' w'') := Lib.hid (fun w' h => cross_ba key nonce count a1 cap1 l1 w' hk hn hc (h1.below h))
  have HC2 : Hid (∀ w', Below w.heap.size w w' → Calls Try.prog 22 #[.agg (cells8 key).toArray, .agg (cells8 nonce).toArray, .int .u32 count, .slice a2 l2.length cap2] w' fun e w'' => ∃ g c, e = .returned (.slice (some ⟨g, 0, none⟩) l2.length c) ∧ Hid (w''.ownsRow w'.heap.size 5 1 (.slice (some ⟨g, 0, none⟩) l2.length c) l2.length (cells8 (crossF key nonce count l2)) ∧ BA w'' (some ⟨g, 0, none⟩) c (crossF key nonce count l2)) ∧ Below w'.heap.size w' w'') := Lib.hid (fun w' h => cross_ba key nonce count a2 cap2 l2 w' hk hn hc (h2.below h))
  obtain ⟨pb, hK⟩ : ∃ pb, w.heap.size = pb := ⟨_, rfl⟩
  have HP0 := Lib.hid (PL.start key nonce count w hk hn)
  have HI32 : Hid (some 32 = some (cells8 key).length) := Lib.hid (by rw [cells8_length, hk])
  have HI12 : Hid (some 12 = some (cells8 nonce).length) := Lib.hid (by rw [cells8_length, hn])
  rw [hK] at HP0
  have HB1 := Lib.hid h1
  have HB2 := Lib.hid h2
  have hm1 : l1.length ≤ 140737488351232 := h1.2.2.1
  have hm2 : l2.length ≤ 140737488351232 := h2.2.2.1
  obtain ⟨n1, hn1⟩ : ∃ n1, l1.length = n1 := ⟨_, rfl⟩
  obtain ⟨n2, hn2⟩ : ∃ n2, l2.length = n2 := ⟨_, rfl⟩
  rw [hn1] at hm1 HC1 ⊢
  rw [hn2] at hm2 HC2 ⊢
  have HN1 := Lib.hid hn1
  have HN2 := Lib.hid hn2
  clear hk hn h1 h2 hn1 hn2
  generalize placeCells key nonce count = pc at *
  go_enter Try.func12, Try.ntmps12
  go_wp2_with (first
    | ((with_reducible refine (sshown_any _).mono ?_); rintro _ w1 ⟨rfl, hb1⟩; have HP1 := Lib.hid (HP0.out.later hb1); have hc1 := HP1.out.2.2.1; clear HP0)
    | (refine wpList_load_mid rfl 22 _ rfl pb 0 (by rfl) (cells8 key) _ HP2.out.1 Try.underlying22 rfl (info32.trans HI32.out) ?_)
    | (refine wpList_load_mid rfl 23 _ rfl pb 32 (by rfl) (cells8 nonce) _ HP2.out.2.1 Try.underlying23 rfl (info12.trans HI12.out) ?_)
    | (refine wpList_load_mid rfl 22 _ rfl pb 0 (by rfl) (cells8 key) _ HP1.out.1 Try.underlying22 rfl (info32.trans HI32.out) ?_)
    | (refine wpList_load_mid rfl 23 _ rfl pb 32 (by rfl) (cells8 nonce) _ HP1.out.2.1 Try.underlying23 rfl (info12.trans HI12.out) ?_)
    | ((with_reducible refine (HC1.out _ HP1.out.bel).mono ?_); rintro _ w2 ⟨g1, c1, rfl, hx1, hb2⟩; have HP2 := Lib.hid (HP1.out.later hb2); have hc2 := HP2.out.2.2.1)
    | ((with_reducible refine (HC2.out _ HP2.out.bel).mono ?_); rintro _ w3 ⟨g2, c2, rfl, hx2, hb3⟩; have HP3 := Lib.hid (HP2.out.later hb3)))
  go_loopw [42] (fun iv wr => ∃ i : Nat, i ≤ n1 ∧ iv = .int .i64 i ∧ Below w3.heap.size w3 wr) (fun iv _ => n1 - (intOf iv).toNat)
  case atStart => exact ⟨0, by omega, rfl, Below.refl _ _⟩
  case round =>
    obtain ⟨i, hi, rfl, hwr⟩ := hrel
    by_cases hlt : i < n1
    · have i1 : (i : Int) < (n1 : Int) := by omega
      have i0 : (0 : Int) ≤ (i : Int) := by omega
      by_cases hlt2 : i < n2
      · have i2 : (i : Int) < (n2 : Int) := by omega
        have p1 : i < l1.length := by rw [HN1.out]; exact hlt
        have p2 : i < l2.length := by rw [HN2.out]; exact hlt2
        have f1 := crossF_get key nonce count l1 i p1
        have f2 := crossF_get key nonce count l2 i p2
        obtain ⟨_, _, e1, x1⟩ := ((hx1.out.2.below hb3).below hwr).2.2.2.2 i (by rw [crossF_length]; exact p1)
        cases e1
        obtain ⟨_, _, e2, x2⟩ := (hx2.out.2.below hwr).2.2.2.2 i (by rw [crossF_length]; exact p2)
        cases e2
        obtain ⟨b3, o3, rfl, x3⟩ := (HB1.out.below (HP3.out.2.2.2.trans (hwr.mono HP3.out.2.2.2.size))).2.2.2.2 i p1
        obtain ⟨b4, o4, rfl, x4⟩ := (HB2.out.below (HP3.out.2.2.2.trans (hwr.mono HP3.out.2.2.2.size))).2.2.2.2 i p2
        rw [f1, Nat.zero_add] at x1
        rw [f2, Nat.zero_add] at x2
        have q1 := xor8 (l1[i] ^^^ ksAt key nonce count i) (l2[i] ^^^ ksAt key nonce count i)
        have q2 := xor8 l1[i] l2[i]
        rw [xor_cancel] at q1
        clear f1 f2
        generalize (l1[i] ^^^ ksAt key nonce count i).toNat = v1 at *
        generalize (l2[i] ^^^ ksAt key nonce count i).toNat = v2 at *
        generalize (l1[i] ^^^ l2[i]).toNat = v5 at *
        generalize l1[i].toNat = v3 at *
        generalize l2[i].toNat = v4 at *
        go_wp2
        go_quiet (fail)
        go_wp2
        refine ⟨⟨i + 1, by omega, by go_num, below_drewN hwr _⟩, by simp [intOf]; omega⟩
      · have i2 : ¬ (i : Int) < (n2 : Int) := by omega
        go_wp2
        go_quiet (fail)
        go_wp2
        refine ⟨⟨i + 1, by omega, by go_num, below_drewN hwr _⟩, by simp [intOf]; omega⟩
    · have i1 : ¬ (i : Int) < (n1 : Int) := by omega
      go_wp2
      go_ret
      have hfin := HP3.out.bel.trans (hwr.mono HP3.out.bel.size)
      rw [hK] at hfin
      exact ⟨rfl, hfin⟩
end Go.Proofs.Ytogihaiedemdhaa

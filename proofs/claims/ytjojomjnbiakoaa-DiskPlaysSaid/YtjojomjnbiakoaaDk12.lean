/-
  The document's examples: 'shown'.
-/
import Derived.Test.YtjojomjnbiakoaaDk11
import Derived.Lib.SlBytesConst
namespace Go.Proofs.Ytjojomjnbiakoaa
open Go.RowKit Go.Maps Go.ChangeShapes
set_option linter.unusedVariables false
theorem to_string_run {P : Program} (w : World) (st t e : TypeId) (a : Option Addr) (l : List UInt8) (cap : Nat) (hst : P.underlying st = some (.slice e)) (he : P.underlying e = some (.int .u8)) (ht : P.underlying t = some .string) (hb : Bytes w a l) :
    (convert st t (.slice a l.length cap)).run P w = .ok (.string ⟨l.toArray⟩) w := by
  cases l with
  | nil =>
    cases a with
    | none => exact run_convert_bytes_nil w st e hst he 0 cap t ht
    | some x => exact run_convert_bytes_back w st t e x cap [] hst he ht (fun j hj => absurd hj (by simp))
  | cons c l =>
    obtain ⟨b, off, rfl, _⟩ := hb 0 (by simp)
    refine run_convert_bytes_back w st t e ⟨b, off, none⟩ cap (c :: l) hst he ht (fun j hj => ?_)
    obtain ⟨b', off', e', hc⟩ := hb j hj
    simp only [Option.some.injEq, Addr.mk.injEq, and_true] at e'
    obtain ⟨rfl, rfl⟩ := e'
    rw [addr_add]; exact hc
theorem str_of {w : World} {a : Option Addr} {l : List UInt8} (cap : Nat) (hb : Bytes w a l) : (convert 27 9 (.slice a l.length cap)).run Try.prog w = .ok (.string ⟨l.toArray⟩) w :=
  to_string_run w _ _ 5 a l cap Try.underlying27 Try.underlying5 Try.underlying9 hb

theorem make7 (w : World) : (Instr.makeSlice 27 (.int .i64 7) (.int .i64 7)).run Try.prog w = .ok (.slice (some ⟨w.heap.size, 0, none⟩) 7 7) (w.alloc (.cells (madeCells #[.int .u8 0] 7) 5)) := by
  obtain ⟨i0, hi0, hz0, hz1, hz2⟩ := info_parts infoU8
  have := run_make (P := Try.prog) w 27 5 i0 _ Try.underlying27 hi0 hz0 .i64 .i64 7 7 (by omega) (by omega) (by rw [hz2]; omega) (by omega)
  rw [hz1, show (Value.int .u8 0).cells = #[Value.int .u8 0] from rfl, Nat.mul_one] at this
  simpa using this
/-- A disk of the call's own, in blocks that are new since w. -/
structure Own (w w' : World) (bd bm : Nat) (A : DM) : Prop where
  st : DiskSt w' bd bm A
  bl : Below w.heap.size w w'
  gd : w.heap.size ≤ bd
  gm : w.heap.size ≤ bm
theorem Own.later {w w1 w2 : World} {bd bm : Nat} {A : DM} (h : Own w w1 bd bm A) (hb : Below w1.heap.size w1 w2) : Own w w2 bd bm A :=
  ⟨h.st.later hb, h.bl.trans (hb.mono h.bl.size), h.gd, h.gm⟩
theorem Own.op {w w1 w2 : World} {bd bm : Nat} {A B : DM} (h : Own w w1 bd bm A) (hd : DiskSt w2 bd bm B) (hu : Upd (DS bd bm) w1 w2) : Own w w2 bd bm B :=
  ⟨hd, h.bl.trans (hu.below h.bl.size fun k q => by
    rcases q with rfl | rfl
    · exact h.gd
    · exact h.gm), h.gd, h.gm⟩
theorem Own.bd {S : Nat → Prop} {w w1 w2 : World} {bd bm : Nat} {A B : DM} (h : Own w w1 bd bm A) (hd : DiskSt w2 bd bm B) (hu : Upd (· = bd) w1 w2) : Own w w2 bd bm B := h.op hd (hu.mono fun k q => Or.inl q)

def S0 : DM := ⟨[], 10, false, -1, 0⟩
def S1 : DM := ⟨[([97], ⟨[120, 121, 122], 0⟩)], 10, false, -1, 1⟩
def S2 : DM := ⟨[([97], ⟨[120, 121, 122], 3⟩)], 10, false, -1, 2⟩
def S3 : DM := ⟨[([97], ⟨[120, 121, 122, 117, 118], 3⟩)], 10, false, -1, 3⟩
def S4 : DM := ⟨[([97], ⟨[120, 121, 122, 117], 4⟩)], 10, false, -1, 3⟩
def S5 : DM := ⟨[([97], ⟨[120, 121, 122, 117], 4⟩)], 10, false, 0, 3⟩
def S6 : DM := ⟨[([97], ⟨[120, 121, 122, 117], 4⟩)], 10, true, -1, 3⟩
abbrev kA : ByteArray := { data := #[97] }
theorem sh1 : S0.append (keyB kA) [120, 121, 122] = (S1, 0) := by rfl
theorem sh2 : S1.sync (keyB kA) = (S2, 0) := by rfl
theorem sh3 : S2.append (keyB kA) [117, 118] = (S3, 0) := by rfl
theorem sh4 : S3.crash [1] = S4 := by rfl
theorem sh5 : S4.read (keyB kA) = ([120, 121, 122, 117], 0) := by rfl
theorem sh6 : S4.append (keyB kA) [0, 0, 0, 0, 0, 0, 0] = (S4, 141) := by rfl
theorem sh7 : S4.cut 0 = S5 := by rfl
theorem sh8 : S5.sync (keyB kA) = (S6, 140) := by rfl
theorem lim_small (A : DM) (h1 : A.fs.length ≤ 9) (h2 : tot A.fs ≤ 9) (h3 : A.done ≤ 9) : A.Lim 9 9 := ⟨h1, h2, h3⟩
theorem blk3 {w : World} {g : Nat} {fr : Nat × Nat} (x y z : UInt8) (h : w.heap[g]? = some (.cells #[.int .u8 (x.toNat : Nat), .int .u8 (y.toNat : Nat), .int .u8 (z.toNat : Nat)] 5 fr)) : Bytes w (some ⟨g, 0, none⟩) [x, y, z] := by
  intro i hi
  refine ⟨g, 0, rfl, ?_⟩
  simp only [World.cell?, h]
  match i, hi with
  | 0, _ => rfl
  | 1, _ => rfl
  | 2, _ => rfl
theorem blk2 {w : World} {g : Nat} {fr : Nat × Nat} (x y : UInt8) (h : w.heap[g]? = some (.cells #[.int .u8 (x.toNat : Nat), .int .u8 (y.toNat : Nat)] 5 fr)) : Bytes w (some ⟨g, 0, none⟩) [x, y] := by
  intro i hi
  refine ⟨g, 0, rfl, ?_⟩
  simp only [World.cell?, h]
  match i, hi with
  | 0, _ => rfl
  | 1, _ => rfl
theorem blk7 {w : World} {g : Nat} {fr : Nat × Nat} (h : w.heap[g]? = some (.cells (madeCells #[.int .u8 0] 7) 5 fr)) : Bytes w (some ⟨g, 0, none⟩) [0, 0, 0, 0, 0, 0, 0] := bytes_block _ h (by rw [toList_madeCells_one]; rfl)
theorem ints1 {w : World} {g : Nat} {fr : Nat × Nat} (h : w.heap[g]? = some (.cells #[.int .i64 1] 3 fr)) : Ints w (some ⟨g, 0, none⟩) [1] := by
  intro i hi
  refine ⟨g, 0, rfl, ?_, ?_, ?_⟩
  · simp only [World.cell?, h]
    match i, hi with
    | 0, _ => rfl
  · match i, hi with
    | 0, _ => show (-9223372036854775808 : Int) ≤ 1; decide
  · match i, hi with
    | 0, _ => show (1 : Int) ≤ 9223372036854775807; decide

set_option maxRecDepth 100000 in
set_option maxHeartbeats 1600000 in
theorem shown_any (w : World) :
    Calls Try.prog 8 #[] w fun e w' => e = .returned (.bool true) ∧ Below w.heap.size w w' := by
  have HN := Lib.hid (new_any 10 w (by decide))
  go_enter Try.func8, Try.ntmps8
  go_wp2_with fail
  refine HN.out.mono ?_
  rintro _ w1 ⟨bd, bm, rfl, hd, hgd, hgm, hb⟩
  have HO1 : Hid (Own w w1 bd bm S0) := Lib.hid ⟨hd, hb, hgd, hgm⟩
  clear HN hd hgd hgm hb
  have HA2 : Hid (Below w1.heap.size w1 (w1.alloc (.cells #[.int .u8 120, .int .u8 121, .int .u8 122] 5 (3, 4)))) := Lib.hid ((Below.refl _ _).alloc (Nat.le_refl _) _)
  have HB2 : Hid (Bytes (w1.alloc (.cells #[.int .u8 120, .int .u8 121, .int .u8 122] 5 (3, 4))) (some ⟨w1.heap.size, 0, none⟩) [120, 121, 122]) := Lib.hid (blk3 120 121 122 (heap_at _ _))
  have hcv1 : (convert 27 27 (.slice (some ⟨w1.heap.size, 0, none⟩) 3 3)).run Try.prog (w1.alloc (.cells #[.int .u8 120, .int .u8 121, .int .u8 122] 5)) = .ok (.slice (some ⟨w1.heap.size, 0, none⟩) 3 3) (w1.alloc (.cells #[.int .u8 120, .int .u8 121, .int .u8 122] 5 (3, 4))) := Lib.run_convert_bytes_const w1 _ _ _ 3 3 Try.underlying27 Try.underlying5
  go_wp2_with fail
  clear hcv1
  refine (append_any bd bm S0 kA _ _ [120, 121, 122] 9 9 _ (by decide) (by decide) (by decide) (lim_small _ (by decide) (by decide) (by decide)) HB2.out (HO1.out.later HA2.out).st.safe (HO1.out.later HA2.out).st).mono ?_
  rintro _ w2 ⟨rfl, hd, hu⟩
  rw [sh1] at hd ⊢
  have HO2 := Lib.hid ((HO1.out.later HA2.out).op hd hu)
  clear hd hu HO1 HA2 HB2
  go_wp2_with fail
  refine (sync_any bd bm S1 kA 9 9 _ (by decide) (by decide) (by decide) (lim_small _ (by decide) (by decide) (by decide)) HO2.out.st).mono ?_
  rintro _ w3 ⟨rfl, hd, hu⟩
  rw [sh2] at hd ⊢
  have HO3 := Lib.hid (HO2.out.op hd hu)
  clear hd hu HO2
  have HA3 : Hid (Below w3.heap.size w3 (w3.alloc (.cells #[.int .u8 117, .int .u8 118] 5 (2, 3)))) := Lib.hid ((Below.refl _ _).alloc (Nat.le_refl _) _)
  have HB3 : Hid (Bytes (w3.alloc (.cells #[.int .u8 117, .int .u8 118] 5 (2, 3))) (some ⟨w3.heap.size, 0, none⟩) [117, 118]) := Lib.hid (blk2 117 118 (heap_at _ _))
  have hcv2 : (convert 27 27 (.slice (some ⟨w3.heap.size, 0, none⟩) 2 2)).run Try.prog (w3.alloc (.cells #[.int .u8 117, .int .u8 118] 5)) = .ok (.slice (some ⟨w3.heap.size, 0, none⟩) 2 2) (w3.alloc (.cells #[.int .u8 117, .int .u8 118] 5 (2, 3))) := Lib.run_convert_bytes_const w3 _ _ _ 2 2 Try.underlying27 Try.underlying5
  go_wp2_with fail
  clear hcv2
  refine (append_any bd bm S2 kA _ _ [117, 118] 9 9 _ (by decide) (by decide) (by decide) (lim_small _ (by decide) (by decide) (by decide)) HB3.out (HO3.out.later HA3.out).st.safe (HO3.out.later HA3.out).st).mono ?_
  rintro _ w4 ⟨rfl, hd, hu⟩
  rw [sh3] at hd ⊢
  have HO4 := Lib.hid ((HO3.out.later HA3.out).op hd hu)
  clear hd hu HO3 HA3 HB3
  have HA4 : Hid (Below w4.heap.size w4 (w4.alloc (.cells #[.int .i64 1] 3))) := Lib.hid ((Below.refl _ _).alloc (Nat.le_refl _) _)
  have HB4 : Hid (Ints (w4.alloc (.cells #[.int .i64 1] 3)) (some ⟨w4.heap.size, 0, none⟩) [1]) := Lib.hid (ints1 (heap_at _ _))
  have HK4 : Hid (∀ y : Addr, (some ⟨w4.heap.size, 0, none⟩ : Option Addr) = some y → ¬ DS bd bm y.block) := Lib.hid (by
    intro y hy q
    cases hy
    have h1 := heap_lt HO4.out.st.box
    have h2 := HO4.out.st.map.lt
    rcases q with q | q
    · change w4.heap.size = bd at q; omega
    · change w4.heap.size = bm at q; omega)
  go_wp2_with fail
  refine (crash_any bd bm S3 _ _ [1] _ (by decide) (by decide) (by decide) HB4.out (fun _ => HK4.out) (HO4.out.later HA4.out).st).mono ?_
  rintro _ w5 ⟨rfl, hd, hu⟩
  rw [sh4] at hd
  have HO5 := Lib.hid ((HO4.out.later HA4.out).op hd hu)
  clear hd hu HO4 HA4 HB4 HK4
  go_wp2_with fail
  refine (read_any bd bm S4 kA _ (by decide) (by decide) HO5.out.st).mono ?_
  rintro _ w6 ⟨v, rfl, how, hb⟩
  rw [sh5] at how ⊢
  obtain ⟨z, cz, rfl, hz1, hz2, hz3, hz4⟩ := own8_read how
  have HO6 := Lib.hid (HO5.out.later hb)
  have HZ6 := Lib.hid hz3
  clear how hb hz1 hz2 hz3 hz4 HO5
  have HA7 : Hid (Below w6.heap.size w6 (w6.alloc (.cells (madeCells #[.int .u8 0] 7) 5))) := Lib.hid ((Below.refl _ _).alloc (Nat.le_refl _) _)
  have HB7 : Hid (Bytes (w6.alloc (.cells (madeCells #[.int .u8 0] 7) 5)) (some ⟨w6.heap.size, 0, none⟩) [0, 0, 0, 0, 0, 0, 0]) := Lib.hid (blk7 (heap_at _ _))
  have hmk := make7 w6
  go_wp2_with fail
  clear hmk
  refine (append_any bd bm S4 kA _ _ [0, 0, 0, 0, 0, 0, 0] 9 9 _ (by decide) (by decide) (by decide) (lim_small _ (by decide) (by decide) (by decide)) HB7.out (HO6.out.later HA7.out).st.safe (HO6.out.later HA7.out).st).mono ?_
  rintro _ w7 ⟨rfl, hd, hu⟩
  rw [sh6] at hd ⊢
  have HO7 := Lib.hid ((HO6.out.later HA7.out).op hd hu)
  have HZ7 := Lib.hid ((HZ6.out.below HA7.out).upd hu (HO6.out.later HA7.out).st.safe)
  clear hd hu HO6 HA7 HB7 HZ6
  go_wp2_with fail
  refine (cut_any bd bm S4 0 _ (by decide) HO7.out.st).mono ?_
  rintro _ w8 ⟨rfl, hd, hu⟩
  rw [sh7] at hd
  have hu := Upd.mono (S' := DS bd bm) hu (fun k q => Or.inl q)
  have HZ8 := Lib.hid (HZ7.out.upd hu HO7.out.st.safe)
  have HO8 := Lib.hid (HO7.out.op hd hu)
  clear hd hu HO7 HZ7
  go_wp2_with fail
  refine (sync_any bd bm S5 kA 9 9 _ (by decide) (by decide) (by decide) (lim_small _ (by decide) (by decide) (by decide)) HO8.out.st).mono ?_
  rintro _ w9 ⟨rfl, hd, hu⟩
  rw [sh8] at hd ⊢
  have HZ9 := Lib.hid (HZ8.out.upd hu HO8.out.st.safe)
  have HO9 := Lib.hid (HO8.out.op hd hu)
  clear hd hu HO8 HZ8
  have hcv := str_of cz HZ9.out
  have hlen : ([120, 121, 122, 117] : List UInt8).length = 4 := rfl
  rw [hlen] at hcv
  have HDD := Lib.hid (dead_any bd bm S6 _ HO9.out.st)
  go_wp2_with fail
  refine HDD.out.mono ?_
  rintro _ w10 ⟨rfl, rfl⟩
  go_wp2
  go_ret
  exact ⟨rfl, HO9.out.bl⟩
end Go.Proofs.Ytjojomjnbiakoaa

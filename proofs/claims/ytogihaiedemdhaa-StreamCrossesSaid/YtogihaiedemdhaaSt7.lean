/-
  The stream's example; a place's reading opened.
-/
import Derived.Test.YtogihaiedemdhaaSt6
import Derived.Test.YtogihaiedemdhaaBl8
import Derived.Deep.Strs
import Derived.Stop.BytesEq
namespace Go.Proofs.Ytogihaiedemdhaa
open Go.RowKit Go.ChangeShapes Go.WideShapes Go.ChangeAt
set_option linter.unusedVariables false

section reads
variable {P : Program} {w : World} {H : Type} {enc : TypeId × Value → H}
theorem read_u8_array {base n : Nat} {spare : Nat → Bool} {held : Bool} {t e : TypeId} {fuel : Nat} {cs : List Value} {x : DataW H × List MemPlace} (ht : P.underlying t = some (.array n e)) (he : P.underlying e = some (.int .u8)) (hc : P.cellsOf e = 1) (hn : P.cellsOf t = n)
    (h : DataW.trod enc P w base spare held fuel t cs = some x) : ∃ l : List UInt8, l.length = n ∧ cs = cells8 l := by
  obtain ⟨xs, m, _, _, hl, hxs, hi⟩ := DataW.trod_array ht h
  rw [hn] at hl
  have each : ∀ i (h : i < n), ∃ b : UInt8, cs[i]'(by omega) = .int .u8 (b.toNat : Nat) := by
    intro i hlt
    have h1 := hi i hlt
    rw [hc, Nat.mul_one, List.getElem?_eq_getElem (by omega)] at h1
    have h2 : (cs.drop i).take 1 = [cs[i]'(by omega)] := by
      rw [List.drop_eq_getElem_cons (by omega)]; rfl
    rw [h2] at h1
    cases m with
    | zero => simp [DataW.trod] at h1
    | succ m =>
      obtain ⟨z, hz, _, hw⟩ := DataW.trod_int he h1
      obtain ⟨q0, q1⟩ := wf_u8 hw
      obtain ⟨b, rfl⟩ := byte_of q0 q1
      simp only [List.cons.injEq, and_true] at hz
      exact ⟨b, hz⟩
  let f : Nat → UInt8 := fun i => if h : i < n then (each i h).choose else 0
  refine ⟨(List.range n).map f, by simp, ?_⟩
  apply List.ext_getElem
  · simp [cells8]; omega
  · intro i h1 h2
    have hin : i < n := by omega
    have h3 := (each i hin).choose_spec
    rw [h3]
    simp [cells8, f, hin]
end reads

/-- A place, as a value. -/
def placeCells (key nonce : List UInt8) (count : Nat) : List Value := cells8 key ++ (cells8 nonce ++ [.int .u32 (count : Nat)])
theorem read_place {w : World} {H : Type} {enc : TypeId × Value → H} {base b0 : Nat} {held : Bool} {r : Reach} {v : Value} {d : DataW H} {ps : List MemPlace}
    (hval : Value.okWide Try.prog w r b0 26 v) (hd : DataW.Trod enc Try.prog w base (fun _ => true) held 26 v d ps) :
    ∃ key nonce count, v = .agg (placeCells key nonce count).toArray ∧ key.length = 32 ∧ nonce.length = 12 ∧ count < 4294967296 := by
  obtain ⟨cs, rfl, hsz⟩ := okWide_struct Try.underlying26 hval
  obtain ⟨fuel, hf⟩ := hd
  obtain ⟨y0, y1, y2, n, _, hl, h0, h1, h2⟩ := Deep.trod_struct3 Try.underlying26 hf
  have c45 : Try.prog.cellsOf 26 = 45 := by kernel_rfl
  have c32 : Try.prog.cellsOf 22 = 32 := by kernel_rfl
  have c12 : Try.prog.cellsOf 23 = 12 := by kernel_rfl
  have c1 : Try.prog.cellsOf 24 = 1 := by kernel_rfl
  rw [c45] at hl
  have hcs : (Value.agg cs).cells.toList = cs.toList := rfl
  rw [hcs] at hl h0 h1 h2
  obtain ⟨l, hcl⟩ : ∃ l, cs.toList = l := ⟨_, rfl⟩
  rw [hcl] at hl h0 h1 h2
  obtain ⟨key, hk, e0⟩ := read_u8_array Try.underlying22 Try.underlying5 (by kernel_rfl) c32 h0
  obtain ⟨nonce, hn, e1⟩ := read_u8_array Try.underlying23 Try.underlying5 (by kernel_rfl) c12 h1
  have d0 : l.take 32 = cells8 key := by rw [c32] at e0; simpa using e0
  have d1 : (l.drop 32).take 12 = cells8 nonce := by rw [c12] at e1; exact e1
  have hd44 : l.drop 44 = [l[44]'(by omega)] := by
    rw [List.drop_eq_getElem_cons (by omega), List.drop_of_length_le (by omega)]
  have h2' : DataW.trod enc Try.prog w base (fun _ => true) held n 24 [l[44]'(by omega)] = some y2 := by
    rw [← h2]
    show _ = DataW.trod enc Try.prog w base (fun _ => true) held n 24 ((l.drop 44).take (Try.prog.cellsOf 24))
    rw [hd44, c1]
    rfl
  cases n with
  | zero => simp [DataW.trod] at h2'
  | succ n =>
    obtain ⟨z, hz, _, hw⟩ := DataW.trod_int Try.underlying24 h2'
    simp only [List.cons.injEq, and_true] at hz
    obtain ⟨q0, q1⟩ := wf_u32 hw
    obtain ⟨count, rfl⟩ := nat_of q0
    refine ⟨key, nonce, count, ?_, hk, hn, by omega⟩
    have hl2 : l = placeCells key nonce count := by
      unfold placeCells
      rw [← d0, ← d1, ← hz, ← hd44]
      have e3 : l.drop 44 = (l.drop 32).drop 12 := by rw [List.drop_drop]
      rw [e3, List.take_append_drop, List.take_append_drop]
    rw [← hl2, ← hcl]

/-- Key bytes 0, 1, 2 and so on, so far. -/
def keyTo (k : Nat) : List UInt8 := (List.range k).map UInt8.ofNat ++ List.replicate (32 - k) 0
theorem keyTo_length (k : Nat) (h : k ≤ 32) : (keyTo k).length = 32 := by simp [keyTo]; omega
theorem keyTo_succ (k : Nat) (h : k < 32) : (keyTo k).set k (UInt8.ofNat k) = keyTo (k + 1) := by
  unfold keyTo
  rw [List.set_append_right _ _ (by simp), List.range_succ, List.map_append, List.append_assoc]
  congr 1
  simp only [List.length_map, List.length_range, Nat.sub_self, List.map_cons, List.map_nil]
  rw [show 32 - k = (32 - (k + 1)) + 1 by omega, List.replicate_succ]
  rfl
def nonce0 : List UInt8 := [0, 0, 0, 9, 0, 0, 0, 74, 0, 0, 0, 0]
theorem blk0 : (blk (keyTo 32) nonce0 1).take 8 = [16, 241, 231, 228, 209, 59, 89, 21] := by kernel_rfl

set_option maxRecDepth 100000 in
set_option maxHeartbeats 1600000 in
theorem sshown_any (w : World) :
    Calls Try.prog 13 #[] w fun e w' => e = .returned (.bool true) ∧ Below w.heap.size w w' := by
  obtain ⟨K, hK⟩ : ∃ K, w.heap.size = K := ⟨_, rfl⟩
  have hB0 : Hid (BlkB 22 (w.alloc (Obj.cells #[Value.int IntKind.u8 0, Value.int IntKind.u8 0, Value.int IntKind.u8 0, Value.int IntKind.u8 0, Value.int IntKind.u8 0, Value.int IntKind.u8 0, Value.int IntKind.u8 0, Value.int IntKind.u8 0, Value.int IntKind.u8 0, Value.int IntKind.u8 0, Value.int IntKind.u8 0, Value.int IntKind.u8 0, Value.int IntKind.u8 0, Value.int IntKind.u8 0, Value.int IntKind.u8 0, Value.int IntKind.u8 0, Value.int IntKind.u8 0, Value.int IntKind.u8 0, Value.int IntKind.u8 0, Value.int IntKind.u8 0, Value.int IntKind.u8 0, Value.int IntKind.u8 0, Value.int IntKind.u8 0, Value.int IntKind.u8 0, Value.int IntKind.u8 0, Value.int IntKind.u8 0, Value.int IntKind.u8 0, Value.int IntKind.u8 0, Value.int IntKind.u8 0, Value.int IntKind.u8 0, Value.int IntKind.u8 0, Value.int IntKind.u8 0] 22)) K (keyTo 0) ∧ Below K w (w.alloc (Obj.cells #[Value.int IntKind.u8 0, Value.int IntKind.u8 0, Value.int IntKind.u8 0, Value.int IntKind.u8 0, Value.int IntKind.u8 0, Value.int IntKind.u8 0, Value.int IntKind.u8 0, Value.int IntKind.u8 0, Value.int IntKind.u8 0, Value.int IntKind.u8 0, Value.int IntKind.u8 0, Value.int IntKind.u8 0, Value.int IntKind.u8 0, Value.int IntKind.u8 0, Value.int IntKind.u8 0, Value.int IntKind.u8 0, Value.int IntKind.u8 0, Value.int IntKind.u8 0, Value.int IntKind.u8 0, Value.int IntKind.u8 0, Value.int IntKind.u8 0, Value.int IntKind.u8 0, Value.int IntKind.u8 0, Value.int IntKind.u8 0, Value.int IntKind.u8 0, Value.int IntKind.u8 0, Value.int IntKind.u8 0, Value.int IntKind.u8 0, Value.int IntKind.u8 0, Value.int IntKind.u8 0, Value.int IntKind.u8 0, Value.int IntKind.u8 0] 22))) := Lib.hid ⟨heap_at' hK, (Below.refl _ _).alloc (by omega) _⟩
  go_enter Try.func13, Try.ntmps13
  go_wp2
  obtain ⟨wo, hwo⟩ : ∃ wo, w.alloc (Obj.cells #[Value.int IntKind.u8 0, Value.int IntKind.u8 0, Value.int IntKind.u8 0, Value.int IntKind.u8 0, Value.int IntKind.u8 0, Value.int IntKind.u8 0, Value.int IntKind.u8 0, Value.int IntKind.u8 0, Value.int IntKind.u8 0, Value.int IntKind.u8 0, Value.int IntKind.u8 0, Value.int IntKind.u8 0, Value.int IntKind.u8 0, Value.int IntKind.u8 0, Value.int IntKind.u8 0, Value.int IntKind.u8 0, Value.int IntKind.u8 0, Value.int IntKind.u8 0, Value.int IntKind.u8 0, Value.int IntKind.u8 0, Value.int IntKind.u8 0, Value.int IntKind.u8 0, Value.int IntKind.u8 0, Value.int IntKind.u8 0, Value.int IntKind.u8 0, Value.int IntKind.u8 0, Value.int IntKind.u8 0, Value.int IntKind.u8 0, Value.int IntKind.u8 0, Value.int IntKind.u8 0, Value.int IntKind.u8 0, Value.int IntKind.u8 0] 22) = wo := ⟨_, rfl⟩
  rw [hwo] at hB0 ⊢
  clear hwo
  go_loopw [4] (fun nv wr => ∃ i : Nat, i ≤ 32 ∧ nv = .int .i64 i ∧ Hid (BlkB 22 wr K (keyTo i) ∧ Below K w wr)) (fun nv _ => 32 - (intOf nv).toNat)
  case atStart => exact ⟨0, by omega, rfl, hB0⟩
  case round =>
    obtain ⟨i, hi, rfl, hBi⟩ := hrel
    by_cases hlt : i < 32
    · have i1 : (i : Int) < 32 := by omega
      have hcl := hBi.out.1.cell i (by rw [keyTo_length _ hi]; exact hlt)
      generalize (keyTo i)[i]'(by rw [keyTo_length _ hi]; exact hlt) = ob at hcl
      have hfr := hBi.out.1.free i
      have hfin : Hid (BlkB 22 (wr.setCell ⟨K, i, none⟩ (.int .u8 (i : Nat))) K (keyTo (i + 1)) ∧ Below K w (wr.setCell ⟨K, i, none⟩ (.int .u8 (i : Nat)))) := Lib.hid (by
        have := hBi.out.1.set i (UInt8.ofNat i)
        rw [keyTo_succ _ hlt, show (UInt8.ofNat i).toNat = i by rw [UInt8.toNat_ofNat']; omega] at this
        exact ⟨this, hBi.out.2.setCell (Nat.le_refl _) _⟩)
      go_wp2
      exact ⟨⟨i + 1, by omega, by go_num, hfin⟩, by simp [intOf]; omega⟩
    · obtain rfl : i = 32 := by omega
      have i1 : ¬ (32 : Int) < 32 := by omega
      have hk32 : Hid (some 32 = some (cells8 (keyTo 32)).toArray.size) := Lib.hid (by simp [cells8_length, keyTo_length])
      have HKB := Lib.hid hBi.out.1
      have HBW := Lib.hid hBi.out.2
      have HCB : Hid (∀ w', Calls Try.prog 14 #[.agg (cells8 (keyTo 32)).toArray, .agg #[Value.int IntKind.u8 0, Value.int IntKind.u8 0, Value.int IntKind.u8 0, Value.int IntKind.u8 9, Value.int IntKind.u8 0, Value.int IntKind.u8 0, Value.int IntKind.u8 0, Value.int IntKind.u8 74, Value.int IntKind.u8 0, Value.int IntKind.u8 0, Value.int IntKind.u8 0, Value.int IntKind.u8 0], .int .u32 1] w' fun e w'' => e = .returned (.agg (cells8 (blk (keyTo 32) nonce0 1)).toArray) ∧ Below w'.heap.size w' w'') := Lib.hid (fun w' => block_any (keyTo 32) nonce0 1 w' (keyTo_length 32 (Nat.le_refl _)) rfl (by omega))
      have HB8 : Hid ((blk (keyTo 32) nonce0 1).take 8 = [16, 241, 231, 228, 209, 59, 89, 21]) := Lib.hid blk0
      have HBL : Hid ((blk (keyTo 32) nonce0 1).length = 64) := Lib.hid (blk_length _ _ _)
      generalize keyTo 32 = ky at *
      generalize blk ky nonce0 1 = bl at *
      have hs64 : Hid (some 64 = some (cells8 bl).toArray.size) := Lib.hid (by simp [cells8_length, HBL.out])
      clear hBi
      go_wp2_with (first
        | (refine wpList_load_row rfl 22 _ rfl K (by rfl) 22 (cells8 ky).toArray (0, 0) _ HKB.out Try.underlying22 rfl (info32.trans hk32.out) ?_)
        | ((with_reducible refine (HCB.out _).mono ?_); rintro _ w5 ⟨rfl, hb5⟩; have HTH : Hid ((w5.alloc (Obj.cells #[Value.int IntKind.u8 0, Value.int IntKind.u8 0, Value.int IntKind.u8 0, Value.int IntKind.u8 0, Value.int IntKind.u8 0, Value.int IntKind.u8 0, Value.int IntKind.u8 0, Value.int IntKind.u8 0, Value.int IntKind.u8 0, Value.int IntKind.u8 0, Value.int IntKind.u8 0, Value.int IntKind.u8 0, Value.int IntKind.u8 0, Value.int IntKind.u8 0, Value.int IntKind.u8 0, Value.int IntKind.u8 0, Value.int IntKind.u8 0, Value.int IntKind.u8 0, Value.int IntKind.u8 0, Value.int IntKind.u8 0, Value.int IntKind.u8 0, Value.int IntKind.u8 0, Value.int IntKind.u8 0, Value.int IntKind.u8 0, Value.int IntKind.u8 0, Value.int IntKind.u8 0, Value.int IntKind.u8 0, Value.int IntKind.u8 0, Value.int IntKind.u8 0, Value.int IntKind.u8 0, Value.int IntKind.u8 0, Value.int IntKind.u8 0, Value.int IntKind.u8 0, Value.int IntKind.u8 0, Value.int IntKind.u8 0, Value.int IntKind.u8 0, Value.int IntKind.u8 0, Value.int IntKind.u8 0, Value.int IntKind.u8 0, Value.int IntKind.u8 0, Value.int IntKind.u8 0, Value.int IntKind.u8 0, Value.int IntKind.u8 0, Value.int IntKind.u8 0, Value.int IntKind.u8 0, Value.int IntKind.u8 0, Value.int IntKind.u8 0, Value.int IntKind.u8 0, Value.int IntKind.u8 0, Value.int IntKind.u8 0, Value.int IntKind.u8 0, Value.int IntKind.u8 0, Value.int IntKind.u8 0, Value.int IntKind.u8 0, Value.int IntKind.u8 0, Value.int IntKind.u8 0, Value.int IntKind.u8 0, Value.int IntKind.u8 0, Value.int IntKind.u8 0, Value.int IntKind.u8 0, Value.int IntKind.u8 0, Value.int IntKind.u8 0, Value.int IntKind.u8 0, Value.int IntKind.u8 0] 28)).there w5.heap.size 0 (cells8 bl).toArray.size) := Lib.hid (by have h6 : BlkB 28 (w5.alloc (Obj.cells #[Value.int IntKind.u8 0, Value.int IntKind.u8 0, Value.int IntKind.u8 0, Value.int IntKind.u8 0, Value.int IntKind.u8 0, Value.int IntKind.u8 0, Value.int IntKind.u8 0, Value.int IntKind.u8 0, Value.int IntKind.u8 0, Value.int IntKind.u8 0, Value.int IntKind.u8 0, Value.int IntKind.u8 0, Value.int IntKind.u8 0, Value.int IntKind.u8 0, Value.int IntKind.u8 0, Value.int IntKind.u8 0, Value.int IntKind.u8 0, Value.int IntKind.u8 0, Value.int IntKind.u8 0, Value.int IntKind.u8 0, Value.int IntKind.u8 0, Value.int IntKind.u8 0, Value.int IntKind.u8 0, Value.int IntKind.u8 0, Value.int IntKind.u8 0, Value.int IntKind.u8 0, Value.int IntKind.u8 0, Value.int IntKind.u8 0, Value.int IntKind.u8 0, Value.int IntKind.u8 0, Value.int IntKind.u8 0, Value.int IntKind.u8 0, Value.int IntKind.u8 0, Value.int IntKind.u8 0, Value.int IntKind.u8 0, Value.int IntKind.u8 0, Value.int IntKind.u8 0, Value.int IntKind.u8 0, Value.int IntKind.u8 0, Value.int IntKind.u8 0, Value.int IntKind.u8 0, Value.int IntKind.u8 0, Value.int IntKind.u8 0, Value.int IntKind.u8 0, Value.int IntKind.u8 0, Value.int IntKind.u8 0, Value.int IntKind.u8 0, Value.int IntKind.u8 0, Value.int IntKind.u8 0, Value.int IntKind.u8 0, Value.int IntKind.u8 0, Value.int IntKind.u8 0, Value.int IntKind.u8 0, Value.int IntKind.u8 0, Value.int IntKind.u8 0, Value.int IntKind.u8 0, Value.int IntKind.u8 0, Value.int IntKind.u8 0, Value.int IntKind.u8 0, Value.int IntKind.u8 0, Value.int IntKind.u8 0, Value.int IntKind.u8 0, Value.int IntKind.u8 0, Value.int IntKind.u8 0] 28)) w5.heap.size (List.replicate 64 0) := heap_at w5 _; have h7 := h6.there; rw [List.length_replicate] at h7; simpa [cells8_length, HBL.out] using h7); have HBO : Hid (Bytes ((w5.alloc (Obj.cells #[Value.int IntKind.u8 0, Value.int IntKind.u8 0, Value.int IntKind.u8 0, Value.int IntKind.u8 0, Value.int IntKind.u8 0, Value.int IntKind.u8 0, Value.int IntKind.u8 0, Value.int IntKind.u8 0, Value.int IntKind.u8 0, Value.int IntKind.u8 0, Value.int IntKind.u8 0, Value.int IntKind.u8 0, Value.int IntKind.u8 0, Value.int IntKind.u8 0, Value.int IntKind.u8 0, Value.int IntKind.u8 0, Value.int IntKind.u8 0, Value.int IntKind.u8 0, Value.int IntKind.u8 0, Value.int IntKind.u8 0, Value.int IntKind.u8 0, Value.int IntKind.u8 0, Value.int IntKind.u8 0, Value.int IntKind.u8 0, Value.int IntKind.u8 0, Value.int IntKind.u8 0, Value.int IntKind.u8 0, Value.int IntKind.u8 0, Value.int IntKind.u8 0, Value.int IntKind.u8 0, Value.int IntKind.u8 0, Value.int IntKind.u8 0, Value.int IntKind.u8 0, Value.int IntKind.u8 0, Value.int IntKind.u8 0, Value.int IntKind.u8 0, Value.int IntKind.u8 0, Value.int IntKind.u8 0, Value.int IntKind.u8 0, Value.int IntKind.u8 0, Value.int IntKind.u8 0, Value.int IntKind.u8 0, Value.int IntKind.u8 0, Value.int IntKind.u8 0, Value.int IntKind.u8 0, Value.int IntKind.u8 0, Value.int IntKind.u8 0, Value.int IntKind.u8 0, Value.int IntKind.u8 0, Value.int IntKind.u8 0, Value.int IntKind.u8 0, Value.int IntKind.u8 0, Value.int IntKind.u8 0, Value.int IntKind.u8 0, Value.int IntKind.u8 0, Value.int IntKind.u8 0, Value.int IntKind.u8 0, Value.int IntKind.u8 0, Value.int IntKind.u8 0, Value.int IntKind.u8 0, Value.int IntKind.u8 0, Value.int IntKind.u8 0, Value.int IntKind.u8 0, Value.int IntKind.u8 0] 28)).setCells w5.heap.size 0 (cells8 bl)) (some ⟨w5.heap.size, 0, none⟩) [16, 241, 231, 228, 209, 59, 89, 21]) := Lib.hid (by have h6 : BlkB 28 (w5.alloc (Obj.cells #[Value.int IntKind.u8 0, Value.int IntKind.u8 0, Value.int IntKind.u8 0, Value.int IntKind.u8 0, Value.int IntKind.u8 0, Value.int IntKind.u8 0, Value.int IntKind.u8 0, Value.int IntKind.u8 0, Value.int IntKind.u8 0, Value.int IntKind.u8 0, Value.int IntKind.u8 0, Value.int IntKind.u8 0, Value.int IntKind.u8 0, Value.int IntKind.u8 0, Value.int IntKind.u8 0, Value.int IntKind.u8 0, Value.int IntKind.u8 0, Value.int IntKind.u8 0, Value.int IntKind.u8 0, Value.int IntKind.u8 0, Value.int IntKind.u8 0, Value.int IntKind.u8 0, Value.int IntKind.u8 0, Value.int IntKind.u8 0, Value.int IntKind.u8 0, Value.int IntKind.u8 0, Value.int IntKind.u8 0, Value.int IntKind.u8 0, Value.int IntKind.u8 0, Value.int IntKind.u8 0, Value.int IntKind.u8 0, Value.int IntKind.u8 0, Value.int IntKind.u8 0, Value.int IntKind.u8 0, Value.int IntKind.u8 0, Value.int IntKind.u8 0, Value.int IntKind.u8 0, Value.int IntKind.u8 0, Value.int IntKind.u8 0, Value.int IntKind.u8 0, Value.int IntKind.u8 0, Value.int IntKind.u8 0, Value.int IntKind.u8 0, Value.int IntKind.u8 0, Value.int IntKind.u8 0, Value.int IntKind.u8 0, Value.int IntKind.u8 0, Value.int IntKind.u8 0, Value.int IntKind.u8 0, Value.int IntKind.u8 0, Value.int IntKind.u8 0, Value.int IntKind.u8 0, Value.int IntKind.u8 0, Value.int IntKind.u8 0, Value.int IntKind.u8 0, Value.int IntKind.u8 0, Value.int IntKind.u8 0, Value.int IntKind.u8 0, Value.int IntKind.u8 0, Value.int IntKind.u8 0, Value.int IntKind.u8 0, Value.int IntKind.u8 0, Value.int IntKind.u8 0, Value.int IntKind.u8 0] 28)) w5.heap.size (List.replicate 64 0) := heap_at w5 _; have h7 := (h6.put (m := bl) (by rw [List.length_replicate, HBL.out])).bytes.take 8; rw [HB8.out] at h7; exact h7))
        | (refine wpList_store_mid rfl 28 _ _ rfl w5.heap.size 0 (cells8 bl).toArray (by rfl) (by rfl) HTH.out (info64.trans hs64.out) (cells8_all bl) ?_)
        | (refine wpList_to_string _ rfl _ 32 9 rfl (e := 5) Try.underlying32 Try.underlying5 Try.underlying9 (A := some ⟨w5.heap.size, 0, none⟩) (n := 8) (cap := 64) (l := [16, 241, 231, 228, 209, 59, 89, 21]) (by rfl) rfl HBO.out ?_))
      go_ret
      have hKl := HKB.out.lt
      have hK5 : K ≤ w5.heap.size := Nat.le_trans (Nat.le_of_lt hKl) hb5.size
      have h1 : Below K w w5 := HBW.out.trans (hb5.mono (Nat.le_of_lt hKl))
      have h2 := below_setCells hK5 (cells8 bl) 0 _ (h1.alloc hK5 (Obj.cells #[Value.int IntKind.u8 0, Value.int IntKind.u8 0, Value.int IntKind.u8 0, Value.int IntKind.u8 0, Value.int IntKind.u8 0, Value.int IntKind.u8 0, Value.int IntKind.u8 0, Value.int IntKind.u8 0, Value.int IntKind.u8 0, Value.int IntKind.u8 0, Value.int IntKind.u8 0, Value.int IntKind.u8 0, Value.int IntKind.u8 0, Value.int IntKind.u8 0, Value.int IntKind.u8 0, Value.int IntKind.u8 0, Value.int IntKind.u8 0, Value.int IntKind.u8 0, Value.int IntKind.u8 0, Value.int IntKind.u8 0, Value.int IntKind.u8 0, Value.int IntKind.u8 0, Value.int IntKind.u8 0, Value.int IntKind.u8 0, Value.int IntKind.u8 0, Value.int IntKind.u8 0, Value.int IntKind.u8 0, Value.int IntKind.u8 0, Value.int IntKind.u8 0, Value.int IntKind.u8 0, Value.int IntKind.u8 0, Value.int IntKind.u8 0, Value.int IntKind.u8 0, Value.int IntKind.u8 0, Value.int IntKind.u8 0, Value.int IntKind.u8 0, Value.int IntKind.u8 0, Value.int IntKind.u8 0, Value.int IntKind.u8 0, Value.int IntKind.u8 0, Value.int IntKind.u8 0, Value.int IntKind.u8 0, Value.int IntKind.u8 0, Value.int IntKind.u8 0, Value.int IntKind.u8 0, Value.int IntKind.u8 0, Value.int IntKind.u8 0, Value.int IntKind.u8 0, Value.int IntKind.u8 0, Value.int IntKind.u8 0, Value.int IntKind.u8 0, Value.int IntKind.u8 0, Value.int IntKind.u8 0, Value.int IntKind.u8 0, Value.int IntKind.u8 0, Value.int IntKind.u8 0, Value.int IntKind.u8 0, Value.int IntKind.u8 0, Value.int IntKind.u8 0, Value.int IntKind.u8 0, Value.int IntKind.u8 0, Value.int IntKind.u8 0, Value.int IntKind.u8 0, Value.int IntKind.u8 0] 28))
      refine ⟨rfl, ?_⟩
      first
        | exact h2
        | (rw [hK]; exact h2)
end Go.Proofs.Ytogihaiedemdhaa

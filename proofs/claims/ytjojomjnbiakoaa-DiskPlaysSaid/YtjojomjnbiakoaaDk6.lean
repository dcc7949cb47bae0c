/-
  The disk's append.
-/
import Derived.Test.YtjojomjnbiakoaaDk5
import Derived.Laws.AppendOwnNone
namespace Go.Proofs.Ytjojomjnbiakoaa
open Go.RowKit Go.Maps
set_option linter.unusedVariables false

theorem local_noU8 {w : World} {g : Nat} {x : Option Addr} {n c : Nat} {s : Int} {T : TypeId} (hb : w.heap[g]? = some (.cells #[.slice x n c, .int .i64 s] T (0, 0))) : NoU8 w g := by
  intro j k hc
  simp only [World.cell?, hb] at hc
  match j with
  | 0 => simp at hc
  | 1 => simp at hc
  | j + 2 => simp at hc
/-- The local struct's bytes are turned. -/
theorem local_set {w w5 : World} {bd bm : Nat} {A : DM} (h : DiskSt w bd bm A) (x : Option Addr) (n c : Nat) (s : Int) (z : Option Addr) (k cz : Nat)
    (hb5 : Below (w.alloc (.cells #[.slice x n c, .int .i64 s] 63)).heap.size (w.alloc (.cells #[.slice x n c, .int .i64 s] 63)) w5) :
    let wS := w5.setCell ⟨w.heap.size, 0, none⟩ (.slice z k cz)
    (w5.cell? ⟨w.heap.size, 0, none⟩ = some (.slice x n c) ∧ w5.cell? ⟨w.heap.size, 1, none⟩ = some (.int .i64 s) ∧ w5.frozen? ⟨w.heap.size, 0, none⟩ = false) ∧
    (wS.drew.cell? ⟨bd, 0, none⟩ = some (.map (some bm)) ∧ wS.drew.cell? ⟨w.heap.size, 0, none⟩ = some (.slice z k cz) ∧ wS.drew.cell? ⟨w.heap.size, 1, none⟩ = some (.int .i64 s)) ∧ DiskSt wS bd bm A ∧
    (∀ w', Upd (· = bm) wS.drew w' → (w'.cell? ⟨bd, 0, none⟩ = some (.map (some bm)) ∧ w'.cell? ⟨w.heap.size, 0, none⟩ = some (.slice z k cz) ∧ w'.cell? ⟨w.heap.size, 1, none⟩ = some (.int .i64 s))) ∧
    NoU8 w5 w.heap.size ∧ Upd (· = w.heap.size) w5 wS := by
  have hb : Below w.heap.size w (w.alloc (.cells #[.slice x n c, .int .i64 s] 63)) := (Below.refl _ _).alloc (Nat.le_refl _) _
  have hd5 : DiskSt w5 bd bm A := (h.later hb).later hb5
  have hbox : w5.heap[w.heap.size]? = some (.cells #[.slice x n c, .int .i64 s] 63 (0, 0)) := heap_below (heap_at w _) hb5
  have hno := local_noU8 hbox
  have hne1 : bd ≠ w.heap.size := by have := heap_lt h.box; omega
  have hne2 : bm ≠ w.heap.size := by have := h.map.lt; omega
  have hu : Upd (· = w.heap.size) w5 (w5.setCell ⟨w.heap.size, 0, none⟩ (.slice z k cz)) := Upd.setCell (S := (· = w.heap.size)) _ _ _ rfl
  have hdS : DiskSt (w5.setCell ⟨w.heap.size, 0, none⟩ (.slice z k cz)) bd bm A := hd5.upd hu (fun b e => by subst e; exact hno) hne1 hne2
  have hboxS : (w5.setCell ⟨w.heap.size, 0, none⟩ (.slice z k cz)).heap[w.heap.size]? = some (.cells #[.slice z k cz, .int .i64 s] 63 (0, 0)) := heap_setCell_same _ _ _ _ _ _ hbox
  have c0 := hdS.cells.1.1
  have e0 : (w5.setCell ⟨w.heap.size, 0, none⟩ (.slice z k cz)).cell? ⟨w.heap.size, 0, none⟩ = some (.slice z k cz) := by simp only [World.cell?, hboxS]; rfl
  have e1 : (w5.setCell ⟨w.heap.size, 0, none⟩ (.slice z k cz)).cell? ⟨w.heap.size, 1, none⟩ = some (.int .i64 s) := by simp only [World.cell?, hboxS]; rfl
  refine ⟨⟨?_, ?_, ?_⟩, ⟨c0, e0, e1⟩, hdS, fun w' hu' => ⟨?_, ?_, ?_⟩, hno, hu⟩
  · simp only [World.cell?, hbox]; rfl
  · simp only [World.cell?, hbox]; rfl
  · simp [World.frozen?, hbox]
  · exact hu'.cell (fun e => h.ne e) c0
  · exact hu'.cell (fun e => hne2 e.symm) e0
  · exact hu'.cell (fun e => hne2 e.symm) e1
theorem run_cut3 {P : Program} {t e : TypeId} (ht : P.underlying t = some (.slice e)) {i0 : TypeInfo} (hi : P.info? e = some i0) (a : Option Addr) (len cap k : Nat) (kk : IntKind) (h1 : k ≤ cap) (w : World) :
    (Instr.slice t (.slice a len cap) none (some (.int kk (k : Nat))) (some (.int kk (k : Nat)))).run P w = .ok (.slice a k k) w := by
  simp [Instr.slice, run_underlying ht, Instr.sliceBounds, Instr.sliceBound, asIntOf, sizeOf, typeInfo, hi, h1]
  cases a <;> simp [Addr.add]
theorem run_append_zero2 {P : Program} {w : World} (t ty e : TypeId) (i : TypeInfo) (ht : P.underlying t = some (.slice e)) (hi : P.info? e = some i) (x : Option Addr) (n c : Nat) (hnc : n ≤ c) (hx : x = none → c = 0) (y : Option Addr) (c' : Nat) :
    (Builtin.append_ #[t, t] ty #[.slice x n c, .slice y 0 c']).run P w = .ok (.slice x n c) w := by
  cases x with
  | none =>
    obtain rfl := hx rfl
    obtain rfl : n = 0 := by omega
    cases y <;> simp [Builtin.append_, run_underlying ht, sizeOf, typeInfo, hi, Builtin.lenOf, Builtin.firstCells, loadCells, loadCellsFrom]
  | some a => cases y <;> simp [Builtin.append_, run_underlying ht, sizeOf, typeInfo, hi, Builtin.lenOf, Builtin.firstCells, hnc, storeCells, loadCells, loadCellsFrom]
theorem app_zero {P : Program} {w : World} {ops : Array Oper} {rest : List Oper} {o : Oper} {a : Act} {Q : Exit → Act → World → Prop} (hgd : o.guard = none) (s x : Operand) (t : TypeId)
    (ho : o.op = .call { callee := .builtin .append, args := #[s, x], argTypes := #[t, t] })
    (e : TypeId) (i : TypeInfo) (ht : P.underlying t = some (.slice e)) (hi : P.info? e = some i)
    (y0 : Option Addr) (n c : Nat) (hnc : n ≤ c) (hy0 : y0 = none → c = 0) (hs : a.eval s = .slice y0 n c) {y : Option Addr} {c' : Nat} (hx : a.eval x = .slice y 0 c')
    (h : wpList P ops Q rest (a.put o.dst (.slice y0 n c)) w) : wpList P ops Q (o :: rest) a w := by
  refine wpList_plain hgd fun K hK => ?_
  have hrun := run_append_zero2 (P := P) (w := w) t o.type e i ht hi y0 n c hnc hy0 y c'
  unfold Oper.wp
  simp [execOp, ho, resolve, invoke, builtin, hs, hx, hrun, Result.andThen]
  exact hK _ _ h
theorem infoU8 : (Try.prog.info? 5).map (fun i => (i.zero, i.size, i.bytes)) = some (some (.int .u8 0), 1, 1) := by kernel_rfl
section laws
variable {ops : Array Oper} {rest : List Oper} {o : Oper} {a : Act} {Q : Exit → Act → World → Prop}
/-- 'append(x[:n:n], b...)': a new array, or nothing turns. -/
theorem app_full (w : World) (hgd : o.guard = none) (s x : Operand) (ho : o.op = .call { callee := .builtin .append, args := #[s, x], argTypes := #[27, 27] })
    {y0 : Option Addr} {l : List UInt8} {n : Nat} (hn : n = l.length) (hy0 : y0 = none → n = 0) (hl : Bytes w y0 l) (hs : a.eval s = .slice y0 n n) {y : Option Addr} {b : List UInt8} {c m : Nat} (hm : m = b.length) (hb : Bytes w y b) (hx : a.eval x = .slice y m c) (hsz : n + m ≤ 140737488355328)
    (h : ∀ z k cz w', Bytes w' z (l ++ b) → k = (l ++ b).length → k ≤ cz → cz ≤ maxLen → (z = none → cz = 0) → Below w.heap.size w w' → wpList Try.prog ops Q rest (a.put o.dst (.slice z k cz)) w') : wpList Try.prog ops Q (o :: rest) a w := by
  obtain ⟨i0, hi0, hz0, hz1, hz2⟩ := info_parts infoU8
  by_cases hb0 : b = []
  · subst hb0
    subst hm
    refine app_zero hgd s x 27 ho 5 i0 Try.underlying27 hi0 y0 n n (Nat.le_refl _) hy0 hs hx ?_
    refine h y0 n n w (by rw [List.append_nil]; exact hl) (by simpa using hn) (Nat.le_refl _) (by unfold maxLen; omega) hy0 (Below.refl _ _)
  · have hpos : 0 < b.length := List.length_pos_iff.2 hb0
    obtain ⟨b1, o1, rfl, _⟩ := hb 0 hpos
    subst hn hm
    refine wpList_append_grows w hgd s x 27 ho 5 i0 (.int .u8 0) 1 1 Try.underlying27 hi0 hz0 hz1 hz2 rfl (by decide) y0 l.length l.length (cells8 l) hs (fun e => ⟨hy0 e, hy0 e⟩) (by rw [cells8_length]; omega)
      (fun q hq => ?_) ⟨b1, o1, none⟩ b.length c (cells8 b) hx (by rw [cells8_length]; omega) hb.news (cells8_one _) (by omega) (by unfold maxLen; omega) (by omega) ?_
    · intro j u hu
      have hj : j < l.length := by
        rcases Nat.lt_or_ge j l.length with h' | h'
        · exact h'
        · rw [List.getElem?_eq_none (by rw [cells8_length]; exact h')] at hu; cases hu
      obtain ⟨b2, o2, e, _⟩ := hl j hj
      rw [e] at hq
      cases hq
      rw [e] at hl
      exact hl.news j u hu
    · intro v' w' hown hgr
      obtain ⟨g, cap, rfl⟩ := owns_shape hown (by omega)
      rw [← cells8_append, ← List.length_append] at hown
      have hby := bytes_owns hown
      refine h (some ⟨g, 0, none⟩) _ cap w' hby.2.2.2.2 (by rw [List.length_append]) (by have := hby.2.1; rw [List.length_append] at this; exact this) hby.2.2.1 (fun e => by cases e) (Upd.grown (S := fun _ => False) hgr (fun k e => by cases e)).below0
end laws
set_option maxRecDepth 100000 in
set_option maxHeartbeats 3200000 in
theorem append_any (bd bm : Nat) (A : DM) (s : ByteArray) (y : Option Addr) (c : Nat) (b : List UInt8) (N T : Nat) (w : World) (hs : s.size ≤ maxLen) (hN : N ≤ 1000000) (hT : T + b.length ≤ 1099511627776) (hL : A.Lim N T) (hb : Bytes w y b) (hby : ∀ k, DS bd bm k → NoU8 w k) (h : DiskSt w bd bm A) :
    Calls Try.prog 14 #[.pointer (some ⟨bd, 0, none⟩), .string s, .slice y b.length c] w fun e w' => e = .returned (.int .i64 (A.append (keyB s) b).2) ∧ DiskSt w' bd bm (A.append (keyB s) b).1 ∧ Upd (DS bd bm) w w' := by
  have HR := Lib.hid (ready_any bd bm A s false none 0 [] w hs (by simp) (strs_nil _ _) h)
  have HRD : Hid (readyB A s false [] = A.ready (keyB s) false []) := Lib.hid rfl
  rw [HRD.out] at HR
  have HLR := Lib.hid (hL.ready (keyB s) false [])
  have HOR := Lib.hid (h.ok.ready (keyB s) false [])
  have HBY := Lib.hid hb
  have HN8 := Lib.hid hby
  clear h hb hby
  by_cases hz : (A.ready (keyB s) false []).2 = 0
  · have HE : Hid (A.append (keyB s) b = if ((A.ready (keyB s) false []).1.room : Int) - (tot (A.ready (keyB s) false []).1.fs : Int) < (b.length : Int) then ((A.ready (keyB s) false []).1, 141) else (DM.did { (A.ready (keyB s) false []).1 with fs := putF (A.ready (keyB s) false []).1.fs (keyB s) ⟨((A.ready (keyB s) false []).1.get (keyB s)).b ++ b, ((A.ready (keyB s) false []).1.get (keyB s)).s⟩ }, 0)) := Lib.hid (by
      unfold DM.append; simp only; rw [if_neg (by rw [hz]; simp)])
    have HGK := Lib.hid (ready_good hz).1
    rw [hz] at HR
    clear hz hL HRD
    generalize (A.ready (keyB s) false []).1 = B at *
    have hbl : b.length ≤ 1099511627776 := by omega
    have htl := HLR.out.tot
    have hrm := HOR.out.room
    obtain ⟨i0, hi0⟩ : ∃ i0, Try.prog.info? 5 = some i0 := by
      obtain ⟨i0, hi0, _⟩ := info_parts infoU8
      exact ⟨i0, hi0⟩
    have HC3 := Lib.hid (fun (x : Option Addr) (n c : Nat) (hnc : n ≤ c) (w : World) => run_cut3 (P := Try.prog) Try.underlying27 hi0 x n c n .i64 hnc w)
    obtain ⟨tt, HTT⟩ : ∃ tt, Hid (tot B.fs = tt) := ⟨_, Lib.hid rfl⟩
    rw [HTT.out] at HE htl
    obtain ⟨df, HDF⟩ : ∃ df : Int, Hid ((B.room : Int) - (tt : Int) = df) := ⟨_, Lib.hid rfl⟩
    have HWR : Hid (IntKind.i64.wrap ((B.room : Int) - (tt : Int)) = df) := Lib.hid (by rw [← HDF.out]; exact IntWalk.i64_in _ (by omega))
    rw [HDF.out] at HE
    obtain ⟨tb, HTB⟩ : ∃ tb, Hid (decide (df < (b.length : Int)) = tb) := ⟨_, Lib.hid rfl⟩
    go_enter Try.func14, Try.ntmps14
    go_wp2_with fail
    refine HR.out.mono ?_
    rintro _ w1 ⟨rfl, hd1, hu1⟩
    have HD1 := Lib.hid hd1
    have HU1 := Lib.hid hu1
    have HSZ := Lib.hid (fun (w' : World) hb => size_any bd bm B w' (by have := HLR.out.len; omega) (by have := HLR.out.tot; omega) (hd1.later (w' := w') hb))
    rw [HTT.out] at HSZ
    have KS : Hid (∀ w', Below w1.heap.size w1 w' → (w'.cell? ⟨bd, 1, none⟩ = some (.int .i64 (B.room : Nat)) ∧ Below w1.heap.size w1 w')) := Lib.hid (fun w' hb => ⟨(hd1.later hb).cells.1.2.1, hb⟩)
    clear hd1 hu1 HR
    go_upto_region 4 with (fail)
    go_cut [24] (fun q wx => q = .bool tb ∧ Below w1.heap.size w1 wx)
    case first =>
      refine wp_region_held_drew (S := (fun w' => w'.cell? ⟨bd, 1, none⟩ = some (.int .i64 (B.room : Nat)) ∧ Below w1.heap.size w1 w')) (by kernel_rfl) ?_ (fun hS0 => ?_)
      · exact KS.out _ (Below.refl _ _).drew
      refine wpAnyH_take (i := 0) (oi := { dst := some 15, op := Op.move (Operand.tmp 2), type := 27, pos := "disk.go:75", after := #[], guard := none }) (v := ?_) rfl (by kernel_rfl) (by kernel_rfl) (by kernel_rfl) (fun _ _ _ h => h) (Or.inl ⟨by rfl, ?hy1⟩) (by assumption) ?_
      case hy1 => (intro w hSw; (try dsimp only at hSw); go_simp; try with_reducible rfl)
      (try simp only [Act.put, List.setIfInBounds_toArray, List.set_cons_zero, List.set_cons_succ])
      refine wpAnyH_take (i := 1) (oi := { dst := some 16, op := Op.call { callee := Callee.builtin Builtin.len, args := #[Operand.tmp 15], argTypes := #[27] }, type := 3, pos := "disk.go:75", after := #[{ on := 0, ground := Ground.data }], guard := none }) (v := ?_) rfl (by kernel_rfl) (by kernel_rfl) (by kernel_rfl) (fun _ _ _ h => h) (Or.inl ⟨by rfl, ?hy2⟩) (by assumption) ?_
      case hy2 => (intro w hSw; (try dsimp only at hSw); go_simp; try with_reducible rfl)
      (try simp only [Act.put, List.setIfInBounds_toArray, List.set_cons_zero, List.set_cons_succ])
      refine wpAnyH_take (i := 2) (oi := { dst := some 17, op := Op.move (Operand.tmp 0), type := 24, pos := "disk.go:75", after := #[], guard := none }) (v := ?_) rfl (by kernel_rfl) (by kernel_rfl) (by kernel_rfl) (fun _ _ _ h => h) (Or.inl ⟨by rfl, ?hy3⟩) (by assumption) ?_
      case hy3 => (intro w hSw; (try dsimp only at hSw); go_simp; try with_reducible rfl)
      (try simp only [Act.put, List.setIfInBounds_toArray, List.set_cons_zero, List.set_cons_succ])
      refine wpAnyH_take (i := 3) (oi := { dst := some 18, op := Op.nilCheck (Operand.tmp 17), type := 0, pos := "disk.go:75", after := #[{ on := 2, ground := Ground.data }], guard := none }) (v := ?_) rfl (by kernel_rfl) (by kernel_rfl) (by kernel_rfl) (fun _ _ _ h => h) (Or.inl ⟨by rfl, ?hy4⟩) (by assumption) ?_
      case hy4 => (intro w hSw; (try dsimp only at hSw); go_simp; try with_reducible rfl)
      (try simp only [Act.put, List.setIfInBounds_toArray, List.set_cons_zero, List.set_cons_succ])
      refine wpAnyH_take (i := 4) (oi := { dst := some 19, op := Op.fieldAddr 60 (Operand.tmp 18) 1, type := 0, pos := "disk.go:75", after := #[{ on := 3, ground := Ground.data }], guard := none }) (v := ?_) rfl (by kernel_rfl) (by kernel_rfl) (by kernel_rfl) (fun _ _ _ h => h) (Or.inl ⟨by rfl, ?hy5⟩) (by assumption) ?_
      case hy5 => (intro w hSw; (try dsimp only at hSw); go_simp; try with_reducible rfl)
      (try simp only [Act.put, List.setIfInBounds_toArray, List.set_cons_zero, List.set_cons_succ])
      refine wpAnyH_take (i := 5) (oi := { dst := some 20, op := Op.load 3 (Operand.tmp 19), type := 3, pos := "disk.go:75", after := #[{ on := 4, ground := Ground.data }], guard := none }) (v := ?_) rfl (by kernel_rfl) (by kernel_rfl) (by kernel_rfl) (fun _ _ _ h => h) (Or.inl ⟨by rfl, ?hy6⟩) (by assumption) ?_
      case hy6 => (intro w hSw; (try dsimp only at hSw); go_simp; try with_reducible rfl)
      (try simp only [Act.put, List.setIfInBounds_toArray, List.set_cons_zero, List.set_cons_succ])
      refine wpAnyH_take (i := 6) (oi := { dst := some 21, op := Op.move (Operand.tmp 0), type := 24, pos := "disk.go:75", after := #[], guard := none }) (v := ?_) rfl (by kernel_rfl) (by kernel_rfl) (by kernel_rfl) (fun _ _ _ h => h) (Or.inl ⟨by rfl, ?hy7⟩) (by assumption) ?_
      case hy7 => (intro w hSw; (try dsimp only at hSw); go_simp; try with_reducible rfl)
      (try simp only [Act.put, List.setIfInBounds_toArray, List.set_cons_zero, List.set_cons_succ])
      refine wpAnyH_ready (rs := [7]) (by kernel_rfl) (by simp) (AllReadyH.cons (o := { dst := some 22, op := Op.call { callee := Callee.value (Operand.func 21), args := #[Operand.tmp 21], argTypes := #[24] }, type := 3, pos := "disk.go:75", after := #[{ on := 6, ground := Ground.data }], guard := none }) rfl (fun K hK => ?_) AllReadyH.nil)
      go_simp
      refine (HSZ.out _ hS0.2).mono ?_
      rintro _ w2 ⟨rfl, hb2⟩
      have hwr := HWR.out
      have htb := HTB.out
      (try dsimp only)
      refine Shut.out hK _ _ ?_ (fun hS7 => ?_)
      · exact KS.out _ (hS0.2.trans (hb2.mono hS0.2.size))
      clear hK K
      (try simp only [Act.put, List.setIfInBounds_toArray, List.set_cons_zero, List.set_cons_succ])
      refine wpAnyH_take (i := 8) (oi := { dst := some 23, op := Op.binOp BinOp.sub 3 (Operand.tmp 20) (Operand.tmp 22) 3, type := 3, pos := "disk.go:75", after := #[{ on := 5, ground := Ground.data }, { on := 7, ground := Ground.data }], guard := none }) (v := ?_) rfl (by kernel_rfl) (by kernel_rfl) (by kernel_rfl) (fun _ _ _ h => h) (Or.inl ⟨by rfl, ?hy8⟩) (by assumption) ?_
      case hy8 => (intro w hSw; (try dsimp only at hSw); go_simp; try with_reducible rfl)
      (try simp only [Act.put, List.setIfInBounds_toArray, List.set_cons_zero, List.set_cons_succ])
      refine wpAnyH_take (i := 9) (oi := { dst := some 24, op := Op.binOp BinOp.gtr 3 (Operand.tmp 16) (Operand.tmp 23) 3, type := 4, pos := "disk.go:75", after := #[{ on := 1, ground := Ground.data }, { on := 8, ground := Ground.data }], guard := none }) (v := ?_) rfl (by kernel_rfl) (by kernel_rfl) (by kernel_rfl) (fun _ _ _ h => h) (Or.inl ⟨by rfl, ?hy9⟩) (by assumption) ?_
      case hy9 => (intro w hSw; (try dsimp only at hSw); go_simp; try with_reducible rfl)
      (try simp only [Act.put, List.setIfInBounds_toArray, List.set_cons_zero, List.set_cons_succ])
      refine wpAnyH_done (by kernel_rfl) ?_ _
      go_wp2
      go_meet
      case rel => exact ⟨rfl, hS7.2⟩
    case rest =>
      obtain ⟨rfl, hbx⟩ := hcut
      have HDX := Lib.hid (HD1.out.later hbx)
      have HUX : Hid (Upd (DS bd bm) w wc) := Lib.hid ((HU1.out.mono (fun k q => Or.inl q)).trans (Upd.of_below hbx))
      clear hbx KS HSZ
      cases tb with
      | true =>
        have HE2 : Hid (A.append (keyB s) b = (B, 141)) := Lib.hid (by rw [HE.out, if_pos (by simpa using HTB.out)])
        go_wp2
        go_ret
        exact ⟨by rw [HE2.out]; rfl, by rw [HE2.out]; exact HDX.out, HUX.out⟩
      | false =>
        have HE2 : Hid (A.append (keyB s) b = (DM.did { B with fs := putF B.fs (keyB s) ⟨(B.get (keyB s)).b ++ b, (B.get (keyB s)).s⟩ }, 0)) := Lib.hid (by rw [HE.out, if_neg (by simpa using HTB.out)])
        obtain ⟨⟨c0, c1, c2, c3, c4⟩, _⟩ := HDX.out.cells
        have HBX := Lib.hid (HBY.out.upd HUX.out HN8.out)
        go_wp2_with (first
          | (at_lookup; refine look_disk _ rfl _ _ rfl rfl HDX.out.map s rfl hs ?_; intro f hf; have HF := Lib.hid hf; clear hf; have hcut := fun w => HC3.out f.x f.n f.c HF.out.le w; have HFA := Lib.hid (HF.out.upd (S := fun _ => False) (Upd.alloc wc (.cells #[.slice f.x f.n f.c, .int .i64 (f.s : Nat)] 63)) (fun _ q => q.elim)); have HFT : Hid (f.n ≤ T) := Lib.hid (by have := HLR.out.get (keyB s); have := HF.out.n; unfold DM.get at *; omega))
          | (at_builtin; refine app_full _ rfl _ _ rfl HFA.out.n (fun e => by have := HFA.out.nil e; have := HFA.out.le; omega) HFA.out.by' rfl rfl (HBX.out.below ((Below.refl _ _).alloc (Nat.le_refl _) _)) rfl (by have := HFT.out; omega) ?_; intro z k cz w5 hz5 hk5 hkc hcm hzn hb5; have hls := local_set HDX.out f.x f.n f.c (f.s : Nat) z k cz hb5; obtain ⟨q0, q1, q2⟩ := hls.1; have HS0 := Lib.hid hls.2.1; have HDS := Lib.hid hls.2.2.1; have HKP := Lib.hid hls.2.2.2.1; have HN5 := Lib.hid hls.2.2.2.2.1; have HUS := Lib.hid hls.2.2.2.2.2; have HB5 := Lib.hid hb5; have HZ5 := Lib.hid (And.intro hz5 (And.intro hk5 (And.intro hkc (And.intro hcm hzn)))); clear hls hz5 hk5 hkc hcm hzn hb5))
        have HDM : Hid (MapSt (w5.setCell ⟨wc.heap.size, 0, none⟩ (.slice z k cz)).drew bm B.fs) := Lib.hid (HDS.out.map.upd (S := fun _ => False) (Upd.drew _) (fun _ q => q.elim) (fun q => q))
        have HSO := Lib.hid HOR.out.sorted
        have HLEN : Hid (B.fs.length < maxLen) := Lib.hid (by have := HLR.out.len; unfold maxLen; omega)
        have HFX := HFA
        have HFA : Hid (FileAt (w5.setCell ⟨wc.heap.size, 0, none⟩ (.slice z k cz)).drew ⟨z, k, cz, f.s⟩ ⟨(B.get (keyB s)).b ++ b, (B.get (keyB s)).s⟩) := Lib.hid (by
          obtain ⟨h1, h2, h3, h4, h5⟩ := HZ5.out
          exact ⟨h2, HFX.out.s, h3, h4, (h1.upd HUS.out (fun b e => by subst e; exact HN5.out)).upd (S := fun _ => False) (Upd.drew _) (fun _ q => q.elim), h5⟩)
        have HU5 : Hid (Upd (DS bd bm) w (w5.setCell ⟨wc.heap.size, 0, none⟩ (.slice z k cz))) := Lib.hid (HUX.out.trans (Upd.of_below ((((Below.refl wc.heap.size wc).alloc (Nat.le_refl _) _).trans (HB5.out.mono (by simp))).setCell (Nat.le_refl _) _)))
        clear q0 q1 q2 HZ5 HUS HN5 HFX
        refine wp_region_held_drew (S := (fun w' => w'.cell? ⟨bd, 0, none⟩ = some (.map (some bm)) ∧ w'.cell? ⟨wc.heap.size, 0, none⟩ = some (.slice z k cz) ∧ w'.cell? ⟨wc.heap.size, 1, none⟩ = some (.int .i64 (f.s : Nat)))) (by kernel_rfl) ?_ (fun hS0 => ?_)
        · exact HS0.out
        refine wpAnyH_take (i := 0) (oi := { dst := some 43, op := Op.move (Operand.tmp 0), type := 24, pos := "disk.go:80", after := #[], guard := none }) (v := ?_) rfl (by kernel_rfl) (by kernel_rfl) (by kernel_rfl) (fun _ _ _ h => h) (Or.inl ⟨by rfl, ?hy1⟩) (by assumption) ?_
        case hy1 => (intro w hSw; (try dsimp only at hSw); go_simp; try with_reducible rfl)
        (try simp only [Act.put, List.setIfInBounds_toArray, List.set_cons_zero, List.set_cons_succ])
        refine wpAnyH_take (i := 1) (oi := { dst := some 44, op := Op.nilCheck (Operand.tmp 43), type := 0, pos := "disk.go:80", after := #[{ on := 0, ground := Ground.data }], guard := none }) (v := ?_) rfl (by kernel_rfl) (by kernel_rfl) (by kernel_rfl) (fun _ _ _ h => h) (Or.inl ⟨by rfl, ?hy2⟩) (by assumption) ?_
        case hy2 => (intro w hSw; (try dsimp only at hSw); go_simp; try with_reducible rfl)
        (try simp only [Act.put, List.setIfInBounds_toArray, List.set_cons_zero, List.set_cons_succ])
        refine wpAnyH_take (i := 2) (oi := { dst := some 45, op := Op.fieldAddr 60 (Operand.tmp 44) 0, type := 0, pos := "disk.go:80", after := #[{ on := 1, ground := Ground.data }], guard := none }) (v := ?_) rfl (by kernel_rfl) (by kernel_rfl) (by kernel_rfl) (fun _ _ _ h => h) (Or.inl ⟨by rfl, ?hy3⟩) (by assumption) ?_
        case hy3 => (intro w hSw; (try dsimp only at hSw); go_simp; try with_reducible rfl)
        (try simp only [Act.put, List.setIfInBounds_toArray, List.set_cons_zero, List.set_cons_succ])
        refine wpAnyH_take (i := 3) (oi := { dst := some 46, op := Op.load 58 (Operand.tmp 45), type := 58, pos := "disk.go:80", after := #[{ on := 2, ground := Ground.data }], guard := none }) (v := ?_) rfl (by kernel_rfl) (by kernel_rfl) (by kernel_rfl) (fun _ _ _ h => h) (Or.inl ⟨by rfl, ?hy4⟩) (by assumption) ?_
        case hy4 => (intro w hSw; (try dsimp only at hSw); go_simp; try with_reducible rfl)
        (try simp only [Act.put, List.setIfInBounds_toArray, List.set_cons_zero, List.set_cons_succ])
        refine wpAnyH_take (i := 4) (oi := { dst := some 47, op := Op.move (Operand.tmp 1), type := 9, pos := "disk.go:80", after := #[], guard := none }) (v := ?_) rfl (by kernel_rfl) (by kernel_rfl) (by kernel_rfl) (fun _ _ _ h => h) (Or.inl ⟨by rfl, ?hy5⟩) (by assumption) ?_
        case hy5 => (intro w hSw; (try dsimp only at hSw); go_simp; try with_reducible rfl)
        (try simp only [Act.put, List.setIfInBounds_toArray, List.set_cons_zero, List.set_cons_succ])
        refine wpAnyH_take (i := 5) (oi := { dst := some 48, op := Op.load 63 (Operand.tmp 8), type := 63, pos := "disk.go:80", after := #[], guard := none }) (v := ?_) rfl (by kernel_rfl) (by kernel_rfl) (by kernel_rfl) (fun _ _ _ h => h) (Or.inl ⟨by rfl, ?hy6⟩) (by assumption) ?_
        case hy6 => (intro w hSw; (try dsimp only at hSw); go_simp; try with_reducible rfl)
        (try simp only [Act.put, List.setIfInBounds_toArray, List.set_cons_zero, List.set_cons_succ])
        refine wpAnyH_ready (rs := [6]) (by kernel_rfl) (by simp) (AllReadyH.cons (o := { dst := none, op := Op.mapUpdate 58 (Operand.tmp 46) (Operand.tmp 47) (Operand.tmp 48), type := 0, pos := "disk.go:80", after := #[{ on := 3, ground := Ground.data }, { on := 4, ground := Ground.data }, { on := 5, ground := Ground.data }, { on := 0, ground := Ground.phase }, { on := 1, ground := Ground.phase }, { on := 2, ground := Ground.phase }, { on := 3, ground := Ground.phase }, { on := 4, ground := Ground.phase }, { on := 5, ground := Ground.phase }], guard := none }) rfl (fun K hK => ?_) AllReadyH.nil)
        refine step_store_disk _ (by rfl) _ _ _ (by rfl) (bm := bm) (by rfl) HDM.out HSO.out HLEN.out s (by rfl) hs ⟨z, k, cz, f.s⟩ ⟨(B.get (keyB s)).b ++ b, (B.get (keyB s)).s⟩ (by rfl) HFA.out ?_
        intro w6 hm6 hu6
        (try dsimp only)
        refine Shut.out hK _ _ ?_ (fun hS6 => ?_)
        · exact HKP.out w6 hu6
        clear hK K
        (try simp only [Act.put])
        refine wpAnyH_done (by kernel_rfl) ?_ _
        have HU6 : Hid (Upd (DS bd bm) w w6) := Lib.hid (HU5.out.trans ((Upd.drew _).trans (hu6.mono fun k q => Or.inr q)))
        have HD6 : Hid (DiskSt w6 bd bm { B with fs := putF B.fs (keyB s) ⟨(B.get (keyB s)).b ++ b, (B.get (keyB s)).s⟩ }) := Lib.hid (HDS.out.remap hm6 rfl (HOR.out.putF HGK.out (by have := HOR.out.get (keyB s); show (B.get (keyB s)).s ≤ ((B.get (keyB s)).b ++ b).length; rw [List.length_append]; omega)) ((Upd.drew _).trans hu6))
        have HDID := Lib.hid (did_any bd bm _ w6 (by have := HLR.out.done; show B.done ≤ _; omega) HD6.out)
        clear hm6 hu6 hS0 hS6 c0 c1 c2 c3 c4 hcut
        go_wp2_with fail
        refine HDID.out.mono ?_
        rintro _ w7 ⟨rfl, hd7, hu7⟩
        have HD7 := Lib.hid hd7
        have HU7 : Hid (Upd (DS bd bm) w w7) := Lib.hid (HU6.out.trans (hu7.mono fun k q => Or.inl q))
        clear hd7 hu7
        go_wp2
        go_ret
        exact ⟨by rw [HE2.out]; rfl, by rw [HE2.out]; exact HD7.out, HU7.out⟩
  · have HE : Hid (A.append (keyB s) b = A.ready (keyB s) false []) := Lib.hid (by
      unfold DM.append; simp only; rw [if_pos (by simpa using hz)])
    have hz1 : ((A.ready (keyB s) false []).2 == 0) = false := by simpa using hz
    clear hz hL HRD HOR HLR
    generalize A.ready (keyB s) false [] = R at *
    go_enter Try.func14, Try.ntmps14
    go_wp2_with fail
    refine HR.out.mono ?_
    rintro _ w1 ⟨rfl, hd1, hu1⟩
    have HD1 := Lib.hid hd1
    have HU1 := Lib.hid hu1
    clear hd1 hu1 HR
    go_wp2
    go_ret
    exact ⟨by rw [HE.out]; rfl, by rw [HE.out]; exact HD1.out, HU1.out.mono fun k q => Or.inl q⟩
end Go.Proofs.Ytjojomjnbiakoaa

/-
  The laws' acts: what is done to a disk; the first of them.
-/
import Derived.Test.YtjojomjnbiakoaaDk9
namespace Go.Proofs.Ytjojomjnbiakoaa
open Go.RowKit Go.Maps
set_option linter.unusedVariables false

structure ActM where
  kind : Nat
  name : ByteArray
  dst : ByteArray
  b : List UInt8
  n : Int
  keep : List Int
structure ActM.Ok (a : ActM) : Prop where
  kind : a.kind < 256
  name : a.name.size ≤ maxLen
  dst : a.dst.size ≤ maxLen
  b : a.b.length ≤ maxLen
  n : -9223372036854775808 ≤ a.n ∧ a.n ≤ 9223372036854775807
  keep : a.keep.length ≤ maxLen
def DM.act (A : DM) (a : ActM) : DM × Int :=
  if a.kind % 8 = 0 then A.append (keyB a.name) a.b
  else if a.kind % 8 = 1 then A.sync (keyB a.name)
  else if a.kind % 8 = 2 then A.rename (keyB a.name) (keyB a.dst)
  else if a.kind % 8 = 3 then A.delete (keyB a.name)
  else if a.kind % 8 = 4 then (A.cut a.n, 0)
  else if a.kind % 8 = 5 then (A.crash a.keep, 0)
  else if a.kind % 8 = 6 then (A.put (keyB a.name) a.b, 0)
  else (A, 0)
theorem DM.Lim.act {N T : Nat} {A : DM} (ho : A.Ok) (h : A.Lim N T) (a : ActM) : (A.act a).1.Lim (N + 2) (T + a.b.length) := by
  unfold DM.act
  split
  · exact h.append ho _ _
  · split
    · exact (h.sync ho _).mono (by omega) (by omega)
    · split
      · exact (h.rename ho _ _).mono (by omega) (by omega)
      · split
        · exact (h.delete ho _).mono (by omega) (by omega)
        · split
          · exact (h.cut _).mono (by omega) (by omega)
          · split
            · exact (h.crash _).mono (by omega) (by omega)
            · split
              · exact h.put ho _ _
              · exact h.mono (by omega) (by omega)

/-- How an act's slices lie. -/
structure ActIn (w : World) (xb : Option Addr) (cb : Nat) (xk : Option Addr) (ck : Nat) (a : ActM) : Prop where
  ok : a.Ok
  b : Bytes w xb a.b
  k : Ints w xk a.keep
  bn : xb = none → cb = 0
theorem ActIn.below {w w' : World} {xb xk : Option Addr} {cb ck : Nat} {a : ActM} (h : ActIn w xb cb xk ck a) (hb : Below w.heap.size w w') : ActIn w' xb cb xk ck a :=
  ⟨h.ok, h.b.below hb, h.k.upd (S := fun _ => False) (Upd.of_below hb) (fun _ _ q => q), h.bn⟩
def actCells (xb : Option Addr) (cb : Nat) (xk : Option Addr) (ck : Nat) (a : ActM) : Array Value :=
  #[.int .u8 (a.kind : Nat), .string a.name, .string a.dst, .slice xb a.b.length cb, .int .i64 a.n, .slice xk a.keep.length ck]
/-- The acts of a law. -/
def Acts (w : World) (a : Option Addr) (l : List ActM) : Prop := ∀ i (h : i < l.length), ∃ b off xb cb xk ck, a = some ⟨b, off, none⟩ ∧ ActIn w xb cb xk ck l[i] ∧
  (w.cell? ⟨b, off + i * 6, none⟩ = some (.int .u8 (l[i].kind : Nat)) ∧ w.cell? ⟨b, off + i * 6 + 1, none⟩ = some (.string l[i].name) ∧ w.cell? ⟨b, off + i * 6 + 2, none⟩ = some (.string l[i].dst) ∧ w.cell? ⟨b, off + i * 6 + 3, none⟩ = some (.slice xb l[i].b.length cb) ∧ w.cell? ⟨b, off + i * 6 + 4, none⟩ = some (.int .i64 l[i].n) ∧ w.cell? ⟨b, off + i * 6 + 5, none⟩ = some (.slice xk l[i].keep.length ck))
theorem Acts.take {w : World} {a : Option Addr} {l : List ActM} (h : Acts w a l) (k : Nat) : Acts w a (l.take k) := by
  intro i hi
  have hi' : i < l.length := by simp at hi; omega
  obtain ⟨b, off, xb, cb, xk, ck, e, q⟩ := h i hi'
  exact ⟨b, off, xb, cb, xk, ck, e, by simpa using q⟩

section laws
variable {ops : Array Oper} {rest : List Oper} {o : Oper} {a : Act} {Q : Exit → Act → World → Prop}
theorem step_app_own8 {E0 : Prop} {K : Act → World → Prop} (w : World) (hgd : o.guard = none) (s x : Operand) (ho : o.op = .call { callee := .builtin .append, args := #[s, x], argTypes := #[27, 27] })
    {B : Nat} {v : Value} (hs : a.eval s = v) (hown : w.ownsRow B 5 1 v 0 []) {y : Option Addr} {b : List UInt8} {c m : Nat} (hm : m = b.length) (hb : Bytes w y b) (hx : a.eval x = .slice y m c) (hsz : b.length ≤ 140737488355328) (hK : B ≤ w.heap.size)
    (h : ∀ v' w', w'.ownsRow B 5 1 v' b.length (cells8 b) → Below B w w' → K (a.put o.dst v') w') : if Region.wanted o (yielded ops a.tmps) = true then Oper.wp Try.prog o a w K Q else E0 := by
  obtain ⟨i0, hi0, hz0, hz1, hz2⟩ := info_parts infoU8
  subst hm
  by_cases hb0 : b = []
  · subst hb0
    have hw : Region.wanted o (yielded ops a.tmps) = true := by simp [Region.wanted, hgd]
    rw [if_pos hw]
    obtain ⟨y0, n0, c0, rfl, hn0, hz⟩ : ∃ y0 n0 c0, v = .slice y0 n0 c0 ∧ n0 = 0 ∧ (y0 = none → c0 = 0) := by
      rcases hown.2 with ⟨rfl, _⟩ | ⟨g, cap, cur, rfl, _⟩
      · exact ⟨none, 0, 0, rfl, rfl, fun _ => rfl⟩
      · exact ⟨some ⟨g, 0, none⟩, 0, cap, rfl, rfl, fun e => by cases e⟩
    subst hn0
    have hrun := run_append_zero2 (P := Try.prog) (w := w) 27 o.type 5 i0 Try.underlying27 hi0 y0 0 c0 (Nat.zero_le _) hz y c
    unfold Oper.wp
    simp only [List.length_nil] at hx
    simp [execOp, ho, resolve, invoke, builtin, hs, hx, hrun, Result.andThen]
    exact h _ _ hown (Below.refl _ _)
  · have hpos : 0 < b.length := List.length_pos_iff.2 hb0
    obtain ⟨b1, o1, rfl, _⟩ := hb 0 hpos
    refine step_append_lies (w := w) hgd s x 27 ho B 5 i0 (.int .u8 0) 1 1 Try.underlying27 hi0 hz0 hz1 hz2 rfl (by decide) v 0 [] hs hown ⟨b1, o1, none⟩ b.length c (cells8 b) hx (by rw [cells8_length]; omega) hb.news (cells8_one _) hpos (by unfold maxLen; omega) (by omega) hK _ rfl ?_
    intro g cap w' h1 h2 h3 h4
    exact h _ _ (by simpa using h1) ((Below.refl B w).grown h2 hK (fun k hk => (hown.lt k hk).1))
end laws

/-- The boxed act beside a disk. -/
structure AB (w0 w : World) (bd bm Bx : Nat) (A : DM) (xb : Option Addr) (cb : Nat) (xk : Option Addr) (ck : Nat) (a : ActM) : Prop where
  box : w.heap[Bx]? = some (.cells (actCells xb cb xk ck a) 30 (0, 0))
  st : DiskSt w bd bm A
  up : Upd (DS bd bm) w0 w
  inn : ActIn w xb cb xk ck a
theorem AB.cells {w0 w : World} {bd bm Bx : Nat} {A : DM} {xb xk : Option Addr} {cb ck : Nat} {a : ActM} (h : AB w0 w bd bm Bx A xb cb xk ck a) :
    w.cell? ⟨Bx, 0, none⟩ = some (.int .u8 (a.kind : Nat)) ∧ w.cell? ⟨Bx, 1, none⟩ = some (.string a.name) ∧ w.cell? ⟨Bx, 2, none⟩ = some (.string a.dst) ∧ w.cell? ⟨Bx, 3, none⟩ = some (.slice xb a.b.length cb) ∧ w.cell? ⟨Bx, 4, none⟩ = some (.int .i64 a.n) ∧ w.cell? ⟨Bx, 5, none⟩ = some (.slice xk a.keep.length ck) := by
  have hb := h.box
  refine ⟨?_, ?_, ?_, ?_, ?_, ?_⟩ <;> (simp only [World.cell?, hb]; rfl)
theorem AB.later {w0 w w' : World} {bd bm Bx : Nat} {A : DM} {xb xk : Option Addr} {cb ck : Nat} {a : ActM} (h : AB w0 w bd bm Bx A xb cb xk ck a) (hb : Below w.heap.size w w') : AB w0 w' bd bm Bx A xb cb xk ck a :=
  ⟨heap_below h.box hb, h.st.later hb, h.up.trans (Upd.of_below hb), h.inn.below hb⟩
theorem AB.start {w : World} {bd bm : Nat} {A : DM} {xb xk : Option Addr} {cb ck : Nat} {a : ActM} (h : DiskSt w bd bm A) (hi : ActIn w xb cb xk ck a) : AB w (w.alloc (.cells (actCells xb cb xk ck a) 30)) bd bm w.heap.size A xb cb xk ck a :=
  ⟨heap_at _ _, h.later ((Below.refl _ _).alloc (Nat.le_refl _) _), Upd.alloc _ _, hi.below ((Below.refl _ _).alloc (Nat.le_refl _) _)⟩

theorem AB.nb {w0 w : World} {bd bm Bx : Nat} {A : DM} {xb xk : Option Addr} {cb ck : Nat} {a : ActM} (h : AB w0 w bd bm Bx A xb cb xk ck a) : ¬ DS bd bm Bx := by
  rintro (e | e)
  · have h1 := h.st.box
    rw [← e, h.box] at h1
    simp [diskCells, actCells] at h1
  · obtain ⟨D, ⟨es, clock, hb, _⟩, _⟩ := h.st.map
    rw [← e, h.box] at hb
    cases hb
set_option maxRecDepth 100000 in
set_option maxHeartbeats 3200000 in
theorem does_any (bd bm : Nat) (A : DM) (xb : Option Addr) (cb : Nat) (xk : Option Addr) (ck : Nat) (a : ActM) (N T : Nat) (w : World) (hN : N ≤ 1000000) (hT : T + a.b.length ≤ 1099511627776) (hL : A.Lim N T) (hi : ActIn w xb cb xk ck a) (hkb : a.keep ≠ [] → ∀ y, xk = some y → ¬ DS bd bm y.block) (h : DiskSt w bd bm A) :
    Calls Try.prog 13 #[.pointer (some ⟨bd, 0, none⟩), .agg #[.int .u8 (a.kind : Nat), .string a.name, .string a.dst, .slice xb a.b.length cb, .int .i64 a.n, .slice xk a.keep.length ck]] w fun e w' => e = .returned (.int .i64 (A.act a).2) ∧ DiskSt w' bd bm (A.act a).1 ∧ Upd (DS bd bm) w w' := by
  have hab := AB.start h hi
  have hok := hi.ok
  unfold actCells at hab
  obtain ⟨wB, hwB⟩ : ∃ wB, w.alloc (.cells #[.int .u8 (a.kind : Nat), .string a.name, .string a.dst, .slice xb a.b.length cb, .int .i64 a.n, .slice xk a.keep.length ck] 30) = wB := ⟨_, rfl⟩
  have HWB := Lib.hid hwB
  rw [hwB] at hab
  have HAB := Lib.hid hab
  have HKB := Lib.hid hkb
  have HOK := Lib.hid hok
  have hn := hok.n
  have hlen := hL.len
  have htot := hL.tot
  clear h hi hkb hok hab hwB
  have hk8 : a.kind % 8 = 0 ∨ a.kind % 8 = 1 ∨ a.kind % 8 = 2 ∨ a.kind % 8 = 3 ∨ a.kind % 8 = 4 ∨ a.kind % 8 = 5 ∨ a.kind % 8 = 6 ∨ a.kind % 8 = 7 := by omega
  rcases hk8 with hk | hk | hk | hk | hk | hk | hk | hk
  · have HE : Hid (A.act a = A.append (keyB a.name) a.b) := Lib.hid (by unfold DM.act; simp [hk])
    have hki : (a.kind : Int) % 8 = 0 := by omega
    clear hk
    go_enter Try.func13, Try.ntmps13
    have HOWN : Hid ((wB.drew.alloc (.cells #[] 5)).ownsRow wB.heap.size 5 1 (.slice (some ⟨wB.heap.size, 0, none⟩) 0 0) 0 []) := Lib.hid (World.ownsRow_lit (base := wB.heap.size) (e := 5) (size := 1) wB.drew #[] 0 (Nat.le_refl _) (by unfold maxLen; omega) rfl)
    have HBA : Hid (Below wB.heap.size wB (wB.drew.alloc (.cells #[] 5))) := Lib.hid ((Below.refl _ _).drew.alloc (Nat.le_refl _) _)
    go_wp2_with fail
    rw [HWB.out]
    obtain ⟨Bx, HBX⟩ : ∃ Bx, Hid (w.heap.size = Bx) := ⟨_, Lib.hid rfl⟩
    rw [HBX.out] at HAB
    rw [HBX.out]
    have hcs := HAB.out.cells
    refine wp_region_held_drew (S := (fun w' => w'.cell? ⟨Bx, 1, none⟩ = some (.string a.name) ∧ w'.cell? ⟨Bx, 3, none⟩ = some (.slice xb a.b.length cb))) (by kernel_rfl) ?_ (fun hS0 => ?_)
    · exact ⟨hcs.2.1, hcs.2.2.2.1⟩
    refine wpAnyH_take (i := 0) (oi := { dst := some 10, op := Op.move (Operand.tmp 0), type := 24, pos := "law.go:49", after := #[], guard := none }) (v := ?_) rfl (by kernel_rfl) (by kernel_rfl) (by kernel_rfl) (fun _ _ _ h => h) (Or.inl ⟨by rfl, ?hy1⟩) (by assumption) ?_
    case hy1 => (intro w hSw; (try dsimp only at hSw); go_simp; try with_reducible rfl)
    (try simp only [Act.put, List.setIfInBounds_toArray, List.set_cons_zero, List.set_cons_succ])
    refine wpAnyH_take (i := 1) (oi := { dst := some 11, op := Op.fieldAddr 30 (Operand.tmp 3) 1, type := 0, pos := "law.go:49", after := #[], guard := none }) (v := ?_) rfl (by kernel_rfl) (by kernel_rfl) (by kernel_rfl) (fun _ _ _ h => h) (Or.inl ⟨by rfl, ?hy2⟩) (by assumption) ?_
    case hy2 => (intro w hSw; (try dsimp only at hSw); go_simp; try with_reducible rfl)
    (try simp only [Act.put, List.setIfInBounds_toArray, List.set_cons_zero, List.set_cons_succ])
    refine wpAnyH_take (i := 2) (oi := { dst := some 12, op := Op.load 9 (Operand.tmp 11), type := 9, pos := "law.go:49", after := #[{ on := 1, ground := Ground.data }], guard := none }) (v := ?_) rfl (by kernel_rfl) (by kernel_rfl) (by kernel_rfl) (fun _ _ _ h => h) (Or.inl ⟨by rfl, ?hy3⟩) (by assumption) ?_
    case hy3 => (intro w hSw; (try dsimp only at hSw); go_simp; try with_reducible rfl)
    (try simp only [Act.put, List.setIfInBounds_toArray, List.set_cons_zero, List.set_cons_succ])
    refine wpAnyH_take (i := 4) (oi := { dst := some 14, op := Op.fieldAddr 30 (Operand.tmp 3) 3, type := 0, pos := "law.go:49", after := #[], guard := none }) (v := ?_) rfl (by kernel_rfl) (by kernel_rfl) (by kernel_rfl) (fun _ _ _ h => h) (Or.inl ⟨by rfl, ?hy4⟩) (by assumption) ?_
    case hy4 => (intro w hSw; (try dsimp only at hSw); go_simp; try with_reducible rfl)
    (try simp only [Act.put, List.setIfInBounds_toArray, List.set_cons_zero, List.set_cons_succ])
    refine wpAnyH_take (i := 5) (oi := { dst := some 15, op := Op.load 27 (Operand.tmp 14), type := 27, pos := "law.go:49", after := #[{ on := 4, ground := Ground.data }], guard := none }) (v := ?_) rfl (by kernel_rfl) (by kernel_rfl) (by kernel_rfl) (fun _ _ _ h => h) (Or.inl ⟨by rfl, ?hy5⟩) (by assumption) ?_
    case hy5 => (intro w hSw; (try dsimp only at hSw); go_simp; try with_reducible rfl)
    (try simp only [Act.put, List.setIfInBounds_toArray, List.set_cons_zero, List.set_cons_succ])
    refine wpAnyH_ready (rs := [3]) (by kernel_rfl) (by simp) (AllReadyH.cons (o := { dst := some 13, op := Op.buildSlice 27 0 #[], type := 27, pos := "law.go:49", after := #[], guard := none }) rfl (fun K hK => ?_) AllReadyH.nil)
    go_simp
    (try dsimp only)
    refine Shut.out hK _ _ ?_ (fun hS3 => ?_)
    · exact ⟨(HAB.out.later HBA.out).cells.2.1, (HAB.out.later HBA.out).cells.2.2.2.1⟩
    clear hK K
    (try simp only [Act.put, List.setIfInBounds_toArray, List.set_cons_zero, List.set_cons_succ])
    refine wpAnyH_ready (rs := [6]) (by kernel_rfl) (by simp) (AllReadyH.cons (o := { dst := some 16, op := Op.call { callee := Callee.builtin Builtin.append, args := #[Operand.tmp 13, Operand.tmp 15], argTypes := #[27, 27] }, type := 27, pos := "law.go:49", after := #[{ on := 3, ground := Ground.data }, { on := 5, ground := Ground.data }], guard := none }) rfl (fun K hK => ?_) AllReadyH.nil)
    refine step_app_own8 _ (by rfl) _ _ (by rfl) (B := wB.heap.size) (by rfl) HOWN.out rfl (HAB.out.later HBA.out).inn.b (by rfl) (by omega) (by simp) ?_
    intro v4 w4 how4 hb4
    obtain ⟨z, cz, rfl, hz1, hz2, hz3, hz4⟩ := own8_read how4
    (try dsimp only)
    refine Shut.out hK _ _ ?_ (fun hS6 => ?_)
    · exact ⟨(HAB.out.later (HBA.out.trans hb4)).cells.2.1, (HAB.out.later (HBA.out.trans hb4)).cells.2.2.2.1⟩
    clear hK K
    (try simp only [Act.put, List.setIfInBounds_toArray, List.set_cons_zero, List.set_cons_succ])
    refine wpAnyH_ready (rs := [7]) (by kernel_rfl) (by simp) (AllReadyH.cons (o := { dst := some 17, op := Op.call { callee := Callee.value (Operand.func 14), args := #[Operand.tmp 10, Operand.tmp 12, Operand.tmp 16], argTypes := #[24, 9, 27] }, type := 31, pos := "law.go:49", after := #[{ on := 0, ground := Ground.data }, { on := 2, ground := Ground.data }, { on := 6, ground := Ground.data }, { on := 6, ground := Ground.chain }], guard := none }) rfl (fun K hK => ?_) AllReadyH.nil)
    go_simp
    refine (append_any bd bm A a.name z cz a.b N T _ HOK.out.name hN hT hL hz3 (HAB.out.later (HBA.out.trans hb4)).st.safe (HAB.out.later (HBA.out.trans hb4)).st).mono ?_
    rintro _ w5 ⟨rfl, hd5, hu5⟩
    (try dsimp only)
    refine Shut.out hK _ _ ?_ (fun hS7 => ?_)
    · exact ⟨hu5.cell HAB.out.nb hS6.1, hu5.cell HAB.out.nb hS6.2⟩
    clear hK K
    (try simp only [Act.put, List.setIfInBounds_toArray, List.set_cons_zero, List.set_cons_succ])
    refine wpAnyH_take (i := 8) (oi := { dst := some 4, op := Op.assign (Operand.tmp 17), type := 31, pos := "law.go:49", after := #[{ on := 7, ground := Ground.data }, { on := 7, ground := Ground.chain }, { on := 0, ground := Ground.phase }, { on := 1, ground := Ground.phase }, { on := 2, ground := Ground.phase }, { on := 3, ground := Ground.phase }, { on := 4, ground := Ground.phase }, { on := 5, ground := Ground.phase }, { on := 6, ground := Ground.phase }, { on := 7, ground := Ground.phase }], guard := none }) (v := ?_) rfl (by kernel_rfl) (by kernel_rfl) (by kernel_rfl) (fun _ _ _ h => h) (Or.inl ⟨by rfl, ?hy6⟩) (by assumption) ?_
    case hy6 => (intro w hSw; (try dsimp only at hSw); go_simp; try with_reducible rfl)
    (try simp only [Act.put, List.setIfInBounds_toArray, List.set_cons_zero, List.set_cons_succ])
    refine wpAnyH_done (by kernel_rfl) ?_ _
    have HD5 := Lib.hid hd5
    have HU5 : Hid (Upd (DS bd bm) w w5) := Lib.hid ((HAB.out.up.trans (Upd.of_below (HBA.out.trans hb4))).trans hu5)
    clear hd5 hu5 hb4 hS0 hS3 hS6 hS7 hcs how4 hz2 hz3 hz4
    go_wp2
    go_ret
    exact ⟨by rw [HE.out]; rfl, by rw [HE.out]; exact HD5.out, HU5.out⟩
  · have HE : Hid (A.act a = A.sync (keyB a.name)) := Lib.hid (by unfold DM.act; simp [hk])
    have hki : (a.kind : Int) % 8 = 1 := by omega
    clear hk
    go_enter Try.func13, Try.ntmps13
    have HC := Lib.hid (sync_any bd bm A a.name N T wB HOK.out.name hN (by omega) hL HAB.out.st)
    go_wp2_with fail
    rw [HWB.out]
    refine HC.out.mono ?_
    rintro _ w5 ⟨rfl, hd5, hu5⟩
    have HD5 := Lib.hid hd5
    have HU5 : Hid (Upd (DS bd bm) w w5) := Lib.hid (HAB.out.up.trans (hu5))
    clear hd5 hu5 HC
    go_wp2
    go_ret
    exact ⟨by rw [HE.out]; rfl, by rw [HE.out]; exact HD5.out, HU5.out⟩
  · have HE : Hid (A.act a = A.rename (keyB a.name) (keyB a.dst)) := Lib.hid (by unfold DM.act; simp [hk])
    have hki : (a.kind : Int) % 8 = 2 := by omega
    clear hk
    go_enter Try.func13, Try.ntmps13
    have HC := Lib.hid (rename_any bd bm A a.name a.dst N T wB HOK.out.name HOK.out.dst hN hL HAB.out.st)
    go_wp2_with fail
    rw [HWB.out]
    refine HC.out.mono ?_
    rintro _ w5 ⟨rfl, hd5, hu5⟩
    have HD5 := Lib.hid hd5
    have HU5 : Hid (Upd (DS bd bm) w w5) := Lib.hid (HAB.out.up.trans (hu5))
    clear hd5 hu5 HC
    go_wp2
    go_ret
    exact ⟨by rw [HE.out]; rfl, by rw [HE.out]; exact HD5.out, HU5.out⟩
  · have HE : Hid (A.act a = A.delete (keyB a.name)) := Lib.hid (by unfold DM.act; simp [hk])
    have hki : (a.kind : Int) % 8 = 3 := by omega
    clear hk
    go_enter Try.func13, Try.ntmps13
    have HC := Lib.hid (delete_any bd bm A a.name N T wB HOK.out.name hN hL HAB.out.st)
    go_wp2_with fail
    rw [HWB.out]
    refine HC.out.mono ?_
    rintro _ w5 ⟨rfl, hd5, hu5⟩
    have HD5 := Lib.hid hd5
    have HU5 : Hid (Upd (DS bd bm) w w5) := Lib.hid (HAB.out.up.trans (hu5))
    clear hd5 hu5 HC
    go_wp2
    go_ret
    exact ⟨by rw [HE.out]; rfl, by rw [HE.out]; exact HD5.out, HU5.out⟩
  · have HE : Hid (A.act a = (A.cut a.n, 0)) := Lib.hid (by unfold DM.act; simp [hk])
    have hki : (a.kind : Int) % 8 = 4 := by omega
    clear hk
    go_enter Try.func13, Try.ntmps13
    have HC := Lib.hid (cut_any bd bm A a.n wB hn HAB.out.st)
    go_wp2_with fail
    rw [HWB.out]
    refine HC.out.mono ?_
    rintro _ w5 ⟨rfl, hd5, hu5⟩
    have HD5 := Lib.hid hd5
    have HU5 : Hid (Upd (DS bd bm) w w5) := Lib.hid (HAB.out.up.trans (hu5.mono fun k q => Or.inl q))
    clear hd5 hu5 HC
    go_wp2
    go_ret
    exact ⟨by rw [HE.out]; rfl, by rw [HE.out]; exact HD5.out, HU5.out⟩
  · have HE : Hid (A.act a = (A.crash a.keep, 0)) := Lib.hid (by unfold DM.act; simp [hk])
    have hki : (a.kind : Int) % 8 = 5 := by omega
    clear hk
    go_enter Try.func13, Try.ntmps13
    have HC := Lib.hid (crash_any bd bm A xk ck a.keep wB (by omega) (by omega) HOK.out.keep HAB.out.inn.k HKB.out HAB.out.st)
    go_wp2_with fail
    rw [HWB.out]
    refine HC.out.mono ?_
    rintro _ w5 ⟨rfl, hd5, hu5⟩
    have HD5 := Lib.hid hd5
    have HU5 : Hid (Upd (DS bd bm) w w5) := Lib.hid (HAB.out.up.trans (hu5))
    clear hd5 hu5 HC
    go_wp2
    go_ret
    exact ⟨by rw [HE.out]; rfl, by rw [HE.out]; exact HD5.out, HU5.out⟩
  · have HE : Hid (A.act a = (A.put (keyB a.name) a.b, 0)) := Lib.hid (by unfold DM.act; simp [hk])
    have hki : (a.kind : Int) % 8 = 6 := by omega
    clear hk
    go_enter Try.func13, Try.ntmps13
    have HOWN : Hid ((wB.drew.alloc (.cells #[] 5)).ownsRow wB.heap.size 5 1 (.slice (some ⟨wB.heap.size, 0, none⟩) 0 0) 0 []) := Lib.hid (World.ownsRow_lit (base := wB.heap.size) (e := 5) (size := 1) wB.drew #[] 0 (Nat.le_refl _) (by unfold maxLen; omega) rfl)
    have HBA : Hid (Below wB.heap.size wB (wB.drew.alloc (.cells #[] 5))) := Lib.hid ((Below.refl _ _).drew.alloc (Nat.le_refl _) _)
    go_wp2_with fail
    rw [HWB.out]
    obtain ⟨Bx, HBX⟩ : ∃ Bx, Hid (w.heap.size = Bx) := ⟨_, Lib.hid rfl⟩
    rw [HBX.out] at HAB
    rw [HBX.out]
    have hcs := HAB.out.cells
    refine wp_region_held_drew (S := (fun w' => w'.cell? ⟨Bx, 1, none⟩ = some (.string a.name) ∧ w'.cell? ⟨Bx, 3, none⟩ = some (.slice xb a.b.length cb))) (by kernel_rfl) ?_ (fun hS0 => ?_)
    · exact ⟨hcs.2.1, hcs.2.2.2.1⟩
    refine wpAnyH_take (i := 0) (oi := { dst := some 52, op := Op.move (Operand.tmp 0), type := 24, pos := "law.go:61", after := #[], guard := none }) (v := ?_) rfl (by kernel_rfl) (by kernel_rfl) (by kernel_rfl) (fun _ _ _ h => h) (Or.inl ⟨by rfl, ?hy1⟩) (by assumption) ?_
    case hy1 => (intro w hSw; (try dsimp only at hSw); go_simp; try with_reducible rfl)
    (try simp only [Act.put, List.setIfInBounds_toArray, List.set_cons_zero, List.set_cons_succ])
    refine wpAnyH_take (i := 1) (oi := { dst := some 53, op := Op.fieldAddr 30 (Operand.tmp 3) 1, type := 0, pos := "law.go:61", after := #[], guard := none }) (v := ?_) rfl (by kernel_rfl) (by kernel_rfl) (by kernel_rfl) (fun _ _ _ h => h) (Or.inl ⟨by rfl, ?hy2⟩) (by assumption) ?_
    case hy2 => (intro w hSw; (try dsimp only at hSw); go_simp; try with_reducible rfl)
    (try simp only [Act.put, List.setIfInBounds_toArray, List.set_cons_zero, List.set_cons_succ])
    refine wpAnyH_take (i := 2) (oi := { dst := some 54, op := Op.load 9 (Operand.tmp 53), type := 9, pos := "law.go:61", after := #[{ on := 1, ground := Ground.data }], guard := none }) (v := ?_) rfl (by kernel_rfl) (by kernel_rfl) (by kernel_rfl) (fun _ _ _ h => h) (Or.inl ⟨by rfl, ?hy3⟩) (by assumption) ?_
    case hy3 => (intro w hSw; (try dsimp only at hSw); go_simp; try with_reducible rfl)
    (try simp only [Act.put, List.setIfInBounds_toArray, List.set_cons_zero, List.set_cons_succ])
    refine wpAnyH_take (i := 4) (oi := { dst := some 56, op := Op.fieldAddr 30 (Operand.tmp 3) 3, type := 0, pos := "law.go:61", after := #[], guard := none }) (v := ?_) rfl (by kernel_rfl) (by kernel_rfl) (by kernel_rfl) (fun _ _ _ h => h) (Or.inl ⟨by rfl, ?hy4⟩) (by assumption) ?_
    case hy4 => (intro w hSw; (try dsimp only at hSw); go_simp; try with_reducible rfl)
    (try simp only [Act.put, List.setIfInBounds_toArray, List.set_cons_zero, List.set_cons_succ])
    refine wpAnyH_take (i := 5) (oi := { dst := some 57, op := Op.load 27 (Operand.tmp 56), type := 27, pos := "law.go:61", after := #[{ on := 4, ground := Ground.data }], guard := none }) (v := ?_) rfl (by kernel_rfl) (by kernel_rfl) (by kernel_rfl) (fun _ _ _ h => h) (Or.inl ⟨by rfl, ?hy5⟩) (by assumption) ?_
    case hy5 => (intro w hSw; (try dsimp only at hSw); go_simp; try with_reducible rfl)
    (try simp only [Act.put, List.setIfInBounds_toArray, List.set_cons_zero, List.set_cons_succ])
    refine wpAnyH_ready (rs := [3]) (by kernel_rfl) (by simp) (AllReadyH.cons (o := { dst := some 55, op := Op.buildSlice 27 0 #[], type := 27, pos := "law.go:61", after := #[], guard := none }) rfl (fun K hK => ?_) AllReadyH.nil)
    go_simp
    (try dsimp only)
    refine Shut.out hK _ _ ?_ (fun hS3 => ?_)
    · exact ⟨(HAB.out.later HBA.out).cells.2.1, (HAB.out.later HBA.out).cells.2.2.2.1⟩
    clear hK K
    (try simp only [Act.put, List.setIfInBounds_toArray, List.set_cons_zero, List.set_cons_succ])
    refine wpAnyH_ready (rs := [6]) (by kernel_rfl) (by simp) (AllReadyH.cons (o := { dst := some 58, op := Op.call { callee := Callee.builtin Builtin.append, args := #[Operand.tmp 55, Operand.tmp 57], argTypes := #[27, 27] }, type := 27, pos := "law.go:61", after := #[{ on := 3, ground := Ground.data }, { on := 5, ground := Ground.data }], guard := none }) rfl (fun K hK => ?_) AllReadyH.nil)
    refine step_app_own8 _ (by rfl) _ _ (by rfl) (B := wB.heap.size) (by rfl) HOWN.out rfl (HAB.out.later HBA.out).inn.b (by rfl) (by omega) (by simp) ?_
    intro v4 w4 how4 hb4
    obtain ⟨z, cz, rfl, hz1, hz2, hz3, hz4⟩ := own8_read how4
    (try dsimp only)
    refine Shut.out hK _ _ ?_ (fun hS6 => ?_)
    · exact ⟨(HAB.out.later (HBA.out.trans hb4)).cells.2.1, (HAB.out.later (HBA.out.trans hb4)).cells.2.2.2.1⟩
    clear hK K
    (try simp only [Act.put, List.setIfInBounds_toArray, List.set_cons_zero, List.set_cons_succ])
    refine wpAnyH_ready (rs := [7]) (by kernel_rfl) (by simp) (AllReadyH.cons (o := { dst := some 59, op := Op.call { callee := Callee.value (Operand.func 23), args := #[Operand.tmp 52, Operand.tmp 54, Operand.tmp 58], argTypes := #[24, 9, 27] }, type := 0, pos := "law.go:61", after := #[{ on := 0, ground := Ground.data }, { on := 2, ground := Ground.data }, { on := 6, ground := Ground.data }, { on := 6, ground := Ground.chain }], guard := none }) rfl (fun K hK => ?_) AllReadyH.nil)
    go_simp
    refine (put_any bd bm A a.name z cz a.b _ HOK.out.name (by omega) (by omega) hz3 hz4 (HAB.out.later (HBA.out.trans hb4)).st).mono ?_
    rintro _ w5 ⟨rfl, hd5, hu5⟩
    (try dsimp only)
    refine Shut.out hK _ _ ?_ (fun hS7 => ?_)
    · exact ⟨hu5.cell HAB.out.nb hS6.1, hu5.cell HAB.out.nb hS6.2⟩
    clear hK K
    (try simp only [Act.put, List.setIfInBounds_toArray, List.set_cons_zero, List.set_cons_succ])
    refine wpAnyH_done (by kernel_rfl) ?_ _
    have HD5 := Lib.hid hd5
    have HU5 : Hid (Upd (DS bd bm) w w5) := Lib.hid ((HAB.out.up.trans (Upd.of_below (HBA.out.trans hb4))).trans hu5)
    clear hd5 hu5 hb4 hS0 hS3 hS6 hS7 hcs how4 hz2 hz3 hz4
    go_wp2
    go_ret
    exact ⟨by rw [HE.out]; rfl, by rw [HE.out]; exact HD5.out, HU5.out⟩
  · have HE : Hid (A.act a = (A, 0)) := Lib.hid (by unfold DM.act; simp [hk])
    have hki : (a.kind : Int) % 8 = 7 := by omega
    clear hk
    go_enter Try.func13, Try.ntmps13
    go_wp2
    go_ret
    exact ⟨by rw [HE.out]; rfl, by rw [HE.out, HWB.out]; exact HAB.out.st, by rw [HWB.out]; exact HAB.out.up⟩
end Go.Proofs.Ytjojomjnbiakoaa

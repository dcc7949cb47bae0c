/-
  The disk's operations: size, safe, done, dead, cut, sync, delete, rename.
-/
import Derived.Test.YtjojomjnbiakoaaDk3
import Derived.Deep.DeepCutAuto
import Derived.Outline
namespace Go.Proofs.Ytjojomjnbiakoaa
open Go.RowKit Go.Maps
set_option linter.unusedVariables false

theorem field_safe (x : Option Addr) (n c : Nat) (s : Int) (w : World) : (Instr.field 63 (.agg #[.slice x n c, .int .i64 s]) 1).run Try.prog w = .ok (.int .i64 s) w := by kernel_rfl
def fileV (f : FV) : Value := .agg #[.slice f.x f.n f.c, .int .i64 (f.s : Nat)]
def sumLen (fs : List (Key × FM)) (ss : List Key) : Nat := (ss.map (oldLen fs)).sum
theorem sumLen_snoc (fs : List (Key × FM)) (ss : List Key) (x : Key) : sumLen fs (ss ++ [x]) = sumLen fs ss + oldLen fs x := by simp [sumLen]
theorem oldLen_le (fs : List (Key × FM)) (k : Key) : oldLen fs k ≤ tot fs := by
  unfold oldLen
  split
  · rename_i h; exact old_le h
  · omega
theorem sumLen_le (fs : List (Key × FM)) : ∀ ss : List Key, sumLen fs ss ≤ ss.length * tot fs
  | [] => by simp [sumLen]
  | x :: t => by
    have ih := sumLen_le fs t
    have h1 : sumLen fs (x :: t) = oldLen fs x + sumLen fs t := by simp [sumLen]
    have h2 := oldLen_le fs x
    rw [h1, List.length_cons, Nat.succ_mul]
    omega
theorem sumLen_perm {fs : List (Key × FM)} {a b : List Key} (h : a.Perm b) : sumLen fs a = sumLen fs b := (h.map _).sum_nat
theorem sumLen_keys {fs : List (Key × FM)} (h : SortedF fs) : sumLen fs (fs.map (·.1)) = tot fs := by
  unfold sumLen tot
  rw [List.map_map]
  congr 1
  apply List.map_congr_left
  intro p hp
  show oldLen fs p.1 = p.2.b.length
  unfold oldLen
  rw [mem_lkup h hp]

set_option maxRecDepth 100000 in
set_option maxHeartbeats 800000 in
theorem safe_any (bd bm : Nat) (A : DM) (s : ByteArray) (w : World) (hs : s.size ≤ maxLen) (h : DiskSt w bd bm A) :
    Calls Try.prog 12 #[.pointer (some ⟨bd, 0, none⟩), .string s] w fun e w' => e = .returned (.int .i64 (A.safe (keyB s) : Nat)) ∧ w = w' := by
  obtain ⟨⟨c0, c1, c2, c3, c4⟩, _⟩ := h.cells
  have HM := Lib.hid h.map
  have hfd := field_safe
  clear h
  go_enter Try.func12, Try.ntmps12
  go_wp2_with (at_lookup; refine look_disk _ rfl _ _ rfl rfl HM.out s rfl hs ?_; intro f hf; have HF := Lib.hid hf; clear hf)
  go_ret
  exact ⟨ret_int (by have := HF.out.s; unfold DM.safe DM.get; omega), rfl⟩
set_option maxRecDepth 100000 in
theorem done_any (bd bm : Nat) (A : DM) (w : World) (h : DiskSt w bd bm A) :
    Calls Try.prog 16 #[.pointer (some ⟨bd, 0, none⟩)] w fun e w' => e = .returned (.int .i64 (A.done : Nat)) ∧ w = w' := by
  obtain ⟨⟨c0, c1, c2, c3, c4⟩, _⟩ := h.cells
  clear h
  go_enter Try.func16, Try.ntmps16
  go_wp2
  go_ret
  exact ⟨rfl, rfl⟩
set_option maxRecDepth 100000 in
theorem dead_any (bd bm : Nat) (A : DM) (w : World) (h : DiskSt w bd bm A) :
    Calls Try.prog 17 #[.pointer (some ⟨bd, 0, none⟩)] w fun e w' => e = .returned (.bool A.dead) ∧ w = w' := by
  obtain ⟨⟨c0, c1, c2, c3, c4⟩, _⟩ := h.cells
  clear h
  go_enter Try.func17, Try.ntmps17
  go_wp2
  go_ret
  exact ⟨rfl, rfl⟩
set_option maxRecDepth 100000 in
set_option maxHeartbeats 800000 in
theorem cut_any (bd bm : Nat) (A : DM) (n : Int) (w : World) (hn : -9223372036854775808 ≤ n ∧ n ≤ 9223372036854775807) (h : DiskSt w bd bm A) :
    Calls Try.prog 15 #[.pointer (some ⟨bd, 0, none⟩), .int .i64 n] w fun e w' => e = .returned (.tuple #[]) ∧ DiskSt w' bd bm (A.cut n) ∧ Upd (· = bd) w w' := by
  obtain ⟨⟨c0, c1, c2, c3, c4⟩, hf⟩ := h.cells
  have f3 := hf 3
  have HH := Lib.hid h
  have HB := Lib.hid h.box
  clear h hf
  cases hd : A.dead with
  | true =>
    have HE : Hid (A.cut n = A) := Lib.hid (by unfold DM.cut; rw [if_pos hd])
    rw [hd] at c2
    clear hd
    go_enter Try.func15, Try.ntmps15
    go_wp2
    go_end0
    exact ⟨rfl, by rw [HE.out]; exact HH.out, Upd.refl _ _⟩
  | false =>
    have HE : Hid (A.cut n = { A with fuse := max n (-1) }) := Lib.hid (by unfold DM.cut; rw [if_neg (by rw [hd]; decide)])
    have HOK : Hid (A.cut n).Ok := Lib.hid (HH.out.ok.cut n hn.2)
    rw [hd] at c2
    have HD := Lib.hid hd
    clear hd
    by_cases hm : n < -1
    · have hmx : Hid (max n (-1) = -1) := Lib.hid (by omega)
      go_enter Try.func15, Try.ntmps15
      go_wp2
      go_end0
      have hu : Upd (· = bd) w (w.setCell ⟨bd, 3, none⟩ (.int .i64 (-1))) := Upd.setCell (S := (· = bd)) _ _ _ rfl
      refine ⟨rfl, HH.out.set (by rw [HE.out]) HOK.out hu ?_, hu⟩
      rw [heap_setCell_same _ _ _ _ _ _ HB.out, HE.out]
      simp [diskCells, hmx.out]
    · have hmx : Hid (max n (-1) = n) := Lib.hid (by omega)
      go_enter Try.func15, Try.ntmps15
      go_wp2
      go_end0
      have hu : Upd (· = bd) w (w.setCell ⟨bd, 3, none⟩ (.int .i64 n)) := Upd.setCell (S := (· = bd)) _ _ _ rfl
      refine ⟨rfl, HH.out.set (by rw [HE.out]) HOK.out hu ?_, hu⟩
      rw [heap_setCell_same _ _ _ _ _ _ HB.out, HE.out]
      simp [diskCells, hmx.out]

set_option maxRecDepth 100000 in
set_option maxHeartbeats 800000 in
theorem size_any (bd bm : Nat) (A : DM) (w : World) (hn : A.fs.length ≤ 1000000) (ht : tot A.fs ≤ 1099511627776) (h : DiskSt w bd bm A) :
    Calls Try.prog 21 #[.pointer (some ⟨bd, 0, none⟩)] w fun e w' => e = .returned (.int .i64 (tot A.fs : Nat)) ∧ Below w.heap.size w w' := by
  obtain ⟨⟨c0, c1, c2, c3, c4⟩, _⟩ := h.cells
  have hso := h.ok.sorted
  obtain ⟨D, h1, h2, h3⟩ := h.map
  have HP := Lib.hid (keys_perm h1 h2 hso)
  have HLN : Hid (∀ x (c : FV) (y : DataW Value × List MemPlace), heldR (fileV c) = some y → (∀ zd, D.atKey (.string x) zd = y.1) → c.n = oldLen A.fs x) := Lib.hid (fun x c y hy hat => by
    have hh := has_true_of_atKey hat
    rw [h2] at hh
    obtain ⟨m, hm⟩ := Option.isSome_iff_exists.1 hh
    obtain ⟨f, q1, q2⟩ := h3 x m hm
    have e := (q1 .nil).symm.trans (hat .nil)
    have e2 : heldR (fileV c) = some (.held c.val, []) := heldR_val c
    rw [e2] at hy
    cases hy
    simp only [DataW.held.injEq] at e
    rw [← FV.val_inj e, q2.n]
    unfold oldLen
    rw [hm])
  have HSZ : Hid (Maps.size D = A.fs.length) := Lib.hid (map_size h1 h2 hso)
  have HEND : Hid (∀ (ss : List Key) (left : Lit → Bool) (w' : World), Collected D left ss → w'.ownsMap Try.prog 9 heldR bm (Maps.size D) D → (∀ kl, left kl = false) → sumLen A.fs ss = tot A.fs) := Lib.hid (fun ss left w' hC how hl => by
    have hp := hC.perm how keyLaw Try.underlying9 hl
    rw [sumLen_perm (hp.trans HP.out.symm), sumLen_keys hso])
  have HST : Hid (sumLen A.fs [] = 0) := Lib.hid rfl
  have HSN : Hid (∀ ss x, sumLen A.fs (ss ++ [x]) = sumLen A.fs ss + oldLen A.fs x) := Lib.hid (sumLen_snoc A.fs)
  have HSL : Hid (∀ ss : List Key, ss.length ≤ 1000000 → sumLen A.fs ss ≤ 1099511627776000000) := Lib.hid (fun ss hss => by
    have h1 := sumLen_le A.fs ss
    have h2 : ss.length * tot A.fs ≤ 1000000 * 1099511627776 := Nat.mul_le_mul hss ht
    omega)
  have HOWN := Lib.hid h1
  have HOL : Hid (∀ x, oldLen A.fs x ≤ 1099511627776) := Lib.hid (fun x => Nat.le_trans (oldLen_le A.fs x) ht)
  generalize sumLen A.fs = SL at *
  generalize oldLen A.fs = OL at *
  clear h h1 h2 h3 hso HP
  go_enter Try.func21, Try.ntmps21
  go_wp2_with (at_range; refine wpList_range_own _ rfl _ 58 rfl 9 63 keyLaw Try.underlying58 heldR bm _ D rfl HOWN.out ?_; intro w0 hrg0 hg0 hs0)
  go_frame
  have HRG0 := Lib.hid hrg0
  have HB0 : Hid (Below w.heap.size w w0) := Lib.hid (Upd.grown (S := fun _ => False) hg0 (fun k e => by cases e)).below0
  clear hrg0 hg0 hs0
  obtain ⟨r, HRE⟩ : ∃ r, Hid (w.heap.size = r) := ⟨_, Lib.hid rfl⟩
  have HRB : Hid (∀ wr w' : World, Below w.heap.size w wr → wr.grownBy w' (some r) → Below w.heap.size w w') := Lib.hid (fun wr w' h1 h2 => h1.grown h2 h1.size (fun k e => by cases e; rw [HRE.out]; exact Nat.le_refl _))
  rw [HRE.out] at HRG0 HB0 HRB ⊢
  go_loopw [3] (fun nv wr => ∃ (left : Lit → Bool) (cnt : Nat) (ss : List Key), Hid (wr.ranges Try.prog 9 heldR bm r (Maps.size D) D left cnt) ∧ Hid (Collected D left ss) ∧ Hid (ss.length + cnt ≤ Maps.size D) ∧ nv = .int .i64 (SL ss : Nat) ∧ Hid (Below r w wr)) (fun _ wr => wr.rangeLeft bm r)
  case atStart => exact ⟨_, _, [], HRG0, Lib.hid (Collected.start D), Lib.hid (by simp), by rw [HST.out]; rfl, HB0⟩
  case round =>
    obtain ⟨left, cnt, ss, HRG, HC, HCN, rfl, HW⟩ := hrel
    obtain ⟨wA, rfl⟩ : ∃ wA, wA = wr := ⟨_, rfl⟩
    have hsl := HSL.out ss (by have := HCN.out; have := HSZ.out; omega)
    go_wp2_with (at_next; refine wpList_next_ranges _ rfl _ rfl 9 keyLaw heldR Go.Proofs.encStr fileV (fun key kl hk => by obtain ⟨x, hx, _⟩ := Go.Maps.keyOf_str Try.underlying9 hk; exact ⟨x, hx⟩) (fun v y hv => by obtain ⟨c, hc, _⟩ := heldR_inv hv; exact ⟨c, hc⟩) bm r _ _ _ _ rfl HRG.out ?_ ?_)
    · intro _ hl0
      have HE := Lib.hid (HEND.out ss left wA HC.out HRG.out.owns hl0)
      clear hl0
      go_wp2
      go_ret
      exact ⟨ret_int (by rw [HE.out]), by rw [HRE.out]; exact HW.out⟩
    · intro x c kl yd yp w2 cnt2 hkey hlk hv hat hrg2 hlt hg2 hs2 hen
      obtain ⟨x', ex, rfl, _⟩ := Go.Maps.keyOf_str Try.underlying9 hkey
      obtain rfl : x = x' := encStr_inj ex
      have HN : Hid (c.n = OL x) := Lib.hid (HLN.out x c (yd, yp) hv hat)
      have HC2 := Lib.hid (HC.out.step hlk hat)
      have HRG2 := Lib.hid hrg2
      have HB2 := Lib.hid (HRB.out wA w2 HW.out hg2)
      have HCN2 : Hid ((ss ++ [x]).length + cnt2 ≤ Maps.size D) := Lib.hid (by have := HCN.out; rw [List.length_append]; simp; omega)
      have HMS : Hid (cnt2 < cnt) := Lib.hid hlt
      have hol : c.n ≤ 1099511627776 := by have := HOL.out x; have := HN.out; omega
      have hen' : (Instr.entry (.pointer (some ⟨r, 0, none⟩))).run Try.prog w2 = .ok (.tuple #[Go.Proofs.encStr x, .agg #[.slice c.x c.n c.c, .int .i64 (c.s : Nat)]]) w2 := hen
      clear hkey hlk hv hat hrg2 hg2 hs2 hlt hen ex
      go_wp2
      refine ⟨⟨_, cnt2, ss ++ [x], Lib.hid (HRG2.out.alloc _), HC2, HCN2, ?_, Lib.hid (HB2.out.trans (((Below.refl _ _).alloc (Nat.le_refl _) _).mono (by have := HB2.out.size; have := HRE.out; omega)))⟩, ?_⟩
      · rw [HSN.out, ← HN.out]; go_num
      · rw [(HRG2.out.alloc _).left_eq, HRG.out.left_eq]; exact HMS.out
set_option maxRecDepth 100000 in
set_option maxHeartbeats 1600000 in
theorem sync_any (bd bm : Nat) (A : DM) (s : ByteArray) (N T : Nat) (w : World) (hs : s.size ≤ maxLen) (hN : N ≤ 1000000) (hT : T ≤ 17592186044416) (hL : A.Lim N T) (h : DiskSt w bd bm A) :
    Calls Try.prog 28 #[.pointer (some ⟨bd, 0, none⟩), .string s] w fun e w' => e = .returned (.int .i64 (A.sync (keyB s)).2) ∧ DiskSt w' bd bm (A.sync (keyB s)).1 ∧ Upd (DS bd bm) w w' := by
  have HR := Lib.hid (ready_any bd bm A s true none 0 [] w hs (by simp) (strs_nil _ _) h)
  have HO := Lib.hid (h.ok.sync (keyB s))
  have HRD : Hid (readyB A s true [] = A.ready (keyB s) true []) := Lib.hid rfl
  rw [HRD.out] at HR
  have HLR := Lib.hid (hL.ready (keyB s) true [])
  have HOR := Lib.hid (h.ok.ready (keyB s) true [])
  clear h
  by_cases hz : (A.ready (keyB s) true []).2 = 0
  · have HE : Hid (A.sync (keyB s) = (DM.did { (A.ready (keyB s) true []).1 with fs := putF (A.ready (keyB s) true []).1.fs (keyB s) ⟨((A.ready (keyB s) true []).1.get (keyB s)).b, ((A.ready (keyB s) true []).1.get (keyB s)).b.length⟩ }, 0)) := Lib.hid (by
      unfold DM.sync; simp only; rw [if_neg (by rw [hz]; simp)])
    have HGK := Lib.hid (ready_good hz).1
    rw [hz] at HR
    clear hz hL HRD
    generalize (A.ready (keyB s) true []).1 = B at *
    go_enter Try.func28, Try.ntmps28
    go_wp2_with fail
    refine HR.out.mono ?_
    rintro _ w1 ⟨rfl, hd1, hu1⟩
    obtain ⟨⟨c0, c1, c2, c3, c4⟩, _⟩ := hd1.cells
    have HD1 := Lib.hid hd1
    have HU1 := Lib.hid hu1
    clear hd1 hu1 HR
    go_wp2_with (at_lookup; refine look_disk _ rfl _ _ rfl rfl HD1.out.map s rfl hs ?_; intro f hf; have HF := Lib.hid hf; clear hf)
    have HFN := Lib.hid HF.out.n
    have hlf := local_file HD1.out f.x f.n f.c (f.n : Nat)
    have HS0 := Lib.hid hlf.1
    have HDS := Lib.hid hlf.2.1
    have HKP := Lib.hid hlf.2.2
    have HDM : Hid (MapSt (w1.alloc (.cells #[.slice f.x f.n f.c, .int .i64 (f.n : Nat)] 63)).drew bm B.fs) := Lib.hid (HDS.out.map.upd (S := fun _ => False) (Upd.drew _) (fun _ q => q.elim) (fun q => q))
    have HSO := Lib.hid HOR.out.sorted
    have HLEN : Hid (B.fs.length < maxLen) := Lib.hid (by have := HLR.out.len; unfold maxLen; omega)
    have HFA : Hid (FileAt (w1.alloc (.cells #[.slice f.x f.n f.c, .int .i64 (f.n : Nat)] 63)).drew ⟨f.x, f.n, f.c, f.n⟩ ⟨(B.get (keyB s)).b, (B.get (keyB s)).b.length⟩) := Lib.hid (by
      have h := HF.out.upd (S := fun _ => False) ((Upd.alloc w1 (.cells #[.slice f.x f.n f.c, .int .i64 (f.n : Nat)] 63)).trans (Upd.drew _)) (fun _ q => q.elim)
      exact ⟨h.n, h.n, h.le, h.cap, h.by', h.nil⟩)
    clear hlf
    refine wp_region_held_drew (S := (fun w' => w'.cell? ⟨bd, 0, none⟩ = some (.map (some bm)) ∧ w'.cell? ⟨w1.heap.size, 0, none⟩ = some (.slice f.x f.n f.c) ∧ w'.cell? ⟨w1.heap.size, 1, none⟩ = some (.int .i64 (f.n : Nat)))) (by kernel_rfl) ?_ (fun hS0 => ?_)
    · exact HS0.out
    refine wpAnyH_take (i := 0) (oi := { dst := some 23, op := Op.move (Operand.tmp 0), type := 24, pos := "disk.go:91", after := #[], guard := none }) (v := ?_) rfl (by kernel_rfl) (by kernel_rfl) (by kernel_rfl) (fun _ _ _ h => h) (Or.inl ⟨by rfl, ?hy1⟩) (by assumption) ?_
    case hy1 => (intro w hSw; (try dsimp only at hSw); go_simp; try with_reducible rfl)
    (try simp only [Act.put, List.setIfInBounds_toArray, List.set_cons_zero, List.set_cons_succ])
    refine wpAnyH_take (i := 1) (oi := { dst := some 24, op := Op.nilCheck (Operand.tmp 23), type := 0, pos := "disk.go:91", after := #[{ on := 0, ground := Ground.data }], guard := none }) (v := ?_) rfl (by kernel_rfl) (by kernel_rfl) (by kernel_rfl) (fun _ _ _ h => h) (Or.inl ⟨by rfl, ?hy2⟩) (by assumption) ?_
    case hy2 => (intro w hSw; (try dsimp only at hSw); go_simp; try with_reducible rfl)
    (try simp only [Act.put, List.setIfInBounds_toArray, List.set_cons_zero, List.set_cons_succ])
    refine wpAnyH_take (i := 2) (oi := { dst := some 25, op := Op.fieldAddr 60 (Operand.tmp 24) 0, type := 0, pos := "disk.go:91", after := #[{ on := 1, ground := Ground.data }], guard := none }) (v := ?_) rfl (by kernel_rfl) (by kernel_rfl) (by kernel_rfl) (fun _ _ _ h => h) (Or.inl ⟨by rfl, ?hy3⟩) (by assumption) ?_
    case hy3 => (intro w hSw; (try dsimp only at hSw); go_simp; try with_reducible rfl)
    (try simp only [Act.put, List.setIfInBounds_toArray, List.set_cons_zero, List.set_cons_succ])
    refine wpAnyH_take (i := 3) (oi := { dst := some 26, op := Op.load 58 (Operand.tmp 25), type := 58, pos := "disk.go:91", after := #[{ on := 2, ground := Ground.data }], guard := none }) (v := ?_) rfl (by kernel_rfl) (by kernel_rfl) (by kernel_rfl) (fun _ _ _ h => h) (Or.inl ⟨by rfl, ?hy4⟩) (by assumption) ?_
    case hy4 => (intro w hSw; (try dsimp only at hSw); go_simp; try with_reducible rfl)
    (try simp only [Act.put, List.setIfInBounds_toArray, List.set_cons_zero, List.set_cons_succ])
    refine wpAnyH_take (i := 4) (oi := { dst := some 27, op := Op.move (Operand.tmp 1), type := 9, pos := "disk.go:91", after := #[], guard := none }) (v := ?_) rfl (by kernel_rfl) (by kernel_rfl) (by kernel_rfl) (fun _ _ _ h => h) (Or.inl ⟨by rfl, ?hy5⟩) (by assumption) ?_
    case hy5 => (intro w hSw; (try dsimp only at hSw); go_simp; try with_reducible rfl)
    (try simp only [Act.put, List.setIfInBounds_toArray, List.set_cons_zero, List.set_cons_succ])
    refine wpAnyH_take (i := 5) (oi := { dst := some 28, op := Op.load 63 (Operand.tmp 6), type := 63, pos := "disk.go:91", after := #[], guard := none }) (v := ?_) rfl (by kernel_rfl) (by kernel_rfl) (by kernel_rfl) (fun _ _ _ h => h) (Or.inl ⟨by rfl, ?hy6⟩) (by assumption) ?_
    case hy6 => (intro w hSw; (try dsimp only at hSw); go_simp; try with_reducible rfl)
    (try simp only [Act.put, List.setIfInBounds_toArray, List.set_cons_zero, List.set_cons_succ])
    refine wpAnyH_ready (rs := [6]) (by kernel_rfl) (by simp) (AllReadyH.cons (o := { dst := none, op := Op.mapUpdate 58 (Operand.tmp 26) (Operand.tmp 27) (Operand.tmp 28), type := 0, pos := "disk.go:91", after := #[{ on := 3, ground := Ground.data }, { on := 4, ground := Ground.data }, { on := 5, ground := Ground.data }, { on := 0, ground := Ground.phase }, { on := 1, ground := Ground.phase }, { on := 2, ground := Ground.phase }, { on := 3, ground := Ground.phase }, { on := 4, ground := Ground.phase }, { on := 5, ground := Ground.phase }], guard := none }) rfl (fun K hK => ?_) AllReadyH.nil)
    refine step_store_disk _ (by rfl) _ _ _ (by rfl) (bm := bm) (by rfl) HDM.out HSO.out HLEN.out s (by rfl) hs ⟨f.x, f.n, f.c, f.n⟩ ⟨(B.get (keyB s)).b, (B.get (keyB s)).b.length⟩ (by rfl) HFA.out ?_
    intro w2 hm2 hu2
    (try dsimp only)
    refine Shut.out hK _ _ ?_ (fun hS6 => ?_)
    · exact HKP.out w2 hu2
    clear hK K
    (try simp only [Act.put])
    refine wpAnyH_done (by kernel_rfl) ?_ _
    have HU2 : Hid (Upd (DS bd bm) w w2) := Lib.hid ((HU1.out.mono (fun k q => Or.inl q)).trans (((Upd.alloc _ _).trans (Upd.drew _)).trans (hu2.mono fun k q => Or.inr q)))
    have HD2 : Hid (DiskSt w2 bd bm { B with fs := putF B.fs (keyB s) ⟨(B.get (keyB s)).b, (B.get (keyB s)).b.length⟩ }) := Lib.hid (HDS.out.remap hm2 rfl (HOR.out.putF HGK.out (Nat.le_refl _)) ((Upd.drew _).trans hu2))
    have HDID := Lib.hid (did_any bd bm _ w2 (by have := HLR.out.done; show B.done ≤ _; omega) HD2.out)
    clear hm2 hu2 hS0 hS6 c0 c1 c2 c3 c4
    go_wp2_with fail
    refine HDID.out.mono ?_
    rintro _ w3 ⟨rfl, hd3, hu3⟩
    have HD3 := Lib.hid hd3
    have HU3 : Hid (Upd (DS bd bm) w w3) := Lib.hid (HU2.out.trans (hu3.mono fun k q => Or.inl q))
    clear hd3 hu3
    go_wp2
    go_ret
    exact ⟨by rw [HE.out]; rfl, by rw [HE.out]; exact HD3.out, HU3.out⟩
  · have HE : Hid (A.sync (keyB s) = A.ready (keyB s) true []) := Lib.hid (by
      unfold DM.sync; simp only; rw [if_pos (by simpa using hz)])
    have hz1 : ((A.ready (keyB s) true []).2 == 0) = false := by simpa using hz
    clear hz hL HRD HOR HLR
    generalize A.ready (keyB s) true [] = R at *
    go_enter Try.func28, Try.ntmps28
    go_wp2_with fail
    refine HR.out.mono ?_
    rintro _ w1 ⟨rfl, hd1, hu1⟩
    have HD1 := Lib.hid hd1
    have HU1 := Lib.hid hu1
    clear hd1 hu1 HR
    go_wp2
    go_ret
    exact ⟨by rw [HE.out]; rfl, by rw [HE.out]; exact HD1.out, HU1.out.mono fun k q => Or.inl q⟩
end Go.Proofs.Ytjojomjnbiakoaa

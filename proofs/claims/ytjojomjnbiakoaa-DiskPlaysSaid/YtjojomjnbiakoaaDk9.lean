/-
  The disk's crash.
-/
import Derived.Test.YtjojomjnbiakoaaDk8
import Derived.StillTailTactics
namespace Go.Proofs.Ytjojomjnbiakoaa
open Go.RowKit Go.Maps
set_option linter.unusedVariables false

def Ints (w : World) (a : Option Addr) (l : List Int) : Prop := ∀ i (h : i < l.length), ∃ b off, a = some ⟨b, off, none⟩ ∧ w.cell? ⟨b, off + i, none⟩ = some (.int .i64 l[i]) ∧ -9223372036854775808 ≤ l[i] ∧ l[i] ≤ 9223372036854775807
theorem Ints.upd {S : Nat → Prop} {w w' : World} {a : Option Addr} {l : List Int} (h : Ints w a l) (hu : Upd S w w') (hS : ∀ y, a = some y → ¬ S y.block) : Ints w' a l := by
  intro i hi
  obtain ⟨b, off, e, hc, q⟩ := h i hi
  exact ⟨b, off, e, hu.cell (hS _ e) hc, q⟩
theorem Ints.lt {w : World} {a : Option Addr} {l : List Int} (h : Ints w a l) (hl : l ≠ []) : ∀ y, a = some y → y.block < w.heap.size := by
  intro y e
  obtain ⟨b, off, e2, hc, _⟩ := h 0 (List.length_pos_iff.2 hl)
  rw [e] at e2
  cases e2
  exact cell_lt hc
theorem ints_nil (w : World) (a : Option Addr) : Ints w a [] := fun i h => by simp at h
def NoStr (w : World) (b : Nat) : Prop := ∀ j s, w.cell? ⟨b, j, none⟩ ≠ some (.string s)
theorem DiskSt.noStr {w : World} {bd bm : Nat} {A : DM} (h : DiskSt w bd bm A) : ∀ b, DS bd bm b → NoStr w b := by
  intro b hb j s hc
  rcases hb with rfl | rfl
  · have hb := h.box
    simp only [World.cell?, hb, diskCells] at hc
    match j with
    | 0 => simp at hc
    | 1 => simp at hc
    | 2 => simp at hc
    | 3 => simp at hc
    | 4 => simp at hc
    | j + 5 => simp at hc
  · obtain ⟨D, ⟨es, clock, hb, _⟩, _⟩ := h.map
    simp [World.cell?, hb] at hc
theorem Strs.upd {S : Nat → Prop} {w w' : World} {a : Option Addr} {ss : List ByteArray} (h : Strs w a ss) (hu : Upd S w w') (hS : ∀ b, S b → NoStr w b) : Strs w' a ss := by
  intro i hi
  obtain ⟨b, off, e, hc, q⟩ := h i hi
  exact ⟨b, off, e, hu.cell (fun r => hS b r (off + i) _ hc) hc, q⟩

theorem cell_up {w w' : World} {b o : Nat} {v : Value} (hb : Below w.heap.size w w') (hc : w.cell? ⟨b, o, none⟩ = some v) : w'.cell? ⟨b, o, none⟩ = some v := (Upd.of_below (S := fun _ => False) hb).cell (fun q => q) hc
def crashTo (keep : List Int) (fs : List (Key × FM)) (i : Nat) : List (Key × FM) := (crashF keep fs).take i ++ fs.drop i
theorem crashTo_zero (keep : List Int) (fs : List (Key × FM)) : crashTo keep fs 0 = fs := by simp [crashTo]
theorem crashTo_all (keep : List Int) (fs : List (Key × FM)) : crashTo keep fs fs.length = crashF keep fs := by
  unfold crashTo
  rw [List.drop_length, List.append_nil, List.take_of_length_le (by rw [crashF_len]; exact Nat.le_refl _)]
theorem crashTo_map (keep : List Int) (fs : List (Key × FM)) (i : Nat) : (crashTo keep fs i).map (·.1) = fs.map (·.1) := by
  unfold crashTo
  rw [List.map_append, List.map_take, crashF_map, ← List.map_take, ← List.map_append, List.take_append_drop]
theorem crashTo_len (keep : List Int) (fs : List (Key × FM)) (i : Nat) : (crashTo keep fs i).length = fs.length := by
  have := congrArg List.length (crashTo_map keep fs i)
  simpa using this
theorem crashTo_sorted {keep : List Int} {fs : List (Key × FM)} (h : SortedF fs) (i : Nat) : SortedF (crashTo keep fs i) := sorted_keys h (crashTo_map keep fs i)
theorem crashTo_at (keep : List Int) (fs : List (Key × FM)) (i : Nat) (h : i < fs.length) : crashTo keep fs i = (crashF keep fs).take i ++ (fs[i].1, fs[i].2) :: fs.drop (i + 1) := by
  unfold crashTo
  rw [List.drop_eq_getElem_cons h]
theorem crashTo_succ (keep : List Int) (fs : List (Key × FM)) (i : Nat) (h : i < fs.length) : crashTo keep fs (i + 1) = (crashF keep fs).take i ++ (fs[i].1, crash1 keep[i]? fs[i].2) :: fs.drop (i + 1) := by
  unfold crashTo
  rw [List.take_succ_eq_append_getElem (by rw [crashF_len]; exact h), List.append_assoc]
  simp [crashF]
theorem putF_mid {α : Type} (k : Key) (f g : α) (post : List (Key × α)) : ∀ pre : List (Key × α), (∀ p ∈ pre, p.1 < k) → putF (pre ++ (k, f) :: post) k g = pre ++ (k, g) :: post
  | [], _ => by simp [putF, key_irr]
  | p :: t, h => by
    have h1 := h p (by simp)
    have ih := putF_mid k f g post t fun q hq => h q (by simp [hq])
    simp only [List.cons_append, putF, h1, if_true]
    rw [ih]
theorem crashTo_put {keep : List Int} {fs : List (Key × FM)} (h : SortedF fs) (i : Nat) (hi : i < fs.length) : putF (crashTo keep fs i) fs[i].1 (crash1 keep[i]? fs[i].2) = crashTo keep fs (i + 1) ∧ lkup (crashTo keep fs i) fs[i].1 = some fs[i].2 := by
  have hs := crashTo_sorted (keep := keep) h i
  refine ⟨?_, mem_lkup hs (by rw [crashTo_at keep fs i hi]; simp)⟩
  rw [crashTo_succ keep fs i hi, crashTo_at keep fs i hi]
  refine putF_mid _ _ _ _ _ fun p hp => ?_
  rw [crashTo_at keep fs i hi] at hs
  exact (List.pairwise_append.1 hs).2.2 p hp _ (by simp)
theorem crashTo_mem {keep : List Int} {fs : List (Key × FM)} {i : Nat} {p : Key × FM} (h : p ∈ crashTo keep fs i) : ∃ q ∈ fs, p = q ∨ ∃ o, p = (q.1, crash1 o q.2) := by
  unfold crashTo at h
  rcases List.mem_append.1 h with h | h
  · obtain ⟨q, hq, o, e⟩ := crashF_mem (List.mem_of_mem_take h)
    exact ⟨q, hq, Or.inr ⟨o, e⟩⟩
  · exact ⟨p, List.mem_of_mem_drop h, Or.inl rfl⟩
theorem crashTo_ok {A : DM} (h : A.Ok) (keep : List Int) (i : Nat) : DM.Ok { A with fs := crashTo keep A.fs i } := by
  refine ⟨crashTo_sorted h.sorted i, fun p hp => ?_, fun p hp => ?_, h.room, h.fuse⟩
  · obtain ⟨q, hq, rfl | ⟨o, rfl⟩⟩ := crashTo_mem hp
    · exact h.safe _ hq
    · have := more_le o q.2 (h.safe q hq)
      simp [crash1]; omega
  · obtain ⟨q, hq, rfl | ⟨o, rfl⟩⟩ := crashTo_mem hp
    · exact h.good _ hq
    · exact h.good q hq

/-- A local file struct beside a disk. -/
structure LF (w1 w : World) (bd bm Bf : Nat) (A : DM) (x : Option Addr) (n c : Nat) (s : Int) : Prop where
  box : w.heap[Bf]? = some (.cells #[.slice x n c, .int .i64 s] 63 (0, 0))
  st : DiskSt w bd bm A
  up : Upd (DS bd bm) w1 w
  ge : w1.heap.size ≤ Bf
theorem LF.start {w1 w : World} {bd bm : Nat} {A : DM} (h : DiskSt w bd bm A) (hu : Upd (DS bd bm) w1 w) (x : Option Addr) (n c : Nat) (s : Int) : LF w1 (w.alloc (.cells #[.slice x n c, .int .i64 s] 63)) bd bm w.heap.size A x n c s :=
  ⟨heap_at _ _, h.later ((Below.refl _ _).alloc (Nat.le_refl _) _), hu.trans (Upd.alloc _ _), hu.size⟩
theorem LF.noU8 {w1 w : World} {bd bm Bf : Nat} {A : DM} {x : Option Addr} {n c : Nat} {s : Int} (h : LF w1 w bd bm Bf A x n c s) : NoU8 w Bf := local_noU8 h.box
theorem LF.nb {w1 w : World} {bd bm Bf : Nat} {A : DM} {x : Option Addr} {n c : Nat} {s : Int} (h : LF w1 w bd bm Bf A x n c s) : bd ≠ Bf ∧ bm ≠ Bf := by
  refine ⟨fun e => ?_, fun e => ?_⟩
  · have h1 := h.st.box
    rw [e, h.box] at h1
    simp [diskCells] at h1
  · obtain ⟨D, ⟨es, clock, hb, _⟩, _⟩ := h.st.map
    rw [e, h.box] at hb
    cases hb
theorem LF.cells {w1 w : World} {bd bm Bf : Nat} {A : DM} {x : Option Addr} {n c : Nat} {s : Int} (h : LF w1 w bd bm Bf A x n c s) : w.cell? ⟨Bf, 0, none⟩ = some (.slice x n c) ∧ w.cell? ⟨Bf, 1, none⟩ = some (.int .i64 s) ∧ w.cell? ⟨bd, 0, none⟩ = some (.map (some bm)) ∧ ∀ j, w.frozen? ⟨Bf, j, none⟩ = false := by
  have hb := h.box
  refine ⟨?_, ?_, h.st.cells.1.1, fun j => ?_⟩
  · simp only [World.cell?, hb]; rfl
  · simp only [World.cell?, hb]; rfl
  · simp [World.frozen?, hb]
theorem LF.upd {w1 w w' : World} {bd bm Bf : Nat} {A : DM} {x x' : Option Addr} {n c n' c' : Nat} {s s' : Int} (h : LF w1 w bd bm Bf A x n c s) (hu : Upd (· = Bf) w w') (hb : w'.heap[Bf]? = some (.cells #[.slice x' n' c', .int .i64 s'] 63 (0, 0))) : LF w1 w' bd bm Bf A x' n' c' s' := by
  refine ⟨hb, h.st.upd hu (fun b e => by subst e; exact h.noU8) h.nb.1 h.nb.2, ?_, h.ge⟩
  refine ⟨hu.os.trans h.up.os, hu.tape.trans h.up.tape, hu.output.trans h.up.output, Nat.le_trans h.up.size hu.size, fun k hk hs => ?_⟩
  exact (hu.block k (Nat.lt_of_lt_of_le hk h.up.size) (fun e => by have := h.ge; omega)).trans (h.up.block k hk hs)
theorem LF.set1 {w1 w : World} {bd bm Bf : Nat} {A : DM} {x : Option Addr} {n c : Nat} {s : Int} (h : LF w1 w bd bm Bf A x n c s) (s' : Int) : LF w1 (w.setCell ⟨Bf, 1, none⟩ (.int .i64 s')) bd bm Bf A x n c s' :=
  h.upd (Upd.setCell (S := (· = Bf)) _ _ _ rfl) (heap_setCell_same _ _ _ _ _ _ h.box)
theorem LF.set0 {w1 w : World} {bd bm Bf : Nat} {A : DM} {x : Option Addr} {n c : Nat} {s : Int} (h : LF w1 w bd bm Bf A x n c s) (x' : Option Addr) (n' c' : Nat) : LF w1 (w.setCell ⟨Bf, 0, none⟩ (.slice x' n' c')) bd bm Bf A x' n' c' s :=
  h.upd (Upd.setCell (S := (· = Bf)) _ _ _ rfl) (heap_setCell_same _ _ _ _ _ _ h.box)
theorem LF.drew {w1 w : World} {bd bm Bf : Nat} {A : DM} {x : Option Addr} {n c : Nat} {s : Int} (h : LF w1 w bd bm Bf A x n c s) : LF w1 w.drew bd bm Bf A x n c s := h.upd (Upd.drew _) h.box
set_option maxRecDepth 100000 in
set_option maxHeartbeats 3200000 in
theorem crash_any (bd bm : Nat) (A : DM) (ka : Option Addr) (kc : Nat) (keep : List Int) (w : World) (hn : A.fs.length ≤ 1000000) (hT : tot A.fs ≤ 1099511627776) (hkl : keep.length ≤ maxLen) (hk : Ints w ka keep) (hkb : keep ≠ [] → ∀ y, ka = some y → ¬ DS bd bm y.block) (h : DiskSt w bd bm A) :
    Calls Try.prog 19 #[.pointer (some ⟨bd, 0, none⟩), .slice ka keep.length kc] w fun e w' => e = .returned (.tuple #[]) ∧ DiskSt w' bd bm (A.crash keep) ∧ Upd (DS bd bm) w w' := by
  have HNM := Lib.hid (names_any bd bm A w hn h)
  have HH := Lib.hid h
  have HK := Lib.hid hk
  have HKB := Lib.hid hkb
  have hkl' : keep.length ≤ 9223372036854775807 := by unfold maxLen at hkl; omega
  have HOK : Hid (∀ i, DM.Ok { A with fs := crashTo keep A.fs i }) := Lib.hid (crashTo_ok h.ok keep)
  have HOC := Lib.hid (h.ok.crash keep)
  have HTL : Hid (∀ (i : Nat) (hi : i < A.fs.length), (A.fs[i].2.s ≤ A.fs[i].2.b.length ∧ A.fs[i].2.b.length ≤ 1099511627776) ∧ A.fs[i].1.length ≤ 100) := Lib.hid (fun i hi => by
    have hm := List.getElem_mem hi
    refine ⟨⟨h.ok.safe _ hm, ?_⟩, good_len (h.ok.good _ hm)⟩
    exact Nat.le_trans (old_le (mem_lkup h.ok.sorted hm)) hT)
  have HPT : Hid (∀ (i : Nat) (hi : i < A.fs.length), putF (crashTo keep A.fs i) A.fs[i].1 (crash1 keep[i]? A.fs[i].2) = crashTo keep A.fs (i + 1) ∧ lkup (crashTo keep A.fs i) A.fs[i].1 = some A.fs[i].2) := Lib.hid (fun i hi => crashTo_put h.ok.sorted i hi)
  obtain ⟨i0, hi0⟩ : ∃ i0, Try.prog.info? 5 = some i0 := by
    obtain ⟨i0, hi0, _⟩ := info_parts infoU8
    exact ⟨i0, hi0⟩
  have HC3 := Lib.hid (fun (x : Option Addr) (n c k : Nat) (hnc : k ≤ c) (w : World) => run_cut3 (P := Try.prog) Try.underlying27 hi0 x n c k .i64 hnc w)
  obtain ⟨n, hnn⟩ : ∃ n, A.fs.length = n := ⟨_, rfl⟩
  have HN := Lib.hid hnn
  rw [hnn] at HNM hn
  clear h hk hkb hnn hi0
  go_enter Try.func19, Try.ntmps19
  go_wp2_with fail
  refine HNM.out.mono ?_
  rintro _ w1 ⟨xn, cn, rfl, hst, hb1⟩
  have HST := Lib.hid hst
  have HB1 := Lib.hid hb1
  have HD1 := Lib.hid (HH.out.later hb1)
  clear hst hb1
  go_wp2_with fail
  go_loopw [12] (fun iv wr => ∃ i : Nat, i ≤ n ∧ iv = .int .i64 i ∧ Hid (DiskSt wr bd bm { A with fs := crashTo keep A.fs i }) ∧ Hid (Upd (DS bd bm) w1 wr)) (fun iv _ => n - (intOf iv).toNat)
  case atStart => exact ⟨0, by omega, rfl, Lib.hid (by rw [crashTo_zero]; exact HD1.out), Lib.hid (Upd.refl _ _)⟩
  case round =>
    obtain ⟨i, hi, rfl, HD, HU⟩ := hrel
    obtain ⟨wA, rfl⟩ : ∃ wA, wA = wr := ⟨_, rfl⟩
    obtain ⟨⟨c0, c1, c2, c3, c4⟩, hf⟩ := HD.out.cells
    by_cases hlt : i < n
    · have hlt' : i < A.fs.length := by have := HN.out; omega
      have hin : (i : Int) < (n : Int) := by omega
      have h0 : (0 : Int) ≤ (i : Int) := by omega
      obtain ⟨bn, on, rfl, hcn, hsz⟩ := (HST.out.upd HU.out HD1.out.noStr) i (by simpa using hlt')
      rw [List.getElem_map] at hcn hsz
      obtain ⟨⟨hs1, hs2⟩, hk1⟩ := HTL.out i hlt'
      have hpt := HPT.out i hlt'
      have HP1 := Lib.hid hpt.1
      have HP2 := Lib.hid hpt.2
      have HKY : Hid (keyB (ofK A.fs[i].1) = A.fs[i].1) := Lib.hid (keyB_ofK _)
      generalize hff : A.fs[i].2 = fm at *
      generalize hkk : A.fs[i].1 = ky at *
      generalize ofK ky = s at *
      clear hff hkk hpt hf
      obtain ⟨ns, HNS⟩ : ∃ ns : Nat, Hid (fm.s + more keep[i]? fm = ns) := ⟨_, Lib.hid rfl⟩
      have hns : ns ≤ fm.b.length := by rw [← HNS.out]; exact more_le _ _ hs1
      have HCR : Hid (crash1 keep[i]? fm = ⟨fm.b.take ns, ns⟩) := Lib.hid (by unfold crash1; rw [HNS.out])
      by_cases hik : i < keep.length
      · obtain ⟨bk, ok, rfl, hck, hkz⟩ := (HK.out.upd ((Upd.of_below HB1.out).trans HU.out) (HKB.out (List.ne_nil_of_length_pos (by omega)))) i hik
        have hik' : (i : Int) < (keep.length : Int) := by omega
        have HMV : Hid ((fm.s : Int) + max 0 (min keep[i] ((fm.b.length : Int) - (fm.s : Int))) = (ns : Int)) := Lib.hid (by
          have := HNS.out
          simp only [more, List.getElem?_eq_getElem hik] at this
          omega)
        generalize keep[i] = kz at *
        go_wp2_with (at_lookup; refine look_disk _ rfl _ _ rfl rfl HD.out.map s rfl hsz ?_; intro f hf; rw [HKY.out, HP2.out] at hf; simp only [Option.getD_some] at hf; have HF := Lib.hid hf; clear hf; have hck2 := cell_up ((Below.refl wA.heap.size wA).alloc (Nat.le_refl _) (.cells #[.slice f.x f.n f.c, .int .i64 (f.s : Nat)] 63)) hck)
        have HFN := Lib.hid HF.out.n
        have HFS := Lib.hid HF.out.s
        have hb1 : f.s ≤ f.n := by have := HFN.out; have := HFS.out; omega
        have hb2 : f.n ≤ 1099511627776 := by have := HFN.out; omega
        have HMV2 : Hid ((f.s : Int) + max 0 (min kz ((f.n : Int) - (f.s : Int))) = (ns : Int)) := Lib.hid (by rw [HFN.out, HFS.out]; exact HMV.out)
        have hlf := LF.start HD.out HU.out f.x f.n f.c (f.s : Nat)
        have hfx := HF.out.upd (S := fun _ => False) (Upd.alloc wA (.cells #[.slice f.x f.n f.c, .int .i64 (f.s : Nat)] 63)) (fun _ q => q.elim)
        obtain ⟨wX, hwX⟩ : ∃ wX, wA.alloc (.cells #[.slice f.x f.n f.c, .int .i64 (f.s : Nat)] 63) = wX := ⟨_, rfl⟩
        obtain ⟨Bf, hBf⟩ : ∃ Bf, wA.heap.size = Bf := ⟨_, rfl⟩
        rw [hwX] at hlf hfx hck2 ⊢
        rw [hBf] at hlf ⊢
        have HLF := Lib.hid hlf
        have HFX := Lib.hid hfx
        obtain ⟨q0, q1, q2, qf⟩ := hlf.cells
        have qf0 := qf 0
        have qf1 := qf 1
        clear hlf hfx hwX hBf qf c0 c1 c2 c3 c4 hck hcn
        have hcut := fun w => HC3.out f.x f.n f.c ns (by have := HFX.out.le; have := HFN.out; omega) w
        have hmv := HMV2.out
        have HS1 : Hid True := Lib.hid trivial
        have HCE : Hid True := Lib.hid trivial
        go_still_tail 16, (by kernel_rfl)
        change wpList _ _ _ _ _ wX.drew
        go_wp2
        clear hmv hcut
        have HLX := Lib.hid (((HLF.out.set1 (ns : Nat)).set0 f.x ns ns).drew)
        have HS0 : Hid ((((wX.setCell ⟨Bf, 1, none⟩ (.int .i64 (ns : Nat))).setCell ⟨Bf, 0, none⟩ (.slice f.x ns ns)).drew).drew.cell? ⟨bd, 0, none⟩ = some (.map (some bm)) ∧ (((wX.setCell ⟨Bf, 1, none⟩ (.int .i64 (ns : Nat))).setCell ⟨Bf, 0, none⟩ (.slice f.x ns ns)).drew).drew.cell? ⟨Bf, 0, none⟩ = some (.slice f.x ns ns) ∧ (((wX.setCell ⟨Bf, 1, none⟩ (.int .i64 (ns : Nat))).setCell ⟨Bf, 0, none⟩ (.slice f.x ns ns)).drew).drew.cell? ⟨Bf, 1, none⟩ = some (.int .i64 (ns : Nat))) := Lib.hid ⟨HLX.out.drew.cells.2.2.1, HLX.out.drew.cells.1, HLX.out.drew.cells.2.1⟩
        have HKP : Hid (∀ w', Upd (· = bm) (((wX.setCell ⟨Bf, 1, none⟩ (.int .i64 (ns : Nat))).setCell ⟨Bf, 0, none⟩ (.slice f.x ns ns)).drew).drew w' → (w'.cell? ⟨bd, 0, none⟩ = some (.map (some bm)) ∧ w'.cell? ⟨Bf, 0, none⟩ = some (.slice f.x ns ns) ∧ w'.cell? ⟨Bf, 1, none⟩ = some (.int .i64 (ns : Nat)))) := Lib.hid (fun w' hu => ⟨hu.cell (fun e => HLX.out.st.ne e) HS0.out.1, hu.cell (fun e => HLX.out.nb.2 e.symm) HS0.out.2.1, hu.cell (fun e => HLX.out.nb.2 e.symm) HS0.out.2.2⟩)
        have HDM : Hid (MapSt (((wX.setCell ⟨Bf, 1, none⟩ (.int .i64 (ns : Nat))).setCell ⟨Bf, 0, none⟩ (.slice f.x ns ns)).drew).drew bm (crashTo keep A.fs i)) := Lib.hid HLX.out.drew.st.map
        have HSO : Hid (SortedF (crashTo keep A.fs i)) := Lib.hid HLX.out.st.ok.sorted
        have HLEN : Hid ((crashTo keep A.fs i).length < maxLen) := Lib.hid (by rw [crashTo_len]; have := HN.out; unfold maxLen; omega)
        have HFA : Hid (FileAt (((wX.setCell ⟨Bf, 1, none⟩ (.int .i64 (ns : Nat))).setCell ⟨Bf, 0, none⟩ (.slice f.x ns ns)).drew).drew ⟨f.x, ns, ns, ns⟩ ⟨fm.b.take ns, ns⟩) := Lib.hid (by
          have hu : Upd (· = Bf) wX ((wX.setCell ⟨Bf, 1, none⟩ (.int .i64 (ns : Nat))).setCell ⟨Bf, 0, none⟩ (.slice f.x ns ns)).drew.drew := (((Upd.setCell (S := (· = Bf)) _ _ _ rfl).trans (Upd.setCell (S := (· = Bf)) _ _ _ rfl)).trans (Upd.drew _)).trans (Upd.drew _)
          have hb := HFX.out.by'.upd hu (fun b e => by subst e; exact HLF.out.noU8)
          exact ⟨by simp; omega, rfl, Nat.le_refl _, by show ns ≤ maxLen; unfold maxLen; omega, hb.take ns, fun e => by have := HFX.out.nil e; have := HFX.out.le; have := HFN.out; show ns = 0; omega⟩)
        clear HS1 HCE
        refine wp_region_held_drew (S := (fun w' => w'.cell? ⟨bd, 0, none⟩ = some (.map (some bm)) ∧ w'.cell? ⟨Bf, 0, none⟩ = some (.slice f.x ns ns) ∧ w'.cell? ⟨Bf, 1, none⟩ = some (.int .i64 (ns : Nat)))) (by kernel_rfl) ?_ (fun hS0 => ?_)
        · exact HS0.out
        refine wpAnyH_take (i := 0) (oi := { dst := some 51, op := Op.move (Operand.tmp 0), type := 24, pos := "disk.go:177", after := #[], guard := none }) (v := ?_) rfl (by kernel_rfl) (by kernel_rfl) (by kernel_rfl) (fun _ _ _ h => h) (Or.inl ⟨by rfl, ?hy1⟩) (by assumption) ?_
        case hy1 => (intro w hSw; (try dsimp only at hSw); go_simp; try with_reducible rfl)
        (try simp only [Act.put, List.setIfInBounds_toArray, List.set_cons_zero, List.set_cons_succ])
        refine wpAnyH_take (i := 1) (oi := { dst := some 52, op := Op.nilCheck (Operand.tmp 51), type := 0, pos := "disk.go:177", after := #[{ on := 0, ground := Ground.data }], guard := none }) (v := ?_) rfl (by kernel_rfl) (by kernel_rfl) (by kernel_rfl) (fun _ _ _ h => h) (Or.inl ⟨by rfl, ?hy2⟩) (by assumption) ?_
        case hy2 => (intro w hSw; (try dsimp only at hSw); go_simp; try with_reducible rfl)
        (try simp only [Act.put, List.setIfInBounds_toArray, List.set_cons_zero, List.set_cons_succ])
        refine wpAnyH_take (i := 2) (oi := { dst := some 53, op := Op.fieldAddr 60 (Operand.tmp 52) 0, type := 0, pos := "disk.go:177", after := #[{ on := 1, ground := Ground.data }], guard := none }) (v := ?_) rfl (by kernel_rfl) (by kernel_rfl) (by kernel_rfl) (fun _ _ _ h => h) (Or.inl ⟨by rfl, ?hy3⟩) (by assumption) ?_
        case hy3 => (intro w hSw; (try dsimp only at hSw); go_simp; try with_reducible rfl)
        (try simp only [Act.put, List.setIfInBounds_toArray, List.set_cons_zero, List.set_cons_succ])
        refine wpAnyH_take (i := 3) (oi := { dst := some 54, op := Op.load 58 (Operand.tmp 53), type := 58, pos := "disk.go:177", after := #[{ on := 2, ground := Ground.data }], guard := none }) (v := ?_) rfl (by kernel_rfl) (by kernel_rfl) (by kernel_rfl) (fun _ _ _ h => h) (Or.inl ⟨by rfl, ?hy4⟩) (by assumption) ?_
        case hy4 => (intro w hSw; (try dsimp only at hSw); go_simp; try with_reducible rfl)
        (try simp only [Act.put, List.setIfInBounds_toArray, List.set_cons_zero, List.set_cons_succ])
        refine wpAnyH_take (i := 4) (oi := { dst := some 55, op := Op.move (Operand.tmp 5), type := 9, pos := "disk.go:177", after := #[], guard := none }) (v := ?_) rfl (by kernel_rfl) (by kernel_rfl) (by kernel_rfl) (fun _ _ _ h => h) (Or.inl ⟨by rfl, ?hy5⟩) (by assumption) ?_
        case hy5 => (intro w hSw; (try dsimp only at hSw); go_simp; try with_reducible rfl)
        (try simp only [Act.put, List.setIfInBounds_toArray, List.set_cons_zero, List.set_cons_succ])
        refine wpAnyH_take (i := 5) (oi := { dst := some 56, op := Op.load 63 (Operand.tmp 6), type := 63, pos := "disk.go:177", after := #[], guard := none }) (v := ?_) rfl (by kernel_rfl) (by kernel_rfl) (by kernel_rfl) (fun _ _ _ h => h) (Or.inl ⟨by rfl, ?hy6⟩) (by assumption) ?_
        case hy6 => (intro w hSw; (try dsimp only at hSw); go_simp; try with_reducible rfl)
        (try simp only [Act.put, List.setIfInBounds_toArray, List.set_cons_zero, List.set_cons_succ])
        refine wpAnyH_ready (rs := [6]) (by kernel_rfl) (by simp) (AllReadyH.cons (o := { dst := none, op := Op.mapUpdate 58 (Operand.tmp 54) (Operand.tmp 55) (Operand.tmp 56), type := 0, pos := "disk.go:177", after := #[{ on := 3, ground := Ground.data }, { on := 4, ground := Ground.data }, { on := 5, ground := Ground.data }, { on := 0, ground := Ground.phase }, { on := 1, ground := Ground.phase }, { on := 2, ground := Ground.phase }, { on := 3, ground := Ground.phase }, { on := 4, ground := Ground.phase }, { on := 5, ground := Ground.phase }], guard := none }) rfl (fun K hK => ?_) AllReadyH.nil)
        refine step_store_disk _ (by rfl) _ _ _ (by rfl) (bm := bm) (by rfl) HDM.out HSO.out HLEN.out s (by rfl) hsz ⟨f.x, ns, ns, ns⟩ ⟨fm.b.take ns, ns⟩ (by rfl) HFA.out ?_
        intro w2 hm2 hu2
        (try dsimp only)
        refine Shut.out hK _ _ ?_ (fun hS6 => ?_)
        · exact HKP.out w2 hu2
        clear hK K
        (try simp only [Act.put])
        refine wpAnyH_done (by kernel_rfl) ?_ _
        have HD2 : Hid (DiskSt w2 bd bm { A with fs := crashTo keep A.fs (i + 1) }) := Lib.hid (by
          rw [HKY.out, ← HCR.out, HP1.out] at hm2
          exact HLX.out.drew.st.remap hm2 rfl (HOK.out (i + 1)) hu2)
        have HU2 : Hid (Upd (DS bd bm) w1 w2) := Lib.hid (HLX.out.drew.up.trans (hu2.mono fun k q => Or.inr q))
        clear hm2 hu2 hS0 hS6
        go_wp2
        exact ⟨⟨i + 1, by omega, by go_num, HD2, HU2⟩, by simp [intOf]; omega⟩
      · have hik' : ¬ (i : Int) < (keep.length : Int) := by omega
        have HNE : Hid (ns = fm.s) := Lib.hid (by rw [← HNS.out]; simp [more, List.getElem?_eq_none (Nat.le_of_not_lt hik)])
        have HS1 : Hid True := Lib.hid trivial
        have HCE : Hid True := Lib.hid trivial
        go_wp2_with (at_lookup; refine look_disk _ rfl _ _ rfl rfl HD.out.map s rfl hsz ?_; intro f hf; rw [HKY.out, HP2.out] at hf; simp only [Option.getD_some] at hf; have HF := Lib.hid hf; clear hf; have HFN := Lib.hid HF.out.n; have HFS := Lib.hid HF.out.s; have hb1 : f.s ≤ f.n := (by have := HFN.out; have := HFS.out; omega); have hb2 : f.n ≤ 1099511627776 := (by have := HFN.out; omega); have hcut := fun w => HC3.out f.x f.n f.c f.s (by have := HF.out.le; omega) w)
        have HLX := Lib.hid (LF.start HD.out HU.out f.x f.s f.s (f.s : Nat))
        have HS0 : Hid ((wA.alloc (.cells #[.slice f.x f.s f.s, .int .i64 (f.s : Nat)] 63)).drew.cell? ⟨bd, 0, none⟩ = some (.map (some bm)) ∧ (wA.alloc (.cells #[.slice f.x f.s f.s, .int .i64 (f.s : Nat)] 63)).drew.cell? ⟨wA.heap.size, 0, none⟩ = some (.slice f.x f.s f.s) ∧ (wA.alloc (.cells #[.slice f.x f.s f.s, .int .i64 (f.s : Nat)] 63)).drew.cell? ⟨wA.heap.size, 1, none⟩ = some (.int .i64 (f.s : Nat))) := Lib.hid ⟨HLX.out.drew.cells.2.2.1, HLX.out.drew.cells.1, HLX.out.drew.cells.2.1⟩
        have HKP : Hid (∀ w', Upd (· = bm) (wA.alloc (.cells #[.slice f.x f.s f.s, .int .i64 (f.s : Nat)] 63)).drew w' → (w'.cell? ⟨bd, 0, none⟩ = some (.map (some bm)) ∧ w'.cell? ⟨wA.heap.size, 0, none⟩ = some (.slice f.x f.s f.s) ∧ w'.cell? ⟨wA.heap.size, 1, none⟩ = some (.int .i64 (f.s : Nat)))) := Lib.hid (fun w' hu => ⟨hu.cell (fun e => HLX.out.st.ne e) HS0.out.1, hu.cell (fun e => HLX.out.nb.2 e.symm) HS0.out.2.1, hu.cell (fun e => HLX.out.nb.2 e.symm) HS0.out.2.2⟩)
        have HDM : Hid (MapSt (wA.alloc (.cells #[.slice f.x f.s f.s, .int .i64 (f.s : Nat)] 63)).drew bm (crashTo keep A.fs i)) := Lib.hid HLX.out.drew.st.map
        have HSO : Hid (SortedF (crashTo keep A.fs i)) := Lib.hid HLX.out.st.ok.sorted
        have HLEN : Hid ((crashTo keep A.fs i).length < maxLen) := Lib.hid (by rw [crashTo_len]; have := HN.out; unfold maxLen; omega)
        have HFA : Hid (FileAt (wA.alloc (.cells #[.slice f.x f.s f.s, .int .i64 (f.s : Nat)] 63)).drew ⟨f.x, f.s, f.s, f.s⟩ ⟨fm.b.take ns, ns⟩) := Lib.hid (by
          have hb := (HF.out.by'.below ((Below.refl wA.heap.size wA).alloc (Nat.le_refl _) (.cells #[.slice f.x f.s f.s, .int .i64 (f.s : Nat)] 63))).below (Below.refl _ _).drew
          have h1 := HFS.out
          have h2 := HNE.out
          exact ⟨by simp; omega, by show f.s = ns; omega, Nat.le_refl _, by show f.s ≤ maxLen; unfold maxLen; omega, hb.take ns, fun e => by have := HF.out.nil e; have := HF.out.le; show f.s = 0; omega⟩)
        clear HS1 HCE
        refine wp_region_held_drew (S := (fun w' => w'.cell? ⟨bd, 0, none⟩ = some (.map (some bm)) ∧ w'.cell? ⟨wA.heap.size, 0, none⟩ = some (.slice f.x f.s f.s) ∧ w'.cell? ⟨wA.heap.size, 1, none⟩ = some (.int .i64 (f.s : Nat)))) (by kernel_rfl) ?_ (fun hS0 => ?_)
        · exact HS0.out
        refine wpAnyH_take (i := 0) (oi := { dst := some 51, op := Op.move (Operand.tmp 0), type := 24, pos := "disk.go:177", after := #[], guard := none }) (v := ?_) rfl (by kernel_rfl) (by kernel_rfl) (by kernel_rfl) (fun _ _ _ h => h) (Or.inl ⟨by rfl, ?hy1⟩) (by assumption) ?_
        case hy1 => (intro w hSw; (try dsimp only at hSw); go_simp; try with_reducible rfl)
        (try simp only [Act.put, List.setIfInBounds_toArray, List.set_cons_zero, List.set_cons_succ])
        refine wpAnyH_take (i := 1) (oi := { dst := some 52, op := Op.nilCheck (Operand.tmp 51), type := 0, pos := "disk.go:177", after := #[{ on := 0, ground := Ground.data }], guard := none }) (v := ?_) rfl (by kernel_rfl) (by kernel_rfl) (by kernel_rfl) (fun _ _ _ h => h) (Or.inl ⟨by rfl, ?hy2⟩) (by assumption) ?_
        case hy2 => (intro w hSw; (try dsimp only at hSw); go_simp; try with_reducible rfl)
        (try simp only [Act.put, List.setIfInBounds_toArray, List.set_cons_zero, List.set_cons_succ])
        refine wpAnyH_take (i := 2) (oi := { dst := some 53, op := Op.fieldAddr 60 (Operand.tmp 52) 0, type := 0, pos := "disk.go:177", after := #[{ on := 1, ground := Ground.data }], guard := none }) (v := ?_) rfl (by kernel_rfl) (by kernel_rfl) (by kernel_rfl) (fun _ _ _ h => h) (Or.inl ⟨by rfl, ?hy3⟩) (by assumption) ?_
        case hy3 => (intro w hSw; (try dsimp only at hSw); go_simp; try with_reducible rfl)
        (try simp only [Act.put, List.setIfInBounds_toArray, List.set_cons_zero, List.set_cons_succ])
        refine wpAnyH_take (i := 3) (oi := { dst := some 54, op := Op.load 58 (Operand.tmp 53), type := 58, pos := "disk.go:177", after := #[{ on := 2, ground := Ground.data }], guard := none }) (v := ?_) rfl (by kernel_rfl) (by kernel_rfl) (by kernel_rfl) (fun _ _ _ h => h) (Or.inl ⟨by rfl, ?hy4⟩) (by assumption) ?_
        case hy4 => (intro w hSw; (try dsimp only at hSw); go_simp; try with_reducible rfl)
        (try simp only [Act.put, List.setIfInBounds_toArray, List.set_cons_zero, List.set_cons_succ])
        refine wpAnyH_take (i := 4) (oi := { dst := some 55, op := Op.move (Operand.tmp 5), type := 9, pos := "disk.go:177", after := #[], guard := none }) (v := ?_) rfl (by kernel_rfl) (by kernel_rfl) (by kernel_rfl) (fun _ _ _ h => h) (Or.inl ⟨by rfl, ?hy5⟩) (by assumption) ?_
        case hy5 => (intro w hSw; (try dsimp only at hSw); go_simp; try with_reducible rfl)
        (try simp only [Act.put, List.setIfInBounds_toArray, List.set_cons_zero, List.set_cons_succ])
        refine wpAnyH_take (i := 5) (oi := { dst := some 56, op := Op.load 63 (Operand.tmp 6), type := 63, pos := "disk.go:177", after := #[], guard := none }) (v := ?_) rfl (by kernel_rfl) (by kernel_rfl) (by kernel_rfl) (fun _ _ _ h => h) (Or.inl ⟨by rfl, ?hy6⟩) (by assumption) ?_
        case hy6 => (intro w hSw; (try dsimp only at hSw); go_simp; try with_reducible rfl)
        (try simp only [Act.put, List.setIfInBounds_toArray, List.set_cons_zero, List.set_cons_succ])
        refine wpAnyH_ready (rs := [6]) (by kernel_rfl) (by simp) (AllReadyH.cons (o := { dst := none, op := Op.mapUpdate 58 (Operand.tmp 54) (Operand.tmp 55) (Operand.tmp 56), type := 0, pos := "disk.go:177", after := #[{ on := 3, ground := Ground.data }, { on := 4, ground := Ground.data }, { on := 5, ground := Ground.data }, { on := 0, ground := Ground.phase }, { on := 1, ground := Ground.phase }, { on := 2, ground := Ground.phase }, { on := 3, ground := Ground.phase }, { on := 4, ground := Ground.phase }, { on := 5, ground := Ground.phase }], guard := none }) rfl (fun K hK => ?_) AllReadyH.nil)
        refine step_store_disk _ (by rfl) _ _ _ (by rfl) (bm := bm) (by rfl) HDM.out HSO.out HLEN.out s (by rfl) hsz ⟨f.x, f.s, f.s, f.s⟩ ⟨fm.b.take ns, ns⟩ (by rfl) HFA.out ?_
        intro w2 hm2 hu2
        (try dsimp only)
        refine Shut.out hK _ _ ?_ (fun hS6 => ?_)
        · exact HKP.out w2 hu2
        clear hK K
        (try simp only [Act.put])
        refine wpAnyH_done (by kernel_rfl) ?_ _
        have HD2 : Hid (DiskSt w2 bd bm { A with fs := crashTo keep A.fs (i + 1) }) := Lib.hid (by
          rw [HKY.out, ← HCR.out, HP1.out] at hm2
          exact HLX.out.drew.st.remap hm2 rfl (HOK.out (i + 1)) hu2)
        have HU2 : Hid (Upd (DS bd bm) w1 w2) := Lib.hid (HLX.out.drew.up.trans (hu2.mono fun k q => Or.inr q))
        clear hm2 hu2 hS0 hS6
        go_wp2
        exact ⟨⟨i + 1, by omega, by go_num, HD2, HU2⟩, by simp [intOf]; omega⟩
    · obtain rfl : i = n := by omega
      have f2 := hf 2
      have f3 := hf 3
      have HE : Hid (crashTo keep A.fs i = crashF keep A.fs) := Lib.hid (by rw [← HN.out]; exact crashTo_all keep A.fs)
      clear hf
      go_wp2
      go_end0
      have hu : Upd (· = bd) wA ((wA.setCell ⟨bd, 2, none⟩ (.bool false)).setCell ⟨bd, 3, none⟩ (.int .i64 (-1))) := (Upd.setCell (S := (· = bd)) _ _ _ rfl).trans (Upd.setCell (S := (· = bd)) _ _ _ rfl)
      refine ⟨rfl, HD.out.set (by rw [HE.out]; rfl) HOC.out hu ?_, (Upd.of_below HB1.out).trans (HU.out.trans (hu.mono fun k q => Or.inl q))⟩
      rw [heap_setCell_same _ _ _ _ _ _ (heap_setCell_same _ _ _ _ _ _ HD.out.box)]
      simp [diskCells, DM.crash]
end Go.Proofs.Ytjojomjnbiakoaa

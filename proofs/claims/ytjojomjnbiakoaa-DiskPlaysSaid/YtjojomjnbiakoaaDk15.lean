/-
  DiskSafe.
-/
import Derived.Test.YtjojomjnbiakoaaDk14
import Derived.Deep.DeepCutAuto
namespace Go.Proofs.Ytjojomjnbiakoaa
open Go.RowKit Go.Maps Go.ChangeShapes
set_option linter.unusedVariables false
theorem Acts.below {w w' : World} {a : Option Addr} {l : List ActM} (h : Acts w a l) (hb : Below w.heap.size w w') : Acts w' a l := by
  intro i hi
  obtain ⟨b, off, xb, cb, xk, ck, e, q, q0, q1, q2, q3, q4, q5⟩ := h i hi
  exact ⟨b, off, xb, cb, xk, ck, e, q.below hb, cell_up hb q0, cell_up hb q1, cell_up hb q2, cell_up hb q3, cell_up hb q4, cell_up hb q5⟩
theorem bsum_mono (l : List ActM) {i k : Nat} (h : i ≤ k) : bsum (l.take i) ≤ bsum (l.take k) := by
  obtain ⟨d, rfl⟩ : ∃ d, k = i + d := ⟨k - i, by omega⟩
  rw [List.take_add]
  unfold bsum
  rw [List.map_append, List.sum_append_nat]
  omega
/-- The loop's boxed act. -/
structure Boxed (w0 w : World) (Bx : Nat) (xb : Option Addr) (cb : Nat) (xk : Option Addr) (ck : Nat) (a : ActM) : Prop where
  box : w.heap[Bx]? = some (.cells (actCells xb cb xk ck a) 30 (0, 0))
  inn : ActIn w xb cb xk ck a
  old : a.keep ≠ [] → ∀ y, xk = some y → y.block < w0.heap.size
theorem Boxed.cells {w0 w : World} {Bx : Nat} {xb xk : Option Addr} {cb ck : Nat} {a : ActM} (h : Boxed w0 w Bx xb cb xk ck a) :
    w.cell? ⟨Bx, 0, none⟩ = some (.int .u8 (a.kind : Nat)) ∧ w.cell? ⟨Bx, 1, none⟩ = some (.string a.name) ∧ w.cell? ⟨Bx, 2, none⟩ = some (.string a.dst) ∧ w.cell? ⟨Bx, 3, none⟩ = some (.slice xb a.b.length cb) ∧ w.cell? ⟨Bx, 4, none⟩ = some (.int .i64 a.n) ∧ w.cell? ⟨Bx, 5, none⟩ = some (.slice xk a.keep.length ck) := by
  have hb := h.box
  refine ⟨?_, ?_, ?_, ?_, ?_, ?_⟩ <;> (simp only [World.cell?, hb]; rfl)
theorem Boxed.later {w0 w w' : World} {Bx : Nat} {xb xk : Option Addr} {cb ck : Nat} {a : ActM} (h : Boxed w0 w Bx xb cb xk ck a) (hb : Below w.heap.size w w') : Boxed w0 w' Bx xb cb xk ck a :=
  ⟨heap_below h.box hb, h.inn.below hb, h.old⟩
theorem Boxed.ne {w0 w : World} {bd bm Bx : Nat} {A : DM} {xb xk : Option Addr} {cb ck : Nat} {a : ActM} (h : Boxed w0 w Bx xb cb xk ck a) (hd : DiskSt w bd bm A) : ¬ DS bd bm Bx :=
  AB.nb (w0 := w) ⟨h.box, hd, Upd.refl _ _, h.inn⟩
theorem Boxed.start {w0 w : World} {xb xk : Option Addr} {cb ck : Nat} {a : ActM} (hi : ActIn w xb cb xk ck a) (hb : Below w0.heap.size w0 w) (ho : a.keep ≠ [] → ∀ y, xk = some y → y.block < w0.heap.size) : Boxed w0 (w.alloc (.cells (actCells xb cb xk ck a) 30)) w.heap.size xb cb xk ck a :=
  ⟨heap_at _ _, hi.below ((Below.refl _ _).alloc (Nat.le_refl _) _), ho⟩
/-- The disk's blocks are the call's own: an act's slices are elder. -/
theorem Boxed.op {w0 w w' : World} {bd bm Bx : Nat} {A : DM} {xb xk : Option Addr} {cb ck : Nat} {a : ActM} (h : Boxed w0 w Bx xb cb xk ck a) (ho : Own w0 w bd bm A) (hu : Upd (DS bd bm) w w') : Boxed w0 w' Bx xb cb xk ck a :=
  ⟨hu.heap (h.ne ho.st) h.box, ⟨h.inn.ok, h.inn.b.upd hu ho.st.safe, by
    by_cases e : a.keep = []
    · rw [e]; exact ints_nil _ _
    · exact h.inn.k.upd hu fun y q => by
        have h1 := h.old e y q
        have h2 := ho.gd
        have h3 := ho.gm
        rintro (q | q) <;> omega, h.inn.bn⟩, h.old⟩
theorem Boxed.kb {w0 w : World} {bd bm Bx : Nat} {A : DM} {xb xk : Option Addr} {cb ck : Nat} {a : ActM} (h : Boxed w0 w Bx xb cb xk ck a) (ho : Own w0 w bd bm A) : a.keep ≠ [] → ∀ y, xk = some y → ¬ DS bd bm y.block := by
  intro e y q
  have h1 := h.old e y q
  have h2 := ho.gd
  have h3 := ho.gm
  rintro (q | q) <;> omega
/-- The call of an act on the box's disk. -/
theorem does_own {w0 w : World} {bd bm Bx : Nat} {A : DM} {xb xk : Option Addr} {cb ck : Nat} {a : ActM} (N T : Nat) (hN : N ≤ 1000000) (hT : T + a.b.length ≤ 1099511627776) (hL : A.Lim N T) (h : Boxed w0 w Bx xb cb xk ck a) (ho : Own w0 w bd bm A) :
    Calls Try.prog 13 #[.pointer (some ⟨bd, 0, none⟩), .agg #[.int .u8 (a.kind : Nat), .string a.name, .string a.dst, .slice xb a.b.length cb, .int .i64 a.n, .slice xk a.keep.length ck]] w fun e w' => e = .returned (.int .i64 (A.act a).2) ∧ Own w0 w' bd bm (A.act a).1 ∧ Boxed w0 w' Bx xb cb xk ck a ∧ Upd (DS bd bm) w w' := by
  refine (does_any bd bm A xb cb xk ck a N T w hN hT hL h.inn (h.kb ho) ho.st).mono ?_
  rintro _ w' ⟨rfl, hd, hu⟩
  exact ⟨rfl, ho.op hd hu, h.op ho hu, hu⟩

theorem strne {s t : ByteArray} (h : ¬ s = t) : ¬ s.toList = t.toList := by
  intro e
  rw [toL, toL] at e
  exact h (keyB_inj e)
set_option maxRecDepth 100000 in
set_option maxHeartbeats 3200000 in
theorem law_safe (a : Option Addr) (cap : Nat) (l : List ActM) (nm : ByteArray) (w : World) (hl : l.length ≤ cap) (hm : cap ≤ maxLen) (hb : Acts w a l) (hs : nm.size ≤ maxLen) :
    Calls Try.prog 3 #[.slice a l.length cap, .string nm] w fun e w' => e = .returned (.bool true) ∧ Below w.heap.size w w' := by
  obtain ⟨i0, hi0⟩ : ∃ i0, Try.prog.info? 5 = some i0 := by
    obtain ⟨i0, hi0, _⟩ := info_parts infoU8
    exact ⟨i0, hi0⟩
  have HCT := Lib.hid (fun (x : Option Addr) (ln c p : Nat) (hp : p ≤ c) (w : World) => run_cut_to (P := Try.prog) Try.underlying27 hi0 x ln c p .i64 hp w)
  clear hi0
  have HA := Lib.hid hb
  have HM := Lib.hid (And.intro hl hm)
  obtain ⟨n, hn⟩ : ∃ n, l.length = n := ⟨_, rfl⟩
  have HN := Lib.hid hn
  rw [hn]
  clear hb hl hm hn
  go_enter Try.func3, Try.ntmps3
  go_wp2_with fail
  refine (shown_any _).mono ?_
  rintro _ w1 ⟨rfl, hb1⟩
  have HB1 := Lib.hid hb1
  clear hb1
  go_wp2_with fail
  refine (new_any 1048576 w1 (by decide)).mono ?_
  rintro _ w2 ⟨bd, bm, rfl, hd, hgd, hgm, hb2⟩
  have HO2 : Hid (Own w w2 bd bm ⟨[], 1048576, false, -1, 0⟩) := Lib.hid ⟨hd, HB1.out.trans (hb2.mono HB1.out.size), Nat.le_trans HB1.out.size hgd, Nat.le_trans HB1.out.size hgm⟩
  clear hd hgd hgm hb2 HB1
  have HFW := Lib.hid (few_any a cap l w2 HM.out.1 HM.out.2 (HA.out.below HO2.out.bl))
  rw [HN.out] at HFW
  go_wp2_with fail
  refine HFW.out.mono ?_
  rintro _ w3 ⟨k, rfl, hk1, hk2, hk3, hb3⟩
  have HO3 := Lib.hid (HO2.out.later hb3)
  have HK := Lib.hid hk3
  clear hk3 hb3 HFW HO2
  go_wp2_with fail
  go_loopw [22] (fun iv wr => ∃ (i : Nat) (A : DM), i ≤ k ∧ iv = .int .i64 i ∧ Hid (Own w wr bd bm A) ∧ Hid (A.Lim (2 * i) (bsum (l.take i)))) (fun iv _ => k - (intOf iv).toNat)
  case atStart => exact ⟨0, _, by omega, rfl, HO3, Lib.hid ⟨Nat.le_refl _, Nat.le_refl _, Nat.le_refl _⟩⟩
  case round =>
    obtain ⟨i, A, hi, rfl, HO, HL⟩ := hrel
    obtain ⟨wA, rfl⟩ : ∃ wA, wA = wr := ⟨_, rfl⟩
    by_cases hlt : i < k
    · have hil : i < l.length := by have := HN.out; omega
      have hin : (i : Int) < (k : Int) := by omega
      have hi0 : (0 : Int) ≤ (i : Int) := by omega
      have HT : Hid (bsum (l.take i) + l[i].b.length ≤ 20000) := Lib.hid (by
        rw [← bsum_snoc l i hil]
        exact Nat.le_trans (bsum_mono l (by omega)) HK.out)
      have HSN := Lib.hid (bsum_snoc l i hil)
      obtain ⟨b, off, xb, cb, xk, ck, rfl, hai, q0, q1, q2, q3, q4, q5⟩ := (HA.out.below HO.out.bl) i hil
      have hold : l[i].keep ≠ [] → ∀ y, xk = some y → y.block < w.heap.size := by
        intro e
        obtain ⟨b', off', xb', cb', xk', ck', e', hai', z0, z1, z2, z3, z4, z5⟩ := HA.out i hil
        cases e'
        have e5 := cell_up HO.out.bl z5
        rw [q5] at e5
        cases e5
        exact hai'.k.lt e
      generalize l[i] = x at *
      have HBX := Lib.hid (Boxed.start hai HO.out.bl hold)
      have HOA := Lib.hid (HO.out.later ((Below.refl _ _).alloc (Nat.le_refl _) (.cells (actCells xb cb xk ck x) 30)))
      unfold actCells at HBX HOA
      clear hai hold
      go_wp2_with fail
      obtain ⟨wS, hwS⟩ : ∃ wS, wA.alloc (.cells #[.int .u8 (x.kind : Nat), .string x.name, .string x.dst, .slice xb x.b.length cb, .int .i64 x.n, .slice xk x.keep.length ck] 30) = wS := ⟨_, rfl⟩
      obtain ⟨Bx, hBx⟩ : ∃ Bx, wA.heap.size = Bx := ⟨_, rfl⟩
      rw [hwS] at HBX HOA ⊢
      rw [hBx] at HBX ⊢
      clear hwS hBx q0 q1 q2 q3 q4 q5 hin hi0
      have htot : tot A.fs ≤ 1099511627776 := by have := HL.out.tot; have := HT.out; omega
      refine (read_any bd bm A nm wS hs htot HOA.out.st).mono ?_
      rintro _ w4 ⟨v4, rfl, how4, hb4⟩
      obtain ⟨z, cz, rfl, hz1, hz2, hz3, hz4⟩ := own8_read how4
      have HLW : Hid (x.touches nm = false → (A.read (keyB nm)).2 = 0 → ((A.act x).1.read (keyB nm)).2 = 0 → _) := Lib.hid (safe_law HOA.out.st.ok x nm)
      obtain ⟨R1, E1, HR1⟩ : ∃ R1 E1, Hid (A.read (keyB nm) = (R1, E1)) := ⟨_, _, Lib.hid rfl⟩
      rw [HR1.out] at hz1 hz3 HLW
      rw [HR1.out]
      have HZ4 := Lib.hid hz3
      have HC1 := Lib.hid hz1
      have HB4 := Lib.hid (HBX.out.later hb4)
      have HO4 := Lib.hid (HOA.out.later hb4)
      clear how4 hb4 hz1 hz2 hz3 hz4 HBX HOA HR1
      go_wp2_with fail
      refine (safe_any bd bm A nm w4 hs HO4.out.st).mono ?_
      rintro _ _ ⟨rfl, rfl⟩
      obtain ⟨sf, HSF⟩ : ∃ sf : Nat, Hid (A.safe (keyB nm) = sf) := ⟨_, Lib.hid rfl⟩
      rw [HSF.out] at HLW ⊢
      clear HSF
      have hcs := HB4.out.cells
      go_wp2_with fail
      refine (does_own (2 * i) (bsum (l.take i)) (by omega) (by have := HT.out; omega) HL.out HB4.out HO4.out).mono ?_
      rintro _ w5 ⟨rfl, ho5, hx5, hu5⟩
      have HO5 := Lib.hid ho5
      have HB5 := Lib.hid hx5
      have HZ5 := Lib.hid (HZ4.out.upd hu5 HO4.out.st.safe)
      have HL5 := Lib.hid (HL.out.act HO4.out.st.ok x)
      clear ho5 hx5 hu5 HO4 HB4 HZ4 HL hcs htot
      generalize (A.act x).2 = E0 at *
      generalize (A.act x).1 = B at *
      have htot : tot B.fs ≤ 1099511627776 := by have := HL5.out.tot; have := HT.out; omega
      go_wp2_with fail
      refine (read_any bd bm B nm w5 hs htot HO5.out.st).mono ?_
      rintro _ w6 ⟨v6, rfl, how6, hb6⟩
      obtain ⟨y, cy, rfl, hz1, hz2, hz3, hz4⟩ := own8_read how6
      obtain ⟨R2, E2, HR2⟩ : ∃ R2 E2, Hid (B.read (keyB nm) = (R2, E2)) := ⟨_, _, Lib.hid rfl⟩
      rw [HR2.out] at hz1 hz3 HLW
      rw [HR2.out]
      have HY6 := Lib.hid hz3
      have HC2 := Lib.hid hz1
      have HZ6 := Lib.hid (HZ5.out.below hb6)
      have HB6 := Lib.hid (HB5.out.later hb6)
      have HO6 := Lib.hid (HO5.out.later hb6)
      have HL6 : Hid (B.Lim (2 * (i + 1)) (bsum (l.take (i + 1)))) := Lib.hid (HL5.out.mono (by omega) (by rw [HSN.out]; exact Nat.le_refl _))
      clear how6 hb6 hz1 hz2 hz3 hz4 HR2 HO5 HB5 HZ5 HL5 HSN HT htot
      have hcs := HB6.out.cells
      go_upto_region 12 with (fail)
      go_cut [14] (fun t wx => t = .bool (x.touches nm) ∧ w6 = wx)
      case first =>
        have hk8 : x.kind % 8 = 0 ∨ x.kind % 8 = 1 ∨ x.kind % 8 = 2 ∨ x.kind % 8 = 3 ∨ x.kind % 8 = 4 ∨ x.kind % 8 = 5 ∨ x.kind % 8 = 6 ∨ x.kind % 8 = 7 := by omega
        have HF : Hid (x.touches nm = ((decide (x.kind % 8 = 2) && (decide (x.name = nm) || decide (x.dst = nm))) || ((decide (x.kind % 8 = 3) || decide (x.kind % 8 = 6)) && decide (x.name = nm)))) := Lib.hid rfl
        clear HLW HY6 HC2 HZ6 HB6 HO6 HL6
        rcases hk8 with hk | hk | hk | hk | hk | hk | hk | hk
        · have hki : (x.kind : Int) % 8 = 0 := by omega
          have HT : Hid (x.touches nm = false) := Lib.hid (by rw [HF.out]; simp [hk])
          clear hk HF
          go_wp2
          go_meet
          case rel => exact ⟨by rw [HT.out], rfl⟩
        · have hki : (x.kind : Int) % 8 = 1 := by omega
          have HT : Hid (x.touches nm = false) := Lib.hid (by rw [HF.out]; simp [hk])
          clear hk HF
          go_wp2
          go_meet
          case rel => exact ⟨by rw [HT.out], rfl⟩
        · have hki : (x.kind : Int) % 8 = 2 := by omega
          have HT : Hid (x.touches nm = (decide (x.name = nm) || decide (x.dst = nm))) := Lib.hid (by rw [HF.out]; simp [hk])
          clear hk HF
          by_cases q1 : x.name = nm
          · have HT2 : Hid (x.touches nm = true) := Lib.hid (by rw [HT.out]; simp [q1])
            clear HT
            go_wp2
            go_meet
            case rel => exact ⟨by rw [HT2.out], rfl⟩
          · have q1' := strne q1
            by_cases q2 : x.dst = nm
            · have HT2 : Hid (x.touches nm = true) := Lib.hid (by rw [HT.out]; simp [q2])
              clear HT
              go_wp2
              go_meet
              case rel => exact ⟨by rw [HT2.out], rfl⟩
            · have q2' := strne q2
              have HT2 : Hid (x.touches nm = false) := Lib.hid (by rw [HT.out]; simp [q1, q2])
              clear HT
              go_wp2
              go_meet
              case rel => exact ⟨by rw [HT2.out]; simp [q1', q2'], rfl⟩
        · have hki : (x.kind : Int) % 8 = 3 := by omega
          have HT : Hid (x.touches nm = decide (x.name = nm)) := Lib.hid (by rw [HF.out]; simp [hk])
          clear hk HF
          by_cases q1 : x.name = nm
          · have HT2 : Hid (x.touches nm = true) := Lib.hid (by rw [HT.out]; simp [q1])
            clear HT
            go_wp2
            go_meet
            case rel => exact ⟨by rw [HT2.out], rfl⟩
          · have q1' := strne q1
            have HT2 : Hid (x.touches nm = false) := Lib.hid (by rw [HT.out]; simp [q1])
            clear HT
            go_wp2
            go_meet
            case rel => exact ⟨by rw [HT2.out]; simp [q1'], rfl⟩
        · have hki : (x.kind : Int) % 8 = 4 := by omega
          have HT : Hid (x.touches nm = false) := Lib.hid (by rw [HF.out]; simp [hk])
          clear hk HF
          go_wp2
          go_meet
          case rel => exact ⟨by rw [HT.out], rfl⟩
        · have hki : (x.kind : Int) % 8 = 5 := by omega
          have HT : Hid (x.touches nm = false) := Lib.hid (by rw [HF.out]; simp [hk])
          clear hk HF
          go_wp2
          go_meet
          case rel => exact ⟨by rw [HT.out], rfl⟩
        · have hki : (x.kind : Int) % 8 = 6 := by omega
          have HT : Hid (x.touches nm = decide (x.name = nm)) := Lib.hid (by rw [HF.out]; simp [hk])
          clear hk HF
          by_cases q1 : x.name = nm
          · have HT2 : Hid (x.touches nm = true) := Lib.hid (by rw [HT.out]; simp [q1])
            clear HT
            go_wp2
            go_meet
            case rel => exact ⟨by rw [HT2.out], rfl⟩
          · have q1' := strne q1
            have HT2 : Hid (x.touches nm = false) := Lib.hid (by rw [HT.out]; simp [q1])
            clear HT
            go_wp2
            go_meet
            case rel => exact ⟨by rw [HT2.out]; simp [q1'], rfl⟩
        · have hki : (x.kind : Int) % 8 = 7 := by omega
          have HT : Hid (x.touches nm = false) := Lib.hid (by rw [HF.out]; simp [hk])
          clear hk HF
          go_wp2
          go_meet
          case rel => exact ⟨by rw [HT.out], rfl⟩
      case rest =>
        obtain ⟨rfl, rfl⟩ := hcut
        clear hcs
        generalize hTT : x.touches nm = tt at *
        cases tt with
        | true =>
          clear HLW
          go_wp2
          exact ⟨⟨i + 1, B, by omega, by go_num, HO6, HL6⟩, by simp [intOf]; omega⟩
        | false =>
          by_cases h1 : E1 = 0
          · subst h1
            by_cases h2 : E2 = 0
            · subst h2
              obtain ⟨l1, l2, l3, l4⟩ := HLW.out rfl rfl rfl
              have d1 : ¬ (R1.length : Int) < (sf : Int) := by omega
              have d2 : ¬ (R2.length : Int) < (sf : Int) := by omega
              have HL4 := Lib.hid l4
              obtain ⟨sg, HSG⟩ : ∃ sg : Nat, Hid (B.safe (keyB nm) = sg) := ⟨_, Lib.hid rfl⟩
              have d3 : ¬ (sg : Int) < (sf : Int) := by rw [← HSG.out]; omega
              have hcut1 := fun wq => HCT.out z R1.length cz sf (by have := HC1.out; omega) wq
              have hcut2 := fun wq => HCT.out y R2.length cy sf (by have := HC2.out; omega) wq
              have HS : Hid ((convert 27 9 (.slice z sf cz)).run Try.prog w6.drew = .ok (.string ⟨(R1.take sf).toArray⟩) w6.drew ∧ (convert 27 9 (.slice y sf cy)).run Try.prog w6.drew = .ok (.string ⟨(R1.take sf).toArray⟩) w6.drew) := Lib.hid (by
                have e1 := str_of (w := w6.drew) cz (HZ6.out.take sf)
                have e2 := str_of (w := w6.drew) cy (HY6.out.take sf)
                rw [HL4.out] at e2
                have n1 : (R1.take sf).length = sf := by rw [List.length_take]; omega
                rw [n1] at e1 e2
                exact ⟨e1, e2⟩)
              clear l1 l2 l3 l4 HL4 HLW HC1 HC2 HZ6 HY6
              go_upto_region 14 with (fail)
              refine wp_region_held_drew (S := (fun w' => (convert 27 9 (.slice z sf cz)).run Try.prog w' = .ok (.string ⟨(R1.take sf).toArray⟩) w' ∧ (convert 27 9 (.slice y sf cy)).run Try.prog w' = .ok (.string ⟨(R1.take sf).toArray⟩) w')) (by kernel_rfl) ?_ (fun hS0 => ?_)
              · exact HS.out
              refine wpAnyH_take (i := 0) (oi := { dst := some 87, op := Op.move (Operand.tmp 11), type := 3, pos := "law.go:146", after := #[], guard := none }) (v := ?_) rfl (by kernel_rfl) (by kernel_rfl) (by kernel_rfl) (fun _ _ _ h => h) (Or.inl ⟨by rfl, ?hy1⟩) (by assumption) ?_
              case hy1 => (intro w hSw; (try dsimp only at hSw); go_simp; try with_reducible rfl)
              (try simp only [Act.put, List.setIfInBounds_toArray, List.set_cons_zero, List.set_cons_succ])
              refine wpAnyH_take (i := 1) (oi := { dst := some 88, op := Op.move (Operand.tmp 9), type := 27, pos := "law.go:146", after := #[], guard := none }) (v := ?_) rfl (by kernel_rfl) (by kernel_rfl) (by kernel_rfl) (fun _ _ _ h => h) (Or.inl ⟨by rfl, ?hy2⟩) (by assumption) ?_
              case hy2 => (intro w hSw; (try dsimp only at hSw); go_simp; try with_reducible rfl)
              (try simp only [Act.put, List.setIfInBounds_toArray, List.set_cons_zero, List.set_cons_succ])
              refine wpAnyH_take (i := 2) (oi := { dst := some 89, op := Op.call { callee := Callee.builtin Builtin.len, args := #[Operand.tmp 88], argTypes := #[27] }, type := 3, pos := "law.go:146", after := #[{ on := 1, ground := Ground.data }], guard := none }) (v := ?_) rfl (by kernel_rfl) (by kernel_rfl) (by kernel_rfl) (fun _ _ _ h => h) (Or.inl ⟨by rfl, ?hy3⟩) (by assumption) ?_
              case hy3 => (intro w hSw; (try dsimp only at hSw); go_simp; try with_reducible rfl)
              (try simp only [Act.put, List.setIfInBounds_toArray, List.set_cons_zero, List.set_cons_succ])
              refine wpAnyH_take (i := 3) (oi := { dst := some 90, op := Op.binOp BinOp.gtr 3 (Operand.tmp 87) (Operand.tmp 89) 3, type := 4, pos := "law.go:146", after := #[{ on := 0, ground := Ground.data }, { on := 2, ground := Ground.data }], guard := none }) (v := ?_) rfl (by kernel_rfl) (by kernel_rfl) (by kernel_rfl) (fun _ _ _ h => h) (Or.inl ⟨by rfl, ?hy4⟩) (by assumption) ?_
              case hy4 => (intro w hSw; (try dsimp only at hSw); go_simp; try with_reducible rfl)
              (try simp only [Act.put, List.setIfInBounds_toArray, List.set_cons_zero, List.set_cons_succ])
              refine wpAnyH_take (i := 4) (oi := { dst := some 91, op := Op.move (Operand.tmp 90), type := 4, pos := "law.go:146", after := #[{ on := 3, ground := Ground.data }], guard := none }) (v := ?_) rfl (by kernel_rfl) (by kernel_rfl) (by kernel_rfl) (fun _ _ _ h => h) (Or.inl ⟨by rfl, ?hy5⟩) (by assumption) ?_
              case hy5 => (intro w hSw; (try dsimp only at hSw); go_simp; try with_reducible rfl)
              (try simp only [Act.put, List.setIfInBounds_toArray, List.set_cons_zero, List.set_cons_succ])
              refine wpAnyH_take (i := 5) (oi := { dst := some 92, op := Op.move (Operand.tmp 12), type := 27, pos := "law.go:146", after := #[{ on := 4, ground := Ground.guard }], guard := some (4, false) }) (v := ?_) rfl (by kernel_rfl) (by kernel_rfl) (by kernel_rfl) (fun _ _ _ h => h) (Or.inl ⟨by rfl, ?hy6⟩) (by assumption) ?_
              case hy6 => (intro w hSw; (try dsimp only at hSw); go_simp; try with_reducible rfl)
              (try simp only [Act.put, List.setIfInBounds_toArray, List.set_cons_zero, List.set_cons_succ])
              refine wpAnyH_take (i := 6) (oi := { dst := some 93, op := Op.call { callee := Callee.builtin Builtin.len, args := #[Operand.tmp 92], argTypes := #[27] }, type := 3, pos := "law.go:146", after := #[{ on := 5, ground := Ground.data }, { on := 4, ground := Ground.guard }], guard := some (4, false) }) (v := ?_) rfl (by kernel_rfl) (by kernel_rfl) (by kernel_rfl) (fun _ _ _ h => h) (Or.inl ⟨by rfl, ?hy7⟩) (by assumption) ?_
              case hy7 => (intro w hSw; (try dsimp only at hSw); go_simp; try with_reducible rfl)
              (try simp only [Act.put, List.setIfInBounds_toArray, List.set_cons_zero, List.set_cons_succ])
              refine wpAnyH_take (i := 7) (oi := { dst := some 94, op := Op.move (Operand.tmp 11), type := 3, pos := "law.go:146", after := #[{ on := 4, ground := Ground.guard }], guard := some (4, false) }) (v := ?_) rfl (by kernel_rfl) (by kernel_rfl) (by kernel_rfl) (fun _ _ _ h => h) (Or.inl ⟨by rfl, ?hy8⟩) (by assumption) ?_
              case hy8 => (intro w hSw; (try dsimp only at hSw); go_simp; try with_reducible rfl)
              (try simp only [Act.put, List.setIfInBounds_toArray, List.set_cons_zero, List.set_cons_succ])
              refine wpAnyH_take (i := 8) (oi := { dst := some 95, op := Op.binOp BinOp.lss 3 (Operand.tmp 93) (Operand.tmp 94) 3, type := 4, pos := "law.go:146", after := #[{ on := 6, ground := Ground.data }, { on := 7, ground := Ground.data }, { on := 4, ground := Ground.guard }], guard := some (4, false) }) (v := ?_) rfl (by kernel_rfl) (by kernel_rfl) (by kernel_rfl) (fun _ _ _ h => h) (Or.inl ⟨by rfl, ?hy9⟩) (by assumption) ?_
              case hy9 => (intro w hSw; (try dsimp only at hSw); go_simp; try with_reducible rfl)
              (try simp only [Act.put, List.setIfInBounds_toArray, List.set_cons_zero, List.set_cons_succ])
              refine wpAnyH_take (i := 9) (oi := { dst := some 96, op := Op.pick (Operand.tmp 91) (Operand.const (Value.bool true)) (Operand.tmp 95), type := 4, pos := "law.go:146", after := #[{ on := 4, ground := Ground.data }, { on := 8, ground := Ground.data }], guard := none }) (v := ?_) rfl (by kernel_rfl) (by kernel_rfl) (by kernel_rfl) (fun _ _ _ h => h) (Or.inl ⟨by rfl, ?hy10⟩) (by assumption) ?_
              case hy10 => (intro w hSw; (try dsimp only at hSw); go_simp; try with_reducible rfl)
              (try simp only [Act.put, List.setIfInBounds_toArray, List.set_cons_zero, List.set_cons_succ])
              refine wpAnyH_take (i := 10) (oi := { dst := some 97, op := Op.move (Operand.tmp 96), type := 4, pos := "law.go:146", after := #[{ on := 9, ground := Ground.data }, { on := 4, ground := Ground.chain }], guard := none }) (v := ?_) rfl (by kernel_rfl) (by kernel_rfl) (by kernel_rfl) (fun _ _ _ h => h) (Or.inl ⟨by rfl, ?hy11⟩) (by assumption) ?_
              case hy11 => (intro w hSw; (try dsimp only at hSw); go_simp; try with_reducible rfl)
              (try simp only [Act.put, List.setIfInBounds_toArray, List.set_cons_zero, List.set_cons_succ])
              refine wpAnyH_take (i := 11) (oi := { dst := some 98, op := Op.move (Operand.tmp 6), type := 24, pos := "law.go:146", after := #[{ on := 10, ground := Ground.guard }], guard := some (10, false) }) (v := ?_) rfl (by kernel_rfl) (by kernel_rfl) (by kernel_rfl) (fun _ _ _ h => h) (Or.inl ⟨by rfl, ?hy12⟩) (by assumption) ?_
              case hy12 => (intro w hSw; (try dsimp only at hSw); go_simp; try with_reducible rfl)
              (try simp only [Act.put, List.setIfInBounds_toArray, List.set_cons_zero, List.set_cons_succ])
              refine wpAnyH_take (i := 12) (oi := { dst := some 99, op := Op.move (Operand.tmp 1), type := 9, pos := "law.go:146", after := #[{ on := 10, ground := Ground.guard }], guard := some (10, false) }) (v := ?_) rfl (by kernel_rfl) (by kernel_rfl) (by kernel_rfl) (fun _ _ _ h => h) (Or.inl ⟨by rfl, ?hy13⟩) (by assumption) ?_
              case hy13 => (intro w hSw; (try dsimp only at hSw); go_simp; try with_reducible rfl)
              (try simp only [Act.put, List.setIfInBounds_toArray, List.set_cons_zero, List.set_cons_succ])
              refine wpAnyH_take (i := 14) (oi := { dst := some 101, op := Op.move (Operand.tmp 11), type := 3, pos := "law.go:146", after := #[{ on := 10, ground := Ground.guard }], guard := some (10, false) }) (v := ?_) rfl (by kernel_rfl) (by kernel_rfl) (by kernel_rfl) (fun _ _ _ h => h) (Or.inl ⟨by rfl, ?hy14⟩) (by assumption) ?_
              case hy14 => (intro w hSw; (try dsimp only at hSw); go_simp; try with_reducible rfl)
              (try simp only [Act.put, List.setIfInBounds_toArray, List.set_cons_zero, List.set_cons_succ])
              refine wpAnyH_ready (rs := [13]) (by kernel_rfl) (by simp) (AllReadyH.cons (o := { dst := some 100, op := Op.call { callee := Callee.value (Operand.func 12), args := #[Operand.tmp 98, Operand.tmp 99], argTypes := #[24, 9] }, type := 3, pos := "law.go:146", after := #[{ on := 11, ground := Ground.data }, { on := 12, ground := Ground.data }, { on := 10, ground := Ground.chain }, { on := 10, ground := Ground.guard }], guard := some (10, false) }) rfl (fun K hK => ?_) AllReadyH.nil)
              go_simp
              refine (safe_any bd bm B nm _ hs (HO6.out.later (Below.refl _ _).drew).st).mono ?_
              rintro _ _ ⟨rfl, rfl⟩
              rw [HSG.out]
              (try dsimp only)
              refine Shut.out hK _ _ ?_ (fun hS13 => ?_)
              · exact hS0
              clear hK K
              (try simp only [Act.put, List.setIfInBounds_toArray, List.set_cons_zero, List.set_cons_succ])
              refine wpAnyH_take (i := 15) (oi := { dst := some 102, op := Op.binOp BinOp.lss 3 (Operand.tmp 100) (Operand.tmp 101) 3, type := 4, pos := "law.go:146", after := #[{ on := 13, ground := Ground.data }, { on := 14, ground := Ground.data }, { on := 10, ground := Ground.guard }], guard := some (10, false) }) (v := ?_) rfl (by kernel_rfl) (by kernel_rfl) (by kernel_rfl) (fun _ _ _ h => h) (Or.inl ⟨by rfl, ?hy15⟩) (by assumption) ?_
              case hy15 => (intro w hSw; (try dsimp only at hSw); go_simp; try with_reducible rfl)
              (try simp only [Act.put, List.setIfInBounds_toArray, List.set_cons_zero, List.set_cons_succ])
              refine wpAnyH_take (i := 16) (oi := { dst := some 103, op := Op.pick (Operand.tmp 97) (Operand.const (Value.bool true)) (Operand.tmp 102), type := 4, pos := "law.go:146", after := #[{ on := 10, ground := Ground.data }, { on := 15, ground := Ground.data }], guard := none }) (v := ?_) rfl (by kernel_rfl) (by kernel_rfl) (by kernel_rfl) (fun _ _ _ h => h) (Or.inl ⟨by rfl, ?hy16⟩) (by assumption) ?_
              case hy16 => (intro w hSw; (try dsimp only at hSw); go_simp; try with_reducible rfl)
              (try simp only [Act.put, List.setIfInBounds_toArray, List.set_cons_zero, List.set_cons_succ])
              refine wpAnyH_take (i := 17) (oi := { dst := some 104, op := Op.move (Operand.tmp 103), type := 4, pos := "law.go:146", after := #[{ on := 16, ground := Ground.data }, { on := 13, ground := Ground.chain }], guard := none }) (v := ?_) rfl (by kernel_rfl) (by kernel_rfl) (by kernel_rfl) (fun _ _ _ h => h) (Or.inl ⟨by rfl, ?hy17⟩) (by assumption) ?_
              case hy17 => (intro w hSw; (try dsimp only at hSw); go_simp; try with_reducible rfl)
              (try simp only [Act.put, List.setIfInBounds_toArray, List.set_cons_zero, List.set_cons_succ])
              refine wpAnyH_take (i := 18) (oi := { dst := some 105, op := Op.move (Operand.tmp 12), type := 27, pos := "law.go:146", after := #[{ on := 17, ground := Ground.guard }], guard := some (17, false) }) (v := ?_) rfl (by kernel_rfl) (by kernel_rfl) (by kernel_rfl) (fun _ _ _ h => h) (Or.inl ⟨by rfl, ?hy18⟩) (by assumption) ?_
              case hy18 => (intro w hSw; (try dsimp only at hSw); go_simp; try with_reducible rfl)
              (try simp only [Act.put, List.setIfInBounds_toArray, List.set_cons_zero, List.set_cons_succ])
              refine wpAnyH_take (i := 19) (oi := { dst := some 106, op := Op.move (Operand.tmp 11), type := 3, pos := "law.go:146", after := #[{ on := 17, ground := Ground.guard }], guard := some (17, false) }) (v := ?_) rfl (by kernel_rfl) (by kernel_rfl) (by kernel_rfl) (fun _ _ _ h => h) (Or.inl ⟨by rfl, ?hy19⟩) (by assumption) ?_
              case hy19 => (intro w hSw; (try dsimp only at hSw); go_simp; try with_reducible rfl)
              (try simp only [Act.put, List.setIfInBounds_toArray, List.set_cons_zero, List.set_cons_succ])
              refine wpAnyH_take (i := 20) (oi := { dst := some 107, op := Op.slice 27 (Operand.tmp 105) none (some (Operand.tmp 106)) none, type := 27, pos := "law.go:146", after := #[{ on := 18, ground := Ground.data }, { on := 19, ground := Ground.data }, { on := 17, ground := Ground.guard }], guard := some (17, false) }) (v := ?_) rfl (by kernel_rfl) (by kernel_rfl) (by kernel_rfl) (fun _ _ _ h => h) (Or.inl ⟨by rfl, ?hy20⟩) (by assumption) ?_
              case hy20 => (intro w hSw; (try dsimp only at hSw); go_simp; try with_reducible rfl)
              (try simp only [Act.put, List.setIfInBounds_toArray, List.set_cons_zero, List.set_cons_succ])
              refine wpAnyH_take (i := 21) (oi := { dst := some 108, op := Op.convert 27 9 (Operand.tmp 107), type := 9, pos := "law.go:146", after := #[{ on := 20, ground := Ground.data }, { on := 17, ground := Ground.guard }], guard := some (17, false) }) (v := ?_) rfl (by kernel_rfl) (by kernel_rfl) (by kernel_rfl) (fun _ _ _ h => h) (Or.inl ⟨by rfl, ?hy21⟩) (by assumption) ?_
              case hy21 => (intro w hSw; (try dsimp only at hSw); go_simp; try with_reducible rfl)
              (try simp only [Act.put, List.setIfInBounds_toArray, List.set_cons_zero, List.set_cons_succ])
              refine wpAnyH_take (i := 22) (oi := { dst := some 109, op := Op.move (Operand.tmp 9), type := 27, pos := "law.go:146", after := #[{ on := 17, ground := Ground.guard }], guard := some (17, false) }) (v := ?_) rfl (by kernel_rfl) (by kernel_rfl) (by kernel_rfl) (fun _ _ _ h => h) (Or.inl ⟨by rfl, ?hy22⟩) (by assumption) ?_
              case hy22 => (intro w hSw; (try dsimp only at hSw); go_simp; try with_reducible rfl)
              (try simp only [Act.put, List.setIfInBounds_toArray, List.set_cons_zero, List.set_cons_succ])
              refine wpAnyH_take (i := 23) (oi := { dst := some 110, op := Op.move (Operand.tmp 11), type := 3, pos := "law.go:146", after := #[{ on := 17, ground := Ground.guard }], guard := some (17, false) }) (v := ?_) rfl (by kernel_rfl) (by kernel_rfl) (by kernel_rfl) (fun _ _ _ h => h) (Or.inl ⟨by rfl, ?hy23⟩) (by assumption) ?_
              case hy23 => (intro w hSw; (try dsimp only at hSw); go_simp; try with_reducible rfl)
              (try simp only [Act.put, List.setIfInBounds_toArray, List.set_cons_zero, List.set_cons_succ])
              refine wpAnyH_take (i := 24) (oi := { dst := some 111, op := Op.slice 27 (Operand.tmp 109) none (some (Operand.tmp 110)) none, type := 27, pos := "law.go:146", after := #[{ on := 22, ground := Ground.data }, { on := 23, ground := Ground.data }, { on := 17, ground := Ground.guard }], guard := some (17, false) }) (v := ?_) rfl (by kernel_rfl) (by kernel_rfl) (by kernel_rfl) (fun _ _ _ h => h) (Or.inl ⟨by rfl, ?hy24⟩) (by assumption) ?_
              case hy24 => (intro w hSw; (try dsimp only at hSw); go_simp; try with_reducible rfl)
              (try simp only [Act.put, List.setIfInBounds_toArray, List.set_cons_zero, List.set_cons_succ])
              refine wpAnyH_take (i := 25) (oi := { dst := some 112, op := Op.convert 27 9 (Operand.tmp 111), type := 9, pos := "law.go:146", after := #[{ on := 24, ground := Ground.data }, { on := 17, ground := Ground.guard }], guard := some (17, false) }) (v := ?_) rfl (by kernel_rfl) (by kernel_rfl) (by kernel_rfl) (fun _ _ _ h => h) (Or.inl ⟨by rfl, ?hy25⟩) (by assumption) ?_
              case hy25 => (intro w hSw; (try dsimp only at hSw); go_simp; try with_reducible rfl)
              (try simp only [Act.put, List.setIfInBounds_toArray, List.set_cons_zero, List.set_cons_succ])
              refine wpAnyH_take (i := 26) (oi := { dst := some 113, op := Op.binOp BinOp.neq 9 (Operand.tmp 108) (Operand.tmp 112) 9, type := 4, pos := "law.go:146", after := #[{ on := 21, ground := Ground.data }, { on := 25, ground := Ground.data }, { on := 17, ground := Ground.guard }], guard := some (17, false) }) (v := ?_) rfl (by kernel_rfl) (by kernel_rfl) (by kernel_rfl) (fun _ _ _ h => h) (Or.inl ⟨by rfl, ?hy26⟩) (by assumption) ?_
              case hy26 => (intro w hSw; (try dsimp only at hSw); go_simp; try with_reducible rfl)
              (try simp only [Act.put, List.setIfInBounds_toArray, List.set_cons_zero, List.set_cons_succ])
              refine wpAnyH_take (i := 27) (oi := { dst := some 114, op := Op.pick (Operand.tmp 104) (Operand.const (Value.bool true)) (Operand.tmp 113), type := 4, pos := "law.go:146", after := #[{ on := 17, ground := Ground.data }, { on := 26, ground := Ground.data }], guard := none }) (v := ?_) rfl (by kernel_rfl) (by kernel_rfl) (by kernel_rfl) (fun _ _ _ h => h) (Or.inl ⟨by rfl, ?hy27⟩) (by assumption) ?_
              case hy27 => (intro w hSw; (try dsimp only at hSw); go_simp; try with_reducible rfl)
              (try simp only [Act.put, List.setIfInBounds_toArray, List.set_cons_zero, List.set_cons_succ])
              refine wpAnyH_done (by kernel_rfl) ?_ _
              go_wp2
              exact ⟨⟨i + 1, B, by omega, by go_num, Lib.hid (HO6.out.later (Below.refl _ _).drew), HL6⟩, by simp [intOf]; omega⟩
            · clear HLW
              go_wp2
              exact ⟨⟨i + 1, B, by omega, by go_num, HO6, HL6⟩, by simp [intOf]; omega⟩
          · clear HLW
            go_wp2
            exact ⟨⟨i + 1, B, by omega, by go_num, HO6, HL6⟩, by simp [intOf]; omega⟩
    · obtain rfl : i = k := by omega
      have i3 : ¬ (i : Int) < (i : Int) := by omega
      go_wp2
      go_ret
      exact ⟨rfl, HO.out.bl⟩
end Go.Proofs.Ytjojomjnbiakoaa

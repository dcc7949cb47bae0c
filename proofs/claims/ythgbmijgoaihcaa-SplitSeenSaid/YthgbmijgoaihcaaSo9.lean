/-
  The sort of numbers of 64 bits: pdqsort, and slices.Sort.
-/
import Derived.Test.YthgbmijgoaihcaaSo8
import Derived.Sort.LotD3
import Derived.IntWalk
import Derived.Deep.DeepCutAuto
namespace Go.Proofs.Ythgbmijgoaihcaa
open Go.RowKit Go.Sort
set_option linter.unusedVariables false

def PQ (g off S n a b : Nat) (w : World) (d : Array Nat) (w' : World) : Prop := ∃ d', PU g off S n a b w d d' w' ∧ SortedIn ltN a b d'
theorem PU.then {g off S n a b : Nat} {w w1 w2 : World} {d d1 d2 : Array Nat} (h : PU g off S n a b w d d1 w1) (h2 : PU g off S n a b w1 d1 d2 w2) : PU g off S n a b w d d2 w2 :=
  ⟨h2.sz, h2.row, h.but.trans h2.but, permIn_trans _ _ _ a b h.perm h2.perm⟩
/-- What is still to be done. -/
def Goal (a b a' b' : Nat) (d dk : Array Nat) : Prop := ∀ R, PermIn a' b' dk R → SortedIn ltN a' b' R → PermIn a b d R ∧ SortedIn ltN a b R
structure ST (g off S n a b a' b' : Nat) (w : World) (d dk : Array Nat) (wr : World) : Prop where
  sz : dk.size = n
  row : RowU wr g off S dk
  but : But g w wr
  bel : Sort.Below ltN a' b' dk
  goal : Goal a b a' b' d dk
theorem ST.go {g off S n a b a' b' : Nat} {w wr wx : World} {d dk dx : Array Nat} (h : ST g off S n a b a' b' w d dk wr) (hp : PU g off S n a' b' wr dk dx wx) (hb : b' ≤ n) : ST g off S n a b a' b' w d dx wx :=
  ⟨hp.sz, hp.row, h.but.trans hp.but, h.bel.perm (by rw [h.sz]; exact hb) hp.perm, fun R h1 h2 => h.goal R (permIn_trans _ _ _ a' b' hp.perm h1) h2⟩
theorem ST.done {g off S n a b a' b' : Nat} {w wr wx : World} {d dk dx : Array Nat} (h : ST g off S n a b a' b' w d dk wr) (hp : PU g off S n a' b' wr dk dx wx) (hs : SortedIn ltN a' b' dx) : PQ g off S n a b w d wx :=
  ⟨dx, ⟨hp.sz, hp.row, h.but.trans hp.but, (h.goal dx hp.perm hs).1⟩, (h.goal dx hp.perm hs).2⟩
theorem ST.drewN {g off S n a b a' b' : Nat} {w wr : World} {d dk : Array Nat} (h : ST g off S n a b a' b' w d dk wr) (k : Nat) : ST g off S n a b a' b' w d dk (wr.drewN k) := ⟨h.sz, h.row, h.but.drewN k, h.bel, h.goal⟩
def AnyST (g off S n a b a' b' : Nat) (w : World) (d : Array Nat) (wr : World) : Prop := ∃ dk, ST g off S n a b a' b' w d dk wr

set_option maxRecDepth 100000 in
set_option maxHeartbeats 12800000 in
theorem pdq_any (g off S cap n : Nat) (hsz : n ≤ 500) : ∀ (N a b lim : Nat) (d : Array Nat) (w : World), d.size = n → RowU w g off S d → b - a ≤ N → a ≤ b → b ≤ n → lim ≤ 1000 → Sort.Below ltN a b d →
    Calls Try.prog 62 #[.slice (some ⟨g, off, none⟩) n cap, .int .i64 a, .int .i64 b, .int .i64 lim] w fun e w' => e = .returned (.tuple #[]) ∧ PQ g off S n a b w d w' := by
  intro N
  induction N using Nat.strongRecOn with
  | _ N ih =>
  intro a b lim d w hn hR hN hab hb hlim hB
  have IH := Lib.hid (fun (a' b' lim' : Nat) (d' : Array Nat) (w' : World) (h1 : b' - a' < N) h2 h3 h4 h5 h6 h7 => ih (b' - a') h1 a' b' lim' d' w' h2 h3 (Nat.le_refl _) h4 h5 h6 h7)
  have HST : Hid (ST g off S n a b a b w d d w) := Lib.hid ⟨hn, hR, But.refl _ _, hB, fun R h1 h2 => ⟨h1, h2⟩⟩
  clear ih hn hR hB
  go_enter Try.func62, Try.ntmps62
  go_wp2
  go_loopw [1, 2, 3, 8, 9] (fun va vb vl vwb vwp wr => ∃ (a' b' l' : Nat) (wb wp : Bool), va = .int .i64 a' ∧ vb = .int .i64 b' ∧ vl = .int .i64 l' ∧ vwb = .bool wb ∧ vwp = .bool wp ∧ a' ≤ b' ∧ b' ≤ n ∧ b' - a' ≤ N ∧ l' ≤ 1000 ∧ Hid (AnyST g off S n a b a' b' w d wr)) (fun va vb _ _ _ _ => (intOf vb).toNat - (intOf va).toNat)
  case atStart => exact ⟨a, b, lim, true, true, rfl, rfl, rfl, rfl, rfl, hab, hb, hN, hlim, Lib.hid ⟨d, HST.out⟩⟩
  case round =>
    obtain ⟨a', b', l', wb, wp, rfl, rfl, rfl, rfl, rfl, hab', hb', hN', hl', ⟨dk, hst⟩⟩ := hrel
    have HK := Lib.hid hst
    clear hst
    obtain ⟨l, e_l, H_l⟩ : ∃ l : Nat, (b' : Int) - (a' : Int) = (l : Int) ∧ Hid (b' - a' = l) := ⟨b' - a', by omega, Lib.hid rfl⟩
    have hbs : Hid (b' ≤ dk.size) := Lib.hid (by rw [HK.out.sz]; exact hb')
    by_cases h12 : l ≤ 12
    · have h12I : (l : Int) ≤ 12 := by omega
      have HI := Lib.hid (ins_any g off S cap n a' b' dk HK.out.sz wr HK.out.row hab' hb' (by omega))
      have HF := Lib.hid (insertionSort_holds (lt := ltN) swo_ltN dk a' b' hab' hbs.out)
      go_wp2_with fail
      refine HI.out.mono ?_
      rintro _ w2 ⟨rfl, hr2, hu2⟩
      have HD := Lib.hid (HK.out.done (dx := insertionSort ltN dk a' b') ⟨by rw [HF.out.1.1]; exact HK.out.sz, hr2, hu2, HF.out.1⟩ HF.out.2)
      clear hr2 hu2
      go_wp2
      (try simp only [Exit.inBlock, Exit.then]); refine bodyPost_ret (results_none rfl _ _ _) rfl ?_
      exact ⟨rfl, HD.out⟩
    · have h12I : ¬ (l : Int) ≤ 12 := by omega
      have hl12 : a' + 12 < b' := by have := H_l.out; omega
      by_cases hl0 : l' = 0
      · subst hl0
        have HI := Lib.hid (heap_any g off S cap n a' b' dk HK.out.sz wr HK.out.row hab' hb' (by omega))
        have HF := Lib.hid (heapSort_holds (lt := ltN) swo_ltN dk a' b' hab' hbs.out)
        go_wp2_with fail
        refine HI.out.mono ?_
        rintro _ w2 ⟨rfl, hr2, hu2⟩
        have HD := Lib.hid (HK.out.done (dx := heapSort ltN dk a' b') ⟨by rw [HF.out.1.1]; exact HK.out.sz, hr2, hu2, HF.out.1⟩ HF.out.2)
        clear hr2 hu2
        go_wp2
        (try simp only [Exit.inBlock, Exit.then]); refine bodyPost_ret (results_none rfl _ _ _) rfl ?_
        exact ⟨rfl, HD.out⟩
      · obtain ⟨l1, rfl⟩ : ∃ l1, l' = l1 + 1 := ⟨l' - 1, by omega⟩
        have hl0I : (((l1 : Int) + 1) == 0) = false := by simp; omega
        go_upto_if 35 with (fail)
        go_cut [3] (fun s3 wx => ∃ l2 : Nat, s3 = .int .i64 l2 ∧ l2 ≤ 1000 ∧ Hid (AnyST g off S n a b a' b' w d wx))
        case first =>
          cases wb with
          | true =>
            go_wp2
            go_meet
            case rel => exact ⟨l1 + 1, rfl, by omega, Lib.hid ⟨dk, HK.out⟩⟩
          | false =>
            have HI := Lib.hid (break_any g off S cap n a' b' dk HK.out.sz wr HK.out.row hl12 hb' hsz)
            go_wp2_with fail
            refine HI.out.mono ?_
            rintro _ w2 ⟨rfl, d2, hp2⟩
            have HD := Lib.hid (HK.out.go hp2 hb')
            clear hp2
            go_wp2
            go_meet
            case rel => exact ⟨l1, rfl, by omega, Lib.hid ⟨d2, HD.out⟩⟩
        case rest =>
          obtain ⟨l2, rfl, hl2, ⟨d1, hst1⟩⟩ := hcut
          have HK1 := Lib.hid hst1
          have HI := Lib.hid (choose_any g off S cap n a' b' d1 hst1.sz wc hst1.row hl12 hb' (by omega))
          clear hst1 HK hbs
          go_wp2_with fail
          refine HI.out.mono ?_
          rintro _ w4 ⟨⟨pv, hint, rfl, hp1, hp2, hh⟩, hr4, hu4⟩
          have HK4 := Lib.hid (HK1.out.go (dx := d1) (wx := w4) ⟨HK1.out.sz, hr4, hu4, permIn_refl d1 a' b'⟩ hb')
          clear hr4 hu4 HK1 HI
          go_upto_if 50 with (fail)
          go_cut [11, 12] (fun s11 s12 wx => ∃ (p2 : Nat) (h2 : Int), s11 = .int .i64 p2 ∧ s12 = .int .i64 h2 ∧ a' ≤ p2 ∧ p2 < b' ∧ Hid (AnyST g off S n a b a' b' w d wx))
          case first =>
            by_cases hd : hint = 2
            · subst hd
              have HI := Lib.hid (rev_any g off S cap n a' b' d1 HK4.out.sz w4 HK4.out.row (by omega) hb' (by omega))
              have HP := Lib.hid (reverseRange_holds (α := Nat) d1 a' b' hab' (by rw [HK4.out.sz]; exact hb'))
              obtain ⟨b1, e_b1, H_b1⟩ : ∃ b1 : Nat, (b' : Int) - 1 = (b1 : Int) ∧ b1 + 1 = b' := ⟨b' - 1, by omega, by omega⟩
              obtain ⟨pa, e_pa, H_pa⟩ : ∃ pa : Nat, (pv : Int) - (a' : Int) = (pa : Int) ∧ a' + pa = pv := ⟨pv - a', by omega, by omega⟩
              obtain ⟨p2, e_p2, H_p2⟩ : ∃ p2 : Nat, (b1 : Int) - (pa : Int) = (p2 : Int) ∧ p2 + pa = b1 := ⟨b1 - pa, by omega, by omega⟩
              have HR2 : Hid (a' ≤ p2 ∧ p2 < b') := Lib.hid (by omega)
              have HPS := Lib.hid (And.intro H_b1 (And.intro H_pa H_p2))
              clear H_b1 H_pa H_p2
              go_wp2_with fail
              refine HI.out.mono ?_
              rintro _ w5 ⟨rfl, hr5, hu5⟩
              have HD := Lib.hid (HK4.out.go (dx := reverseRange d1 a' b') ⟨by rw [HP.out.1]; exact HK4.out.sz, hr5, hu5, HP.out⟩ hb')
              clear hr5 hu5
              go_wp2
              go_meet
              case rel => exact ⟨p2, 1, rfl, rfl, HR2.out.1, HR2.out.2, Lib.hid ⟨_, HD.out⟩⟩
            · have hdI : (hint == 2) = false := by simp [hd]
              clear hd hh
              go_wp2
              go_meet
              case rel => exact ⟨pv, hint, rfl, rfl, hp1, hp2, Lib.hid ⟨d1, HK4.out⟩⟩
          case rest =>
            obtain ⟨p2, h2, rfl, rfl, hq1, hq2, ⟨d2, hst2⟩⟩ := hcut
            have HK2 := Lib.hid hst2
            clear hst2 hh HK4
            go_upto_region 15 with (fail)
            go_cut [68] (fun s wx => (∃ cb : Bool, s = .bool cb) ∧ wc = wx)
            case first =>
              cases wb with
              | false =>
                go_wp2
                go_meet
                case rel => exact ⟨⟨_, rfl⟩, rfl⟩
              | true =>
                cases wp with
                | false =>
                  go_wp2
                  go_meet
                  case rel => exact ⟨⟨_, rfl⟩, rfl⟩
                | true =>
                  go_wp2
                  go_meet
                  case rel => exact ⟨⟨_, rfl⟩, rfl⟩
            case rest =>
              obtain ⟨⟨cb, rfl⟩, rfl⟩ := hcut
              go_upto_if 68 with (fail)
              go_cut [] (fun wx => Hid (AnyST g off S n a b a' b' w d wx))
              case first =>
                cases cb with
                | false =>
                  go_wp2
                  go_meet
                  case rel => exact Lib.hid ⟨d2, HK2.out⟩
                | true =>
                  have HI := Lib.hid (pis_any g off S cap n a' b' d2 HK2.out.sz wc HK2.out.row (by omega) hb' (by omega))
                  have HP := Lib.hid (partialInsertionSort_holds (lt := ltN) swo_ltN d2 a' b' (by omega) (by rw [HK2.out.sz]; exact hb') HK2.out.bel)
                  cases hres : (partialInsertionSort ltN d2 a' b').2 with
                  | true =>
                    rw [hres] at HI HP
                    go_wp2_with fail
                    refine HI.out.mono ?_
                    rintro _ w5 ⟨rfl, hr5, hu5⟩
                    have HD := Lib.hid (HK2.out.done (dx := (partialInsertionSort ltN d2 a' b').1) ⟨by rw [HP.out.1.1]; exact HK2.out.sz, hr5, hu5, HP.out.1⟩ (HP.out.2 (by trivial)))
                    clear hr5 hu5
                    go_wp2
                    (try simp only [Exit.inBlock, Exit.then]); refine bodyPost_ret (results_none rfl _ _ _) rfl ?_
                    exact ⟨rfl, HD.out⟩
                  | false =>
                    rw [hres] at HI
                    go_wp2_with fail
                    refine HI.out.mono ?_
                    rintro _ w5 ⟨rfl, hr5, hu5⟩
                    have HD := Lib.hid (HK2.out.go (dx := (partialInsertionSort ltN d2 a' b').1) ⟨by rw [HP.out.1.1]; exact HK2.out.sz, hr5, hu5, HP.out.1⟩ hb')
                    clear hr5 hu5
                    go_wp2
                    go_meet
                    case rel => exact Lib.hid ⟨_, HD.out⟩
              case rest =>
                obtain ⟨d3, hst3⟩ := hcut
                have HK3 := Lib.hid hst3
                clear hst3 HK2
                go_upto_region 17 with (fail)
                go_cut [87] (fun s wx => ∃ eb : Bool, s = .bool eb ∧ Hid ((eb = true → 0 < a' ∧ ltN d3[a' - 1]! d3[p2]! = false) ∧ ST g off S n a b a' b' w d d3 wx))
                case first =>
                  by_cases ha0 : a' = 0
                  · have z1 : decide ((0 : Int) < (a' : Int)) = false := by simp; omega
                    have z2 : decide (0 < a') = false := by simp; omega
                    go_wp2
                    go_quiet (fail)
                    go_wp2
                    go_meet
                    case rel => exact ⟨false, rfl, Lib.hid ⟨(fun h => by cases h), HK3.out.drewN _⟩⟩
                  · obtain ⟨r, rfl⟩ : ∃ r, a' = r + 1 := ⟨a' - 1, by omega⟩
                    have z1 : decide ((0 : Int) < (r : Int) + 1) = true := decide_eq_true (by omega)
                    have z2 : (0 : Int) < (r : Int) + 1 := by omega
                    have r1 := HK3.out.row.cell r (by rw [HK3.out.sz]; omega)
                    have r2 := HK3.out.row.cell p2 (by rw [HK3.out.sz]; omega)
                    have t3 : (0 : Int) ≤ (r : Int) := by omega
                    have t4 : (r : Int) < (n : Int) := by omega
                    have t5 : (0 : Int) ≤ (p2 : Int) := by omega
                    have t6 : (p2 : Int) < (n : Int) := by omega
                    have tw : IntKind.i64.wrap (r : Int) = (r : Int) := IntWalk.i64_in _ (by omega)
                    obtain ⟨x, hx⟩ : ∃ x, d3[r]! = x := ⟨_, rfl⟩
                    obtain ⟨y, hy⟩ : ∃ y, d3[p2]! = y := ⟨_, rfl⟩
                    rw [hx] at r1
                    rw [hy] at r2
                    have HX := Lib.hid hx
                    have HY := Lib.hid hy
                    clear hx hy
                    cases hl : decide (x < y) with
                    | true =>
                      have hl2 : decide ((x : Int) < (y : Int)) = true := by simpa using hl
                      go_wp2
                      go_quiet (first | (go_at_call 58; exact Calls.quiet_of_same (less_same _ _ _)))
                      go_wp2
                      go_meet
                      case rel => exact ⟨false, rfl, Lib.hid ⟨(fun h => by cases h), HK3.out.drewN _⟩⟩
                    | false =>
                      have hl2 : decide ((x : Int) < (y : Int)) = false := by simpa using hl
                      have HEQ : Hid (ltN d3[r + 1 - 1]! d3[p2]! = false) := Lib.hid (by rw [Nat.add_sub_cancel, HX.out, HY.out]; exact hl)
                      go_wp2
                      go_quiet (first | (go_at_call 58; exact Calls.quiet_of_same (less_same _ _ _)))
                      go_wp2
                      go_meet
                      case rel => exact ⟨true, rfl, Lib.hid ⟨fun _ => ⟨by omega, HEQ.out⟩, HK3.out.drewN _⟩⟩
                case rest =>
                  obtain ⟨eb, rfl, hst4⟩ := hcut
                  clear HK3
                  have hbs4 : Hid (b' ≤ d3.size) := Lib.hid (by rw [hst4.out.2.sz]; exact hb')
                  cases eb with
                  | true =>
                    have HRE := Lib.hid (round_eq (lt := ltN) swo_ltN (partitionEqual_holds ltN) (mid := (partitionEqual ltN d3 a' b' p2).1) (d4 := (partitionEqual ltN d3 a' b' p2).2) (hst4.out.1 rfl).1 hq1 hq2 hbs4.out hst4.out.2.bel (hst4.out.1 rfl).2 rfl)
                    have HI := Lib.hid (pareq_any g off S cap n a' b' p2 d3 hst4.out.2.sz wc hst4.out.2.row hq1 hq2 hb' (by omega))
                    generalize (partitionEqual ltN d3 a' b' p2).1 = mid at *
                    generalize (partitionEqual ltN d3 a' b' p2).2 = d4 at *
                    have hm1 := HRE.out.1
                    have hm2 := HRE.out.2.1
                    go_wp2_with fail
                    refine HI.out.mono ?_
                    rintro _ w6 ⟨rfl, hr6, hu6⟩
                    have HD : Hid (ST g off S n a b mid b' w d d4 w6) := Lib.hid ⟨by rw [HRE.out.2.2.1]; exact hst4.out.2.sz, hr6, hst4.out.2.but.trans hu6, HRE.out.2.2.2.1, fun R h1 h2 => by
                      obtain ⟨k1, k2⟩ := HRE.out.2.2.2.2 R h1 h2
                      exact hst4.out.2.goal R k1 k2⟩
                    clear hr6 hu6
                    go_wp2
                    exact ⟨⟨mid, b', l2, wb, wp, rfl, rfl, rfl, rfl, rfl, hm2, hb', by omega, hl2, Lib.hid ⟨d4, HD.out⟩⟩, by simp [intOf] <;> omega⟩
                  | false =>
                    have HRP := Lib.hid (round_part (lt := ltN) swo_ltN (partition_holds ltN) (mid := (partition ltN d3 a' b' p2).1) (ap := (partition ltN d3 a' b' p2).2.1) (d4 := (partition ltN d3 a' b' p2).2.2) hq1 hq2 hbs4.out hst4.out.2.bel rfl)
                    have HI := Lib.hid (part_any g off S cap n a' b' p2 d3 hst4.out.2.sz wc hst4.out.2.row hq1 hq2 hb' (by omega))
                    generalize (partition ltN d3 a' b' p2).1 = mid at *
                    generalize (partition ltN d3 a' b' p2).2.1 = ap at *
                    generalize (partition ltN d3 a' b' p2).2.2 = d4 at *
                    have hm1 := HRP.out.1
                    have hm2 := HRP.out.2.1
                    go_wp2_with fail
                    refine HI.out.mono ?_
                    rintro _ w6 ⟨rfl, hr6, hu6⟩
                    have HD : Hid (d4.size = n ∧ RowU w6 g off S d4 ∧ But g w w6) := Lib.hid ⟨by rw [HRP.out.2.2.1]; exact hst4.out.2.sz, hr6, hst4.out.2.but.trans hu6⟩
                    clear hr6 hu6
                    obtain ⟨ll, e_ll, H_ll⟩ : ∃ ll : Nat, (mid : Int) - (a' : Int) = (ll : Int) ∧ Hid (a' + ll = mid) := ⟨mid - a', by omega, Lib.hid (by omega)⟩
                    obtain ⟨rl, e_rl, H_rl⟩ : ∃ rl : Nat, (b' : Int) - (mid : Int) = (rl : Int) ∧ Hid (mid + rl = b') := ⟨b' - mid, by omega, Lib.hid (by omega)⟩
                    obtain ⟨t8, e_t8, e_t8'⟩ : ∃ t8 : Nat, (l : Int) / 8 = (t8 : Int) ∧ (l : Int).tdiv 8 = (t8 : Int) := ⟨l / 8, by omega, by rw [Int.tdiv_eq_ediv_of_nonneg (by omega)]; omega⟩
                    have hlb1 : ll ≤ 1000 := by have := H_ll.out; omega
                    have hlb2 : rl ≤ 1000 := by have := H_rl.out; omega
                    by_cases hside : ll < rl
                    · have hsI : (ll : Int) < (rl : Int) := by omega
                      have HC := Lib.hid (IH.out a' mid l2 d4 w6 (by omega) HD.out.1 HD.out.2.1 hm1 (by omega) hl2 HRP.out.2.2.2.1)
                      go_wp2_with fail
                      refine HC.out.mono ?_
                      rintro _ w7 ⟨rfl, L, hpL, hsL⟩
                      have HD7 : Hid (ST g off S n a b (mid + 1) b' w d L w7) := Lib.hid (by
                        obtain ⟨k1, k2⟩ := HRP.out.2.2.2.2.2.1 L hpL.perm hsL
                        exact ⟨hpL.sz, hpL.row, HD.out.2.2.trans hpL.but, k1, fun R h1 h2 => by
                          obtain ⟨m1, m2⟩ := k2 R h1 h2
                          exact hst4.out.2.goal R m1 m2⟩)
                      clear hpL hsL
                      go_wp2
                      exact ⟨⟨mid + 1, b', l2, _, ap, by go_num, rfl, rfl, rfl, rfl, by omega, hb', by omega, hl2, Lib.hid ⟨L, HD7.out⟩⟩, by simp [intOf] <;> omega⟩
                    · have hsI : ¬ (ll : Int) < (rl : Int) := by omega
                      have HC := Lib.hid (IH.out (mid + 1) b' l2 d4 w6 (by omega) HD.out.1 HD.out.2.1 (by omega) hb' hl2 HRP.out.2.2.2.2.1)
                      have e_m1 : (mid : Int) + 1 = ((mid + 1 : Nat) : Int) := by omega
                      obtain ⟨m1, hm1e⟩ : ∃ m1, mid + 1 = m1 := ⟨_, rfl⟩
                      rw [hm1e] at HC e_m1
                      have HM1 := Lib.hid hm1e
                      clear hm1e
                      go_wp2_with fail
                      refine HC.out.mono ?_
                      rintro _ w7 ⟨rfl, L, hpL, hsL⟩
                      have HD7 : Hid (ST g off S n a b a' mid w d L w7) := Lib.hid (by
                        rw [← HM1.out] at hpL hsL
                        obtain ⟨k1, k2⟩ := HRP.out.2.2.2.2.2.2 L hpL.perm hsL
                        exact ⟨hpL.sz, hpL.row, HD.out.2.2.trans hpL.but, k1, fun R h1 h2 => by
                          obtain ⟨m1, m2⟩ := k2 R h1 h2
                          exact hst4.out.2.goal R m1 m2⟩)
                      clear hpL hsL
                      go_wp2
                      exact ⟨⟨a', mid, l2, _, ap, rfl, rfl, rfl, rfl, rfl, hm1, by omega, by omega, hl2, Lib.hid ⟨L, HD7.out⟩⟩, by simp [intOf] <;> omega⟩
end Go.Proofs.Ythgbmijgoaihcaa

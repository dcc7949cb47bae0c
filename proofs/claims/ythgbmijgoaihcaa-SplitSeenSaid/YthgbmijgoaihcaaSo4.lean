/-
  The sort of numbers of 64 bits: the partitions.
-/
import Derived.Test.YthgbmijgoaihcaaSo3
import Derived.Sort.LotC
import Derived.Deep.CutBlock
namespace Go.Proofs.Ythgbmijgoaihcaa
open Go.RowKit Go.Sort
set_option linter.unusedVariables false

/-- The row as it stands, and what has not turned since w. -/
structure SU (g off S n : Nat) (w : World) (d : Array Nat) (w' : World) : Prop where
  sz : d.size = n
  row : RowU w' g off S d
  but : But g w w'
theorem SU.drewN {g off S n : Nat} {w w' : World} {d : Array Nat} (h : SU g off S n w d w') (k : Nat) : SU g off S n w d (w'.drewN k) := ⟨h.sz, h.row, h.but.drewN k⟩
theorem SU.swap {g off S n : Nat} {w w' : World} {d : Array Nat} (h : SU g off S n w d w') (j k : Nat) (hj : j < n) (hk : k < n) {x y : Nat} (hx : x = d[k]!) (hy : y = d[j]!) {m : Nat} :
    SU g off S n w (swp d j k) (((w'.drewN m).setCell ⟨g, off + j, none⟩ (.int .u64 (x : Nat))).setCell ⟨g, off + k, none⟩ (.int .u64 (y : Nat))) :=
  ⟨by rw [size_swp]; exact h.sz, (h.row.drewN m).swap j k (by rw [h.sz]; exact hj) (by rw [h.sz]; exact hk) hx hy, ((h.but.drewN m).setCell _ _).setCell _ _⟩
theorem ret_i {i j : Int} (h : i = j) : Ending.returned (.int .i64 i) = .returned (.int .i64 j) := by rw [h]
theorem ret_pair {i j : Int} {b c : Bool} (h1 : i = j) (h2 : b = c) : Ending.returned (.tuple #[.int .i64 i, .bool b]) = .returned (.tuple #[.int .i64 j, .bool c]) := by rw [h1, h2]
section
variable {α : Type} [Inhabited α] (p : α → Bool) (d : Array α)
theorem scan_up_go (j i : Nat) (h : i ≤ j) (hp : p d[i]! = true) : scanUp p d j i = scanUp p d j (i + 1) := by
  conv => lhs; rw [scanUp]
  simp [h, hp]
theorem scan_up_stop (j i : Nat) (h : ¬ i ≤ j ∨ p d[i]! = false) : scanUp p d j i = i := by
  rw [scanUp]
  rcases h with h | h <;> simp [h]
theorem scan_down_go (i j : Nat) (h : i ≤ j + 1) (hp : p d[j + 1]! = true) : scanDown p d i (j + 1) = scanDown p d i j := by
  conv => lhs; rw [scanDown]
  simp [h, hp]
theorem scan_down_stop (i j : Nat) (h : ¬ i ≤ j ∨ p d[j]! = false) : scanDown p d i j = j := by
  cases j with
  | zero => rfl
  | succ j => rw [scanDown]; rcases h with h | h <;> simp [h]
end

section
variable {α : Type} [Inhabited α] (lt : α → α → Bool)
theorem part_eq (d : Array α) (a b p : Nat) : partition lt d a b p =
    if scanUp (fun x => lt x (swp d a p)[a]!) (swp d a p) (b - 1) (a + 1) > scanDown (fun x => !lt x (swp d a p)[a]!) (swp d a p) (scanUp (fun x => lt x (swp d a p)[a]!) (swp d a p) (b - 1) (a + 1)) (b - 1) then
      (scanDown (fun x => !lt x (swp d a p)[a]!) (swp d a p) (scanUp (fun x => lt x (swp d a p)[a]!) (swp d a p) (b - 1) (a + 1)) (b - 1), true, swp (swp d a p) (scanDown (fun x => !lt x (swp d a p)[a]!) (swp d a p) (scanUp (fun x => lt x (swp d a p)[a]!) (swp d a p) (b - 1) (a + 1)) (b - 1)) a)
    else
      ((partLoop lt a (scanUp (fun x => lt x (swp d a p)[a]!) (swp d a p) (b - 1) (a + 1) + 1) (scanDown (fun x => !lt x (swp d a p)[a]!) (swp d a p) (scanUp (fun x => lt x (swp d a p)[a]!) (swp d a p) (b - 1) (a + 1)) (b - 1) - 1) (swp (swp d a p) (scanUp (fun x => lt x (swp d a p)[a]!) (swp d a p) (b - 1) (a + 1)) (scanDown (fun x => !lt x (swp d a p)[a]!) (swp d a p) (scanUp (fun x => lt x (swp d a p)[a]!) (swp d a p) (b - 1) (a + 1)) (b - 1)))).1, false,
       swp (partLoop lt a (scanUp (fun x => lt x (swp d a p)[a]!) (swp d a p) (b - 1) (a + 1) + 1) (scanDown (fun x => !lt x (swp d a p)[a]!) (swp d a p) (scanUp (fun x => lt x (swp d a p)[a]!) (swp d a p) (b - 1) (a + 1)) (b - 1) - 1) (swp (swp d a p) (scanUp (fun x => lt x (swp d a p)[a]!) (swp d a p) (b - 1) (a + 1)) (scanDown (fun x => !lt x (swp d a p)[a]!) (swp d a p) (scanUp (fun x => lt x (swp d a p)[a]!) (swp d a p) (b - 1) (a + 1)) (b - 1)))).2
         (partLoop lt a (scanUp (fun x => lt x (swp d a p)[a]!) (swp d a p) (b - 1) (a + 1) + 1) (scanDown (fun x => !lt x (swp d a p)[a]!) (swp d a p) (scanUp (fun x => lt x (swp d a p)[a]!) (swp d a p) (b - 1) (a + 1)) (b - 1) - 1) (swp (swp d a p) (scanUp (fun x => lt x (swp d a p)[a]!) (swp d a p) (b - 1) (a + 1)) (scanDown (fun x => !lt x (swp d a p)[a]!) (swp d a p) (scanUp (fun x => lt x (swp d a p)[a]!) (swp d a p) (b - 1) (a + 1)) (b - 1)))).1 a) := by
  unfold partition
  dsimp only
end

set_option maxRecDepth 100000 in
set_option maxHeartbeats 6400000 in
theorem part_any (g off S cap n a b p : Nat) (d : Array Nat) (hn : d.size = n) (w : World) (hR : RowU w g off S d) (hap : a ≤ p) (hpb : p < b) (hb : b ≤ n) (hsz : n ≤ 17592186044400) :
    Calls Try.prog 72 #[.slice (some ⟨g, off, none⟩) n cap, .int .i64 a, .int .i64 b, .int .i64 p] w fun e w' => e = .returned (.tuple #[.int .i64 ((partition ltN d a b p).1 : Nat), .bool (partition ltN d a b p).2.1]) ∧ RowU w' g off S (partition ltN d a b p).2.2 ∧ But g w w' := by
  have HS0 : Hid (SU g off S n w d w) := Lib.hid ⟨hn, hR, But.refl _ _⟩
  obtain ⟨i, e_i, H_i⟩ : ∃ i : Nat, (a : Int) + 1 = (i : Int) ∧ Hid (a + 1 = i) := ⟨a + 1, by omega, Lib.hid rfl⟩
  obtain ⟨j, e_j, H_j⟩ : ∃ j : Nat, (b : Int) - 1 = (j : Int) ∧ Hid (b - 1 = j) := ⟨b - 1, by omega, Lib.hid rfl⟩
  have hi1 : a < i := by have := H_i.out; omega
  have hi2 : i ≤ n := by have := H_i.out; omega
  have hj2 : j < n := by have := H_j.out; omega
  have HPT := Lib.hid (part_eq ltN d a b p)
  obtain ⟨res, HRES⟩ : ∃ res, Hid (partition ltN d a b p = res) := ⟨_, Lib.hid rfl⟩
  rw [HRES.out] at HPT ⊢
  clear hn hR
  go_enter Try.func72, Try.ntmps72
  go_upto_region 1 with (fail)
  go_cut [] (fun wx => Hid (SU g off S n w (swp (d) a p) wx))
  case first =>
    have r1 := HS0.out.row.cell a (by rw [HS0.out.sz]; omega)
    have r2 := HS0.out.row.cell p (by rw [HS0.out.sz]; omega)
    have f1 := HS0.out.row.free (off + a)
    have f2 := HS0.out.row.free (off + p)
    have t3 : (0 : Int) ≤ (a : Int) := by omega
    have t4 : (a : Int) < (n : Int) := by omega
    have t5 : (0 : Int) ≤ (p : Int) := by omega
    have t6 : (p : Int) < (n : Int) := by omega
    obtain ⟨x, hx⟩ : ∃ x, (d)[a]! = x := ⟨_, rfl⟩
    obtain ⟨y, hy⟩ : ∃ y, (d)[p]! = y := ⟨_, rfl⟩
    rw [hx] at r1
    rw [hy] at r2
    obtain ⟨v3, hv3⟩ : ∃ v3, (w.setCell ⟨g, off + a, none⟩ (.int .u64 (y : Nat))).cell? ⟨g, off + p, none⟩ = some v3 := ⟨_, (HS0.out.row.set a y (by rw [HS0.out.sz]; omega)).cell p (by rw [Array.size_setIfInBounds, HS0.out.sz]; omega)⟩
    have HX := Lib.hid hx
    have HY := Lib.hid hy
    clear hx hy
    go_region
    all_goals
      go_wp2
      go_meet
      case rel => exact Lib.hid (HS0.out.swap a p (by omega) (by omega) HY.out.symm HX.out.symm)
  case rest =>
    have HS1 := hcut
    obtain ⟨d1, HD1⟩ : ∃ d1, Hid (swp d a p = d1) := ⟨_, Lib.hid rfl⟩
    rw [HD1.out] at HS1
    rw [HD1.out, H_i.out, H_j.out] at HPT
    clear HS0
    obtain ⟨i2, H_i2⟩ : ∃ i2, Hid (scanUp (fun x => ltN x (d1)[a]!) d1 j i = i2) := ⟨_, Lib.hid rfl⟩
    go_upto_block 0 with (fail)
    go_cut [10] (fun s wx => s = .int .i64 (i2 : Nat) ∧ i ≤ i2 ∧ i2 ≤ n ∧ Hid (SU g off S n w d1 wx))
    case first =>
      go_wp2
      go_loopw [10] (fun vi wz => ∃ k : Nat, vi = .int .i64 k ∧ i ≤ k ∧ k ≤ n ∧ Hid (SU g off S n w d1 wz ∧ scanUp (fun x => ltN x (d1)[a]!) d1 j k = i2)) (fun vi _ => j + 1 - (intOf vi).toNat)
      case atStart => exact ⟨i, rfl, Nat.le_refl _, by omega, Lib.hid ⟨HS1.out, H_i2.out⟩⟩
      case round =>
        obtain ⟨k, rfl, hk1, hk2, HK⟩ := hrel
        by_cases hkj : k ≤ j
        · skip
          have r1 := HK.out.1.row.cell k (by rw [HK.out.1.sz]; omega)
          have r2 := HK.out.1.row.cell a (by rw [HK.out.1.sz]; omega)
          have t1 : decide ((k : Int) ≤ (j : Int)) = true := by simp; omega
          have t2 : decide (k ≤ j) = true := by simp; omega
          have t3 : (0 : Int) ≤ (k : Int) := by omega
          have t4 : (k : Int) < (n : Int) := by omega
          have t5 : (0 : Int) ≤ (a : Int) := by omega
          have t6 : (a : Int) < (n : Int) := by omega
          obtain ⟨x, hx⟩ : ∃ x, (d1)[k]! = x := ⟨_, rfl⟩
          obtain ⟨y, hy⟩ : ∃ y, (d1)[a]! = y := ⟨_, rfl⟩
          rw [hx] at r1
          rw [hy] at r2
          have HX := Lib.hid hx
          have HY := Lib.hid hy
          clear hx hy
          cases hl : decide (x < y) with
          | true =>
            have hl2 : decide ((x : Int) < (y : Int)) = true := by simpa using hl
            have HN : Hid (scanUp (fun x => ltN x (d1)[a]!) d1 j (k + 1) = i2) := Lib.hid (by rw [← HK.out.2]; exact (scan_up_go (fun x => ltN x (d1)[a]!) d1 j k hkj (by rw [HX.out, HY.out]; simp only [ltN]; rw [hl])).symm)
            go_wp2
            go_quiet (first | (go_at_call 58; exact Calls.quiet_of_same (less_same _ _ _)))
            go_wp2
            exact ⟨⟨k + 1, by go_num, by omega, by omega, Lib.hid ⟨HK.out.1.drewN _, HN.out⟩⟩, by simp [intOf] <;> omega⟩
          | false =>
            have hl2 : decide ((x : Int) < (y : Int)) = false := by simpa using hl
            have HN : Hid (k = i2) := Lib.hid (by rw [← HK.out.2]; exact (scan_up_stop (fun x => ltN x (d1)[a]!) d1 j k (Or.inr (by rw [HX.out, HY.out]; simp only [ltN]; rw [hl]))).symm)
            go_wp2
            go_quiet (first | (go_at_call 58; exact Calls.quiet_of_same (less_same _ _ _)))
            go_wp2
            go_meet
            case rel => (have := HN.out; subst this; exact ⟨rfl, by omega, by omega, Lib.hid (HK.out.1.drewN _)⟩)
        · have t1 : decide ((k : Int) ≤ (j : Int)) = false := by simp; omega
          have t2 : decide (k ≤ j) = false := by simp; omega
          have HN : Hid (k = i2) := Lib.hid (by rw [← HK.out.2]; exact (scan_up_stop (fun x => ltN x (d1)[a]!) d1 j k (Or.inl hkj)).symm)
          go_wp2
          go_quiet (fail)
          go_wp2
          go_meet
          case rel => (have := HN.out; subst this; exact ⟨rfl, by omega, by omega, Lib.hid (HK.out.1.drewN _)⟩)
    case rest =>
      obtain ⟨rfl, h_i21, h_i22, HS2⟩ := hcut
      rw [H_i2.out] at HPT
      clear HS1
      obtain ⟨j2, H_j2⟩ : ∃ j2, Hid (scanDown (fun x => !ltN x (d1)[a]!) d1 i2 j = j2) := ⟨_, Lib.hid rfl⟩
      go_upto_block 2 with (fail)
      go_cut [11] (fun s wx => s = .int .i64 (j2 : Nat) ∧ j2 ≤ j ∧ Hid (SU g off S n w d1 wx))
      case first =>
        go_wp2
        go_loopw [11] (fun vi wz => ∃ k : Nat, vi = .int .i64 k ∧ k ≤ j ∧ Hid (SU g off S n w d1 wz ∧ scanDown (fun x => !ltN x (d1)[a]!) d1 i2 k = j2)) (fun vi _ => (intOf vi).toNat)
        case atStart => exact ⟨j, rfl, Nat.le_refl _, Lib.hid ⟨HS2.out, H_j2.out⟩⟩
        case round =>
          obtain ⟨k, rfl, hk2, HK⟩ := hrel
          by_cases hkj : i2 ≤ k
          · obtain ⟨m, rfl⟩ : ∃ m, k = m + 1 := ⟨k - 1, by omega⟩
            have r1 := HK.out.1.row.cell (m + 1) (by rw [HK.out.1.sz]; omega)
            have r2 := HK.out.1.row.cell a (by rw [HK.out.1.sz]; omega)
            have t1 : decide ((i2 : Int) ≤ ((m : Int) + 1)) = true := by simp; omega
            have t2 : decide (i2 ≤ m + 1) = true := by simp; omega
            have t3 : (0 : Int) ≤ ((m : Int) + 1) := by omega
            have t4 : ((m : Int) + 1) < (n : Int) := by omega
            have t5 : (0 : Int) ≤ (a : Int) := by omega
            have t6 : (a : Int) < (n : Int) := by omega
            obtain ⟨x, hx⟩ : ∃ x, (d1)[(m + 1)]! = x := ⟨_, rfl⟩
            obtain ⟨y, hy⟩ : ∃ y, (d1)[a]! = y := ⟨_, rfl⟩
            rw [hx] at r1
            rw [hy] at r2
            have HX := Lib.hid hx
            have HY := Lib.hid hy
            clear hx hy
            cases hl : decide (x < y) with
            | false =>
              have hl2 : decide ((x : Int) < (y : Int)) = false := by simpa using hl
              have HN : Hid (scanDown (fun x => !ltN x (d1)[a]!) d1 i2 m = j2) := Lib.hid (by rw [← HK.out.2]; exact (scan_down_go (fun x => !ltN x (d1)[a]!) d1 i2 m hkj (by rw [HX.out, HY.out]; simp only [ltN]; rw [hl]; rfl)).symm)
              go_wp2
              go_quiet (first | (go_at_call 58; exact Calls.quiet_of_same (less_same _ _ _)))
              go_wp2
              exact ⟨⟨m, rfl, by omega, Lib.hid ⟨HK.out.1.drewN _, HN.out⟩⟩, by simp [intOf] <;> omega⟩
            | true =>
              have hl2 : decide ((x : Int) < (y : Int)) = true := by simpa using hl
              have HN : Hid ((m + 1) = j2) := Lib.hid (by rw [← HK.out.2]; exact (scan_down_stop (fun x => !ltN x (d1)[a]!) d1 i2 (m + 1) (Or.inr (by rw [HX.out, HY.out]; simp only [ltN]; rw [hl]; rfl))).symm)
              go_wp2
              go_quiet (first | (go_at_call 58; exact Calls.quiet_of_same (less_same _ _ _)))
              go_wp2
              go_meet
              case rel => (have := HN.out; subst this; exact ⟨rfl, by omega, Lib.hid (HK.out.1.drewN _)⟩)
          · have t1 : decide ((i2 : Int) ≤ (k : Int)) = false := by simp; omega
            have t2 : decide (i2 ≤ k) = false := by simp; omega
            have HN : Hid (k = j2) := Lib.hid (by rw [← HK.out.2]; exact (scan_down_stop (fun x => !ltN x (d1)[a]!) d1 i2 k (Or.inl hkj)).symm)
            go_wp2
            go_quiet (fail)
            go_wp2
            go_meet
            case rel => (have := HN.out; subst this; exact ⟨rfl, by omega, Lib.hid (HK.out.1.drewN _)⟩)
      case rest =>
        obtain ⟨rfl, h_j21, HS3⟩ := hcut
        rw [H_j2.out] at HPT
        clear HS2
        by_cases hgt : j2 < i2
        · have hgI : (j2 : Int) < (i2 : Int) := by omega
          rw [if_pos hgt] at HPT
          go_upto_region 8 with (fail)
          go_cut [] (fun wx => Hid (SU g off S n w (swp (d1) j2 a) wx))
          case first =>
            have r1 := HS3.out.row.cell j2 (by rw [HS3.out.sz]; omega)
            have r2 := HS3.out.row.cell a (by rw [HS3.out.sz]; omega)
            have f1 := HS3.out.row.free (off + j2)
            have f2 := HS3.out.row.free (off + a)
            have t3 : (0 : Int) ≤ (j2 : Int) := by omega
            have t4 : (j2 : Int) < (n : Int) := by omega
            have t5 : (0 : Int) ≤ (a : Int) := by omega
            have t6 : (a : Int) < (n : Int) := by omega
            obtain ⟨x, hx⟩ : ∃ x, (d1)[j2]! = x := ⟨_, rfl⟩
            obtain ⟨y, hy⟩ : ∃ y, (d1)[a]! = y := ⟨_, rfl⟩
            rw [hx] at r1
            rw [hy] at r2
            obtain ⟨v3, hv3⟩ : ∃ v3, (wc.setCell ⟨g, off + j2, none⟩ (.int .u64 (y : Nat))).cell? ⟨g, off + a, none⟩ = some v3 := ⟨_, (HS3.out.row.set j2 y (by rw [HS3.out.sz]; omega)).cell a (by rw [Array.size_setIfInBounds, HS3.out.sz]; omega)⟩
            have HX := Lib.hid hx
            have HY := Lib.hid hy
            clear hx hy
            go_region
            all_goals
              go_wp2
              go_meet
              case rel => exact Lib.hid (HS3.out.swap j2 a (by omega) (by omega) HY.out.symm HX.out.symm)
          case rest =>
            have HS4 := hcut
            go_wp2
            go_ret2
            exact ⟨ret_pair (by rw [HPT.out]) (by rw [HPT.out]), by rw [HPT.out]; exact HS4.out.row, HS4.out.but⟩
        · have hgI : ¬ (j2 : Int) < (i2 : Int) := by omega
          rw [if_neg hgt] at HPT
          go_upto_region 10 with (fail)
          go_cut [] (fun wx => Hid (SU g off S n w (swp (d1) i2 j2) wx))
          case first =>
            have r1 := HS3.out.row.cell i2 (by rw [HS3.out.sz]; omega)
            have r2 := HS3.out.row.cell j2 (by rw [HS3.out.sz]; omega)
            have f1 := HS3.out.row.free (off + i2)
            have f2 := HS3.out.row.free (off + j2)
            have t3 : (0 : Int) ≤ (i2 : Int) := by omega
            have t4 : (i2 : Int) < (n : Int) := by omega
            have t5 : (0 : Int) ≤ (j2 : Int) := by omega
            have t6 : (j2 : Int) < (n : Int) := by omega
            obtain ⟨x, hx⟩ : ∃ x, (d1)[i2]! = x := ⟨_, rfl⟩
            obtain ⟨y, hy⟩ : ∃ y, (d1)[j2]! = y := ⟨_, rfl⟩
            rw [hx] at r1
            rw [hy] at r2
            obtain ⟨v3, hv3⟩ : ∃ v3, (wc.setCell ⟨g, off + i2, none⟩ (.int .u64 (y : Nat))).cell? ⟨g, off + j2, none⟩ = some v3 := ⟨_, (HS3.out.row.set i2 y (by rw [HS3.out.sz]; omega)).cell j2 (by rw [Array.size_setIfInBounds, HS3.out.sz]; omega)⟩
            have HX := Lib.hid hx
            have HY := Lib.hid hy
            clear hx hy
            go_region
            all_goals
              go_wp2
              go_meet
              case rel => exact Lib.hid (HS3.out.swap i2 j2 (by omega) (by omega) HY.out.symm HX.out.symm)
          case rest =>
            have HS4 := hcut
            obtain ⟨q2, rfl⟩ : ∃ q2, j2 = q2 + 1 := ⟨j2 - 1, by omega⟩
            obtain ⟨d2, HD2⟩ : ∃ d2, Hid (swp d1 i2 (q2 + 1) = d2) := ⟨_, Lib.hid rfl⟩
            rw [HD2.out] at HS4
            rw [HD2.out, Nat.add_sub_cancel] at HPT
            obtain ⟨pl, HPL⟩ : ∃ pl, Hid (partLoop ltN a (i2 + 1) q2 d2 = pl) := ⟨_, Lib.hid rfl⟩
            rw [HPL.out] at HPT
            clear HS3
            go_wp2
            go_loopw [10, 11] (fun vi vj wr => ∃ (i' j' : Nat) (dk : Array Nat), vi = .int .i64 i' ∧ vj = .int .i64 j' ∧ a < i' ∧ i' ≤ n ∧ j' < n ∧ Hid (SU g off S n w dk wr ∧ partLoop ltN a i' j' dk = pl)) (fun vi vj _ => (intOf vj).toNat + 1 - (intOf vi).toNat)
            case atStart => exact ⟨i2 + 1, q2, d2, by go_num, by go_num, by omega, by omega, by omega, Lib.hid ⟨HS4.out, HPL.out⟩⟩
            case round =>
              obtain ⟨i', j', dk, rfl, rfl, hai, hin, hjn, HL⟩ := hrel
              have HL1 : Hid (SU g off S n w dk wr) := Lib.hid HL.out.1
              have HPE := Lib.hid (HL.out.2.symm.trans (partLoop_eq ltN a i' j' dk))
              obtain ⟨i3, H_i3⟩ : ∃ i3, Hid (scanUp (fun x => ltN x (dk)[a]!) dk j' i' = i3) := ⟨_, Lib.hid rfl⟩
              go_upto_block 6 with (fail)
              go_cut [10] (fun s wx => s = .int .i64 (i3 : Nat) ∧ i' ≤ i3 ∧ i3 ≤ n ∧ Hid (SU g off S n w dk wx))
              case first =>
                go_wp2
                go_loopw [10] (fun vi wz => ∃ k : Nat, vi = .int .i64 k ∧ i' ≤ k ∧ k ≤ n ∧ Hid (SU g off S n w dk wz ∧ scanUp (fun x => ltN x (dk)[a]!) dk j' k = i3)) (fun vi _ => j' + 1 - (intOf vi).toNat)
                case atStart => exact ⟨i', rfl, Nat.le_refl _, by omega, Lib.hid ⟨HL1.out, H_i3.out⟩⟩
                case round =>
                  obtain ⟨k, rfl, hk1, hk2, HK⟩ := hrel
                  by_cases hkj : k ≤ j'
                  · skip
                    have r1 := HK.out.1.row.cell k (by rw [HK.out.1.sz]; omega)
                    have r2 := HK.out.1.row.cell a (by rw [HK.out.1.sz]; omega)
                    have t1 : decide ((k : Int) ≤ (j' : Int)) = true := by simp; omega
                    have t2 : decide (k ≤ j') = true := by simp; omega
                    have t3 : (0 : Int) ≤ (k : Int) := by omega
                    have t4 : (k : Int) < (n : Int) := by omega
                    have t5 : (0 : Int) ≤ (a : Int) := by omega
                    have t6 : (a : Int) < (n : Int) := by omega
                    obtain ⟨x, hx⟩ : ∃ x, (dk)[k]! = x := ⟨_, rfl⟩
                    obtain ⟨y, hy⟩ : ∃ y, (dk)[a]! = y := ⟨_, rfl⟩
                    rw [hx] at r1
                    rw [hy] at r2
                    have HX := Lib.hid hx
                    have HY := Lib.hid hy
                    clear hx hy
                    cases hl : decide (x < y) with
                    | true =>
                      have hl2 : decide ((x : Int) < (y : Int)) = true := by simpa using hl
                      have HN : Hid (scanUp (fun x => ltN x (dk)[a]!) dk j' (k + 1) = i3) := Lib.hid (by rw [← HK.out.2]; exact (scan_up_go (fun x => ltN x (dk)[a]!) dk j' k hkj (by rw [HX.out, HY.out]; simp only [ltN]; rw [hl])).symm)
                      go_wp2
                      go_quiet (first | (go_at_call 58; exact Calls.quiet_of_same (less_same _ _ _)))
                      go_wp2
                      exact ⟨⟨k + 1, by go_num, by omega, by omega, Lib.hid ⟨HK.out.1.drewN _, HN.out⟩⟩, by simp [intOf] <;> omega⟩
                    | false =>
                      have hl2 : decide ((x : Int) < (y : Int)) = false := by simpa using hl
                      have HN : Hid (k = i3) := Lib.hid (by rw [← HK.out.2]; exact (scan_up_stop (fun x => ltN x (dk)[a]!) dk j' k (Or.inr (by rw [HX.out, HY.out]; simp only [ltN]; rw [hl]))).symm)
                      go_wp2
                      go_quiet (first | (go_at_call 58; exact Calls.quiet_of_same (less_same _ _ _)))
                      go_wp2
                      go_meet
                      case rel => (have := HN.out; subst this; exact ⟨rfl, by omega, by omega, Lib.hid (HK.out.1.drewN _)⟩)
                  · have t1 : decide ((k : Int) ≤ (j' : Int)) = false := by simp; omega
                    have t2 : decide (k ≤ j') = false := by simp; omega
                    have HN : Hid (k = i3) := Lib.hid (by rw [← HK.out.2]; exact (scan_up_stop (fun x => ltN x (dk)[a]!) dk j' k (Or.inl hkj)).symm)
                    go_wp2
                    go_quiet (fail)
                    go_wp2
                    go_meet
                    case rel => (have := HN.out; subst this; exact ⟨rfl, by omega, by omega, Lib.hid (HK.out.1.drewN _)⟩)
              case rest =>
                obtain ⟨rfl, h_i31, h_i32, HS5⟩ := hcut
                rw [H_i3.out] at HPE
                clear HL1 HL
                obtain ⟨j3, H_j3⟩ : ∃ j3, Hid (scanDown (fun x => !ltN x (dk)[a]!) dk i3 j' = j3) := ⟨_, Lib.hid rfl⟩
                go_upto_block 8 with (fail)
                go_cut [11] (fun s wx => s = .int .i64 (j3 : Nat) ∧ j3 ≤ j' ∧ Hid (SU g off S n w dk wx))
                case first =>
                  go_wp2
                  go_loopw [11] (fun vi wz => ∃ k : Nat, vi = .int .i64 k ∧ k ≤ j' ∧ Hid (SU g off S n w dk wz ∧ scanDown (fun x => !ltN x (dk)[a]!) dk i3 k = j3)) (fun vi _ => (intOf vi).toNat)
                  case atStart => exact ⟨j', rfl, Nat.le_refl _, Lib.hid ⟨HS5.out, H_j3.out⟩⟩
                  case round =>
                    obtain ⟨k, rfl, hk2, HK⟩ := hrel
                    by_cases hkj : i3 ≤ k
                    · obtain ⟨m, rfl⟩ : ∃ m, k = m + 1 := ⟨k - 1, by omega⟩
                      have r1 := HK.out.1.row.cell (m + 1) (by rw [HK.out.1.sz]; omega)
                      have r2 := HK.out.1.row.cell a (by rw [HK.out.1.sz]; omega)
                      have t1 : decide ((i3 : Int) ≤ ((m : Int) + 1)) = true := by simp; omega
                      have t2 : decide (i3 ≤ m + 1) = true := by simp; omega
                      have t3 : (0 : Int) ≤ ((m : Int) + 1) := by omega
                      have t4 : ((m : Int) + 1) < (n : Int) := by omega
                      have t5 : (0 : Int) ≤ (a : Int) := by omega
                      have t6 : (a : Int) < (n : Int) := by omega
                      obtain ⟨x, hx⟩ : ∃ x, (dk)[(m + 1)]! = x := ⟨_, rfl⟩
                      obtain ⟨y, hy⟩ : ∃ y, (dk)[a]! = y := ⟨_, rfl⟩
                      rw [hx] at r1
                      rw [hy] at r2
                      have HX := Lib.hid hx
                      have HY := Lib.hid hy
                      clear hx hy
                      cases hl : decide (x < y) with
                      | false =>
                        have hl2 : decide ((x : Int) < (y : Int)) = false := by simpa using hl
                        have HN : Hid (scanDown (fun x => !ltN x (dk)[a]!) dk i3 m = j3) := Lib.hid (by rw [← HK.out.2]; exact (scan_down_go (fun x => !ltN x (dk)[a]!) dk i3 m hkj (by rw [HX.out, HY.out]; simp only [ltN]; rw [hl]; rfl)).symm)
                        go_wp2
                        go_quiet (first | (go_at_call 58; exact Calls.quiet_of_same (less_same _ _ _)))
                        go_wp2
                        exact ⟨⟨m, rfl, by omega, Lib.hid ⟨HK.out.1.drewN _, HN.out⟩⟩, by simp [intOf] <;> omega⟩
                      | true =>
                        have hl2 : decide ((x : Int) < (y : Int)) = true := by simpa using hl
                        have HN : Hid ((m + 1) = j3) := Lib.hid (by rw [← HK.out.2]; exact (scan_down_stop (fun x => !ltN x (dk)[a]!) dk i3 (m + 1) (Or.inr (by rw [HX.out, HY.out]; simp only [ltN]; rw [hl]; rfl))).symm)
                        go_wp2
                        go_quiet (first | (go_at_call 58; exact Calls.quiet_of_same (less_same _ _ _)))
                        go_wp2
                        go_meet
                        case rel => (have := HN.out; subst this; exact ⟨rfl, by omega, Lib.hid (HK.out.1.drewN _)⟩)
                    · have t1 : decide ((i3 : Int) ≤ (k : Int)) = false := by simp; omega
                      have t2 : decide (i3 ≤ k) = false := by simp; omega
                      have HN : Hid (k = j3) := Lib.hid (by rw [← HK.out.2]; exact (scan_down_stop (fun x => !ltN x (dk)[a]!) dk i3 k (Or.inl hkj)).symm)
                      go_wp2
                      go_quiet (fail)
                      go_wp2
                      go_meet
                      case rel => (have := HN.out; subst this; exact ⟨rfl, by omega, Lib.hid (HK.out.1.drewN _)⟩)
                case rest =>
                  obtain ⟨rfl, h_j31, HS6⟩ := hcut
                  rw [H_j3.out] at HPE
                  clear HS5
                  by_cases hgt3 : j3 < i3
                  · have hgI3 : (j3 : Int) < (i3 : Int) := by omega
                    rw [if_pos hgt3] at HPE
                    go_upto_region 21 with (fail)
                    go_cut [] (fun wx => Hid (SU g off S n w (swp (dk) j3 a) wx))
                    case first =>
                      have r1 := HS6.out.row.cell j3 (by rw [HS6.out.sz]; omega)
                      have r2 := HS6.out.row.cell a (by rw [HS6.out.sz]; omega)
                      have f1 := HS6.out.row.free (off + j3)
                      have f2 := HS6.out.row.free (off + a)
                      have t3 : (0 : Int) ≤ (j3 : Int) := by omega
                      have t4 : (j3 : Int) < (n : Int) := by omega
                      have t5 : (0 : Int) ≤ (a : Int) := by omega
                      have t6 : (a : Int) < (n : Int) := by omega
                      obtain ⟨x, hx⟩ : ∃ x, (dk)[j3]! = x := ⟨_, rfl⟩
                      obtain ⟨y, hy⟩ : ∃ y, (dk)[a]! = y := ⟨_, rfl⟩
                      rw [hx] at r1
                      rw [hy] at r2
                      obtain ⟨v3, hv3⟩ : ∃ v3, (wc.setCell ⟨g, off + j3, none⟩ (.int .u64 (y : Nat))).cell? ⟨g, off + a, none⟩ = some v3 := ⟨_, (HS6.out.row.set j3 y (by rw [HS6.out.sz]; omega)).cell a (by rw [Array.size_setIfInBounds, HS6.out.sz]; omega)⟩
                      have HX := Lib.hid hx
                      have HY := Lib.hid hy
                      clear hx hy
                      go_region
                      all_goals
                        go_wp2
                        go_meet
                        case rel => exact Lib.hid (HS6.out.swap j3 a (by omega) (by omega) HY.out.symm HX.out.symm)
                    case rest =>
                      have HS7 := hcut
                      go_wp2
                      go_ret2
                      exact ⟨ret_pair (by rw [HPT.out, HPE.out]) (by rw [HPT.out]), by rw [HPT.out, HPE.out]; exact HS7.out.row, HS7.out.but⟩
                  · have hgI3 : ¬ (j3 : Int) < (i3 : Int) := by omega
                    rw [if_neg hgt3] at HPE
                    go_upto_region 18 with (fail)
                    go_cut [] (fun wx => Hid (SU g off S n w (swp (dk) i3 j3) wx))
                    case first =>
                      have r1 := HS6.out.row.cell i3 (by rw [HS6.out.sz]; omega)
                      have r2 := HS6.out.row.cell j3 (by rw [HS6.out.sz]; omega)
                      have f1 := HS6.out.row.free (off + i3)
                      have f2 := HS6.out.row.free (off + j3)
                      have t3 : (0 : Int) ≤ (i3 : Int) := by omega
                      have t4 : (i3 : Int) < (n : Int) := by omega
                      have t5 : (0 : Int) ≤ (j3 : Int) := by omega
                      have t6 : (j3 : Int) < (n : Int) := by omega
                      obtain ⟨x, hx⟩ : ∃ x, (dk)[i3]! = x := ⟨_, rfl⟩
                      obtain ⟨y, hy⟩ : ∃ y, (dk)[j3]! = y := ⟨_, rfl⟩
                      rw [hx] at r1
                      rw [hy] at r2
                      obtain ⟨v3, hv3⟩ : ∃ v3, (wc.setCell ⟨g, off + i3, none⟩ (.int .u64 (y : Nat))).cell? ⟨g, off + j3, none⟩ = some v3 := ⟨_, (HS6.out.row.set i3 y (by rw [HS6.out.sz]; omega)).cell j3 (by rw [Array.size_setIfInBounds, HS6.out.sz]; omega)⟩
                      have HX := Lib.hid hx
                      have HY := Lib.hid hy
                      clear hx hy
                      go_region
                      all_goals
                        go_wp2
                        go_meet
                        case rel => exact Lib.hid (HS6.out.swap i3 j3 (by omega) (by omega) HY.out.symm HX.out.symm)
                    case rest =>
                      have HS7 := hcut
                      obtain ⟨q3, rfl⟩ : ∃ q3, j3 = q3 + 1 := ⟨j3 - 1, by omega⟩
                      rw [Nat.add_sub_cancel] at HPE
                      go_wp2
                      exact ⟨⟨i3 + 1, q3, _, by go_num, by go_num, by omega, by omega, by omega, Lib.hid ⟨HS7.out, HPE.out.symm⟩⟩, by simp [intOf] <;> omega⟩

set_option maxRecDepth 100000 in
set_option maxHeartbeats 6400000 in
theorem pareq_any (g off S cap n a b p : Nat) (d : Array Nat) (hn : d.size = n) (w : World) (hR : RowU w g off S d) (hap : a ≤ p) (hpb : p < b) (hb : b ≤ n) (hsz : n ≤ 17592186044400) :
    Calls Try.prog 71 #[.slice (some ⟨g, off, none⟩) n cap, .int .i64 a, .int .i64 b, .int .i64 p] w fun e w' => e = .returned (.int .i64 ((partitionEqual ltN d a b p).1 : Nat)) ∧ RowU w' g off S (partitionEqual ltN d a b p).2 ∧ But g w w' := by
  have HS0 : Hid (SU g off S n w d w) := Lib.hid ⟨hn, hR, But.refl _ _⟩
  obtain ⟨i, e_i, H_i⟩ : ∃ i : Nat, (a : Int) + 1 = (i : Int) ∧ Hid (a + 1 = i) := ⟨a + 1, by omega, Lib.hid rfl⟩
  obtain ⟨j, e_j, H_j⟩ : ∃ j : Nat, (b : Int) - 1 = (j : Int) ∧ Hid (b - 1 = j) := ⟨b - 1, by omega, Lib.hid rfl⟩
  have hi1 : a < i := by have := H_i.out; omega
  have hi2 : i ≤ n := by have := H_i.out; omega
  have hj2 : j < n := by have := H_j.out; omega
  obtain ⟨res, HRES⟩ : ∃ res, Hid (partitionEqual ltN d a b p = res) := ⟨_, Lib.hid rfl⟩
  have HPT : Hid (partEqLoop ltN a i j (swp d a p) = res) := Lib.hid (by rw [← HRES.out, ← H_i.out, ← H_j.out]; rfl)
  rw [HRES.out]
  clear hn hR
  go_enter Try.func71, Try.ntmps71
  go_upto_region 1 with (fail)
  go_cut [] (fun wx => Hid (SU g off S n w (swp (d) a p) wx))
  case first =>
    have r1 := HS0.out.row.cell a (by rw [HS0.out.sz]; omega)
    have r2 := HS0.out.row.cell p (by rw [HS0.out.sz]; omega)
    have f1 := HS0.out.row.free (off + a)
    have f2 := HS0.out.row.free (off + p)
    have t3 : (0 : Int) ≤ (a : Int) := by omega
    have t4 : (a : Int) < (n : Int) := by omega
    have t5 : (0 : Int) ≤ (p : Int) := by omega
    have t6 : (p : Int) < (n : Int) := by omega
    obtain ⟨x, hx⟩ : ∃ x, (d)[a]! = x := ⟨_, rfl⟩
    obtain ⟨y, hy⟩ : ∃ y, (d)[p]! = y := ⟨_, rfl⟩
    rw [hx] at r1
    rw [hy] at r2
    obtain ⟨v3, hv3⟩ : ∃ v3, (w.setCell ⟨g, off + a, none⟩ (.int .u64 (y : Nat))).cell? ⟨g, off + p, none⟩ = some v3 := ⟨_, (HS0.out.row.set a y (by rw [HS0.out.sz]; omega)).cell p (by rw [Array.size_setIfInBounds, HS0.out.sz]; omega)⟩
    have HX := Lib.hid hx
    have HY := Lib.hid hy
    clear hx hy
    go_region
    all_goals
      go_wp2
      go_meet
      case rel => exact Lib.hid (HS0.out.swap a p (by omega) (by omega) HY.out.symm HX.out.symm)
  case rest =>
    have HS1 := hcut
    obtain ⟨d1, HD1⟩ : ∃ d1, Hid (swp d a p = d1) := ⟨_, Lib.hid rfl⟩
    rw [HD1.out] at HS1 HPT
    clear HS0
    go_wp2
    go_loopw [9, 10] (fun vi vj wr => ∃ (i' j' : Nat) (dk : Array Nat), vi = .int .i64 i' ∧ vj = .int .i64 j' ∧ a < i' ∧ i' ≤ n ∧ j' < n ∧ Hid (SU g off S n w dk wr ∧ partEqLoop ltN a i' j' dk = res)) (fun vi vj _ => (intOf vj).toNat + 1 - (intOf vi).toNat)
    case atStart => exact ⟨i, j, d1, rfl, rfl, by omega, by omega, by omega, Lib.hid ⟨HS1.out, HPT.out⟩⟩
    case round =>
      obtain ⟨i', j', dk, rfl, rfl, hai, hin, hjn, HL⟩ := hrel
      have HL1 : Hid (SU g off S n w dk wr) := Lib.hid HL.out.1
      have HPE := Lib.hid (HL.out.2.symm.trans (partEqLoop_eq ltN a i' j' dk))
      obtain ⟨i3, H_i3⟩ : ∃ i3, Hid (scanUp (fun x => !ltN (dk)[a]! x) dk j' i' = i3) := ⟨_, Lib.hid rfl⟩
      go_upto_block 2 with (fail)
      go_cut [9] (fun s wx => s = .int .i64 (i3 : Nat) ∧ i' ≤ i3 ∧ i3 ≤ n ∧ Hid (SU g off S n w dk wx))
      case first =>
        go_wp2
        go_loopw [9] (fun vi wz => ∃ k : Nat, vi = .int .i64 k ∧ i' ≤ k ∧ k ≤ n ∧ Hid (SU g off S n w dk wz ∧ scanUp (fun x => !ltN (dk)[a]! x) dk j' k = i3)) (fun vi _ => j' + 1 - (intOf vi).toNat)
        case atStart => exact ⟨i', rfl, Nat.le_refl _, by omega, Lib.hid ⟨HL1.out, H_i3.out⟩⟩
        case round =>
          obtain ⟨k, rfl, hk1, hk2, HK⟩ := hrel
          by_cases hkj : k ≤ j'
          · skip
            have r1 := HK.out.1.row.cell k (by rw [HK.out.1.sz]; omega)
            have r2 := HK.out.1.row.cell a (by rw [HK.out.1.sz]; omega)
            have t1 : decide ((k : Int) ≤ (j' : Int)) = true := by simp; omega
            have t2 : decide (k ≤ j') = true := by simp; omega
            have t3 : (0 : Int) ≤ (k : Int) := by omega
            have t4 : (k : Int) < (n : Int) := by omega
            have t5 : (0 : Int) ≤ (a : Int) := by omega
            have t6 : (a : Int) < (n : Int) := by omega
            obtain ⟨x, hx⟩ : ∃ x, (dk)[k]! = x := ⟨_, rfl⟩
            obtain ⟨y, hy⟩ : ∃ y, (dk)[a]! = y := ⟨_, rfl⟩
            rw [hx] at r1
            rw [hy] at r2
            have HX := Lib.hid hx
            have HY := Lib.hid hy
            clear hx hy
            cases hl : decide (y < x) with
            | false =>
              have hl2 : decide ((y : Int) < (x : Int)) = false := by simpa using hl
              have HN : Hid (scanUp (fun x => !ltN (dk)[a]! x) dk j' (k + 1) = i3) := Lib.hid (by rw [← HK.out.2]; exact (scan_up_go (fun x => !ltN (dk)[a]! x) dk j' k hkj (by rw [HX.out, HY.out]; simp only [ltN]; rw [hl]; rfl)).symm)
              go_wp2
              go_quiet (first | (go_at_call 58; exact Calls.quiet_of_same (less_same _ _ _)))
              go_wp2
              exact ⟨⟨k + 1, by go_num, by omega, by omega, Lib.hid ⟨HK.out.1.drewN _, HN.out⟩⟩, by simp [intOf] <;> omega⟩
            | true =>
              have hl2 : decide ((y : Int) < (x : Int)) = true := by simpa using hl
              have HN : Hid (k = i3) := Lib.hid (by rw [← HK.out.2]; exact (scan_up_stop (fun x => !ltN (dk)[a]! x) dk j' k (Or.inr (by rw [HX.out, HY.out]; simp only [ltN]; rw [hl]; rfl))).symm)
              go_wp2
              go_quiet (first | (go_at_call 58; exact Calls.quiet_of_same (less_same _ _ _)))
              go_wp2
              go_meet
              case rel => (have := HN.out; subst this; exact ⟨rfl, by omega, by omega, Lib.hid (HK.out.1.drewN _)⟩)
          · have t1 : decide ((k : Int) ≤ (j' : Int)) = false := by simp; omega
            have t2 : decide (k ≤ j') = false := by simp; omega
            have HN : Hid (k = i3) := Lib.hid (by rw [← HK.out.2]; exact (scan_up_stop (fun x => !ltN (dk)[a]! x) dk j' k (Or.inl hkj)).symm)
            go_wp2
            go_quiet (fail)
            go_wp2
            go_meet
            case rel => (have := HN.out; subst this; exact ⟨rfl, by omega, by omega, Lib.hid (HK.out.1.drewN _)⟩)
      case rest =>
        obtain ⟨rfl, h_i31, h_i32, HS5⟩ := hcut
        rw [H_i3.out] at HPE
        clear HL1 HL
        obtain ⟨j3, H_j3⟩ : ∃ j3, Hid (scanDown (fun x => ltN (dk)[a]! x) dk i3 j' = j3) := ⟨_, Lib.hid rfl⟩
        go_upto_block 4 with (fail)
        go_cut [10] (fun s wx => s = .int .i64 (j3 : Nat) ∧ j3 ≤ j' ∧ Hid (SU g off S n w dk wx))
        case first =>
          go_wp2
          go_loopw [10] (fun vi wz => ∃ k : Nat, vi = .int .i64 k ∧ k ≤ j' ∧ Hid (SU g off S n w dk wz ∧ scanDown (fun x => ltN (dk)[a]! x) dk i3 k = j3)) (fun vi _ => (intOf vi).toNat)
          case atStart => exact ⟨j', rfl, Nat.le_refl _, Lib.hid ⟨HS5.out, H_j3.out⟩⟩
          case round =>
            obtain ⟨k, rfl, hk2, HK⟩ := hrel
            by_cases hkj : i3 ≤ k
            · obtain ⟨m, rfl⟩ : ∃ m, k = m + 1 := ⟨k - 1, by omega⟩
              have r1 := HK.out.1.row.cell (m + 1) (by rw [HK.out.1.sz]; omega)
              have r2 := HK.out.1.row.cell a (by rw [HK.out.1.sz]; omega)
              have t1 : decide ((i3 : Int) ≤ ((m : Int) + 1)) = true := by simp; omega
              have t2 : decide (i3 ≤ m + 1) = true := by simp; omega
              have t3 : (0 : Int) ≤ ((m : Int) + 1) := by omega
              have t4 : ((m : Int) + 1) < (n : Int) := by omega
              have t5 : (0 : Int) ≤ (a : Int) := by omega
              have t6 : (a : Int) < (n : Int) := by omega
              obtain ⟨x, hx⟩ : ∃ x, (dk)[(m + 1)]! = x := ⟨_, rfl⟩
              obtain ⟨y, hy⟩ : ∃ y, (dk)[a]! = y := ⟨_, rfl⟩
              rw [hx] at r1
              rw [hy] at r2
              have HX := Lib.hid hx
              have HY := Lib.hid hy
              clear hx hy
              cases hl : decide (y < x) with
              | true =>
                have hl2 : decide ((y : Int) < (x : Int)) = true := by simpa using hl
                have HN : Hid (scanDown (fun x => ltN (dk)[a]! x) dk i3 m = j3) := Lib.hid (by rw [← HK.out.2]; exact (scan_down_go (fun x => ltN (dk)[a]! x) dk i3 m hkj (by rw [HX.out, HY.out]; simp only [ltN]; rw [hl])).symm)
                go_wp2
                go_quiet (first | (go_at_call 58; exact Calls.quiet_of_same (less_same _ _ _)))
                go_wp2
                exact ⟨⟨m, rfl, by omega, Lib.hid ⟨HK.out.1.drewN _, HN.out⟩⟩, by simp [intOf] <;> omega⟩
              | false =>
                have hl2 : decide ((y : Int) < (x : Int)) = false := by simpa using hl
                have HN : Hid ((m + 1) = j3) := Lib.hid (by rw [← HK.out.2]; exact (scan_down_stop (fun x => ltN (dk)[a]! x) dk i3 (m + 1) (Or.inr (by rw [HX.out, HY.out]; simp only [ltN]; rw [hl]))).symm)
                go_wp2
                go_quiet (first | (go_at_call 58; exact Calls.quiet_of_same (less_same _ _ _)))
                go_wp2
                go_meet
                case rel => (have := HN.out; subst this; exact ⟨rfl, by omega, Lib.hid (HK.out.1.drewN _)⟩)
            · have t1 : decide ((i3 : Int) ≤ (k : Int)) = false := by simp; omega
              have t2 : decide (i3 ≤ k) = false := by simp; omega
              have HN : Hid (k = j3) := Lib.hid (by rw [← HK.out.2]; exact (scan_down_stop (fun x => ltN (dk)[a]! x) dk i3 k (Or.inl hkj)).symm)
              go_wp2
              go_quiet (fail)
              go_wp2
              go_meet
              case rel => (have := HN.out; subst this; exact ⟨rfl, by omega, Lib.hid (HK.out.1.drewN _)⟩)
        case rest =>
          obtain ⟨rfl, h_j31, HS6⟩ := hcut
          rw [H_j3.out] at HPE
          clear HS5
          by_cases hgt3 : j3 < i3
          · have hgI3 : (j3 : Int) < (i3 : Int) := by omega
            rw [if_pos hgt3] at HPE
            go_wp2
            go_ret
            exact ⟨ret_i (by rw [HPE.out]), by rw [HPE.out]; exact HS6.out.row, HS6.out.but⟩
          · have hgI3 : ¬ (j3 : Int) < (i3 : Int) := by omega
            rw [if_neg hgt3] at HPE
            go_upto_region 8 with (fail)
            go_cut [] (fun wx => Hid (SU g off S n w (swp (dk) i3 j3) wx))
            case first =>
              have r1 := HS6.out.row.cell i3 (by rw [HS6.out.sz]; omega)
              have r2 := HS6.out.row.cell j3 (by rw [HS6.out.sz]; omega)
              have f1 := HS6.out.row.free (off + i3)
              have f2 := HS6.out.row.free (off + j3)
              have t3 : (0 : Int) ≤ (i3 : Int) := by omega
              have t4 : (i3 : Int) < (n : Int) := by omega
              have t5 : (0 : Int) ≤ (j3 : Int) := by omega
              have t6 : (j3 : Int) < (n : Int) := by omega
              obtain ⟨x, hx⟩ : ∃ x, (dk)[i3]! = x := ⟨_, rfl⟩
              obtain ⟨y, hy⟩ : ∃ y, (dk)[j3]! = y := ⟨_, rfl⟩
              rw [hx] at r1
              rw [hy] at r2
              obtain ⟨v3, hv3⟩ : ∃ v3, (wc.setCell ⟨g, off + i3, none⟩ (.int .u64 (y : Nat))).cell? ⟨g, off + j3, none⟩ = some v3 := ⟨_, (HS6.out.row.set i3 y (by rw [HS6.out.sz]; omega)).cell j3 (by rw [Array.size_setIfInBounds, HS6.out.sz]; omega)⟩
              have HX := Lib.hid hx
              have HY := Lib.hid hy
              clear hx hy
              go_region
              all_goals
                go_wp2
                go_meet
                case rel => exact Lib.hid (HS6.out.swap i3 j3 (by omega) (by omega) HY.out.symm HX.out.symm)
            case rest =>
              have HS7 := hcut
              obtain ⟨q3, rfl⟩ : ∃ q3, j3 = q3 + 1 := ⟨j3 - 1, by omega⟩
              rw [Nat.add_sub_cancel] at HPE
              go_wp2
              exact ⟨⟨i3 + 1, q3, _, by go_num, by go_num, by omega, by omega, by omega, Lib.hid ⟨HS7.out, HPE.out.symm⟩⟩, by simp [intOf] <;> omega⟩
end Go.Proofs.Ythgbmijgoaihcaa

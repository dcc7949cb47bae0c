/-
  The disk's read, put, copy, new.
-/
import Derived.Test.YtjojomjnbiakoaaDk7
namespace Go.Proofs.Ytjojomjnbiakoaa
open Go.RowKit Go.Maps
set_option linter.unusedVariables false

theorem own_down {w : World} {base base' e size : Nat} {v : Value} {n : Nat} {xs : List Value} (h : w.ownsRow base e size v n xs) (hb : base' ≤ base) : w.ownsRow base' e size v n xs := by
  obtain ⟨h1, h2⟩ := h
  refine ⟨h1, ?_⟩
  rcases h2 with h2 | ⟨g, cap, cur, hv, hg, r⟩
  · exact Or.inl h2
  · exact Or.inr ⟨g, cap, cur, hv, by omega, r⟩
set_option maxRecDepth 100000 in
set_option maxHeartbeats 1600000 in
theorem read_any (bd bm : Nat) (A : DM) (s : ByteArray) (w : World) (hs : s.size ≤ maxLen) (hT : tot A.fs ≤ 1099511627776) (h : DiskSt w bd bm A) :
    Calls Try.prog 11 #[.pointer (some ⟨bd, 0, none⟩), .string s] w fun e w' => ∃ v, e = .returned (.tuple #[v, .int .i64 (A.read (keyB s)).2]) ∧ w'.ownsRow w.heap.size 5 1 v (A.read (keyB s)).1.length (cells8 (A.read (keyB s)).1) ∧ Below w.heap.size w w' := by
  have HG := Lib.hid (good_any (some ⟨w.heap.size, 0, none⟩) 1 [s] (w.alloc (.cells #[.string s] 9)) (by unfold maxLen; simp) (strs_one (heap_at' rfl) hs))
  have hgg : [s].all goodB = good (keyB s) := by simp [goodB]
  rw [hgg] at HG
  have HH := Lib.hid h
  have hrd : A.read (keyB s) = if good (keyB s) = true then if A.dead = true then (([], 140) : List UInt8 × Int) else match lkup A.fs (keyB s) with | none => ([], 2) | some f => (f.b, 0) else ([], 1) := rfl
  have HRD := Lib.hid hrd
  have HOLD : Hid (∀ f, lkup A.fs (keyB s) = some f → f.b.length ≤ 1099511627776) := Lib.hid (fun f hf => Nat.le_trans (old_le hf) hT)
  clear h hgg hrd
  generalize A.read (keyB s) = R at *
  obtain ⟨g, hg⟩ : ∃ g, good (keyB s) = g := ⟨_, rfl⟩
  rw [hg] at HG HRD
  clear hg
  go_enter Try.func11, Try.ntmps11
  go_wp2_with fail
  refine HG.out.mono ?_
  rintro _ w1 ⟨rfl, hb1⟩
  have HB1 : Hid (Below w.heap.size w w1) := Lib.hid (((Below.refl w.heap.size w).alloc (Nat.le_refl _) (.cells #[.string s] 9)).trans (hb1.mono (by simp)))
  clear hb1
  cases g with
  | false =>
    have HE : Hid (R = ([], 1)) := Lib.hid HRD.out
    go_wp2
    go_ret2
    exact ⟨_, by rw [HE.out]; rfl, by rw [HE.out]; exact World.ownsRow_nil _ _ _ _, HB1.out⟩
  | true =>
    have HD1 := Lib.hid (HH.out.later HB1.out)
    obtain ⟨⟨c0, c1, c2, c3, c4⟩, _⟩ := HD1.out.cells
    cases hd : A.dead with
    | true =>
      have HE : Hid (R = ([], 140)) := Lib.hid (by rw [HRD.out, hd]; rfl)
      rw [hd] at c2
      clear hd
      go_wp2
      go_ret2
      exact ⟨_, by rw [HE.out]; rfl, by rw [HE.out]; exact World.ownsRow_nil _ _ _ _, HB1.out⟩
    | false =>
      rw [hd] at c2 HRD
      clear hd
      cases hl : lkup A.fs (keyB s) with
      | none =>
        have HE : Hid (R = ([], 2)) := Lib.hid (by rw [HRD.out, hl]; rfl)
        have HL := Lib.hid hl
        clear hl
        go_wp2_with (at_lookup; refine look_disk_ok _ rfl _ _ rfl rfl HD1.out.map s rfl hs ?_; intro f hf; rw [HL.out]; clear hf)
        go_ret2
        exact ⟨_, by rw [HE.out]; rfl, by rw [HE.out]; exact World.ownsRow_nil _ _ _ _, HB1.out.trans (((Below.refl _ _).alloc (Nat.le_refl _) _).mono HB1.out.size)⟩
      | some m =>
        have HE : Hid (R = (m.b, 0)) := Lib.hid (by rw [HRD.out, hl]; rfl)
        have HML := Lib.hid (HOLD.out m hl)
        have HL := Lib.hid hl
        clear hl
        go_wp2_with (at_lookup; refine look_disk_ok _ rfl _ _ rfl rfl HD1.out.map s rfl hs ?_; intro f hf; rw [HL.out] at hf ⊢; have HF := Lib.hid hf; clear hf)
        have hn := HF.out.n
        simp only [Option.getD_some] at hn
        have hby := HF.out.by'
        simp only [Option.getD_some] at hby
        rw [hn]
        have HC := Lib.hid (clone8_any f.x f.c m.b (w1.alloc (.cells #[.slice f.x f.n f.c, .int .i64 (f.s : Nat)] 63)) (by have := HML.out; omega) (hby.below ((Below.refl _ _).alloc (Nat.le_refl _) _)) HF.out.nil)
        rw [hn] at HC
        clear hn hby
        refine HC.out.mono ?_
        rintro _ w2 ⟨v, rfl, how, hb2⟩
        have HB2 : Hid (Below w.heap.size w w2) := Lib.hid (HB1.out.trans ((((Below.refl w1.heap.size w1).alloc (Nat.le_refl _) _).trans (hb2.mono (by simp))).mono HB1.out.size))
        have HOW : Hid (w2.ownsRow w.heap.size 5 1 v m.b.length (cells8 m.b)) := Lib.hid (own_down how (Nat.le_trans HB1.out.size (by simp)))
        clear how hb2
        go_wp2
        go_ret2
        exact ⟨v, by rw [HE.out]; rfl, by rw [HE.out]; exact HOW.out, HB2.out⟩

set_option maxRecDepth 100000 in
set_option maxHeartbeats 1600000 in
theorem put_any (bd bm : Nat) (A : DM) (s : ByteArray) (y : Option Addr) (c : Nat) (b : List UInt8) (w : World) (hs : s.size ≤ maxLen) (hn : A.fs.length ≤ 1000000) (hbl : b.length ≤ 1099511627776) (hb : Bytes w y b) (hy : y = none → c = 0) (h : DiskSt w bd bm A) :
    Calls Try.prog 23 #[.pointer (some ⟨bd, 0, none⟩), .string s, .slice y b.length c] w fun e w' => e = .returned (.tuple #[]) ∧ DiskSt w' bd bm (A.put (keyB s) b) ∧ Upd (DS bd bm) w w' := by
  have HG := Lib.hid (good_any (some ⟨w.heap.size, 0, none⟩) 1 [s] (w.alloc (.cells #[.string s] 9)) (by unfold maxLen; simp) (strs_one (heap_at' rfl) hs))
  have hgg : [s].all goodB = good (keyB s) := by simp [goodB]
  rw [hgg] at HG
  have HH := Lib.hid h
  have HBY := Lib.hid hb
  have HNE := Lib.hid h.ne
  clear h hb hgg
  obtain ⟨g, hg⟩ : ∃ g, good (keyB s) = g := ⟨_, rfl⟩
  have HP1 : Hid (g = true → A.put (keyB s) b = { A with fs := putF A.fs (keyB s) ⟨b, b.length⟩ }) := Lib.hid (fun e => by unfold DM.put; rw [if_pos (hg.trans e)])
  have HP0 : Hid (g = false → A.put (keyB s) b = A) := Lib.hid (fun e => by unfold DM.put; rw [if_neg (by rw [hg, e]; simp)])
  have HOK := Lib.hid (HH.out.ok.put (keyB s) b)
  rw [hg] at HG
  clear hg
  go_enter Try.func23, Try.ntmps23
  go_wp2_with fail
  refine HG.out.mono ?_
  rintro _ w1 ⟨rfl, hb1⟩
  have HB1 : Hid (Below w.heap.size w w1) := Lib.hid (((Below.refl w.heap.size w).alloc (Nat.le_refl _) (.cells #[.string s] 9)).trans (hb1.mono (by simp)))
  clear hb1
  have HD1 := Lib.hid (HH.out.later HB1.out)
  cases g with
  | false =>
    have HE := Lib.hid (HP0.out rfl)
    go_wp2
    go_end0
    exact ⟨rfl, by rw [HE.out]; exact HD1.out, Upd.of_below HB1.out⟩
  | true =>
    have HE := Lib.hid (HP1.out rfl)
    have HCL := Lib.hid (clone8_any y c b w1.drew (by omega) ((HBY.out.below HB1.out).below (Below.refl _ _).drew) hy)
    obtain ⟨⟨c0, c1, c2, c3, c4⟩, _⟩ := HD1.out.cells
    have HSO := Lib.hid HD1.out.ok.sorted
    go_wp2
    refine wp_region_held_drew (S := (fun w' => w'.cell? ⟨bd, 0, none⟩ = some (.map (some bm)) ∧ Upd (DS bd bm) w1 w')) (by kernel_rfl) ?_ (fun hS0 => ?_)
    · exact ⟨c0, Upd.drew _⟩
    refine wpAnyH_take (i := 0) (oi := { dst := some 13, op := Op.move (Operand.tmp 0), type := 24, pos := "disk.go:196", after := #[], guard := none }) (v := ?_) rfl (by kernel_rfl) (by kernel_rfl) (by kernel_rfl) (fun _ _ _ h => h) (Or.inl ⟨by rfl, ?hy1⟩) (by assumption) ?_
    case hy1 => (intro w hSw; (try dsimp only at hSw); go_simp; try with_reducible rfl)
    (try simp only [Act.put, List.setIfInBounds_toArray, List.set_cons_zero, List.set_cons_succ])
    refine wpAnyH_take (i := 1) (oi := { dst := some 14, op := Op.nilCheck (Operand.tmp 13), type := 0, pos := "disk.go:196", after := #[{ on := 0, ground := Ground.data }], guard := none }) (v := ?_) rfl (by kernel_rfl) (by kernel_rfl) (by kernel_rfl) (fun _ _ _ h => h) (Or.inl ⟨by rfl, ?hy2⟩) (by assumption) ?_
    case hy2 => (intro w hSw; (try dsimp only at hSw); go_simp; try with_reducible rfl)
    (try simp only [Act.put, List.setIfInBounds_toArray, List.set_cons_zero, List.set_cons_succ])
    refine wpAnyH_take (i := 2) (oi := { dst := some 15, op := Op.fieldAddr 60 (Operand.tmp 14) 0, type := 0, pos := "disk.go:196", after := #[{ on := 1, ground := Ground.data }], guard := none }) (v := ?_) rfl (by kernel_rfl) (by kernel_rfl) (by kernel_rfl) (fun _ _ _ h => h) (Or.inl ⟨by rfl, ?hy3⟩) (by assumption) ?_
    case hy3 => (intro w hSw; (try dsimp only at hSw); go_simp; try with_reducible rfl)
    (try simp only [Act.put, List.setIfInBounds_toArray, List.set_cons_zero, List.set_cons_succ])
    refine wpAnyH_take (i := 3) (oi := { dst := some 16, op := Op.load 58 (Operand.tmp 15), type := 58, pos := "disk.go:196", after := #[{ on := 2, ground := Ground.data }], guard := none }) (v := ?_) rfl (by kernel_rfl) (by kernel_rfl) (by kernel_rfl) (fun _ _ _ h => h) (Or.inl ⟨by rfl, ?hy4⟩) (by assumption) ?_
    case hy4 => (intro w hSw; (try dsimp only at hSw); go_simp; try with_reducible rfl)
    (try simp only [Act.put, List.setIfInBounds_toArray, List.set_cons_zero, List.set_cons_succ])
    refine wpAnyH_take (i := 4) (oi := { dst := some 17, op := Op.move (Operand.tmp 1), type := 9, pos := "disk.go:196", after := #[], guard := none }) (v := ?_) rfl (by kernel_rfl) (by kernel_rfl) (by kernel_rfl) (fun _ _ _ h => h) (Or.inl ⟨by rfl, ?hy5⟩) (by assumption) ?_
    case hy5 => (intro w hSw; (try dsimp only at hSw); go_simp; try with_reducible rfl)
    (try simp only [Act.put, List.setIfInBounds_toArray, List.set_cons_zero, List.set_cons_succ])
    refine wpAnyH_take (i := 5) (oi := { dst := some 18, op := Op.move (Operand.tmp 2), type := 27, pos := "disk.go:196", after := #[], guard := none }) (v := ?_) rfl (by kernel_rfl) (by kernel_rfl) (by kernel_rfl) (fun _ _ _ h => h) (Or.inl ⟨by rfl, ?hy6⟩) (by assumption) ?_
    case hy6 => (intro w hSw; (try dsimp only at hSw); go_simp; try with_reducible rfl)
    (try simp only [Act.put, List.setIfInBounds_toArray, List.set_cons_zero, List.set_cons_succ])
    refine wpAnyH_take (i := 7) (oi := { dst := some 20, op := Op.move (Operand.tmp 2), type := 27, pos := "disk.go:196", after := #[], guard := none }) (v := ?_) rfl (by kernel_rfl) (by kernel_rfl) (by kernel_rfl) (fun _ _ _ h => h) (Or.inl ⟨by rfl, ?hy7⟩) (by assumption) ?_
    case hy7 => (intro w hSw; (try dsimp only at hSw); go_simp; try with_reducible rfl)
    (try simp only [Act.put, List.setIfInBounds_toArray, List.set_cons_zero, List.set_cons_succ])
    refine wpAnyH_take (i := 8) (oi := { dst := some 21, op := Op.call { callee := Callee.builtin Builtin.len, args := #[Operand.tmp 20], argTypes := #[27] }, type := 3, pos := "disk.go:196", after := #[{ on := 7, ground := Ground.data }], guard := none }) (v := ?_) rfl (by kernel_rfl) (by kernel_rfl) (by kernel_rfl) (fun _ _ _ h => h) (Or.inl ⟨by rfl, ?hy8⟩) (by assumption) ?_
    case hy8 => (intro w hSw; (try dsimp only at hSw); go_simp; try with_reducible rfl)
    (try simp only [Act.put, List.setIfInBounds_toArray, List.set_cons_zero, List.set_cons_succ])
    refine wpAnyH_ready (rs := [6]) (by kernel_rfl) (by simp) (AllReadyH.cons (o := { dst := some 19, op := Op.call { callee := Callee.value (Operand.func 30), args := #[Operand.tmp 18], argTypes := #[27] }, type := 27, pos := "disk.go:196", after := #[{ on := 5, ground := Ground.data }], guard := none }) rfl (fun K hK => ?_) AllReadyH.nil)
    go_simp
    refine HCL.out.mono ?_
    rintro _ w2 ⟨v2, rfl, how2, hb2⟩
    obtain ⟨z, cz, rfl, hz1, hz2, hz3, hz4⟩ := own8_read how2
    (try dsimp only)
    refine Shut.out hK _ _ ?_ (fun hS6 => ?_)
    · exact ⟨(Upd.of_below (S := fun _ => False) hb2).cell (fun q => q) hS0.1, hS0.2.trans (Upd.of_below hb2)⟩
    clear hK K
    (try simp only [Act.put, List.setIfInBounds_toArray, List.set_cons_zero, List.set_cons_succ])
    refine wpAnyH_take (i := 9) (oi := { dst := some 22, op := Op.build 63 #[(0, Operand.tmp 19), (1, Operand.tmp 21)], type := 63, pos := "disk.go:196", after := #[{ on := 6, ground := Ground.data }, { on := 8, ground := Ground.data }], guard := none }) (v := ?_) rfl (by kernel_rfl) (by kernel_rfl) (by kernel_rfl) (fun _ _ _ h => h) (Or.inl ⟨by rfl, ?hy9⟩) (by assumption) ?_
    case hy9 => (intro w hSw; (try dsimp only at hSw); go_simp; try with_reducible rfl)
    (try simp only [Act.put, List.setIfInBounds_toArray, List.set_cons_zero, List.set_cons_succ])
    refine wpAnyH_ready (rs := [10]) (by kernel_rfl) (by simp) (AllReadyH.cons (o := { dst := none, op := Op.mapUpdate 58 (Operand.tmp 16) (Operand.tmp 17) (Operand.tmp 22), type := 0, pos := "disk.go:196", after := #[{ on := 3, ground := Ground.data }, { on := 4, ground := Ground.data }, { on := 9, ground := Ground.data }, { on := 6, ground := Ground.chain }, { on := 0, ground := Ground.phase }, { on := 1, ground := Ground.phase }, { on := 2, ground := Ground.phase }, { on := 3, ground := Ground.phase }, { on := 4, ground := Ground.phase }, { on := 5, ground := Ground.phase }, { on := 6, ground := Ground.phase }, { on := 7, ground := Ground.phase }, { on := 8, ground := Ground.phase }, { on := 9, ground := Ground.phase }], guard := none }) rfl (fun K hK => ?_) AllReadyH.nil)
    refine step_store_disk _ (by rfl) _ _ _ (by rfl) (bm := bm) (by rfl) (HD1.out.later ((Below.refl w1.heap.size w1).drew.trans hb2)).map HSO.out (by unfold maxLen; omega) s (by rfl) hs ⟨z, b.length, cz, b.length⟩ ⟨b, b.length⟩ (by rfl) ⟨rfl, rfl, hz1, hz2, hz3, hz4⟩ ?_
    intro w3 hm3 hu3
    (try dsimp only)
    refine Shut.out hK _ _ ?_ (fun hS10 => ?_)
    · exact ⟨hu3.cell (fun e => HNE.out e) hS6.1, hS6.2.trans (hu3.mono fun k q => Or.inr q)⟩
    clear hK K
    (try simp only [Act.put])
    refine wpAnyH_done (by kernel_rfl) ?_ _
    have HD3 : Hid (DiskSt w3 bd bm (A.put (keyB s) b)) := Lib.hid (by
      refine (HD1.out.later ((Below.refl w1.heap.size w1).drew.trans hb2)).remap ?_ (by rw [HE.out]; rfl) HOK.out hu3
      rw [HE.out]; exact hm3)
    have HU3 : Hid (Upd (DS bd bm) w w3) := Lib.hid ((Upd.of_below HB1.out).trans hS10.2)
    clear hS0 hS6 hS10 hm3 hu3 how2 hb2 hz3
    go_wp2
    go_end0
    exact ⟨rfl, HD3.out, HU3.out⟩

set_option maxRecDepth 100000 in
set_option maxHeartbeats 800000 in
theorem copy_any (bd bm : Nat) (A : DM) (w : World) (h : DiskSt w bd bm A) :
    Calls Try.prog 18 #[.pointer (some ⟨bd, 0, none⟩)] w fun e w' => ∃ bc bn, e = .returned (.pointer (some ⟨bc, 0, none⟩)) ∧ DiskSt w' bc bn A ∧ w.heap.size ≤ bc ∧ w.heap.size ≤ bn ∧ Below w.heap.size w w' := by
  obtain ⟨⟨c0, c1, c2, c3, c4⟩, _⟩ := h.cells
  have HOK := Lib.hid h.ok
  obtain ⟨D, h1, h2, h3⟩ := h.map
  have HB1 : Hid (Below w.heap.size w (w.alloc (.cells (diskCells bm A) 60))) := Lib.hid ((Below.refl _ _).alloc (Nat.le_refl _) _)
  have HD1 := Lib.hid (h.later HB1.out)
  have hcA := HD1.out.cells.1.1
  have HC := Lib.hid (AnyW.maps_Clone_owns clone35 9 heldR bm _ D (w.alloc (.cells (diskCells bm A) 60)) (h1.kept (World.grownBy_alloc _ _ none) (by simp)))
  have H2 := Lib.hid h2
  have H3 := Lib.hid h3
  clear h h1 h2 h3
  unfold diskCells at HC hcA
  go_enter Try.func18, Try.ntmps18
  go_wp2_with fail
  refine HC.out.mono ?_
  rintro _ w2 ⟨rfl, ho2, ho1, hb2⟩
  have hbox : w2.heap[w.heap.size]? = some (.cells #[.map (some bm), .int .i64 (A.room : Nat), .bool A.dead, .int .i64 A.fuse, .int .i64 (A.done : Nat)] 60 (0, 0)) := heap_below (heap_at w _) hb2
  have q0 : w2.cell? ⟨w.heap.size, 0, none⟩ = some (.map (some bm)) := by simp only [World.cell?, hbox]; rfl
  have f0 : w2.frozen? ⟨w.heap.size, 0, none⟩ = false := by simp [World.frozen?, hbox]
  have HBX := Lib.hid hbox
  have HO2 := Lib.hid ho2
  have HB2 : Hid (Below w.heap.size w w2) := Lib.hid (HB1.out.trans (hb2.mono (by simp)))
  clear ho1 ho2 hb2 hbox c0 c1 c2 c3 c4 hcA
  go_wp2
  go_ret
  have hbn : (w.alloc (.cells #[.map (some bm), .int .i64 (A.room : Nat), .bool A.dead, .int .i64 A.fuse, .int .i64 (A.done : Nat)] 60)).heap.size = w.heap.size + 1 := by simp
  refine ⟨w.heap.size, w.heap.size + 1, rfl, ⟨?_, ?_, HOK.out⟩, Nat.le_refl _, by omega, ?_⟩
  · rw [heap_setCell_same _ _ _ _ _ _ HBX.out]
    simp [diskCells]
  · have ho := HO2.out
    rw [hbn] at ho
    have hu : Upd (· = w.heap.size) w2 (w2.setCell ⟨w.heap.size, 0, none⟩ (.map (some (w.heap.size + 1)))) := Upd.setCell (S := (· = w.heap.size)) _ _ _ rfl
    have hno : NoU8 w2 w.heap.size := by
      intro j c hc
      simp only [World.cell?, HBX.out] at hc
      match j with
      | 0 => simp at hc
      | 1 => simp at hc
      | 2 => simp at hc
      | 3 => simp at hc
      | 4 => simp at hc
      | j + 5 => simp at hc
    have hm2 : MapSt w2 (w.heap.size + 1) A.fs := ⟨D, ho, H2.out, fun k m hk => by
      obtain ⟨f, e1, e2⟩ := H3.out k m hk
      exact ⟨f, e1, e2.upd (S := fun _ => False) (Upd.of_below HB2.out) (fun _ q => q.elim)⟩⟩
    simpa using hm2.upd hu (fun b e => by subst e; exact hno) (by omega)
  · have hh : Below w.heap.size w (w2.setCell ⟨w.heap.size, 0, none⟩ (.map (some (w.heap.size + 1)))) := HB2.out.setCell (Nat.le_refl _) _
    simpa using hh
set_option maxRecDepth 100000 in
set_option maxHeartbeats 800000 in
theorem new_any (r : Int) (w : World) (hr : -9223372036854775808 ≤ r ∧ r ≤ 9223372036854775807) :
    Calls Try.prog 9 #[.int .i64 r] w fun e w' => ∃ bd bm, e = .returned (.pointer (some ⟨bd, 0, none⟩)) ∧ DiskSt w' bd bm ⟨[], r.toNat, false, -1, 0⟩ ∧ w.heap.size ≤ bd ∧ w.heap.size ≤ bm ∧ Below w.heap.size w w' := by
  have hmm := @run_makeMap Try.prog
  obtain ⟨q, HQ⟩ : ∃ q : Nat, Hid (r.toNat = q) := ⟨_, Lib.hid rfl⟩
  rw [HQ.out]
  have HMX : Hid (max 0 r = (q : Int)) := Lib.hid (by rw [← HQ.out]; omega)
  have hq : q ≤ 9223372036854775807 := by have := HQ.out; omega
  go_enter Try.func9, Try.ntmps9
  go_wp2
  go_ret
  have hs1 : (w.alloc (.map #[] 0)).heap.size = w.heap.size + 1 := by simp
  have hb2 : Below (w.alloc (.map #[] 0)).heap.size (w.alloc (.map #[] 0)) ((w.alloc (.map #[] 0)).alloc (.cells #[.map (some w.heap.size), .int .i64 (max 0 r), .bool false, .int .i64 (-1), .int .i64 0] 60)) := (Below.refl _ _).alloc (Nat.le_refl _) _
  refine ⟨w.heap.size + 1, w.heap.size, rfl, ⟨?_, ?_, ⟨List.Pairwise.nil, fun p hp => by simp at hp, fun p hp => by simp at hp, hq, by show (-1 : Int) ≤ -1 ∧ (-1 : Int) ≤ _; decide⟩⟩, by omega, Nat.le_refl _, ?_⟩
  · rw [heap_at' hs1, HMX.out]
    rfl
  · exact (MapSt.made w).upd (S := fun _ => False) (Upd.of_below hb2) (fun _ q => q.elim) (fun q => q)
  · exact ((Below.refl w.heap.size w).alloc (Nat.le_refl _) _).trans (hb2.mono (by simp))
end Go.Proofs.Ytjojomjnbiakoaa

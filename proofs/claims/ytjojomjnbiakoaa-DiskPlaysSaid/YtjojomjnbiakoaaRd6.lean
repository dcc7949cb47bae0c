/-
  The reference's disk: Append, Rename.
-/
import Derived.Test.YtjojomjnbiakoaaRd5
namespace Go.Proofs.Ytjojomjnbiakoaa
open Go.RowKit Go.Maps
set_option linter.unusedVariables false
theorem bset {K : Nat} {w w' : World} (h : Below K w w') (b o : Nat) (v : Value) (hb : K ≤ b) : Below K w (w'.setCell ⟨b, o, none⟩ v) := h.setCell hb v
theorem box_cells {w : World} {B : Nat} {a b c : Value} {T : TypeId} (h : w.heap[B]? = some (.cells #[a, b, c] T (0, 0))) :
    (w.cell? ⟨B, 0, none⟩ = some a ∧ w.cell? ⟨B, 1, none⟩ = some b ∧ w.cell? ⟨B, 2, none⟩ = some c) ∧ (∀ j, w.frozen? ⟨B, j, none⟩ = false) := by
  refine ⟨⟨?_, ?_, ?_⟩, fun j => ?_⟩
  · simp [World.cell?, h]
  · simp [World.cell?, h]
  · simp [World.cell?, h]
  · simp [World.frozen?, h]
set_option maxRecDepth 100000 in
set_option maxHeartbeats 1600000 in
theorem rappend_any (bw : Nat) (A : DM) (s bs : ByteArray) (b : List UInt8) (N T : Nat) (w : World) (hbs : bs = ofK b) (hs : s.size ≤ maxLen) (hN : N ≤ 1000000) (hT : T + b.length ≤ 1099511627776) (hL : A.Lim N T) (h : RefSt w bw A) :
    Calls Try.prog 36 #[.pointer (some ⟨bw, 0, none⟩), .string s, .string bs] w fun e w' => e = .returned (.int .i64 (A.append (keyB s) b).2) ∧ RefSt w' bw (A.append (keyB s) b).1 ∧ Upd (· = bw) w w' := by
  have HR := Lib.hid h
  have HG := Lib.hid (rgood_any s w hs)
  have HOF := Lib.hid (roff_any bw A w h)
  have HOK := Lib.hid h.ok.blow
  have HL := Lib.hid hL.blow
  have HBS := Lib.hid hbs
  have hsz : (bs.size : Int) = (b.length : Int) := by rw [hbs, ofK_size]
  clear h hL hbs
  cases hg : goodB s with
  | false =>
    have HE : Hid (A.append (keyB s) b = (A, 1)) := Lib.hid (by unfold DM.append; simp [rdy1 hg])
    rw [hg] at HG
    rw [HE.out]
    clear hg HE
    go_enter Try.func36, Try.ntmps36
    go_wp2_with fail
    refine HG.out.mono ?_
    rintro _ w ⟨rfl, rfl⟩
    go_wp2
    go_ret
    exact ⟨rfl, HR.out, Upd.refl _ _⟩
  | true =>
    rw [hg] at HG
    cases hd : A.blow.dead with
    | true =>
      have HE : Hid (A.append (keyB s) b = (A.blow, 140)) := Lib.hid (by unfold DM.append; simp [rdy2 hg hd])
      rw [HE.out]
      rw [hd] at HOF
      clear hg hd HE
      go_enter Try.func36, Try.ntmps36
      go_wp2_with fail
      refine HG.out.mono ?_
      rintro _ w ⟨rfl, rfl⟩
      go_wp2_with fail
      refine HOF.out.mono ?_
      rintro _ w1 ⟨rfl, hr1, hu1⟩
      have HH := Lib.hid (And.intro hr1 hu1)
      clear hr1 hu1
      go_wp2
      go_ret
      exact ⟨rfl, HH.out.1, HH.out.2⟩
    | false =>
      have HE : Hid (A.append (keyB s) b = if (A.blow.room : Int) - (tot A.blow.fs : Int) < (b.length : Int) then (A.blow, 141) else (DM.did { A.blow with fs := putF A.blow.fs (keyB s) ⟨(A.blow.get (keyB s)).b ++ b, (A.blow.get (keyB s)).s⟩ }, 0)) := Lib.hid (by
        unfold DM.append; simp only [rdy5 hg hd]; rw [if_neg (by simp)])
      rw [hd] at HOF
      have HGK := Lib.hid (goodK hg)
      obtain ⟨AR, HAR⟩ : ∃ AR, Hid (A.append (keyB s) b = AR) := ⟨_, Lib.hid rfl⟩
      rw [HAR.out] at HE
      rw [HAR.out]
      clear hg hd
      generalize A.blow = B at *
      have htl := HL.out.tot
      have hrm := HOK.out.room
      obtain ⟨tt, HTT⟩ : ∃ tt, Hid (tot B.fs = tt) := ⟨_, Lib.hid rfl⟩
      rw [HTT.out] at HE htl
      obtain ⟨df, HDF⟩ : ∃ df : Int, Hid ((B.room : Int) - (tt : Int) = df) := ⟨_, Lib.hid rfl⟩
      have HWR : Hid (IntKind.i64.wrap ((B.room : Int) - (tt : Int)) = df) := Lib.hid (by rw [← HDF.out]; exact IntWalk.i64_in _ (by omega))
      rw [HDF.out] at HE
      obtain ⟨tb, HTB⟩ : ∃ tb, Hid (decide (df < (b.length : Int)) = tb) := ⟨_, Lib.hid rfl⟩
      go_enter Try.func36, Try.ntmps36
      go_wp2_with fail
      refine HG.out.mono ?_
      rintro _ w ⟨rfl, rfl⟩
      go_wp2_with fail
      refine HOF.out.mono ?_
      rintro _ w1 ⟨rfl, hr1, hu1⟩
      have HR1 := Lib.hid hr1
      have HU1 := Lib.hid hu1
      have HSZ := Lib.hid (fun (w' : World) hb => rsize_any bw B w' (by have := HL.out.len; omega) (by have := HL.out.tot; omega) (hr1.later (w' := w') hb))
      rw [HTT.out] at HSZ
      obtain ⟨x, c, hrb⟩ := hr1.open
      have HRB := Lib.hid hrb
      have KS : Hid (∀ w', Below w1.heap.size w1 w' → (w'.cell? ⟨bw, 1, none⟩ = some (.int .i64 (B.room : Nat)) ∧ Below w1.heap.size w1 w')) := Lib.hid (fun w' hb => ⟨(HRB.out.later hb).cells.1.2.1, hb⟩)
      clear hr1 hu1 hrb
      go_upto_region 5 with (fail)
      go_cut [24] (fun q wx => q = .bool tb ∧ Below w1.heap.size w1 wx)
      case first =>
        refine wp_region_held_drew (S := (fun w' => w'.cell? ⟨bw, 1, none⟩ = some (.int .i64 (B.room : Nat)) ∧ Below w1.heap.size w1 w')) (by kernel_rfl) ?_ (fun hS0 => ?_)
        · exact KS.out _ (Below.refl _ _).drew
        refine wpAnyH_take (i := 0) (oi := { dst := some 15, op := Op.move (Operand.tmp 2), type := 9, pos := "ref.go:89", after := #[], guard := none }) (v := ?_) rfl (by kernel_rfl) (by kernel_rfl) (by kernel_rfl) (fun _ _ _ h => h) (Or.inl ⟨by rfl, ?hy1⟩) (by assumption) ?_
        case hy1 => (intro w hSw; (try dsimp only at hSw); go_simp; try with_reducible rfl)
        (try simp only [Act.put, List.setIfInBounds_toArray, List.set_cons_zero, List.set_cons_succ])
        refine wpAnyH_take (i := 1) (oi := { dst := some 16, op := Op.call { callee := Callee.builtin Builtin.len, args := #[Operand.tmp 15], argTypes := #[9] }, type := 3, pos := "ref.go:89", after := #[{ on := 0, ground := Ground.data }], guard := none }) (v := ?_) rfl (by kernel_rfl) (by kernel_rfl) (by kernel_rfl) (fun _ _ _ h => h) (Or.inl ⟨by rfl, ?hy2⟩) (by assumption) ?_
        case hy2 => (intro w hSw; (try dsimp only at hSw); go_simp; try with_reducible rfl)
        (try simp only [Act.put, List.setIfInBounds_toArray, List.set_cons_zero, List.set_cons_succ])
        refine wpAnyH_take (i := 2) (oi := { dst := some 17, op := Op.move (Operand.tmp 0), type := 46, pos := "ref.go:89", after := #[], guard := none }) (v := ?_) rfl (by kernel_rfl) (by kernel_rfl) (by kernel_rfl) (fun _ _ _ h => h) (Or.inl ⟨by rfl, ?hy3⟩) (by assumption) ?_
        case hy3 => (intro w hSw; (try dsimp only at hSw); go_simp; try with_reducible rfl)
        (try simp only [Act.put, List.setIfInBounds_toArray, List.set_cons_zero, List.set_cons_succ])
        refine wpAnyH_take (i := 3) (oi := { dst := some 18, op := Op.nilCheck (Operand.tmp 17), type := 0, pos := "ref.go:89", after := #[{ on := 2, ground := Ground.data }], guard := none }) (v := ?_) rfl (by kernel_rfl) (by kernel_rfl) (by kernel_rfl) (fun _ _ _ h => h) (Or.inl ⟨by rfl, ?hy4⟩) (by assumption) ?_
        case hy4 => (intro w hSw; (try dsimp only at hSw); go_simp; try with_reducible rfl)
        (try simp only [Act.put, List.setIfInBounds_toArray, List.set_cons_zero, List.set_cons_succ])
        refine wpAnyH_take (i := 4) (oi := { dst := some 19, op := Op.fieldAddr 72 (Operand.tmp 18) 1, type := 0, pos := "ref.go:89", after := #[{ on := 3, ground := Ground.data }], guard := none }) (v := ?_) rfl (by kernel_rfl) (by kernel_rfl) (by kernel_rfl) (fun _ _ _ h => h) (Or.inl ⟨by rfl, ?hy5⟩) (by assumption) ?_
        case hy5 => (intro w hSw; (try dsimp only at hSw); go_simp; try with_reducible rfl)
        (try simp only [Act.put, List.setIfInBounds_toArray, List.set_cons_zero, List.set_cons_succ])
        refine wpAnyH_take (i := 5) (oi := { dst := some 20, op := Op.load 3 (Operand.tmp 19), type := 3, pos := "ref.go:89", after := #[{ on := 4, ground := Ground.data }], guard := none }) (v := ?_) rfl (by kernel_rfl) (by kernel_rfl) (by kernel_rfl) (fun _ _ _ h => h) (Or.inl ⟨by rfl, ?hy6⟩) (by assumption) ?_
        case hy6 => (intro w hSw; (try dsimp only at hSw); go_simp; try with_reducible rfl)
        (try simp only [Act.put, List.setIfInBounds_toArray, List.set_cons_zero, List.set_cons_succ])
        refine wpAnyH_take (i := 6) (oi := { dst := some 21, op := Op.move (Operand.tmp 0), type := 46, pos := "ref.go:89", after := #[], guard := none }) (v := ?_) rfl (by kernel_rfl) (by kernel_rfl) (by kernel_rfl) (fun _ _ _ h => h) (Or.inl ⟨by rfl, ?hy7⟩) (by assumption) ?_
        case hy7 => (intro w hSw; (try dsimp only at hSw); go_simp; try with_reducible rfl)
        (try simp only [Act.put, List.setIfInBounds_toArray, List.set_cons_zero, List.set_cons_succ])
        refine wpAnyH_ready (rs := [7]) (by kernel_rfl) (by simp) (AllReadyH.cons (o := { dst := some 22, op := Op.call { callee := Callee.value (Operand.func 43), args := #[Operand.tmp 21], argTypes := #[46] }, type := 3, pos := "ref.go:89", after := #[{ on := 6, ground := Ground.data }], guard := none }) rfl (fun K hK => ?_) AllReadyH.nil)
        go_simp
        refine (HSZ.out _ hS0.2).mono ?_
        rintro _ w2 ⟨rfl, hb2⟩
        have hwr := HWR.out
        have htb := HTB.out
        (try dsimp only)
        refine Shut.out hK _ _ ?_ (fun hS7 => ?_)
        · exact KS.out _ (hS0.2.trans (hb2.mono hS0.2.size))
        clear hK K
        (try simp only [Act.put, List.setIfInBounds_toArray, List.set_cons_zero, List.set_cons_succ])
        refine wpAnyH_take (i := 8) (oi := { dst := some 23, op := Op.binOp BinOp.sub 3 (Operand.tmp 20) (Operand.tmp 22) 3, type := 3, pos := "ref.go:89", after := #[{ on := 5, ground := Ground.data }, { on := 7, ground := Ground.data }], guard := none }) (v := ?_) rfl (by kernel_rfl) (by kernel_rfl) (by kernel_rfl) (fun _ _ _ h => h) (Or.inl ⟨by rfl, ?hy8⟩) (by assumption) ?_
        case hy8 => (intro w hSw; (try dsimp only at hSw); go_simp; try with_reducible rfl)
        (try simp only [Act.put, List.setIfInBounds_toArray, List.set_cons_zero, List.set_cons_succ])
        refine wpAnyH_take (i := 9) (oi := { dst := some 24, op := Op.binOp BinOp.gtr 3 (Operand.tmp 16) (Operand.tmp 23) 3, type := 4, pos := "ref.go:89", after := #[{ on := 1, ground := Ground.data }, { on := 8, ground := Ground.data }], guard := none }) (v := ?_) rfl (by kernel_rfl) (by kernel_rfl) (by kernel_rfl) (fun _ _ _ h => h) (Or.inl ⟨by rfl, ?hy9⟩) (by assumption) ?_
        case hy9 => (intro w hSw; (try dsimp only at hSw); go_simp; try with_reducible rfl)
        (try simp only [Act.put, List.setIfInBounds_toArray, List.set_cons_zero, List.set_cons_succ])
        refine wpAnyH_done (by kernel_rfl) ?_ _
        go_wp2
        go_meet
        case rel => exact ⟨rfl, hS7.2⟩
      case rest =>
        obtain ⟨rfl, hbx⟩ := hcut
        have HRX := Lib.hid (HR1.out.later hbx)
        have HRBX := Lib.hid (HRB.out.later hbx)
        have HUX : Hid (Upd (· = bw) w wc) := Lib.hid (HU1.out.trans (Upd.of_below hbx))
        clear hbx KS HSZ
        cases tb with
        | true =>
          have HE2 : Hid (AR = (B, 141)) := Lib.hid (by rw [HE.out, if_pos (by simpa using HTB.out)])
          go_wp2
          go_ret
          exact ⟨by rw [HE2.out]; rfl, by rw [HE2.out]; exact HRX.out, HUX.out⟩
        | false =>
          obtain ⟨f, HF⟩ : ∃ f, Hid (B.get (keyB s) = f) := ⟨_, Lib.hid rfl⟩
          have HE2 : Hid (AR = (DM.did { B with fs := putF B.fs (keyB s) ⟨f.b ++ b, f.s⟩ }, 0)) := Lib.hid (by rw [HE.out, if_neg (by simpa using HTB.out), HF.out])
          have HPK : Hid (DM.Ok { B with fs := putF B.fs (keyB s) ⟨f.b ++ b, f.s⟩ }) := Lib.hid (HOK.out.putF HGK.out (by have := HOK.out.get (keyB s); rw [HF.out] at this; show f.s ≤ (f.b ++ b).length; rw [List.length_append]; omega))
          have HFL : Hid (f.b.length ≤ T) := Lib.hid (by have := HL.out.get (keyB s); rw [HF.out] at this; exact this)
          obtain ⟨wB, hwB⟩ : ∃ wB, wc.alloc (.cells #[.string s, .string ⟨#[]⟩, .int .i64 0] 75) = wB := ⟨_, rfl⟩
          have HWB := Lib.hid hwB
          obtain ⟨Bx, hBx⟩ : ∃ Bx, wc.heap.size = Bx := ⟨_, rfl⟩
          have HBXN := Lib.hid hBx
          have HBA : Hid (Below wc.heap.size wc wB) := Lib.hid (by rw [← hwB]; exact (Below.refl _ _).alloc (Nat.le_refl _) _)
          have HBX : Hid (wB.heap[Bx]? = some (.cells #[.string s, .string ⟨#[]⟩, .int .i64 0] 75 (0, 0))) := Lib.hid (by rw [← hwB, ← hBx]; exact heap_at _ _)
          have HBXS : Hid (wc.heap.size ≤ Bx) := Lib.hid (by omega)
          clear hwB hBx
          cases hi : (lkup B.fs (keyB s)).isSome with
          | true =>
            have HI := Lib.hid hi
            clear hi
            go_wp2_with fail
            rw [HWB.out, HBXN.out]
            refine (rat_any bw B s wB hs (by have := HL.out.len; omega) (HRX.out.later HBA.out)).mono ?_
            rw [HI.out]
            rintro _ w4 ⟨rfl, hb4⟩
            have HBX4 := Lib.hid (heap_below HBX.out hb4)
            obtain ⟨⟨z0, z1, z2⟩, zf⟩ := box_cells HBX4.out
            have zf0 := zf 0
            have zf1 := zf 1
            have zf2 := zf 2
            have HB4 : Hid (Below wc.heap.size wc w4) := Lib.hid (HBA.out.trans (hb4.mono HBA.out.size))
            have hrb4 := HRBX.out.later HB4.out
            have c0 := hrb4.cells.1.1
            obtain ⟨b0, off, rfl, hlt, k0, k1, k2⟩ := hrb4.at HOK.out.sorted HI.out
            have hlen := HL.out.len
            rw [HF.out] at k1 k2
            obtain ⟨fb, hfb⟩ : ∃ fb, ofK f.b = fb := ⟨_, rfl⟩
            have HFB := Lib.hid hfb
            have hfz : (fb.size : Int) ≤ 1099511627776 := by rw [← hfb, ofK_size]; have := HFL.out; omega
            rw [hfb] at k1
            have HCT : Hid (fb ++ bs = ofK (f.b ++ b)) := Lib.hid (by rw [← hfb, HBS.out, ofK_append])
            obtain ⟨R, hR⟩ : ∃ R, rank B.fs (keyB s) = R := ⟨_, rfl⟩
            obtain ⟨n, hnn⟩ : ∃ n, B.fs.length = n := ⟨_, rfl⟩
            have HLN := Lib.hid hnn
            rw [hR] at k0 k1 k2 hlt ⊢
            rw [hnn] at hlt c0 hlen
            have h1 : (R : Int) < (n : Int) := by omega
            have h0 : (0 : Int) ≤ (R : Int) := by omega
            have hbl : (bs.size : Int) ≤ 1099511627776 := by omega
            clear hb4 hrb4 hfb hR hnn zf
            go_upto_region 10 with (fail)
            go_cut [] (fun wx => Hid (Below wc.heap.size wc wx ∧ wx.heap[Bx]? = some (.cells #[.string s, .string fb, .int .i64 (f.s : Nat)] 75 (0, 0))))
            case first =>
              go_wp2
              go_meet
              case rel =>
                refine Lib.hid ⟨bset (bset (bset HB4.out Bx _ _ HBXS.out) Bx _ _ HBXS.out) Bx _ _ HBXS.out, ?_⟩
                rw [heap_setCell_same _ _ _ _ _ _ (heap_setCell_same _ _ _ _ _ _ (heap_setCell_same _ _ _ _ _ _ HBX4.out))]
                rfl
            case rest =>
              have HB5 := Lib.hid hcut.out.1
              have HBX5 := Lib.hid hcut.out.2
              clear hcut z0 z1 z2 zf0 zf1 zf2 k0 k1 k2 c0
              obtain ⟨⟨z0, z1, z2⟩, zf⟩ := box_cells HBX5.out
              have zf1 := zf 1
              clear zf
              rename_i w5
              go_wp2_with fail
              refine (rset_any bw B _ _ _ ⟨f.b ++ b, f.s⟩ _ HCT.out rfl hs (by rw [HLN.out]; omega) HPK.out (HRX.out.later (bset HB5.out Bx _ _ HBXS.out))).mono ?_
              rintro _ w6 ⟨rfl, hr6, hu6⟩
              have HU6 : Hid (Upd (· = bw) w w6) := Lib.hid ((HUX.out.trans (Upd.of_below (bset HB5.out Bx _ _ HBXS.out))).trans hu6)
              have HDN := Lib.hid (rdone_any bw _ w6 (by have := HL.out.done; show B.done ≤ _; omega) hr6)
              clear hr6 hu6 z0 z1 z2 zf1
              go_wp2_with fail
              refine HDN.out.mono ?_
              rintro _ w7 ⟨rfl, hr7, hu7⟩
              have HH := Lib.hid (And.intro hr7 (HU6.out.trans hu7))
              clear hr7 hu7
              go_wp2
              go_ret
              exact ⟨by rw [HE2.out]; rfl, by rw [HE2.out]; exact HH.out.1, HH.out.2⟩
          | false =>
            have HI := Lib.hid hi
            have HFD : Hid (f = default) := Lib.hid (by rw [← HF.out]; exact get_none hi)
            clear hi
            go_wp2_with fail
            rw [HWB.out, HBXN.out]
            refine (rat_any bw B s wB hs (by have := HL.out.len; omega) (HRX.out.later HBA.out)).mono ?_
            rw [HI.out]
            rintro _ w4 ⟨rfl, hb4⟩
            have HBX4 := Lib.hid (heap_below HBX.out hb4)
            obtain ⟨⟨z0, z1, z2⟩, zf⟩ := box_cells HBX4.out
            have zf1 := zf 1
            have HB4 : Hid (Below wc.heap.size wc w4) := Lib.hid (HBA.out.trans (hb4.mono HBA.out.size))
            have HCT : Hid (⟨#[]⟩ ++ bs = ofK (f.b ++ b)) := Lib.hid (by
              rw [HFD.out, HBS.out]
              have : (⟨#[]⟩ : ByteArray) = ofK [] := rfl
              rw [this, ofK_append]
              rfl)
            have HS0 : Hid ((0 : Int) = (f.s : Nat)) := Lib.hid (by rw [HFD.out]; rfl)
            have hbl : (bs.size : Int) ≤ 1099511627776 := by omega
            have hlen := HL.out.len
            clear hb4 zf
            go_wp2_with fail
            refine (rset_any bw B _ _ _ ⟨f.b ++ b, f.s⟩ _ HCT.out HS0.out hs (by omega) HPK.out (HRX.out.later (bset HB4.out Bx _ _ HBXS.out))).mono ?_
            rintro _ w6 ⟨rfl, hr6, hu6⟩
            have HU6 : Hid (Upd (· = bw) w w6) := Lib.hid ((HUX.out.trans (Upd.of_below (bset HB4.out Bx _ _ HBXS.out))).trans hu6)
            have HDN := Lib.hid (rdone_any bw _ w6 (by have := HL.out.done; show B.done ≤ _; omega) hr6)
            clear hr6 hu6 z0 z1 z2 zf1
            go_wp2_with fail
            refine HDN.out.mono ?_
            rintro _ w7 ⟨rfl, hr7, hu7⟩
            have HH := Lib.hid (And.intro hr7 (HU6.out.trans hu7))
            clear hr7 hu7
            go_wp2
            go_ret
            exact ⟨by rw [HE2.out]; rfl, by rw [HE2.out]; exact HH.out.1, HH.out.2⟩
end Go.Proofs.Ytjojomjnbiakoaa

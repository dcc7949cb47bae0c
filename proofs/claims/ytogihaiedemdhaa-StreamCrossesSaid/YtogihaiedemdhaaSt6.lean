/-
  The reference's block.
-/
import Derived.Test.YtogihaiedemdhaaSt5
namespace Go.Proofs.Ytogihaiedemdhaa
open Go.RowKit
set_option linter.unusedVariables false

theorem BS.later {w0 wx w' : World} {K N R X : Nat} {key nonce : List UInt8} {x : List Nat} (h : BS w0 K N R X key nonce x wx) (hb : Below wx.heap.size wx w') : BS w0 K N R X key nonce x w' :=
  h.keep (hb.mono (by have := h.2.2.2.1.lt; omega))
theorem BY.later {w0 wx w' : World} {K N R X Y : Nat} {key nonce : List UInt8} {x y : List Nat} (h : BY w0 K N R X Y key nonce x y wx) (hb : Below wx.heap.size wx w') : BY w0 K N R X Y key nonce x y w' :=
  ⟨h.1.later hb, h.2.1.later hb, h.2.2⟩
theorem BY.put {w0 wx : World} {K N R X Y : Nat} {key nonce : List UInt8} {x y y' : List Nat} (h : BY w0 K N R X Y key nonce x y wx) (h' : W16 y') : BY w0 K N R X Y key nonce x y' (wx.setCells Y 0 (cellsW y')) := by
  obtain ⟨h1, h2, h3, h4⟩ := h
  exact ⟨h1.keep (below_setCells (by omega) _ _ _ (Below.refl _ _)), h2.put (by rw [h3.1, h'.1]), h', h4⟩
theorem BY.there {w0 wx : World} {K N R X Y : Nat} {key nonce : List UInt8} {x y y' : List Nat} (h : BY w0 K N R X Y key nonce x y wx) (h' : W16 y') : wx.there Y 0 (cellsW y').toArray.size := by
  have := h.2.1.there
  rw [h.2.2.1.1] at this
  simpa [cellsW_length, h'.1] using this
theorem size16 {y : List Nat} (h : W16 y) : some 16 = some (cellsW y).toArray.size := by simp [cellsW_length, h.1]
theorem quarter_at (y : List Nat) (a b c d : Nat) (h : W16 y) (ha : a < 16) (hb : b < 16) (hc : c < 16) (hd : d < 16) (ab : a ≠ b) (ac : a ≠ c) (ad : a ≠ d) (bc : b ≠ c) (bd : b ≠ d) (cd : c ≠ d) (w : World) :
    Calls Try.prog 27 #[.agg (cellsW y).toArray, .int .i64 a, .int .i64 b, .int .i64 c, .int .i64 d] w fun e w' => e = .returned (.agg (cellsW (qr y a b c d)).toArray) ∧ Below w.heap.size w w' := by
  have := quarter_any y a b c d w h.1 h.2 ha hb hc hd
  rw [qseq_eq y a b c d (by rw [h.1]; exact ha) (by rw [h.1]; exact hb) (by rw [h.1]; exact hc) (by rw [h.1]; exact hd) ab ac ad bc bd cd] at this
  exact this
theorem word_at (S cs p i m : Nat) (bs : List UInt8) (w : World) (hp : 4 * i = p) (hm : m = bs.length) (hb : Bytes w (some ⟨S, 0, none⟩) bs) (hlen : p + 4 ≤ bs.length) (hlb : bs.length ≤ 1000) :
    Calls Try.prog 26 #[.slice (some ⟨S, 0, none⟩) m cs, .int .i64 p] w fun e w' => e = .returned (.int .u32 (wordOf bs i : Nat)) ∧ ∃ n, w' = w.drewN n := by
  subst hm; exact word_any S cs p i bs w hp hb hlen hlb
theorem pow256 (r : Nat) : 256 ^ r = 2 ^ (8 * r) := by rw [show (256 : Nat) = 2 ^ 8 by rfl, ← Nat.pow_mul]

set_option maxRecDepth 100000 in
set_option maxHeartbeats 6400000 in
theorem rblock_any (key nonce : List UInt8) (count : Nat) (w : World) (hk : key.length = 32) (hn : nonce.length = 12) (hc : count < 4294967296) :
    Calls Try.prog 15 #[.agg (cells8 key).toArray, .agg (cells8 nonce).toArray, .int .u32 count] w fun e w' => e = .returned (.agg (cells8 (blk key nonce count)).toArray) ∧ Below w.heap.size w w' := by
  obtain ⟨K, hK⟩ : ∃ K, w.heap.size = K := ⟨_, rfl⟩
  obtain ⟨N, hN⟩ : ∃ N, K + 1 = N := ⟨_, rfl⟩
  obtain ⟨R, hR⟩ : ∃ R, N + 1 = R := ⟨_, rfl⟩
  obtain ⟨X, hX⟩ : ∃ X, R + 1 = X := ⟨_, rfl⟩
  have HKL := Lib.hid hk
  have HNL := Lib.hid hn
  clear hk hn
  go_enter Try.func15, Try.ntmps15
  go_upto_region 1 with (fail)
  go_cut [7] (fun s7 wx => s7 = .pointer (some ⟨X, 0, none⟩) ∧ Hid (BS w K N R X key nonce consts16 wx))
  case first =>
    go_wp2
    go_meet
    case rel =>
      subst hK
      subst hN
      subst hR
      subst hX
      refine ⟨rfl, Lib.hid ⟨heap_keep (heap_keep (heap_keep (heap_at w _))), heap_keep (heap_keep (heap_at' (by simp))), ⟨List.replicate 64 0, heap_keep (heap_at' (by simp)), by simp⟩, heap_at' (by simp), consts_W16, ?_, rfl, by omega, by omega, by omega⟩⟩
      exact ((((Below.refl _ _).alloc (Nat.le_refl _) _).alloc (by simp) _).alloc (by simp; omega) _).alloc (by simp; omega) _
  case rest =>
    obtain ⟨rfl, hB⟩ := hcut
    clear hN hR hX
    go_wp2
    go_loopw [8] (fun nv wr => ∃ i : Nat, i ≤ 8 ∧ nv = .int .i64 i ∧ Hid (BS w K N R X key nonce (wordsTo consts16 4 key i) wr)) (fun nv _ => 8 - (intOf nv).toNat)
    case atStart => exact ⟨0, by omega, rfl, hB⟩
    case round =>
      obtain ⟨i, hi, rfl, hBi⟩ := hrel
      by_cases hlt : i < 8
      · have i1 : (i : Int) < 8 := by omega
        obtain ⟨p, hp1, hp3⟩ : ∃ p : Nat, 4 * (i : Int) = (p : Int) ∧ 4 * i = p := ⟨4 * i, by omega, rfl⟩
        obtain ⟨q, hq1, hq3⟩ : ∃ q : Nat, 4 + (i : Int) = (q : Int) ∧ Hid (4 + i = q) := ⟨4 + i, by omega, Lib.hid rfl⟩
        have hq16 : q < 16 := by have := hq3.out; omega
        have j1 : (q : Int) < 16 := by omega
        have HW : Hid (wordsTo consts16 4 key (i + 1) = (wordsTo consts16 4 key i).set q (wordOf key i)) := Lib.hid (by rw [← hq3.out]; rfl)
        have HC := Lib.hid (word_at K 32 p i 32 key wr hp3 HKL.out.symm hBi.out.1.bytes (by rw [HKL.out]; omega) (by rw [HKL.out]; omega))
        have hwl := wordOf_lt key i
        generalize wordOf key i = wd at *
        obtain ⟨g1, f1, _⟩ := hBi.out.read q hq16
        generalize (wordsTo consts16 4 key i).getD q 0 = ov at *
        clear hp3
        go_wp2_with ((with_reducible refine HC.out.mono ?_); rintro _ _ ⟨rfl, nt, rfl⟩)
        exact ⟨⟨i + 1, by omega, by go_num, by rw [HW.out]; exact Lib.hid ((hBi.out.heap nt).set q wd hwl)⟩, by simp [intOf]; omega⟩
      · obtain rfl : i = 8 := by omega
        have i1 : ¬ (8 : Int) < 8 := by omega
        obtain ⟨x1, hx1⟩ : ∃ x1, wordsTo consts16 4 key 8 = x1 := ⟨_, rfl⟩
        rw [hx1] at hBi
        have HX1 := Lib.hid hx1
        clear hx1
        obtain ⟨g12, f12, _⟩ := hBi.out.read 12 (by omega)
        generalize x1.getD 12 0 = v12 at *
        have hB3 : Hid (BS w K N R X key nonce (x1.set 12 count) (wr.setCell ⟨X, 12, none⟩ (.int .u32 (count : Nat)))) := Lib.hid (hBi.out.set 12 count hc)
        go_wp2
        clear g12 f12
        obtain ⟨w3, hw3⟩ : ∃ w3, wr.setCell ⟨X, 12, none⟩ (.int .u32 (count : Nat)) = w3 := ⟨_, rfl⟩
        rw [hw3] at hB3 ⊢
        clear hw3 hBi
        go_loopw [9] (fun nv wr => ∃ i : Nat, i ≤ 3 ∧ nv = .int .i64 i ∧ Hid (BS w K N R X key nonce (wordsTo (x1.set 12 count) 13 nonce i) wr)) (fun nv _ => 3 - (intOf nv).toNat)
        case atStart => exact ⟨0, by omega, rfl, hB3⟩
        case round =>
          obtain ⟨i, hi, rfl, hBi⟩ := hrel
          by_cases hlt : i < 3
          · have i1 : (i : Int) < 3 := by omega
            obtain ⟨p, hp1, hp3⟩ : ∃ p : Nat, 4 * (i : Int) = (p : Int) ∧ 4 * i = p := ⟨4 * i, by omega, rfl⟩
            obtain ⟨q, hq1, hq3⟩ : ∃ q : Nat, 13 + (i : Int) = (q : Int) ∧ Hid (13 + i = q) := ⟨13 + i, by omega, Lib.hid rfl⟩
            have hq16 : q < 16 := by have := hq3.out; omega
            have j1 : (q : Int) < 16 := by omega
            have HW : Hid (wordsTo (x1.set 12 count) 13 nonce (i + 1) = (wordsTo (x1.set 12 count) 13 nonce i).set q (wordOf nonce i)) := Lib.hid (by rw [← hq3.out]; rfl)
            have HC := Lib.hid (word_at N 12 p i 12 nonce wr hp3 HNL.out.symm hBi.out.2.1.bytes (by rw [HNL.out]; omega) (by rw [HNL.out]; omega))
            have hwl := wordOf_lt nonce i
            generalize wordOf nonce i = wd at *
            obtain ⟨g1, f1, _⟩ := hBi.out.read q hq16
            generalize (wordsTo (x1.set 12 count) 13 nonce i).getD q 0 = ov at *
            clear hp3
            go_wp2_with ((with_reducible refine HC.out.mono ?_); rintro _ _ ⟨rfl, nt, rfl⟩)
            exact ⟨⟨i + 1, by omega, by go_num, by rw [HW.out]; exact Lib.hid ((hBi.out.heap nt).set q wd hwl)⟩, by simp [intOf]; omega⟩
          · obtain rfl : i = 3 := by omega
            have i1 : ¬ (3 : Int) < 3 := by omega
            have hB4 : Hid (BS w K N R X key nonce (xs16 key nonce count) wr) := Lib.hid (by unfold xs16; rw [HX1.out]; exact hBi.out)
            have HBK : Hid (blk key nonce count = outTo (roundsTo (xs16 key nonce count) 10) (xs16 key nonce count) 64) := Lib.hid rfl
            clear hBi HX1 hB3
            generalize xs16 key nonce count = x at *
            have h16 := hB4.out.2.2.2.2.1
            have HSX := Lib.hid (size16 h16)
            have HX16 := Lib.hid h16
            have hXs : X < wr.heap.size := hB4.out.2.2.2.1.lt
            have HXB := Lib.hid hB4.out.2.2.2.1
            obtain ⟨Y, hY⟩ : ∃ Y, wr.heap.size = Y := ⟨_, rfl⟩
            have HZ : Hid (BlkW 43 (wr.alloc (Obj.cells #[Value.int IntKind.u32 0, Value.int IntKind.u32 0, Value.int IntKind.u32 0, Value.int IntKind.u32 0, Value.int IntKind.u32 0, Value.int IntKind.u32 0, Value.int IntKind.u32 0, Value.int IntKind.u32 0, Value.int IntKind.u32 0, Value.int IntKind.u32 0, Value.int IntKind.u32 0, Value.int IntKind.u32 0, Value.int IntKind.u32 0, Value.int IntKind.u32 0, Value.int IntKind.u32 0, Value.int IntKind.u32 0] 43)) Y (List.replicate 16 0)) := Lib.hid (heap_at' hY)
            have HTH0 : Hid ((wr.alloc (Obj.cells #[Value.int IntKind.u32 0, Value.int IntKind.u32 0, Value.int IntKind.u32 0, Value.int IntKind.u32 0, Value.int IntKind.u32 0, Value.int IntKind.u32 0, Value.int IntKind.u32 0, Value.int IntKind.u32 0, Value.int IntKind.u32 0, Value.int IntKind.u32 0, Value.int IntKind.u32 0, Value.int IntKind.u32 0, Value.int IntKind.u32 0, Value.int IntKind.u32 0, Value.int IntKind.u32 0, Value.int IntKind.u32 0] 43)).there Y 0 (cellsW x).toArray.size) := Lib.hid (by have := HZ.out.there; rw [List.length_replicate] at this; simpa [cellsW_length, h16.1] using this)
            have hY0 : Hid (BY w K N R X Y key nonce x x ((wr.alloc (Obj.cells #[Value.int IntKind.u32 0, Value.int IntKind.u32 0, Value.int IntKind.u32 0, Value.int IntKind.u32 0, Value.int IntKind.u32 0, Value.int IntKind.u32 0, Value.int IntKind.u32 0, Value.int IntKind.u32 0, Value.int IntKind.u32 0, Value.int IntKind.u32 0, Value.int IntKind.u32 0, Value.int IntKind.u32 0, Value.int IntKind.u32 0, Value.int IntKind.u32 0, Value.int IntKind.u32 0, Value.int IntKind.u32 0] 43)).setCells Y 0 (cellsW x))) := Lib.hid ⟨hB4.out.keep (below_setCells (by omega) _ _ _ ((Below.refl _ _).alloc (by omega) _)), HZ.out.put (by rw [List.length_replicate, h16.1]), h16, by omega⟩
            clear h16 HZ hXs
            go_wp2_with (first
              | (refine wpList_load_row rfl 43 _ rfl X (by rfl) 43 (cellsW x).toArray (0, 0) _ HXB.out Try.underlying43 rfl (info16.trans HSX.out) ?_)
              | (refine wpList_store_mid rfl 43 _ _ rfl Y 0 (cellsW x).toArray (by rfl) (by rfl) HTH0.out (info16.trans HSX.out) (cellsW_all x) ?_))
            obtain ⟨wo, hwo⟩ : ∃ wo, (wr.alloc (Obj.cells #[Value.int IntKind.u32 0, Value.int IntKind.u32 0, Value.int IntKind.u32 0, Value.int IntKind.u32 0, Value.int IntKind.u32 0, Value.int IntKind.u32 0, Value.int IntKind.u32 0, Value.int IntKind.u32 0, Value.int IntKind.u32 0, Value.int IntKind.u32 0, Value.int IntKind.u32 0, Value.int IntKind.u32 0, Value.int IntKind.u32 0, Value.int IntKind.u32 0, Value.int IntKind.u32 0, Value.int IntKind.u32 0] 43)).setCells Y 0 (cellsW x) = wo := ⟨_, rfl⟩
            rw [hwo] at hY0 ⊢
            clear hwo hY HTH0 hB4 HXB
            go_loopw [11] (fun nv wr => ∃ i : Nat, i ≤ 10 ∧ nv = .int .i64 i ∧ Hid (BY w K N R X Y key nonce x (roundsTo x i) wr)) (fun nv _ => 10 - (intOf nv).toNat)
            case atStart => exact ⟨0, by omega, rfl, hY0⟩
            case round =>
              obtain ⟨i, hi, rfl, hYi⟩ := hrel
              by_cases hlt : i < 10
              · have i1 : (i : Int) < 10 := by omega
                obtain ⟨y0, hy0⟩ : ∃ y0, roundsTo x i = y0 := ⟨_, rfl⟩
                have H16 := Lib.hid (HX16.out.rounds i)
                rw [hy0] at hYi H16
                have HY0 := Lib.hid hy0.symm
                clear hy0
                go_wp2
                go_loopw [12] (fun kv wr => ∃ k : Nat, k ≤ 4 ∧ kv = .int .i64 k ∧ Hid (BY w K N R X Y key nonce x (colsTo y0 k) wr)) (fun kv _ => 4 - (intOf kv).toNat)
                case atStart => exact ⟨0, by omega, rfl, hYi⟩
                case round =>
                  obtain ⟨k, hk, rfl, hYk⟩ := hrel
                  by_cases hlt4 : k < 4
                  · have ik : (k : Int) < 4 := by omega
                    obtain ⟨b1, p1, r1⟩ : ∃ n : Nat, 4 + (k : Int) = (n : Int) ∧ 4 + k = n := ⟨4 + k, by omega, rfl⟩
                    obtain ⟨c1, p2, r2⟩ : ∃ n : Nat, 8 + (k : Int) = (n : Int) ∧ 8 + k = n := ⟨8 + k, by omega, rfl⟩
                    obtain ⟨d1, p3, r3⟩ : ∃ n : Nat, 12 + (k : Int) = (n : Int) ∧ 12 + k = n := ⟨12 + k, by omega, rfl⟩
                    have HQ0 := Lib.hid (quarter_at (colsTo y0 k) k b1 c1 d1 (H16.out.cols k) (by omega) (by omega) (by omega) (by omega) (by omega) (by omega) (by omega) (by omega) (by omega) (by omega))
                    have HE : Hid (qr (colsTo y0 k) k b1 c1 d1 = colsTo y0 (k + 1)) := Lib.hid (by subst r1 r2 r3; rfl)
                    have h1 := (H16.out.cols k)
                    have h2 := h1.qr k b1 c1 d1
                    have HS1 := Lib.hid (size16 h1)
                    have HS2 := Lib.hid (size16 h2)
                    have H2 := Lib.hid h2
                    clear h1 h2 r1 r2 r3
                    obtain ⟨y1, hy1⟩ : ∃ y1, qr (colsTo y0 k) k b1 c1 d1 = y1 := ⟨_, rfl⟩
                    rw [hy1] at HQ0 HE HS2 H2
                    obtain ⟨yk, hyk⟩ : ∃ yk, colsTo y0 k = yk := ⟨_, rfl⟩
                    rw [hyk] at HQ0 HS1 hYk
                    clear hy1 hyk
                    have HYB := Lib.hid hYk.out.2.1
                    go_wp2_with (first
                      | (refine wpList_load_row rfl 43 _ rfl Y (by rfl) 43 (cellsW yk).toArray (0, 0) _ HYB.out Try.underlying43 rfl (info16.trans HS1.out) ?_)
                      | ((with_reducible refine (HQ0.out _).mono ?_); rintro _ w5 ⟨rfl, hb5⟩; have HY5 := Lib.hid (hYk.out.later hb5); have HTH := Lib.hid (HY5.out.there H2.out))
                      | (refine wpList_store_mid rfl 43 _ _ rfl Y 0 (cellsW y1).toArray (by rfl) (by rfl) HTH.out (info16.trans HS2.out) (cellsW_all y1) ?_))
                    exact ⟨⟨k + 1, by omega, by go_num, by rw [← HE.out]; exact Lib.hid (HY5.out.put H2.out)⟩, by simp [intOf]; omega⟩
                  · obtain rfl : k = 4 := by omega
                    have ik : ¬ (4 : Int) < 4 := by omega
                    go_wp2
                    go_loopw [13] (fun kv wr => ∃ k : Nat, k ≤ 4 ∧ kv = .int .i64 k ∧ Hid (BY w K N R X Y key nonce x (diagTo (colsTo y0 4) k) wr)) (fun kv _ => 4 - (intOf kv).toNat)
                    case atStart => exact ⟨0, by omega, rfl, hYk⟩
                    case round =>
                      obtain ⟨k, hk, rfl, hYk⟩ := hrel
                      by_cases hlt4 : k < 4
                      · have ik : (k : Int) < 4 := by omega
                        obtain ⟨b0, o1, m1⟩ : ∃ n : Nat, ((k : Int) + 1) % 4 = (n : Int) ∧ (k + 1) % 4 = n := ⟨(k + 1) % 4, by omega, rfl⟩
                        obtain ⟨c0, o2, m2⟩ : ∃ n : Nat, ((k : Int) + 2) % 4 = (n : Int) ∧ (k + 2) % 4 = n := ⟨(k + 2) % 4, by omega, rfl⟩
                        obtain ⟨d0, o3, m3⟩ : ∃ n : Nat, ((k : Int) + 3) % 4 = (n : Int) ∧ (k + 3) % 4 = n := ⟨(k + 3) % 4, by omega, rfl⟩
                        obtain ⟨b1, p1, r1⟩ : ∃ n : Nat, 4 + (b0 : Int) = (n : Int) ∧ 4 + (k + 1) % 4 = n := ⟨4 + (k + 1) % 4, by omega, rfl⟩
                        obtain ⟨c1, p2, r2⟩ : ∃ n : Nat, 8 + (c0 : Int) = (n : Int) ∧ 8 + (k + 2) % 4 = n := ⟨8 + (k + 2) % 4, by omega, rfl⟩
                        obtain ⟨d1, p3, r3⟩ : ∃ n : Nat, 12 + (d0 : Int) = (n : Int) ∧ 12 + (k + 3) % 4 = n := ⟨12 + (k + 3) % 4, by omega, rfl⟩
                        have HQ0 := Lib.hid (quarter_at (diagTo (colsTo y0 4) k) k b1 c1 d1 ((H16.out.cols 4).diag k) (by omega) (by omega) (by omega) (by omega) (by omega) (by omega) (by omega) (by omega) (by omega) (by omega))
                        have HE : Hid (qr (diagTo (colsTo y0 4) k) k b1 c1 d1 = diagTo (colsTo y0 4) (k + 1)) := Lib.hid (by subst r1 r2 r3; rfl)
                        have h1 := ((H16.out.cols 4).diag k)
                        have h2 := h1.qr k b1 c1 d1
                        have HS1 := Lib.hid (size16 h1)
                        have HS2 := Lib.hid (size16 h2)
                        have H2 := Lib.hid h2
                        clear h1 h2 r1 r2 r3 m1 m2 m3
                        obtain ⟨y1, hy1⟩ : ∃ y1, qr (diagTo (colsTo y0 4) k) k b1 c1 d1 = y1 := ⟨_, rfl⟩
                        rw [hy1] at HQ0 HE HS2 H2
                        obtain ⟨yk, hyk⟩ : ∃ yk, diagTo (colsTo y0 4) k = yk := ⟨_, rfl⟩
                        rw [hyk] at HQ0 HS1 hYk
                        clear hy1 hyk
                        have HYB := Lib.hid hYk.out.2.1
                        go_wp2_with (first
                          | (refine wpList_load_row rfl 43 _ rfl Y (by rfl) 43 (cellsW yk).toArray (0, 0) _ HYB.out Try.underlying43 rfl (info16.trans HS1.out) ?_)
                          | ((with_reducible refine (HQ0.out _).mono ?_); rintro _ w5 ⟨rfl, hb5⟩; have HY5 := Lib.hid (hYk.out.later hb5); have HTH := Lib.hid (HY5.out.there H2.out))
                          | (refine wpList_store_mid rfl 43 _ _ rfl Y 0 (cellsW y1).toArray (by rfl) (by rfl) HTH.out (info16.trans HS2.out) (cellsW_all y1) ?_))
                        exact ⟨⟨k + 1, by omega, by go_num, by rw [← HE.out]; exact Lib.hid (HY5.out.put H2.out)⟩, by simp [intOf]; omega⟩
                      · obtain rfl : k = 4 := by omega
                        have ik : ¬ (4 : Int) < 4 := by omega
                        have hQ2 : Hid (diagTo (colsTo y0 4) 4 = roundsTo x (i + 1)) := Lib.hid (by show _ = diagTo (colsTo (roundsTo x i) 4) 4; rw [← HY0.out])
                        go_wp2
                        exact ⟨⟨i + 1, by omega, by go_num, by rw [← hQ2.out]; exact hYk⟩, by simp [intOf]; omega⟩
              · obtain rfl : i = 10 := by omega
                have i1 : ¬ (10 : Int) < 10 := by omega
                obtain ⟨y, hy⟩ : ∃ y, roundsTo x 10 = y := ⟨_, rfl⟩
                rw [hy] at hYi HBK
                clear hy
                have hYs : Y < wr.heap.size := hYi.out.2.1.lt
                have hO0 : Hid (BO w K N R X Y wr.heap.size key nonce x y (outTo y x 0) (wr.alloc (Obj.cells #[Value.int IntKind.u8 0, Value.int IntKind.u8 0, Value.int IntKind.u8 0, Value.int IntKind.u8 0, Value.int IntKind.u8 0, Value.int IntKind.u8 0, Value.int IntKind.u8 0, Value.int IntKind.u8 0, Value.int IntKind.u8 0, Value.int IntKind.u8 0, Value.int IntKind.u8 0, Value.int IntKind.u8 0, Value.int IntKind.u8 0, Value.int IntKind.u8 0, Value.int IntKind.u8 0, Value.int IntKind.u8 0, Value.int IntKind.u8 0, Value.int IntKind.u8 0, Value.int IntKind.u8 0, Value.int IntKind.u8 0, Value.int IntKind.u8 0, Value.int IntKind.u8 0, Value.int IntKind.u8 0, Value.int IntKind.u8 0, Value.int IntKind.u8 0, Value.int IntKind.u8 0, Value.int IntKind.u8 0, Value.int IntKind.u8 0, Value.int IntKind.u8 0, Value.int IntKind.u8 0, Value.int IntKind.u8 0, Value.int IntKind.u8 0, Value.int IntKind.u8 0, Value.int IntKind.u8 0, Value.int IntKind.u8 0, Value.int IntKind.u8 0, Value.int IntKind.u8 0, Value.int IntKind.u8 0, Value.int IntKind.u8 0, Value.int IntKind.u8 0, Value.int IntKind.u8 0, Value.int IntKind.u8 0, Value.int IntKind.u8 0, Value.int IntKind.u8 0, Value.int IntKind.u8 0, Value.int IntKind.u8 0, Value.int IntKind.u8 0, Value.int IntKind.u8 0, Value.int IntKind.u8 0, Value.int IntKind.u8 0, Value.int IntKind.u8 0, Value.int IntKind.u8 0, Value.int IntKind.u8 0, Value.int IntKind.u8 0, Value.int IntKind.u8 0, Value.int IntKind.u8 0, Value.int IntKind.u8 0, Value.int IntKind.u8 0, Value.int IntKind.u8 0, Value.int IntKind.u8 0, Value.int IntKind.u8 0, Value.int IntKind.u8 0, Value.int IntKind.u8 0, Value.int IntKind.u8 0] 28))) := Lib.hid (by
                  obtain ⟨h1, h2, h3, h4⟩ := hYi.out
                  exact ⟨⟨h1.keep ((Below.refl _ _).alloc (by omega) _), heap_keep h2, h3, h4⟩, by rw [outTo_zero]; exact heap_at wr _, by rw [outTo_zero]; simp, hYs⟩)
                obtain ⟨O, hO⟩ : ∃ O, wr.heap.size = O := ⟨_, rfl⟩
                rw [hO] at hO0
                go_wp2
                obtain ⟨wo, hwo⟩ : ∃ wo, wr.alloc (Obj.cells #[Value.int IntKind.u8 0, Value.int IntKind.u8 0, Value.int IntKind.u8 0, Value.int IntKind.u8 0, Value.int IntKind.u8 0, Value.int IntKind.u8 0, Value.int IntKind.u8 0, Value.int IntKind.u8 0, Value.int IntKind.u8 0, Value.int IntKind.u8 0, Value.int IntKind.u8 0, Value.int IntKind.u8 0, Value.int IntKind.u8 0, Value.int IntKind.u8 0, Value.int IntKind.u8 0, Value.int IntKind.u8 0, Value.int IntKind.u8 0, Value.int IntKind.u8 0, Value.int IntKind.u8 0, Value.int IntKind.u8 0, Value.int IntKind.u8 0, Value.int IntKind.u8 0, Value.int IntKind.u8 0, Value.int IntKind.u8 0, Value.int IntKind.u8 0, Value.int IntKind.u8 0, Value.int IntKind.u8 0, Value.int IntKind.u8 0, Value.int IntKind.u8 0, Value.int IntKind.u8 0, Value.int IntKind.u8 0, Value.int IntKind.u8 0, Value.int IntKind.u8 0, Value.int IntKind.u8 0, Value.int IntKind.u8 0, Value.int IntKind.u8 0, Value.int IntKind.u8 0, Value.int IntKind.u8 0, Value.int IntKind.u8 0, Value.int IntKind.u8 0, Value.int IntKind.u8 0, Value.int IntKind.u8 0, Value.int IntKind.u8 0, Value.int IntKind.u8 0, Value.int IntKind.u8 0, Value.int IntKind.u8 0, Value.int IntKind.u8 0, Value.int IntKind.u8 0, Value.int IntKind.u8 0, Value.int IntKind.u8 0, Value.int IntKind.u8 0, Value.int IntKind.u8 0, Value.int IntKind.u8 0, Value.int IntKind.u8 0, Value.int IntKind.u8 0, Value.int IntKind.u8 0, Value.int IntKind.u8 0, Value.int IntKind.u8 0, Value.int IntKind.u8 0, Value.int IntKind.u8 0, Value.int IntKind.u8 0, Value.int IntKind.u8 0, Value.int IntKind.u8 0, Value.int IntKind.u8 0] 28) = wo := ⟨_, rfl⟩
                rw [hwo] at hO0 ⊢
                clear hwo hO hYi hYs
                go_loopw [15] (fun nv wr => ∃ i : Nat, i ≤ 64 ∧ nv = .int .i64 i ∧ Hid (BO w K N R X Y O key nonce x y (outTo y x i) wr)) (fun nv _ => 64 - (intOf nv).toNat)
                case atStart => exact ⟨0, by omega, rfl, hO0⟩
                case round =>
                  obtain ⟨i, hi, rfl, hOi⟩ := hrel
                  by_cases hlti : i < 64
                  · have i2 : (i : Int) < 64 := by omega
                    obtain ⟨j, jd, jt, jw, jj⟩ : ∃ j : Nat, (i : Int) / 4 = (j : Int) ∧ (i : Int).tdiv 4 = (j : Int) ∧ IntKind.i64.wrap (j : Int) = (j : Int) ∧ i / 4 = j := ⟨i / 4, by omega, by rw [Int.tdiv_eq_ediv_of_nonneg (by omega)]; omega, IntWalk.i64_in _ (by omega), rfl⟩
                    obtain ⟨r, rd, rt, rw', rr⟩ : ∃ r : Nat, (i : Int) % 4 = (r : Int) ∧ (i : Int).tmod 4 = (r : Int) ∧ IntKind.i64.wrap (r : Int) = (r : Int) ∧ i % 4 = r := ⟨i % 4, by omega, by rw [Int.tmod_eq_emod_of_nonneg (by omega)]; omega, IntWalk.i64_in _ (by omega), rfl⟩
                    obtain ⟨e8, ed, ew, ee⟩ : ∃ e : Nat, 8 * (r : Int) = (e : Int) ∧ IntKind.i64.wrap (e : Int) = (e : Int) ∧ 8 * r = e := ⟨8 * r, by omega, IntWalk.i64_in _ (by omega), rfl⟩
                    have j16 : j < 16 := by omega
                    have r4 : r < 4 := by omega
                    have e24 : e8 ≤ 24 := by omega
                    have j1 : (j : Int) < 16 := by omega
                    obtain ⟨g1, _, l1⟩ := hOi.out.1.read j j16
                    obtain ⟨g2, _, l2⟩ := hOi.out.1.1.read j j16
                    have hBA : byteAt y x i = UInt8.ofNat (add32 (y.getD j 0) (x.getD j 0) / 2 ^ e8) := by unfold byteAt; rw [jj, rr, pow256, ee]
                    generalize y.getD j 0 = vy at *
                    generalize x.getD j 0 = vx at *
                    obtain ⟨s, p1, p2, q1, r1⟩ := sum_nat vy vx
                    rw [r1.out] at hBA
                    have hsh : Op.shift BinOp.shr IntKind.u32 (s : Int) IntKind.i64 (e8 : Int) = pure (.int .u32 ((s / 2 ^ e8 : Nat) : Int)) := by
                      refine (shift_shr .u32 .i64 (s : Int) (e8 : Int) (by omega) (by show (e8 : Int) ≤ 32; omega)).trans ?_
                      simp
                    have hsd : (s : Int) / 2 ^ e8 = ((s / 2 ^ e8 : Nat) : Int) := by simp
                    have hml : s / 2 ^ e8 < 4294967296 := Nat.lt_of_le_of_lt (Nat.div_le_self _ _) q1
                    generalize s / 2 ^ e8 = m at *
                    obtain ⟨b, hb1, hb2, hb3⟩ := byte_nat m
                    rw [hb3.out] at hBA
                    have hfin : Hid (∀ nq, BO w K N R X Y O key nonce x y (outTo y x (i + 1)) ((wr.drewN nq).setCell ⟨O, i, none⟩ (.int .u8 (b.toNat : Nat)))) := Lib.hid (fun nq => by
                      have := (hOi.out.drewN nq).set i b
                      rw [← hBA, outTo_succ _ _ _ hlti] at this
                      rw [← hBA]
                      exact this)
                    have hcl := hOi.out.2.1.cell i (by rw [hOi.out.2.2.1]; exact hlti)
                    generalize (outTo y x i)[i]'(by rw [hOi.out.2.2.1]; exact hlti) = ob at hcl
                    have hfr := hOi.out.2.1.free i
                    clear hBA jj rr ee
                    go_wp2
                    go_quiet (fail)
                    go_wp2
                    exact ⟨⟨i + 1, by omega, by go_num, Lib.hid (hfin.out nq)⟩, by simp [intOf]; omega⟩
                  · obtain rfl : i = 64 := by omega
                    have i2 : ¬ (64 : Int) < 64 := by omega
                    have hfin := hOi.out
                    have hBK2 : Hid (blk key nonce count = outTo y x 64) := HBK
                    obtain ⟨o, ho⟩ : ∃ o, outTo y x 64 = o := ⟨_, rfl⟩
                    rw [ho] at hBK2 hfin
                    have HBO := Lib.hid hfin.2.1
                    obtain ⟨r, hr, hr64⟩ := hfin.1.1.2.2.1
                    have HRB := Lib.hid hr
                    have ho64 := hfin.2.2.1
                    have HSZ : Hid (some 64 = some (cells8 o).toArray.size) := Lib.hid (by simp [cells8_length, ho64])
                    have HTH : Hid (wr.there R 0 (cells8 o).toArray.size) := Lib.hid (by have := hr.there; rw [hr64] at this; simpa [cells8_length, ho64] using this)
                    have HRL : Hid (r.length = o.length) := Lib.hid (by rw [hr64, ho64])
                    have HBW : Hid (Below K w wr ∧ K ≤ R) := Lib.hid ⟨hfin.1.1.2.2.2.2.2.1, by have := hfin.1.1.2.2.2.2.2.2; omega⟩
                    clear hfin hr hr64 ho64 ho HBK hOi
                    go_wp2_with (first
                      | (refine wpList_load_row rfl 28 _ rfl O (by rfl) 28 (cells8 o).toArray (0, 0) _ HBO.out Try.underlying28 rfl (info64.trans HSZ.out) ?_)
                      | (refine wpList_store_mid rfl 28 _ _ rfl R 0 (cells8 o).toArray (by rfl) (by rfl) HTH.out (info64.trans HSZ.out) (cells8_all o) ?_))
                    refine bodyPost_ret (results_cell_row rfl _ _ R 28 (cells8 o).toArray (0, 0) _ (by rfl) (HRB.out.put HRL.out) Try.underlying28 rfl (info64.trans HSZ.out)) rfl ?_
                    exact ⟨by rw [hBK2.out], below_setCells HBW.out.2 _ _ _ HBW.out.1⟩
end Go.Proofs.Ytogihaiedemdhaa

/- The walk over the statement PiecesumRecognizes. -/
import Derived.Test.YtejhfollfmdmpaaP11
import Derived.Test.YtejhfollfmdmpaaP14
namespace Go.Proofs.Ytejhfollfmdmpaa
open Go.RowKit

theorem run_neq_block {w : World} (a0 a1 a2 a3 a4 a5 a6 a7 b0 b1 b2 b3 b4 b5 b6 b7 : Nat) :
    (binOp .neq 24 (.agg #[bv a0, bv a1, bv a2, bv a3, bv a4, bv a5, bv a6, bv a7]) (.agg #[bv b0, bv b1, bv b2, bv b3, bv b4, bv b5, bv b6, bv b7])).run Try.prog w = .ok (.bool (!decide ([a0, a1, a2, a3, a4, a5, a6, a7] = [b0, b1, b2, b3, b4, b5, b6, b7]))) w := by
  have hi : (Try.prog.info? 5).map (·.size) = some 1 := by kernel_rfl
  obtain ⟨i, hi0, hs⟩ := Option.map_eq_some_iff.1 hi
  rw [run_neq_struct, run_equalIn_bytes8 w 9998 24 5 i Try.underlying24 Try.underlying5 hi0 hs]
  rfl

set_option maxHeartbeats 1000000 in
theorem PiecesumRecognizes_walk (A1 A2 : Option Addr) (n1 c1 n2 c2 : Nat) (l1 l2 : List Nat) (g p g' p' : Int) (v x0 x1 x2 x3 x4 x5 x6 x7 v' y0 y1 y2 y3 y4 y5 y6 y7 : Nat) (hx : Crc.Bytes [x0, x1, x2, x3, x4, x5, x6, x7]) (hy : Crc.Bytes [y0, y1, y2, y3, y4, y5, y6, y7]) (w : World)
    (hr1 : RU w w.heap.size A1 n1 l1) (hr2 : RU w w.heap.size A2 n2 l2) (hc1 : n1 ≤ c1) (hc2 : n2 ≤ c2) :
    Calls Try.prog 6 #[.agg #[.slice A1 n1 c1, .slice A2 n2 c2], .agg #[.int .i64 g, .int .i64 p, .int .u64 (v : Int), bv x0, bv x1, bv x2, bv x3, bv x4, bv x5, bv x6, bv x7], .agg #[.int .i64 g', .int .i64 p', .int .u64 (v' : Int), bv y0, bv y1, bv y2, bv y3, bv y4, bv y5, bv y6, bv y7]] w (True1 w) := by
  unfold True1
  have hl1 := hr1.len
  have hl2 := hr2.len
  obtain ⟨LC, hLC⟩ : ∃ LC : Array Value, LC = #[.slice A1 n1 c1, .slice A2 n2 c2] := ⟨_, rfl⟩
  obtain ⟨WC, hWC⟩ : ∃ WC : Array Value, WC = #[.int .i64 g, .int .i64 p, .int .u64 (v : Int), bv x0, bv x1, bv x2, bv x3, bv x4, bv x5, bv x6, bv x7] := ⟨_, rfl⟩
  obtain ⟨OC, hOC⟩ : ∃ OC : Array Value, OC = #[.int .i64 g', .int .i64 p', .int .u64 (v' : Int), bv y0, bv y1, bv y2, bv y3, bv y4, bv y5, bv y6, bv y7] := ⟨_, rfl⟩
  obtain ⟨w0, hw0⟩ : ∃ w0, w0 = ((w.alloc (.cells LC 32)).alloc (.cells WC 26)).alloc (.cells OC 26) := ⟨_, rfl⟩
  have hE0 : Blk w0 w.heap.size 32 LC ∧ Blk w0 (w.heap.size + 1) 26 WC ∧ Blk w0 (w.heap.size + 1 + 1) 26 OC := by
    rw [hw0]
    have e1 : (w.alloc (.cells LC 32)).heap.size = w.heap.size + 1 := by simp
    have e2 : ((w.alloc (.cells LC 32)).alloc (.cells WC 26)).heap.size = w.heap.size + 1 + 1 := by simp
    have h1 := (Blk.new (w.alloc (.cells LC 32)) 26 WC).alloc (.cells OC 26)
    have h2 := Blk.new ((w.alloc (.cells LC 32)).alloc (.cells WC 26)) 26 OC
    rw [e1] at h1
    rw [e2] at h2
    exact ⟨((Blk.new _ _ _).alloc _).alloc _, h1, h2⟩
  have hB0 : Below w.heap.size w w0 := by rw [hw0]; exact (((Below.refl _ _).alloc (Nat.le_refl _) _).alloc (by simp) _).alloc (by simp; omega) _
  obtain ⟨St, HSt⟩ : ∃ St : World → Prop, ∀ W, St W ↔ ((Blk W w.heap.size 32 LC ∧ Blk W (w.heap.size + 1) 26 WC ∧ Blk W (w.heap.size + 1 + 1) 26 OC) ∧ Below w.heap.size w W) := ⟨_, fun _ => Iff.rfl⟩
  have HT : Hid (∀ W W', St W → Below W.heap.size W W' → St W') := Lib.hid (fun W W' h hb => by
    obtain ⟨⟨h1, h2, h3⟩, h4⟩ := (HSt W).1 h
    exact (HSt W').2 ⟨⟨h1.below hb h1.lt, h2.below hb h2.lt, h3.below hb h3.lt⟩, h4.trans (hb.mono h4.size)⟩)
  have HA : Hid (∀ W, St W → Calls Try.prog 10 #[] W fun e w' => e = .returned (.bool true) ∧ St w') := Lib.hid (fun W h => (awake_any W).mono fun e w' ⟨h1, h2⟩ => ⟨h1, HT.out W w' h h2⟩)
  have HF : Hid (∀ W, St W → Calls Try.prog 16 #[.agg #[.slice A1 n1 c1, .slice A2 n2 c2]] W fun e w' => e = .returned (.bool (decide (n1 ≤ 40 ∧ n2 ≤ 40))) ∧ St w') := Lib.hid (fun W h => (fair_any _ _ _ _ _ _ W).mono fun e w' ⟨h1, h2⟩ => ⟨h1, HT.out W w' h h2⟩)
  have HLL : Hid (∀ W, St W → W.cell? ⟨w.heap.size, 0, none⟩ = some (.slice A1 n1 c1) ∧ W.cell? ⟨w.heap.size, 1, none⟩ = some (.slice A2 n2 c2)) := Lib.hid (fun W h => by
    obtain ⟨⟨h1, _, _⟩, _⟩ := (HSt W).1 h
    rw [hLC] at h1
    exact ⟨h1.cell 0, h1.cell 1⟩)
  have HLW : Hid (∀ W, St W → W.cell? ⟨w.heap.size + 1, 0, none⟩ = some (.int .i64 g) ∧ W.cell? ⟨w.heap.size + 1, 1, none⟩ = some (.int .i64 p) ∧ W.cell? ⟨w.heap.size + 1, 2, none⟩ = some (.int .u64 (v : Int)) ∧ W.cell? ⟨w.heap.size + 1, 3, none⟩ = some (bv x0) ∧ W.cell? ⟨w.heap.size + 1, 4, none⟩ = some (bv x1) ∧ W.cell? ⟨w.heap.size + 1, 5, none⟩ = some (bv x2) ∧ W.cell? ⟨w.heap.size + 1, 6, none⟩ = some (bv x3) ∧ W.cell? ⟨w.heap.size + 1, 7, none⟩ = some (bv x4) ∧ W.cell? ⟨w.heap.size + 1, 8, none⟩ = some (bv x5) ∧ W.cell? ⟨w.heap.size + 1, 9, none⟩ = some (bv x6) ∧ W.cell? ⟨w.heap.size + 1, 10, none⟩ = some (bv x7)) := Lib.hid (fun W h => by
    obtain ⟨⟨_, h1, _⟩, _⟩ := (HSt W).1 h
    rw [hWC] at h1
    exact ⟨h1.cell 0, h1.cell 1, h1.cell 2, h1.cell 3, h1.cell 4, h1.cell 5, h1.cell 6, h1.cell 7, h1.cell 8, h1.cell 9, h1.cell 10⟩)
  have HLO : Hid (∀ W, St W → W.cell? ⟨w.heap.size + 1 + 1, 0, none⟩ = some (.int .i64 g') ∧ W.cell? ⟨w.heap.size + 1 + 1, 1, none⟩ = some (.int .i64 p') ∧ W.cell? ⟨w.heap.size + 1 + 1, 2, none⟩ = some (.int .u64 (v' : Int)) ∧ W.cell? ⟨w.heap.size + 1 + 1, 3, none⟩ = some (bv y0) ∧ W.cell? ⟨w.heap.size + 1 + 1, 4, none⟩ = some (bv y1) ∧ W.cell? ⟨w.heap.size + 1 + 1, 5, none⟩ = some (bv y2) ∧ W.cell? ⟨w.heap.size + 1 + 1, 6, none⟩ = some (bv y3) ∧ W.cell? ⟨w.heap.size + 1 + 1, 7, none⟩ = some (bv y4) ∧ W.cell? ⟨w.heap.size + 1 + 1, 8, none⟩ = some (bv y5) ∧ W.cell? ⟨w.heap.size + 1 + 1, 9, none⟩ = some (bv y6) ∧ W.cell? ⟨w.heap.size + 1 + 1, 10, none⟩ = some (bv y7)) := Lib.hid (fun W h => by
    obtain ⟨⟨_, _, h1⟩, _⟩ := (HSt W).1 h
    rw [hOC] at h1
    exact ⟨h1.cell 0, h1.cell 1, h1.cell 2, h1.cell 3, h1.cell 4, h1.cell 5, h1.cell 6, h1.cell 7, h1.cell 8, h1.cell 9, h1.cell 10⟩)
  have HSB : Hid (∀ W, St W → Below w.heap.size w W) := Lib.hid (fun W h => ((HSt W).1 h).2)
  have HS0 : Hid (St w0) := Lib.hid ((HSt _).2 ⟨hE0, hB0⟩)
  rw [hLC, hWC, hOC] at hw0
  have Hw0 := Lib.hid hw0
  clear HSt hw0 hE0 hB0 hLC hWC hOC
  go_enter Try.func6, Try.ntmps6
  go_wp2_with fail
  rw [← Hw0.out]
  refine (HA.out _ HS0.out).mono ?_
  rintro e w1 ⟨rfl, hS1⟩
  have HS1 := Lib.hid hS1
  obtain ⟨k0, k1⟩ := HLL.out _ hS1
  clear hS1
  go_wp2_with fail
  refine (HF.out _ HS1.out).mono ?_
  clear k0 k1
  rintro e w2 ⟨rfl, hS2⟩
  have HS2 := Lib.hid hS2
  obtain ⟨k0, k1⟩ := HLL.out _ hS2
  obtain ⟨m0, m1, m2, m3, m4, m5, m6, m7, m8, m9, m10⟩ := HLW.out _ hS2
  clear hS2
  by_cases hf : n1 ≤ 40 ∧ n2 ≤ 40
  case neg =>
    rw [decide_eq_false hf]
    go_wp2_with fail
    refine (HA.out _ HS2.out).mono ?_
    rintro e w3 ⟨rfl, hS3⟩
    go_wp2
    go_ret
    exact ⟨rfl, HSB.out _ hS3⟩
  rw [decide_eq_true hf]
  go_wp2_with fail
  obtain ⟨q, hq⟩ : ∃ q, q = min n1 n2 := ⟨_, rfl⟩
  by_cases hp : 0 ≤ p ∧ p < (q : Int)
  case neg =>
    refine (set_no n1 c1 n2 c2 A1 A2 g p v x0 x1 x2 x3 x4 x5 x6 x7 q w2 hq hp).mono ?_
    rintro e w3 ⟨rfl, hb3⟩
    have hS3 := HT.out _ _ HS2.out hb3
    clear k0 k1 m0 m1 m2 m3 m4 m5 m6 m7 m8 m9 m10
    go_wp2
    go_ret
    exact ⟨rfl, (HSB.out _ hS3).alloc (HSB.out _ hS3).size _⟩
  obtain ⟨pn, rfl⟩ := Int.eq_ofNat_of_zero_le hp.1
  have hpq : pn < q := by have := hp.2; omega
  obtain ⟨ad1, rfl, hb1, _⟩ := hr1.at_ (show pn < n1 by omega)
  obtain ⟨ad2, rfl, hb2, _⟩ := hr2.at_ (show pn < n2 by omega)
  have hBw2 := HSB.out _ HS2.out
  refine (set_yes l1 l2 w.heap.size n1 c1 n2 c2 ad1 ad2 g pn v x0 x1 x2 x3 x4 x5 x6 x7 q hx w2 (hr1.below hBw2) (hr2.below hBw2) hBw2.size hc1 hc2 hq (by omega) hpq).mono ?_
  rintro e w3 ⟨g1, d1, g2, d2, rfl, _, _, _, _, _, hR1, hR2, hb3⟩
  have hS3 := HT.out _ _ HS2.out hb3
  obtain ⟨K1, hK1⟩ : ∃ K1, K1 = (l1.take q).set pn v := ⟨_, rfl⟩
  obtain ⟨K2, hK2⟩ : ∃ K2, K2 = (l2.take q).set pn (Crc.psum g pn v [x0, x1, x2, x3, x4, x5, x6, x7]) := ⟨_, rfl⟩
  have hlK1 : K1.length = q := by rw [hK1]; simp; omega
  have hlK2 : K2.length = q := by rw [hK2]; simp; omega
  have hq1 : RU w3 w3.heap.size (some ⟨g1, 0, none⟩) q K1 := by have h := hR1.reads; rw [← hK1, List.length_map, hlK1] at h; exact h
  have hq2 : RU w3 w3.heap.size (some ⟨g2, 0, none⟩) q K2 := by have h := hR2.reads; rw [← hK2, List.length_map, hlK2] at h; exact h
  obtain ⟨w4, hw4⟩ : ∃ w4, w4 = w3.alloc (.cells #[.slice (some ⟨g1, 0, none⟩) q d1, .slice (some ⟨g2, 0, none⟩) q d2] 32) := ⟨_, rfl⟩
  have hb4 : Below w3.heap.size w3 w4 := by rw [hw4]; exact (Below.refl _ _).alloc (Nat.le_refl _) _
  have hK4 : Blk w4 w3.heap.size 32 #[.slice (some ⟨g1, 0, none⟩) q d1, .slice (some ⟨g2, 0, none⟩) q d2] := by rw [hw4]; exact Blk.new _ _ _
  obtain ⟨S2, HS2'⟩ : ∃ S2 : World → Prop, ∀ W, S2 W ↔ (St W ∧ Blk W w3.heap.size 32 #[.slice (some ⟨g1, 0, none⟩) q d1, .slice (some ⟨g2, 0, none⟩) q d2] ∧ RU W w3.heap.size (some ⟨g1, 0, none⟩) q K1 ∧ RU W w3.heap.size (some ⟨g2, 0, none⟩) q K2 ∧ w3.heap.size ≤ W.heap.size ∧ Below w.heap.size w W) := ⟨_, fun _ => Iff.rfl⟩
  have HT2 : Hid (∀ W W', S2 W → Below W.heap.size W W' → S2 W') := Lib.hid (fun W W' h hb => by
    obtain ⟨h1, h2, h3, h4, h5, h6⟩ := (HS2' W).1 h
    exact (HS2' W').2 ⟨HT.out _ _ h1 hb, h2.below hb h2.lt, h3.below (hb.mono h5), h4.below (hb.mono h5), by have := hb.size; omega, h6.trans (hb.mono h6.size)⟩)
  have HS4 : Hid (S2 w4) := Lib.hid ((HS2' w4).2 ⟨HT.out _ _ hS3 hb4, hK4, hq1.below hb4, hq2.below hb4, hb4.size, HSB.out _ (HT.out _ _ hS3 hb4)⟩)
  have HSS : Hid (∀ W, S2 W → St W) := Lib.hid (fun W h => ((HS2' W).1 h).1)
  have HLK : Hid (∀ W, S2 W → W.cell? ⟨w3.heap.size, 0, none⟩ = some (.slice (some ⟨g1, 0, none⟩) q d1) ∧ W.cell? ⟨w3.heap.size, 1, none⟩ = some (.slice (some ⟨g2, 0, none⟩) q d2)) := Lib.hid (fun W h => by
    obtain ⟨_, h1, _⟩ := (HS2' W).1 h
    exact ⟨h1.cell 0, h1.cell 1⟩)
  have hX8 : [x0, x1, x2, x3, x4, x5, x6, x7].length = 8 := rfl
  have hY8 : [y0, y1, y2, y3, y4, y5, y6, y7].length = 8 := rfl
  have HGw : Hid (∀ W, S2 W → Calls Try.prog 22 #[.agg #[.slice (some ⟨g1, 0, none⟩) q d1, .slice (some ⟨g2, 0, none⟩) q d2], .int .i64 g, .int .i64 (pn : Int), .int .u64 (v : Int), .agg #[bv x0, bv x1, bv x2, bv x3, bv x4, bv x5, bv x6, bv x7]] W fun e w' => e = .returned (.bool true) ∧ S2 w') := Lib.hid (fun W h => by
    obtain ⟨h1, _, h3, h4, h5, _⟩ := (HS2' W).1 h
    refine (good_any _ _ w3.heap.size q d1 q d2 _ _ g (pn : Int) v x0 x1 x2 x3 x4 x5 x6 x7 hx W h3 h4 h5).mono ?_
    rintro e w' ⟨h6, h7⟩
    rw [hK1, hK2, set_good hl1 hl2 hq hpq] at h6
    exact ⟨h6, HT2.out _ _ h h7⟩)
  have HGy : Hid ([y0, y1, y2, y3, y4, y5, y6, y7] ≠ [x0, x1, x2, x3, x4, x5, x6, x7] → ∀ W, S2 W → Calls Try.prog 22 #[.agg #[.slice (some ⟨g1, 0, none⟩) q d1, .slice (some ⟨g2, 0, none⟩) q d2], .int .i64 g, .int .i64 (pn : Int), .int .u64 (v : Int), .agg #[bv y0, bv y1, bv y2, bv y3, bv y4, bv y5, bv y6, bv y7]] W fun e w' => e = .returned (.bool false) ∧ S2 w') := Lib.hid (fun hne W h => by
    obtain ⟨h1, _, h3, h4, h5, _⟩ := (HS2' W).1 h
    refine (good_any _ _ w3.heap.size q d1 q d2 _ _ g (pn : Int) v y0 y1 y2 y3 y4 y5 y6 y7 hy W h3 h4 h5).mono ?_
    rintro e w' ⟨h6, h7⟩
    rw [hK1, hK2, set_data hl1 hl2 hq hpq hx hy hX8 hY8 hne] at h6
    exact ⟨h6, HT2.out _ _ h h7⟩)
  have HGv : Hid (v' ≠ v → ∀ W, S2 W → Calls Try.prog 22 #[.agg #[.slice (some ⟨g1, 0, none⟩) q d1, .slice (some ⟨g2, 0, none⟩) q d2], .int .i64 g, .int .i64 (pn : Int), .int .u64 (v' : Int), .agg #[bv y0, bv y1, bv y2, bv y3, bv y4, bv y5, bv y6, bv y7]] W fun e w' => e = .returned (.bool false) ∧ S2 w') := Lib.hid (fun hne W h => by
    obtain ⟨h1, _, h3, h4, h5, _⟩ := (HS2' W).1 h
    refine (good_any _ _ w3.heap.size q d1 q d2 _ _ g (pn : Int) v' y0 y1 y2 y3 y4 y5 y6 y7 hy W h3 h4 h5).mono ?_
    rintro e w' ⟨h6, h7⟩
    rw [hK1, hK2, set_ver hl1 hl2 hq hpq hne] at h6
    exact ⟨h6, HT2.out _ _ h h7⟩)
  obtain ⟨GB, hGB⟩ : ∃ GB : Bool, GB = goodB l1 l2 g' p' v' [y0, y1, y2, y3, y4, y5, y6, y7] := ⟨_, rfl⟩
  have HGo : Hid (p' ≠ (pn : Int) → ∀ W, S2 W → Calls Try.prog 22 #[.agg #[.slice (some ⟨g1, 0, none⟩) q d1, .slice (some ⟨g2, 0, none⟩) q d2], .int .i64 g', .int .i64 p', .int .u64 (v' : Int), .agg #[bv y0, bv y1, bv y2, bv y3, bv y4, bv y5, bv y6, bv y7]] W fun e w' => e = .returned (.bool GB) ∧ S2 w') := Lib.hid (fun hne W h => by
    obtain ⟨h1, _, h3, h4, h5, _⟩ := (HS2' W).1 h
    refine (good_any _ _ w3.heap.size q d1 q d2 _ _ g' p' v' y0 y1 y2 y3 y4 y5 y6 y7 hy W h3 h4 h5).mono ?_
    rintro e w' ⟨h6, h7⟩
    rw [hK1, hK2, set_other hl1 hl2 hq hne, ← hGB] at h6
    exact ⟨h6, HT2.out _ _ h h7⟩)
  have HGl : Hid (∀ W, S2 W → Calls Try.prog 22 #[.agg #[.slice (some ad1) n1 c1, .slice (some ad2) n2 c2], .int .i64 g', .int .i64 p', .int .u64 (v' : Int), .agg #[bv y0, bv y1, bv y2, bv y3, bv y4, bv y5, bv y6, bv y7]] W fun e w' => e = .returned (.bool GB) ∧ S2 w') := Lib.hid (fun W h => by
    have hb := ((HS2' W).1 h).2.2.2.2.2
    refine (good_any l1 l2 w.heap.size n1 c1 n2 c2 _ _ g' p' v' y0 y1 y2 y3 y4 y5 y6 y7 hy W (hr1.below hb) (hr2.below hb) hb.size).mono ?_
    rintro e w' ⟨h6, h7⟩
    rw [← hGB] at h6
    exact ⟨h6, HT2.out _ _ h h7⟩)
  have Hw4 := Lib.hid hw4
  clear hx hy hr1 hr2 hl1 hl2 hK1 hK2 hlK1 hlK2 hR1 hR2 hq1 hq2 hb3 hb4 hK4 hw4 HS2' hS3 hGB hBw2 hb1 hb2 hX8 hY8 hf k0 k1 m0 m1 m2 m3 m4 m5 m6 m7 m8 m9 m10 HS0 HS1 HS2 HA HF hq hp hpq
  obtain ⟨k0, k1⟩ := HLK.out _ HS4.out
  obtain ⟨m0, m1, m2, m3, m4, m5, m6, m7, m8, m9, m10⟩ := HLW.out _ (HSS.out _ HS4.out)
  rw [Hw4.out] at k0 k1 m0 m1 m2 m3 m4 m5 m6 m7 m8 m9 m10
  go_wp2_with fail
  rw [← Hw4.out]
  refine (HGw.out _ HS4.out).mono ?_
  clear k0 k1 m0 m1 m2 m3 m4 m5 m6 m7 m8 m9 m10
  rintro e w5 ⟨rfl, hS5⟩
  have HS5 := Lib.hid hS5
  obtain ⟨k0, k1⟩ := HLK.out _ hS5
  obtain ⟨m0, m1, m2, m3, m4, m5, m6, m7, m8, m9, m10⟩ := HLW.out _ (HSS.out _ hS5)
  obtain ⟨o0, o1, o2, o3, o4, o5, o6, o7, o8, o9, o10⟩ := HLO.out _ (HSS.out _ hS5)
  clear hS5
  --TAIL
  by_cases hd : [y0, y1, y2, y3, y4, y5, y6, y7] = [x0, x1, x2, x3, x4, x5, x6, x7]
  · by_cases hv : v' = v
    · have qN : ∀ W : World, (binOp .neq 24 (.agg #[bv y0, bv y1, bv y2, bv y3, bv y4, bv y5, bv y6, bv y7]) (.agg #[bv x0, bv x1, bv x2, bv x3, bv x4, bv x5, bv x6, bv x7])).run Try.prog W = .ok (.bool false) W := fun W => by rw [run_neq_block, decide_eq_true hd]; rfl
      have tv : ((v' : Int) != (v : Int)) = false := by rw [hv]; exact bne_self_eq_false _
      clear hv
      go_wp2_with fail
      clear k0 k1 m0 m1 m2 m3 m4 m5 m6 m7 m8 m9 m10 o0 o1 o2 o3 o4 o5 o6 o7 o8 o9 o10
      have hSd : S2 w5.drew := HT2.out _ _ HS5.out (Below.refl _ _).drew
      have HSd := Lib.hid hSd
      clear hSd
      have inh : Nonempty (Cls S2) := ⟨⟨_, HSd.out⟩⟩
      have a0 : ∀ z : Cls S2, z.W.cell? ⟨w3.heap.size, 0, none⟩ = some (.slice (some ⟨g1, 0, none⟩) q d1) := fun z => (HLK.out _ z.ok).1
      have a1 : ∀ z : Cls S2, z.W.cell? ⟨w3.heap.size, 1, none⟩ = some (.slice (some ⟨g2, 0, none⟩) q d2) := fun z => (HLK.out _ z.ok).2
      have b0 : ∀ z : Cls S2, z.W.cell? ⟨w.heap.size, 0, none⟩ = some (.slice (some ad1) n1 c1) := fun z => (HLL.out _ (HSS.out _ z.ok)).1
      have b1 : ∀ z : Cls S2, z.W.cell? ⟨w.heap.size, 1, none⟩ = some (.slice (some ad2) n2 c2) := fun z => (HLL.out _ (HSS.out _ z.ok)).2
      have b2 : ∀ z : Cls S2, z.W.cell? ⟨w.heap.size + 1, 1, none⟩ = some (.int .i64 (pn : Int)) := fun z => (HLW.out _ (HSS.out _ z.ok)).2.1
      have e0 : ∀ z : Cls S2, z.W.cell? ⟨w.heap.size + 1 + 1, 0, none⟩ = some (.int .i64 g') := fun z => (HLO.out _ (HSS.out _ z.ok)).1
      have e1 : ∀ z : Cls S2, z.W.cell? ⟨w.heap.size + 1 + 1, 1, none⟩ = some (.int .i64 p') := fun z => (HLO.out _ (HSS.out _ z.ok)).2.1
      have e2 : ∀ z : Cls S2, z.W.cell? ⟨w.heap.size + 1 + 1, 2, none⟩ = some (.int .u64 (v' : Int)) := fun z => (HLO.out _ (HSS.out _ z.ok)).2.2.1
      have e3 : ∀ z : Cls S2, z.W.cell? ⟨w.heap.size + 1 + 1, 3, none⟩ = some (bv y0) := fun z => (HLO.out _ (HSS.out _ z.ok)).2.2.2.1
      have e4 : ∀ z : Cls S2, z.W.cell? ⟨w.heap.size + 1 + 1, 4, none⟩ = some (bv y1) := fun z => (HLO.out _ (HSS.out _ z.ok)).2.2.2.2.1
      have e5 : ∀ z : Cls S2, z.W.cell? ⟨w.heap.size + 1 + 1, 5, none⟩ = some (bv y2) := fun z => (HLO.out _ (HSS.out _ z.ok)).2.2.2.2.2.1
      have e6 : ∀ z : Cls S2, z.W.cell? ⟨w.heap.size + 1 + 1, 6, none⟩ = some (bv y3) := fun z => (HLO.out _ (HSS.out _ z.ok)).2.2.2.2.2.2.1
      have e7 : ∀ z : Cls S2, z.W.cell? ⟨w.heap.size + 1 + 1, 7, none⟩ = some (bv y4) := fun z => (HLO.out _ (HSS.out _ z.ok)).2.2.2.2.2.2.2.1
      have e8 : ∀ z : Cls S2, z.W.cell? ⟨w.heap.size + 1 + 1, 8, none⟩ = some (bv y5) := fun z => (HLO.out _ (HSS.out _ z.ok)).2.2.2.2.2.2.2.2.1
      have e9 : ∀ z : Cls S2, z.W.cell? ⟨w.heap.size + 1 + 1, 9, none⟩ = some (bv y6) := fun z => (HLO.out _ (HSS.out _ z.ok)).2.2.2.2.2.2.2.2.2.1
      have e10 : ∀ z : Cls S2, z.W.cell? ⟨w.heap.size + 1 + 1, 10, none⟩ = some (bv y7) := fun z => (HLO.out _ (HSS.out _ z.ok)).2.2.2.2.2.2.2.2.2.2
      have tG : (GB == GB) = true := beq_self_eq_true GB
      by_cases ho : p' = (pn : Int)
      · have t0 : (p' == (pn : Int)) = true := beq_iff_eq.2 ho
        refine wp_region_cls S2 (by kernel_rfl) (by kernel_rfl) HSd.out ?_
        repeat (go_big_quiet_step (first | (go_at_call 22; (with_reducible first | exact cls_call (HGo.out ho) | exact cls_call HGl.out))))
        refine wpQuiet_nil ?_
        rintro _ ⟨zq, rfl⟩
        go_wp2
        go_ret
        exact ⟨rfl, HSB.out _ (HSS.out _ zq.ok)⟩
      · have t0 : (p' == (pn : Int)) = false := beq_eq_false_iff_ne.2 ho
        refine wp_region_cls S2 (by kernel_rfl) (by kernel_rfl) HSd.out ?_
        repeat (go_big_quiet_step (first | (go_at_call 22; (with_reducible first | exact cls_call (HGo.out ho) | exact cls_call HGl.out))))
        refine wpQuiet_nil ?_
        rintro _ ⟨zq, rfl⟩
        go_wp2
        go_ret
        exact ⟨rfl, HSB.out _ (HSS.out _ zq.ok)⟩
    · have qN : ∀ W : World, (binOp .neq 24 (.agg #[bv y0, bv y1, bv y2, bv y3, bv y4, bv y5, bv y6, bv y7]) (.agg #[bv x0, bv x1, bv x2, bv x3, bv x4, bv x5, bv x6, bv x7])).run Try.prog W = .ok (.bool false) W := fun W => by rw [run_neq_block, decide_eq_true hd]; rfl
      have tv : ((v' : Int) != (v : Int)) = true := bne_iff_ne.2 (by omega)
      go_wp2_with fail
      refine (HGv.out hv _ HS5.out).mono ?_
      clear k0 k1 m0 m1 m2 m3 m4 m5 m6 m7 m8 m9 m10 o0 o1 o2 o3 o4 o5 o6 o7 o8 o9 o10
      rintro e w7 ⟨rfl, hS7⟩
      have HS7 := Lib.hid hS7
      obtain ⟨k0, k1⟩ := HLK.out _ hS7
      obtain ⟨m0, m1, m2, m3, m4, m5, m6, m7, m8, m9, m10⟩ := HLW.out _ (HSS.out _ hS7)
      obtain ⟨o0, o1, o2, o3, o4, o5, o6, o7, o8, o9, o10⟩ := HLO.out _ (HSS.out _ hS7)
      clear hS7
      go_wp2_with fail
      clear k0 k1 m0 m1 m2 m3 m4 m5 m6 m7 m8 m9 m10 o0 o1 o2 o3 o4 o5 o6 o7 o8 o9 o10
      have hSd : S2 w7.drew := HT2.out _ _ HS7.out (Below.refl _ _).drew
      have HSd := Lib.hid hSd
      clear hSd
      have inh : Nonempty (Cls S2) := ⟨⟨_, HSd.out⟩⟩
      have a0 : ∀ z : Cls S2, z.W.cell? ⟨w3.heap.size, 0, none⟩ = some (.slice (some ⟨g1, 0, none⟩) q d1) := fun z => (HLK.out _ z.ok).1
      have a1 : ∀ z : Cls S2, z.W.cell? ⟨w3.heap.size, 1, none⟩ = some (.slice (some ⟨g2, 0, none⟩) q d2) := fun z => (HLK.out _ z.ok).2
      have b0 : ∀ z : Cls S2, z.W.cell? ⟨w.heap.size, 0, none⟩ = some (.slice (some ad1) n1 c1) := fun z => (HLL.out _ (HSS.out _ z.ok)).1
      have b1 : ∀ z : Cls S2, z.W.cell? ⟨w.heap.size, 1, none⟩ = some (.slice (some ad2) n2 c2) := fun z => (HLL.out _ (HSS.out _ z.ok)).2
      have b2 : ∀ z : Cls S2, z.W.cell? ⟨w.heap.size + 1, 1, none⟩ = some (.int .i64 (pn : Int)) := fun z => (HLW.out _ (HSS.out _ z.ok)).2.1
      have e0 : ∀ z : Cls S2, z.W.cell? ⟨w.heap.size + 1 + 1, 0, none⟩ = some (.int .i64 g') := fun z => (HLO.out _ (HSS.out _ z.ok)).1
      have e1 : ∀ z : Cls S2, z.W.cell? ⟨w.heap.size + 1 + 1, 1, none⟩ = some (.int .i64 p') := fun z => (HLO.out _ (HSS.out _ z.ok)).2.1
      have e2 : ∀ z : Cls S2, z.W.cell? ⟨w.heap.size + 1 + 1, 2, none⟩ = some (.int .u64 (v' : Int)) := fun z => (HLO.out _ (HSS.out _ z.ok)).2.2.1
      have e3 : ∀ z : Cls S2, z.W.cell? ⟨w.heap.size + 1 + 1, 3, none⟩ = some (bv y0) := fun z => (HLO.out _ (HSS.out _ z.ok)).2.2.2.1
      have e4 : ∀ z : Cls S2, z.W.cell? ⟨w.heap.size + 1 + 1, 4, none⟩ = some (bv y1) := fun z => (HLO.out _ (HSS.out _ z.ok)).2.2.2.2.1
      have e5 : ∀ z : Cls S2, z.W.cell? ⟨w.heap.size + 1 + 1, 5, none⟩ = some (bv y2) := fun z => (HLO.out _ (HSS.out _ z.ok)).2.2.2.2.2.1
      have e6 : ∀ z : Cls S2, z.W.cell? ⟨w.heap.size + 1 + 1, 6, none⟩ = some (bv y3) := fun z => (HLO.out _ (HSS.out _ z.ok)).2.2.2.2.2.2.1
      have e7 : ∀ z : Cls S2, z.W.cell? ⟨w.heap.size + 1 + 1, 7, none⟩ = some (bv y4) := fun z => (HLO.out _ (HSS.out _ z.ok)).2.2.2.2.2.2.2.1
      have e8 : ∀ z : Cls S2, z.W.cell? ⟨w.heap.size + 1 + 1, 8, none⟩ = some (bv y5) := fun z => (HLO.out _ (HSS.out _ z.ok)).2.2.2.2.2.2.2.2.1
      have e9 : ∀ z : Cls S2, z.W.cell? ⟨w.heap.size + 1 + 1, 9, none⟩ = some (bv y6) := fun z => (HLO.out _ (HSS.out _ z.ok)).2.2.2.2.2.2.2.2.2.1
      have e10 : ∀ z : Cls S2, z.W.cell? ⟨w.heap.size + 1 + 1, 10, none⟩ = some (bv y7) := fun z => (HLO.out _ (HSS.out _ z.ok)).2.2.2.2.2.2.2.2.2.2
      have tG : (GB == GB) = true := beq_self_eq_true GB
      by_cases ho : p' = (pn : Int)
      · have t0 : (p' == (pn : Int)) = true := beq_iff_eq.2 ho
        refine wp_region_cls S2 (by kernel_rfl) (by kernel_rfl) HSd.out ?_
        repeat (go_big_quiet_step (first | (go_at_call 22; (with_reducible first | exact cls_call (HGo.out ho) | exact cls_call HGl.out))))
        refine wpQuiet_nil ?_
        rintro _ ⟨zq, rfl⟩
        go_wp2
        go_ret
        exact ⟨rfl, HSB.out _ (HSS.out _ zq.ok)⟩
      · have t0 : (p' == (pn : Int)) = false := beq_eq_false_iff_ne.2 ho
        refine wp_region_cls S2 (by kernel_rfl) (by kernel_rfl) HSd.out ?_
        repeat (go_big_quiet_step (first | (go_at_call 22; (with_reducible first | exact cls_call (HGo.out ho) | exact cls_call HGl.out))))
        refine wpQuiet_nil ?_
        rintro _ ⟨zq, rfl⟩
        go_wp2
        go_ret
        exact ⟨rfl, HSB.out _ (HSS.out _ zq.ok)⟩
  · by_cases hv : v' = v
    · have qN : ∀ W : World, (binOp .neq 24 (.agg #[bv y0, bv y1, bv y2, bv y3, bv y4, bv y5, bv y6, bv y7]) (.agg #[bv x0, bv x1, bv x2, bv x3, bv x4, bv x5, bv x6, bv x7])).run Try.prog W = .ok (.bool true) W := fun W => by rw [run_neq_block, decide_eq_false hd]; rfl
      have tv : ((v' : Int) != (v : Int)) = false := by rw [hv]; exact bne_self_eq_false _
      clear hv
      go_wp2_with fail
      refine (HGy.out hd _ HS5.out).mono ?_
      clear k0 k1 m0 m1 m2 m3 m4 m5 m6 m7 m8 m9 m10 o0 o1 o2 o3 o4 o5 o6 o7 o8 o9 o10
      rintro e w6 ⟨rfl, hS6⟩
      have HS6 := Lib.hid hS6
      obtain ⟨k0, k1⟩ := HLK.out _ hS6
      obtain ⟨m0, m1, m2, m3, m4, m5, m6, m7, m8, m9, m10⟩ := HLW.out _ (HSS.out _ hS6)
      obtain ⟨o0, o1, o2, o3, o4, o5, o6, o7, o8, o9, o10⟩ := HLO.out _ (HSS.out _ hS6)
      clear hS6
      go_wp2_with fail
      clear k0 k1 m0 m1 m2 m3 m4 m5 m6 m7 m8 m9 m10 o0 o1 o2 o3 o4 o5 o6 o7 o8 o9 o10
      have hSd : S2 w6.drew := HT2.out _ _ HS6.out (Below.refl _ _).drew
      have HSd := Lib.hid hSd
      clear hSd
      have inh : Nonempty (Cls S2) := ⟨⟨_, HSd.out⟩⟩
      have a0 : ∀ z : Cls S2, z.W.cell? ⟨w3.heap.size, 0, none⟩ = some (.slice (some ⟨g1, 0, none⟩) q d1) := fun z => (HLK.out _ z.ok).1
      have a1 : ∀ z : Cls S2, z.W.cell? ⟨w3.heap.size, 1, none⟩ = some (.slice (some ⟨g2, 0, none⟩) q d2) := fun z => (HLK.out _ z.ok).2
      have b0 : ∀ z : Cls S2, z.W.cell? ⟨w.heap.size, 0, none⟩ = some (.slice (some ad1) n1 c1) := fun z => (HLL.out _ (HSS.out _ z.ok)).1
      have b1 : ∀ z : Cls S2, z.W.cell? ⟨w.heap.size, 1, none⟩ = some (.slice (some ad2) n2 c2) := fun z => (HLL.out _ (HSS.out _ z.ok)).2
      have b2 : ∀ z : Cls S2, z.W.cell? ⟨w.heap.size + 1, 1, none⟩ = some (.int .i64 (pn : Int)) := fun z => (HLW.out _ (HSS.out _ z.ok)).2.1
      have e0 : ∀ z : Cls S2, z.W.cell? ⟨w.heap.size + 1 + 1, 0, none⟩ = some (.int .i64 g') := fun z => (HLO.out _ (HSS.out _ z.ok)).1
      have e1 : ∀ z : Cls S2, z.W.cell? ⟨w.heap.size + 1 + 1, 1, none⟩ = some (.int .i64 p') := fun z => (HLO.out _ (HSS.out _ z.ok)).2.1
      have e2 : ∀ z : Cls S2, z.W.cell? ⟨w.heap.size + 1 + 1, 2, none⟩ = some (.int .u64 (v' : Int)) := fun z => (HLO.out _ (HSS.out _ z.ok)).2.2.1
      have e3 : ∀ z : Cls S2, z.W.cell? ⟨w.heap.size + 1 + 1, 3, none⟩ = some (bv y0) := fun z => (HLO.out _ (HSS.out _ z.ok)).2.2.2.1
      have e4 : ∀ z : Cls S2, z.W.cell? ⟨w.heap.size + 1 + 1, 4, none⟩ = some (bv y1) := fun z => (HLO.out _ (HSS.out _ z.ok)).2.2.2.2.1
      have e5 : ∀ z : Cls S2, z.W.cell? ⟨w.heap.size + 1 + 1, 5, none⟩ = some (bv y2) := fun z => (HLO.out _ (HSS.out _ z.ok)).2.2.2.2.2.1
      have e6 : ∀ z : Cls S2, z.W.cell? ⟨w.heap.size + 1 + 1, 6, none⟩ = some (bv y3) := fun z => (HLO.out _ (HSS.out _ z.ok)).2.2.2.2.2.2.1
      have e7 : ∀ z : Cls S2, z.W.cell? ⟨w.heap.size + 1 + 1, 7, none⟩ = some (bv y4) := fun z => (HLO.out _ (HSS.out _ z.ok)).2.2.2.2.2.2.2.1
      have e8 : ∀ z : Cls S2, z.W.cell? ⟨w.heap.size + 1 + 1, 8, none⟩ = some (bv y5) := fun z => (HLO.out _ (HSS.out _ z.ok)).2.2.2.2.2.2.2.2.1
      have e9 : ∀ z : Cls S2, z.W.cell? ⟨w.heap.size + 1 + 1, 9, none⟩ = some (bv y6) := fun z => (HLO.out _ (HSS.out _ z.ok)).2.2.2.2.2.2.2.2.2.1
      have e10 : ∀ z : Cls S2, z.W.cell? ⟨w.heap.size + 1 + 1, 10, none⟩ = some (bv y7) := fun z => (HLO.out _ (HSS.out _ z.ok)).2.2.2.2.2.2.2.2.2.2
      have tG : (GB == GB) = true := beq_self_eq_true GB
      by_cases ho : p' = (pn : Int)
      · have t0 : (p' == (pn : Int)) = true := beq_iff_eq.2 ho
        refine wp_region_cls S2 (by kernel_rfl) (by kernel_rfl) HSd.out ?_
        repeat (go_big_quiet_step (first | (go_at_call 22; (with_reducible first | exact cls_call (HGo.out ho) | exact cls_call HGl.out))))
        refine wpQuiet_nil ?_
        rintro _ ⟨zq, rfl⟩
        go_wp2
        go_ret
        exact ⟨rfl, HSB.out _ (HSS.out _ zq.ok)⟩
      · have t0 : (p' == (pn : Int)) = false := beq_eq_false_iff_ne.2 ho
        refine wp_region_cls S2 (by kernel_rfl) (by kernel_rfl) HSd.out ?_
        repeat (go_big_quiet_step (first | (go_at_call 22; (with_reducible first | exact cls_call (HGo.out ho) | exact cls_call HGl.out))))
        refine wpQuiet_nil ?_
        rintro _ ⟨zq, rfl⟩
        go_wp2
        go_ret
        exact ⟨rfl, HSB.out _ (HSS.out _ zq.ok)⟩
    · have qN : ∀ W : World, (binOp .neq 24 (.agg #[bv y0, bv y1, bv y2, bv y3, bv y4, bv y5, bv y6, bv y7]) (.agg #[bv x0, bv x1, bv x2, bv x3, bv x4, bv x5, bv x6, bv x7])).run Try.prog W = .ok (.bool true) W := fun W => by rw [run_neq_block, decide_eq_false hd]; rfl
      have tv : ((v' : Int) != (v : Int)) = true := bne_iff_ne.2 (by omega)
      go_wp2_with fail
      refine (HGy.out hd _ HS5.out).mono ?_
      clear k0 k1 m0 m1 m2 m3 m4 m5 m6 m7 m8 m9 m10 o0 o1 o2 o3 o4 o5 o6 o7 o8 o9 o10
      rintro e w6 ⟨rfl, hS6⟩
      have HS6 := Lib.hid hS6
      obtain ⟨k0, k1⟩ := HLK.out _ hS6
      obtain ⟨m0, m1, m2, m3, m4, m5, m6, m7, m8, m9, m10⟩ := HLW.out _ (HSS.out _ hS6)
      obtain ⟨o0, o1, o2, o3, o4, o5, o6, o7, o8, o9, o10⟩ := HLO.out _ (HSS.out _ hS6)
      clear hS6
      go_wp2_with fail
      refine (HGv.out hv _ HS6.out).mono ?_
      clear k0 k1 m0 m1 m2 m3 m4 m5 m6 m7 m8 m9 m10 o0 o1 o2 o3 o4 o5 o6 o7 o8 o9 o10
      rintro e w7 ⟨rfl, hS7⟩
      have HS7 := Lib.hid hS7
      obtain ⟨k0, k1⟩ := HLK.out _ hS7
      obtain ⟨m0, m1, m2, m3, m4, m5, m6, m7, m8, m9, m10⟩ := HLW.out _ (HSS.out _ hS7)
      obtain ⟨o0, o1, o2, o3, o4, o5, o6, o7, o8, o9, o10⟩ := HLO.out _ (HSS.out _ hS7)
      clear hS7
      go_wp2_with fail
      clear k0 k1 m0 m1 m2 m3 m4 m5 m6 m7 m8 m9 m10 o0 o1 o2 o3 o4 o5 o6 o7 o8 o9 o10
      have hSd : S2 w7.drew := HT2.out _ _ HS7.out (Below.refl _ _).drew
      have HSd := Lib.hid hSd
      clear hSd
      have inh : Nonempty (Cls S2) := ⟨⟨_, HSd.out⟩⟩
      have a0 : ∀ z : Cls S2, z.W.cell? ⟨w3.heap.size, 0, none⟩ = some (.slice (some ⟨g1, 0, none⟩) q d1) := fun z => (HLK.out _ z.ok).1
      have a1 : ∀ z : Cls S2, z.W.cell? ⟨w3.heap.size, 1, none⟩ = some (.slice (some ⟨g2, 0, none⟩) q d2) := fun z => (HLK.out _ z.ok).2
      have b0 : ∀ z : Cls S2, z.W.cell? ⟨w.heap.size, 0, none⟩ = some (.slice (some ad1) n1 c1) := fun z => (HLL.out _ (HSS.out _ z.ok)).1
      have b1 : ∀ z : Cls S2, z.W.cell? ⟨w.heap.size, 1, none⟩ = some (.slice (some ad2) n2 c2) := fun z => (HLL.out _ (HSS.out _ z.ok)).2
      have b2 : ∀ z : Cls S2, z.W.cell? ⟨w.heap.size + 1, 1, none⟩ = some (.int .i64 (pn : Int)) := fun z => (HLW.out _ (HSS.out _ z.ok)).2.1
      have e0 : ∀ z : Cls S2, z.W.cell? ⟨w.heap.size + 1 + 1, 0, none⟩ = some (.int .i64 g') := fun z => (HLO.out _ (HSS.out _ z.ok)).1
      have e1 : ∀ z : Cls S2, z.W.cell? ⟨w.heap.size + 1 + 1, 1, none⟩ = some (.int .i64 p') := fun z => (HLO.out _ (HSS.out _ z.ok)).2.1
      have e2 : ∀ z : Cls S2, z.W.cell? ⟨w.heap.size + 1 + 1, 2, none⟩ = some (.int .u64 (v' : Int)) := fun z => (HLO.out _ (HSS.out _ z.ok)).2.2.1
      have e3 : ∀ z : Cls S2, z.W.cell? ⟨w.heap.size + 1 + 1, 3, none⟩ = some (bv y0) := fun z => (HLO.out _ (HSS.out _ z.ok)).2.2.2.1
      have e4 : ∀ z : Cls S2, z.W.cell? ⟨w.heap.size + 1 + 1, 4, none⟩ = some (bv y1) := fun z => (HLO.out _ (HSS.out _ z.ok)).2.2.2.2.1
      have e5 : ∀ z : Cls S2, z.W.cell? ⟨w.heap.size + 1 + 1, 5, none⟩ = some (bv y2) := fun z => (HLO.out _ (HSS.out _ z.ok)).2.2.2.2.2.1
      have e6 : ∀ z : Cls S2, z.W.cell? ⟨w.heap.size + 1 + 1, 6, none⟩ = some (bv y3) := fun z => (HLO.out _ (HSS.out _ z.ok)).2.2.2.2.2.2.1
      have e7 : ∀ z : Cls S2, z.W.cell? ⟨w.heap.size + 1 + 1, 7, none⟩ = some (bv y4) := fun z => (HLO.out _ (HSS.out _ z.ok)).2.2.2.2.2.2.2.1
      have e8 : ∀ z : Cls S2, z.W.cell? ⟨w.heap.size + 1 + 1, 8, none⟩ = some (bv y5) := fun z => (HLO.out _ (HSS.out _ z.ok)).2.2.2.2.2.2.2.2.1
      have e9 : ∀ z : Cls S2, z.W.cell? ⟨w.heap.size + 1 + 1, 9, none⟩ = some (bv y6) := fun z => (HLO.out _ (HSS.out _ z.ok)).2.2.2.2.2.2.2.2.2.1
      have e10 : ∀ z : Cls S2, z.W.cell? ⟨w.heap.size + 1 + 1, 10, none⟩ = some (bv y7) := fun z => (HLO.out _ (HSS.out _ z.ok)).2.2.2.2.2.2.2.2.2.2
      have tG : (GB == GB) = true := beq_self_eq_true GB
      by_cases ho : p' = (pn : Int)
      · have t0 : (p' == (pn : Int)) = true := beq_iff_eq.2 ho
        refine wp_region_cls S2 (by kernel_rfl) (by kernel_rfl) HSd.out ?_
        repeat (go_big_quiet_step (first | (go_at_call 22; (with_reducible first | exact cls_call (HGo.out ho) | exact cls_call HGl.out))))
        refine wpQuiet_nil ?_
        rintro _ ⟨zq, rfl⟩
        go_wp2
        go_ret
        exact ⟨rfl, HSB.out _ (HSS.out _ zq.ok)⟩
      · have t0 : (p' == (pn : Int)) = false := beq_eq_false_iff_ne.2 ho
        refine wp_region_cls S2 (by kernel_rfl) (by kernel_rfl) HSd.out ?_
        repeat (go_big_quiet_step (first | (go_at_call 22; (with_reducible first | exact cls_call (HGo.out ho) | exact cls_call HGl.out))))
        refine wpQuiet_nil ?_
        rintro _ ⟨zq, rfl⟩
        go_wp2
        go_ret
        exact ⟨rfl, HSB.out _ (HSS.out _ zq.ok)⟩

end Go.Proofs.Ytejhfollfmdmpaa

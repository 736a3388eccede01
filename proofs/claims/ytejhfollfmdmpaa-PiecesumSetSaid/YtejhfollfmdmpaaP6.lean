/- Walks over both settings of a piece. -/
import Derived.Test.YtejhfollfmdmpaaP4
namespace Go.Proofs.Ytejhfollfmdmpaa
open Go.RowKit

/-- What a setting leaves: two rows of the call's own, apart. -/
def SetIs (w w' : World) (e : Ending) (q : Nat) (k1 k2 : List Nat) : Prop :=
  ∃ g1 cap1 g2 cap2, e = .returned (.tuple #[.agg #[.slice (some ⟨g1, 0, none⟩) q cap1, .slice (some ⟨g2, 0, none⟩) q cap2], .int .i64 0]) ∧ g1 ≠ g2 ∧ w.heap.size ≤ g1 ∧ w.heap.size ≤ g2 ∧ q ≤ cap1 ∧ q ≤ cap2 ∧
    RowV w' g1 22 cap1 (k1.map uv) ∧ RowV w' g2 22 cap2 (k2.map uv) ∧ Below w.heap.size w w'

set_option maxHeartbeats 1000000 in
theorem set_yes (l1 l2 : List Nat) (B n1 c1 n2 c2 : Nat) (ad1 ad2 : Addr) (group : Int) (p ver x0 x1 x2 x3 x4 x5 x6 x7 q : Nat) (hx : Crc.Bytes [x0, x1, x2, x3, x4, x5, x6, x7]) (w : World) (hr1 : RU w B (some ad1) n1 l1) (hr2 : RU w B (some ad2) n2 l2) (hB : B ≤ w.heap.size) (hc1 : n1 ≤ c1) (hc2 : n2 ≤ c2) (hq : q = min n1 n2) (hq2 : q ≤ 65536) (hp : p < q) :
    Calls Try.prog 20 #[.agg #[.slice (some ad1) n1 c1, .slice (some ad2) n2 c2], .agg #[.int .i64 group, .int .i64 (p : Int), .int .u64 (ver : Int), bv x0, bv x1, bv x2, bv x3, bv x4, bv x5, bv x6, bv x7]] w fun e w' => SetIs w w' e q ((l1.take q).set p ver) ((l2.take q).set p (Crc.psum group p ver [x0, x1, x2, x3, x4, x5, x6, x7])) := by
  have hl1 := hr1.len
  have hl2 := hr2.len
  have hr1' := Lib.hid (hr1.take q (by omega))
  have hr2' := Lib.hid (hr2.take q (by omega))
  have hlen1 : (l1.take q).length = q := by rw [List.length_take]; omega
  have hlen2 : (l2.take q).length = q := by rw [List.length_take]; omega
  generalize l1.take q = m1 at hr1' hlen1 ⊢
  generalize l2.take q = m2 at hr2' hlen2 ⊢
  obtain ⟨X, hX⟩ : ∃ X, X = Crc.psum group p ver [x0, x1, x2, x3, x4, x5, x6, x7] := ⟨_, rfl⟩
  rw [← hX]
  obtain ⟨w0, hw0⟩ : ∃ w0, w0 = ((w.alloc (.cells #[.slice (some ad1) n1 c1, .slice (some ad2) n2 c2] 32)).alloc (.cells #[.int .i64 group, .int .i64 (p : Int), .int .u64 (ver : Int), bv x0, bv x1, bv x2, bv x3, bv x4, bv x5, bv x6, bv x7] 26)).alloc (.cells #[.slice none 0 0, .slice none 0 0] 32) := ⟨_, rfl⟩
  have e1 : (w.alloc (.cells #[.slice (some ad1) n1 c1, .slice (some ad2) n2 c2] 32)).heap.size = w.heap.size + 1 := by simp
  have e2 : ((w.alloc (.cells #[.slice (some ad1) n1 c1, .slice (some ad2) n2 c2] 32)).alloc (.cells #[.int .i64 group, .int .i64 (p : Int), .int .u64 (ver : Int), bv x0, bv x1, bv x2, bv x3, bv x4, bv x5, bv x6, bv x7] 26)).heap.size = w.heap.size + 2 := by simp
  have hE : Blk w0 w.heap.size 32 #[.slice (some ad1) n1 c1, .slice (some ad2) n2 c2] := by rw [hw0]; exact ((Blk.new _ _ _).alloc _).alloc _
  have hP : Blk w0 (w.heap.size + 1) 26 #[.int .i64 group, .int .i64 (p : Int), .int .u64 (ver : Int), bv x0, bv x1, bv x2, bv x3, bv x4, bv x5, bv x6, bv x7] := by
    rw [hw0]
    have h := (Blk.new (w.alloc (.cells #[.slice (some ad1) n1 c1, .slice (some ad2) n2 c2] 32)) 26 #[.int .i64 group, .int .i64 (p : Int), .int .u64 (ver : Int), bv x0, bv x1, bv x2, bv x3, bv x4, bv x5, bv x6, bv x7]).alloc (.cells #[.slice none 0 0, .slice none 0 0] 32)
    rwa [e1] at h
  have hZ : Blk w0 (w.heap.size + 2) 32 #[.slice none 0 0, .slice none 0 0] := by
    rw [hw0]
    have h := Blk.new ((w.alloc (.cells #[.slice (some ad1) n1 c1, .slice (some ad2) n2 c2] 32)).alloc (.cells #[.int .i64 group, .int .i64 (p : Int), .int .u64 (ver : Int), bv x0, bv x1, bv x2, bv x3, bv x4, bv x5, bv x6, bv x7] 26)) 32 #[.slice none 0 0, .slice none 0 0]
    rwa [e2] at h
  have hB0 : Below w.heap.size w w0 := by rw [hw0]; exact (((Below.refl _ _).alloc (Nat.le_refl _) _).alloc (by simp) _).alloc (by simp; omega) _
  obtain ⟨St, HSt⟩ : ∃ St : World → Prop, ∀ W, St W ↔ (Blk W w.heap.size 32 #[.slice (some ad1) n1 c1, .slice (some ad2) n2 c2] ∧ Blk W (w.heap.size + 1) 26 #[.int .i64 group, .int .i64 (p : Int), .int .u64 (ver : Int), bv x0, bv x1, bv x2, bv x3, bv x4, bv x5, bv x6, bv x7] ∧ Blk W (w.heap.size + 2) 32 #[.slice none 0 0, .slice none 0 0] ∧ Below w.heap.size w W) := ⟨_, fun _ => Iff.rfl⟩
  have HW : Hid (∀ W, St W → Calls Try.prog 30 #[.agg #[.slice (some ad1) n1 c1, .slice (some ad2) n2 c2]] W fun e w' => e = .returned (.int .i64 (q : Int)) ∧ St w') := Lib.hid (by
    intro W h
    obtain ⟨h1, h2, h3, h4⟩ := (HSt W).1 h
    refine (pieces_any (some ad1) (some ad2) n1 c1 n2 c2 W).mono ?_
    rintro e w' ⟨rfl, hb⟩
    exact ⟨by rw [hq], (HSt w').2 ⟨h1.below hb h1.lt, h2.below hb h2.lt, h3.below hb h3.lt, h4.trans (hb.mono h4.size)⟩⟩)
  have HC : ∀ (ad : Addr) (c : Nat) (m : List Nat), Hid (RU w B (some ad) q m) → m.length = q → Hid (∀ W, St W → Calls Try.prog 32 #[.slice (some ad) q c] W fun e w' => ∃ g cap, e = .returned (.slice (some ⟨g, 0, none⟩) q cap) ∧ St w' ∧ w.heap.size + 3 ≤ g ∧ W.heap.size ≤ g ∧ g < w'.heap.size ∧ q ≤ cap ∧ RowV w' g 22 cap (m.map uv) ∧ Below W.heap.size W w') := fun ad c m hr hm => Lib.hid (by
    intro W h
    obtain ⟨h1, h2, h3, h4⟩ := (HSt W).1 h
    refine (clone_any m B q c (some ad) W (RU.below hr.out (h4.mono hB)) (by have := h4.size; omega) hq2).mono ?_
    rintro e w' ⟨v, rfl, hO, hb⟩
    obtain ⟨g, cap, rfl, hg, hlt, hcap, _, hrow⟩ := hO.row (by simp; omega)
    rw [List.length_map, hm] at *
    have h3l := h3.lt
    exact ⟨g, cap, rfl, (HSt w').2 ⟨h1.below hb h1.lt, h2.below hb h2.lt, h3.below hb h3.lt, h4.trans (hb.mono h4.size)⟩, by omega, hg, hlt, hcap, hrow, hb⟩)
  have HC1 := HC ad1 c1 m1 hr1' hlen1
  have HC2 := HC ad2 c2 m2 hr2' hlen2
  have HS0 : Hid (St w0) := Lib.hid ((HSt _).2 ⟨hE, hP, hZ, hB0⟩)
  have HS := Lib.hid HSt
  have Hw0 := Lib.hid hw0
  have Hq := Lib.hid hq
  have HX := Lib.hid hx
  have HXX := Lib.hid hX
  have q1 : (q : Int) ≤ (c1 : Int) := by omega
  have q2 : (q : Int) ≤ (c2 : Int) := by omega
  have q3 : (p : Int) < (q : Int) := by omega
  have q4 : ¬ (q : Int) ≤ (p : Int) := by omega
  have q5 : ¬ (p : Int) ≥ (q : Int) := by omega
  clear HC HSt hw0 hE hP hZ hB0 hr1 hr2 hr1' hr2' hq hx hX e1 e2 hl1 hl2
  go_enter Try.func20, Try.ntmps20
  have g0 : w0.cell? ⟨w.heap.size, 0, none⟩ = some (.slice (some ad1) n1 c1) := ((HS.out _).1 HS0.out).1.cell 0
  have g1 : w0.cell? ⟨w.heap.size, 1, none⟩ = some (.slice (some ad2) n2 c2) := ((HS.out _).1 HS0.out).1.cell 1
  go_wp2_with fail
  rw [← Hw0.out]
  refine (HW.out w0 HS0.out).mono ?_
  rintro e w1 ⟨rfl, hS1⟩
  have HS1 := Lib.hid hS1
  have p1 : w1.cell? ⟨w.heap.size + 1, 1, none⟩ = some (.int .i64 (p : Int)) := ((HS.out _).1 hS1).2.1.cell 1
  have k0 : w1.cell? ⟨w.heap.size, 0, none⟩ = some (.slice (some ad1) n1 c1) := ((HS.out _).1 hS1).1.cell 0
  have k1 : w1.cell? ⟨w.heap.size, 1, none⟩ = some (.slice (some ad2) n2 c2) := ((HS.out _).1 hS1).1.cell 1
  clear hS1 g0 g1
  go_upto_region 4 with fail
  obtain ⟨S7, HS7⟩ : ∃ S7 : Nat → Nat → Nat → Nat → Nat → World → Prop, ∀ b7 g1 d1 g2 d2 W, S7 b7 g1 d1 g2 d2 W ↔ (St W ∧ w.heap.size + 3 ≤ b7 ∧ w.heap.size + 3 ≤ g1 ∧ w.heap.size + 3 ≤ g2 ∧ b7 ≠ g1 ∧ b7 ≠ g2 ∧ g1 ≠ g2 ∧ q ≤ d1 ∧ q ≤ d2 ∧ Blk W b7 32 #[.slice (some ⟨g1, 0, none⟩) q d1, .slice (some ⟨g2, 0, none⟩) q d2] ∧ RowV W g1 22 d1 (m1.map uv) ∧ RowV W g2 22 d2 (m2.map uv)) := ⟨_, fun _ _ _ _ _ _ => Iff.rfl⟩
  have HL : Hid (∀ W, St W → W.cell? ⟨w.heap.size, 0, none⟩ = some (.slice (some ad1) n1 c1) ∧ W.cell? ⟨w.heap.size, 1, none⟩ = some (.slice (some ad2) n2 c2) ∧ St W) := Lib.hid (fun W h => ⟨((HS.out W).1 h).1.cell 0, ((HS.out W).1 h).1.cell 1, h⟩)
  have HA : Hid (∀ W o, St W → (W.alloc o).cell? ⟨w.heap.size, 0, none⟩ = some (.slice (some ad1) n1 c1) ∧ (W.alloc o).cell? ⟨w.heap.size, 1, none⟩ = some (.slice (some ad2) n2 c2) ∧ St (W.alloc o)) := Lib.hid (fun W o h => by
    obtain ⟨h1, h2, h3, h4⟩ := (HS.out W).1 h
    exact ⟨(h1.alloc o).cell 0, (h1.alloc o).cell 1, (HS.out _).2 ⟨h1.alloc o, h2.alloc o, h3.alloc o, h4.alloc h4.size o⟩⟩)
  have HSz : Hid (∀ W, St W → w.heap.size + 3 ≤ W.heap.size) := Lib.hid (fun W h => by have := ((HS.out W).1 h).2.2.1.lt; omega)
  have HU : Hid (∀ W (p1 p2 : Addr) u1 u2, St W → w.heap.size + 3 ≤ p1.block → w.heap.size + 3 ≤ p2.block → (((W.setCell p1 u1).setCell p2 u2).cell? ⟨w.heap.size, 0, none⟩ = some (.slice (some ad1) n1 c1) ∧ ((W.setCell p1 u1).setCell p2 u2).cell? ⟨w.heap.size, 1, none⟩ = some (.slice (some ad2) n2 c2) ∧ St ((W.setCell p1 u1).setCell p2 u2))) := Lib.hid (fun W p1 p2 u1 u2 h hp1 hp2 => by
    obtain ⟨h1, h2, h3, h4⟩ := (HS.out W).1 h
    have k1 := (h1.far (p := p1) (by omega) u1).far (p := p2) (by omega) u2
    exact ⟨k1.cell 0, k1.cell 1, (HS.out _).2 ⟨k1, (h2.far (p := p1) (by omega) u1).far (p := p2) (by omega) u2, (h3.far (p := p1) (by omega) u1).far (p := p2) (by omega) u2, (h4.setCell (by omega) u1).setCell (by omega) u2⟩⟩)
  have z1 := HSz.out _ HS1.out
  have HS1d : Hid (St w1.drew) := Lib.hid (by
    obtain ⟨h1, h2, h3, h4⟩ := (HS.out _).1 HS1.out
    exact (HS.out _).2 ⟨h1, h2, h3, h4.drew⟩)
  have H7 := Lib.hid HS7
  have HFA : Hid (∀ (W : World) (g1 d1 g2 d2 : Nat), St W → w.heap.size + 3 ≤ g1 → w.heap.size + 3 ≤ g2 → q ≤ d1 → q ≤ d2 → g1 ≠ g2 → RowV W g1 22 d1 (m1.map uv) → RowV W g2 22 d2 (m2.map uv) → S7 W.heap.size g1 d1 g2 d2 (W.alloc (.cells #[.slice (some ⟨g1, 0, none⟩) q d1, .slice (some ⟨g2, 0, none⟩) q d2] 32))) := Lib.hid (by
    intro W g1 d1 g2 d2 h a1 a2 a3 a4 a5 a6 a7
    have z := HSz.out _ h
    exact (HS7 _ _ _ _ _ _).2 ⟨(HA.out _ _ h).2.2, z, a1, a2, by have := a6.lt; omega, by have := a7.lt; omega, a5, a3, a4, Blk.new _ _ _, a6.alloc _, a7.alloc _⟩)
  have HFB : Hid (∀ (W : World) (b7 g1 d1 g2 d2 : Nat), St W → w.heap.size + 3 ≤ b7 → w.heap.size + 3 ≤ g1 → w.heap.size + 3 ≤ g2 → b7 ≠ g1 → b7 ≠ g2 → q ≤ d1 → q ≤ d2 → g1 ≠ g2 → Blk W b7 32 #[.slice none 0 0, .slice none 0 0] → RowV W g1 22 d1 (m1.map uv) → RowV W g2 22 d2 (m2.map uv) → S7 b7 g1 d1 g2 d2 ((W.setCell ⟨b7, 0, none⟩ (.slice (some ⟨g1, 0, none⟩) q d1)).setCell ⟨b7, 1, none⟩ (.slice (some ⟨g2, 0, none⟩) q d2))) := Lib.hid (by
    intro W b7 g1 d1 g2 d2 h a0 a1 a2 n1 n2 a3 a4 a5 hb a6 a7
    exact (HS7 _ _ _ _ _ _).2 ⟨(HU.out _ _ _ _ _ h a0 a0).2.2, a0, a1, a2, n1, n2, a5, a3, a4, (hb.set_ 0 _).set_ 1 _, (a6.far (fun e => n1 e.symm) _).far (fun e => n1 e.symm) _, (a7.far (fun e => n2 e.symm) _).far (fun e => n2 e.symm) _⟩)
  clear k0 k1 p1 HS7
  go_cut [7] (fun s7 wx => ∃ b7 g1 d1 g2 d2, s7 = .pointer (some ⟨b7, 0, none⟩) ∧ S7 b7 g1 d1 g2 d2 wx)
  case first =>
    go_region_held3 (fun W => W.cell? ⟨w.heap.size, 0, none⟩ = some (.slice (some ad1) n1 c1) ∧ W.cell? ⟨w.heap.size, 1, none⟩ = some (.slice (some ad2) n2 c2) ∧ St W) (first | assumption | exact HL.out _ HS1d.out | exact HL.out _ (by assumption) | exact HA.out _ _ (by assumption) | exact HU.out _ _ _ _ _ (by assumption) (by simp; omega) (by simp; omega))
      (first
        | (go_at_call 32; (with_reducible refine (HC1.out _ (And.right (And.right (by assumption)))).mono ?_); rintro e w2 ⟨g1, d1, rfl, hS2, a1, a2, a3, a4, a5, a6⟩; have z2 := HSz.out _ hS2; (try (have s2 : w1.heap.size < w2.heap.size := (by have := a6.size; simp at this; omega))); have ka := (fun (ad : Addr) h => a6.cell (p := ad) h); have fa := (fun (ad : Addr) h => a6.frozen (p := ad) h))
        | (go_at_call 32; (with_reducible refine (HC2.out _ (And.right (And.right (by assumption)))).mono ?_); rintro e w3 ⟨g2, d2, rfl, hS3, b1, b2, b3, b4, b5, b6⟩; have z3 := HSz.out _ hS3; (try (have s3 : w1.heap.size < w3.heap.size := (by have := b6.size; simp at this; omega))); have kb := (fun (ad : Addr) h => b6.cell (p := ad) h); have fb := (fun (ad : Addr) h => b6.frozen (p := ad) h)))
    all_goals (go_wp2_with fail)
    all_goals go_meet
    all_goals first
      | exact ⟨_, g1, d1, g2, d2, rfl, HFA.out w3 g1 d1 g2 d2 hS3 a1 b1 a4 b4 (by omega) (a5.below b6 a3) b5⟩
      | exact ⟨_, g1, d1, g2, d2, rfl, HFA.out w2 g1 d1 g2 d2 hS2 a1 b1 a4 b4 (by omega) a5 (b5.below a6 b3)⟩
      | exact ⟨_, g1, d1, g2, d2, rfl, HFB.out w3 w2.heap.size g1 d1 g2 d2 hS3 z2 a1 b1 (by omega) (by simp at b2; omega) a4 b4 (by simp at b2; omega) ((Blk.new w2 _ _).below b6 (by simp)) ((a5.alloc _).below b6 (by simp; omega)) b5⟩
      | exact ⟨_, g1, d1, g2, d2, rfl, HFB.out w2 w3.heap.size g1 d1 g2 d2 hS2 z3 a1 b1 (by simp at a2; omega) (by omega) a4 b4 (by simp at a2; omega) ((Blk.new w3 _ _).below a6 (by simp)) a5 ((b5.alloc _).below a6 (by simp; omega))⟩
      | exact ⟨_, g1, d1, g2, d2, rfl, HFB.out w3 w1.heap.size g1 d1 g2 d2 hS3 z1 a1 b1 (by simp at a2; omega) (by simp at a2; omega) a4 b4 (by omega) (((Blk.new w1.drew _ _).below a6 (by simp)).below b6 (by simp; omega)) (a5.below b6 a3) b5⟩
      | exact ⟨_, g1, d1, g2, d2, rfl, HFB.out w2 w1.heap.size g1 d1 g2 d2 hS2 z1 a1 b1 (by simp at b2; omega) (by simp at b2; omega) a4 b4 (by omega) (((Blk.new w1.drew _ _).below b6 (by simp)).below a6 (by simp; omega)) a5 (b5.below a6 b3)⟩
  case rest =>
    obtain ⟨b7, g1, d1, g2, d2, rfl, hS7⟩ := hcut
    obtain ⟨hst, y0, y1, y2, n1', n2', n3', y3, y4, hB7, hR1, hR2⟩ := (H7.out _ _ _ _ _ _).1 hS7
    clear hB7 hR1 hR2 hst
    obtain ⟨Sk, HSk⟩ : ∃ Sk : World → Prop, ∀ W, Sk W ↔ (Blk W (w.heap.size + 1) 26 #[.int .i64 group, .int .i64 (p : Int), .int .u64 (ver : Int), bv x0, bv x1, bv x2, bv x3, bv x4, bv x5, bv x6, bv x7] ∧ Blk W b7 32 #[.slice (some ⟨g1, 0, none⟩) q d1, .slice (some ⟨g2, 0, none⟩) q d2]) := ⟨_, fun _ => Iff.rfl⟩
    have HSk' : Hid (∀ W, S7 b7 g1 d1 g2 d2 W → Sk W) := Lib.hid (fun W h => by
      obtain ⟨hst, _, _, _, _, _, _, _, _, hB7, _, _⟩ := (H7.out _ _ _ _ _ _).1 h
      exact (HSk W).2 ⟨((HS.out _).1 hst).2.1, hB7⟩)
    have HKL : Hid (∀ W, Sk W → W.cell? ⟨w.heap.size + 1, 0, none⟩ = some (.int .i64 group) ∧ W.cell? ⟨w.heap.size + 1, 1, none⟩ = some (.int .i64 (p : Int)) ∧ W.cell? ⟨w.heap.size + 1, 2, none⟩ = some (.int .u64 (ver : Int)) ∧ W.cell? ⟨w.heap.size + 1, 3, none⟩ = some (bv x0) ∧ W.cell? ⟨w.heap.size + 1, 4, none⟩ = some (bv x1) ∧ W.cell? ⟨w.heap.size + 1, 5, none⟩ = some (bv x2) ∧ W.cell? ⟨w.heap.size + 1, 6, none⟩ = some (bv x3) ∧ W.cell? ⟨w.heap.size + 1, 7, none⟩ = some (bv x4) ∧ W.cell? ⟨w.heap.size + 1, 8, none⟩ = some (bv x5) ∧ W.cell? ⟨w.heap.size + 1, 9, none⟩ = some (bv x6) ∧ W.cell? ⟨w.heap.size + 1, 10, none⟩ = some (bv x7) ∧ W.cell? ⟨b7, 0, none⟩ = some (.slice (some ⟨g1, 0, none⟩) q d1) ∧ W.cell? ⟨b7, 1, none⟩ = some (.slice (some ⟨g2, 0, none⟩) q d2) ∧ Sk W) := Lib.hid (fun W h => by
      obtain ⟨h1, h2⟩ := (HSk W).1 h
      exact ⟨h1.cell 0, h1.cell 1, h1.cell 2, h1.cell 3, h1.cell 4, h1.cell 5, h1.cell 6, h1.cell 7, h1.cell 8, h1.cell 9, h1.cell 10, h2.cell 0, h2.cell 1, h⟩)
    have HKS : Hid (∀ (W : World) (a : Addr) (u : Value), Sk W → a.block ≠ w.heap.size + 1 → a.block ≠ b7 → (W.setCell a u).cell? ⟨w.heap.size + 1, 0, none⟩ = some (.int .i64 group) ∧ (W.setCell a u).cell? ⟨w.heap.size + 1, 1, none⟩ = some (.int .i64 (p : Int)) ∧ (W.setCell a u).cell? ⟨w.heap.size + 1, 2, none⟩ = some (.int .u64 (ver : Int)) ∧ (W.setCell a u).cell? ⟨w.heap.size + 1, 3, none⟩ = some (bv x0) ∧ (W.setCell a u).cell? ⟨w.heap.size + 1, 4, none⟩ = some (bv x1) ∧ (W.setCell a u).cell? ⟨w.heap.size + 1, 5, none⟩ = some (bv x2) ∧ (W.setCell a u).cell? ⟨w.heap.size + 1, 6, none⟩ = some (bv x3) ∧ (W.setCell a u).cell? ⟨w.heap.size + 1, 7, none⟩ = some (bv x4) ∧ (W.setCell a u).cell? ⟨w.heap.size + 1, 8, none⟩ = some (bv x5) ∧ (W.setCell a u).cell? ⟨w.heap.size + 1, 9, none⟩ = some (bv x6) ∧ (W.setCell a u).cell? ⟨w.heap.size + 1, 10, none⟩ = some (bv x7) ∧ (W.setCell a u).cell? ⟨b7, 0, none⟩ = some (.slice (some ⟨g1, 0, none⟩) q d1) ∧ (W.setCell a u).cell? ⟨b7, 1, none⟩ = some (.slice (some ⟨g2, 0, none⟩) q d2) ∧ Sk (W.setCell a u)) := Lib.hid (fun W a u h ha hb => by
      obtain ⟨h1, h2⟩ := (HSk W).1 h
      have h1 := h1.far (fun e => ha e.symm) u
      have h2 := h2.far (fun e => hb e.symm) u
      exact ⟨h1.cell 0, h1.cell 1, h1.cell 2, h1.cell 3, h1.cell 4, h1.cell 5, h1.cell 6, h1.cell 7, h1.cell 8, h1.cell 9, h1.cell 10, h2.cell 0, h2.cell 1, (HSk _).2 ⟨h1, h2⟩⟩)
    have HQ : Hid (∀ W, S7 b7 g1 d1 g2 d2 W → Calls Try.prog 11 #[.int .i64 group, .int .i64 (p : Int), .int .u64 (ver : Int), .agg #[bv x0, bv x1, bv x2, bv x3, bv x4, bv x5, bv x6, bv x7]] W fun e w' => e = .returned (.int .u64 (X : Int)) ∧ S7 b7 g1 d1 g2 d2 w') := Lib.hid (by
      intro W h
      obtain ⟨hst, a0, a1, a2, a3, a4, a5, a6, a7, hB7, hR1, hR2⟩ := (H7.out _ _ _ _ _ _).1 h
      obtain ⟨h1, h2, h3, h4⟩ := (HS.out W).1 hst
      refine (psum_any group p ver x0 x1 x2 x3 x4 x5 x6 x7 HX.out W).mono ?_
      rintro e w' ⟨rfl, hb⟩
      exact ⟨by rw [HXX.out], (H7.out _ _ _ _ _ _).2 ⟨(HS.out w').2 ⟨h1.below hb h1.lt, h2.below hb h2.lt, h3.below hb h3.lt, h4.trans (hb.mono h4.size)⟩, a0, a1, a2, a3, a4, a5, a6, a7, hB7.below hb hB7.lt, hR1.below hb hR1.lt, hR2.below hb hR2.lt⟩⟩)
    have HS7 : Hid (S7 b7 g1 d1 g2 d2 wc.drew) := Lib.hid (by
      obtain ⟨hst, a0, a1, a2, a3, a4, a5, a6, a7, hB7, hR1, hR2⟩ := (H7.out _ _ _ _ _ _).1 hS7
      obtain ⟨h1, h2, h3, h4⟩ := (HS.out _).1 hst
      exact (H7.out _ _ _ _ _ _).2 ⟨(HS.out _).2 ⟨h1, h2, h3, h4.drew⟩, a0, a1, a2, a3, a4, a5, a6, a7, hB7, hR1, hR2⟩)
    have n3s : ¬ g1 = g2 := n3'
    clear HSk hS7
    go_upto_region 5 with fail
    go_region_held3 (fun W => W.cell? ⟨w.heap.size + 1, 0, none⟩ = some (.int .i64 group) ∧ W.cell? ⟨w.heap.size + 1, 1, none⟩ = some (.int .i64 (p : Int)) ∧ W.cell? ⟨w.heap.size + 1, 2, none⟩ = some (.int .u64 (ver : Int)) ∧ W.cell? ⟨w.heap.size + 1, 3, none⟩ = some (bv x0) ∧ W.cell? ⟨w.heap.size + 1, 4, none⟩ = some (bv x1) ∧ W.cell? ⟨w.heap.size + 1, 5, none⟩ = some (bv x2) ∧ W.cell? ⟨w.heap.size + 1, 6, none⟩ = some (bv x3) ∧ W.cell? ⟨w.heap.size + 1, 7, none⟩ = some (bv x4) ∧ W.cell? ⟨w.heap.size + 1, 8, none⟩ = some (bv x5) ∧ W.cell? ⟨w.heap.size + 1, 9, none⟩ = some (bv x6) ∧ W.cell? ⟨w.heap.size + 1, 10, none⟩ = some (bv x7) ∧ W.cell? ⟨b7, 0, none⟩ = some (.slice (some ⟨g1, 0, none⟩) q d1) ∧ W.cell? ⟨b7, 1, none⟩ = some (.slice (some ⟨g2, 0, none⟩) q d2) ∧ Sk W) (first | assumption | exact HKL.out _ (HSk'.out _ HS7.out) | exact HKL.out _ (HSk'.out _ (by assumption)) | exact HKS.out _ _ _ (by assumption) (by simp; omega) (by simp; omega) | exact HKS.out _ _ _ (HSk'.out _ (by assumption)) (by simp; omega) (by simp; omega) | exact HKS.out _ _ _ (HKS.out _ _ _ (HSk'.out _ (by assumption)) (by simp; omega) (by simp; omega)).2.2.2.2.2.2.2.2.2.2.2.2.2 (by simp; omega) (by simp; omega))
      (first
        | (go_at_call 11; (with_reducible refine (HQ.out _ HS7.out).mono ?_); rintro e w5 ⟨rfl, hS5⟩; obtain ⟨_, _, _, _, _, _, _, _, _, _, hR1, hR2⟩ := (H7.out _ _ _ _ _ _).1 hS5; have r1 : w5.cell? ⟨g1, p, none⟩ = some (uv (m1.getD p 0)) := hR1.got p _ (by rw [List.getElem?_map, List.getElem?_eq_getElem (by omega), List.getD_eq_getElem?_getD, List.getElem?_eq_getElem (by omega)]; rfl); have r2 : w5.cell? ⟨g2, p, none⟩ = some (uv (m2.getD p 0)) := hR2.got p _ (by rw [List.getElem?_map, List.getElem?_eq_getElem (by omega), List.getD_eq_getElem?_getD, List.getElem?_eq_getElem (by omega)]; rfl); have z1 := hR1.free p; have z2 := hR2.free p; clear hR1 hR2))
    obtain ⟨hst, a0, a1, a2, a3, a4, a5, a6, a7, hB7, hR1, hR2⟩ := (H7.out _ _ _ _ _ _).1 hS5
    obtain ⟨_, _, h3, h4⟩ := (HS.out _).1 hst
    have HZ := Lib.hid ((h3.far (p := ⟨g1, p, none⟩) (by simp; omega) (.int .u64 (ver : Int))).far (p := ⟨g2, p, none⟩) (by simp; omega) (.int .u64 (X : Int)))
    have HB7 := Lib.hid ((hB7.far (p := ⟨g1, p, none⟩) a3 (.int .u64 (ver : Int))).far (p := ⟨g2, p, none⟩) a4 (.int .u64 (X : Int)))
    have HBw := Lib.hid ((h4.setCell (p := ⟨g1, p, none⟩) (by simp; omega) (.int .u64 (ver : Int))).setCell (p := ⟨g2, p, none⟩) (by simp; omega) (.int .u64 (X : Int)))
    have HR1 := Lib.hid ((hR1.set p (by simp; omega) (.int .u64 (ver : Int))).far (p := ⟨g2, p, none⟩) a5 (.int .u64 (X : Int)))
    have HR2 := Lib.hid ((hR2.far (p := ⟨g1, p, none⟩) (fun e => a5 e.symm) (.int .u64 (ver : Int))).set p (by simp; omega) (.int .u64 (X : Int)))
    clear r1 r2 z1 z2 hS5 hst hB7 hR1 hR2 h3 h4
    generalize (w5.setCell ⟨g1, p, none⟩ (.int .u64 (ver : Int))).setCell ⟨g2, p, none⟩ (.int .u64 (X : Int)) = w6 at HZ HB7 HBw HR1 HR2 ⊢
    have t0 : w6.cell? ⟨b7, 0, none⟩ = some (.slice (some ⟨g1, 0, none⟩) q d1) := HB7.out.cell 0
    have t1 : w6.cell? ⟨b7, 1, none⟩ = some (.slice (some ⟨g2, 0, none⟩) q d2) := HB7.out.cell 1
    have v0 : w6.cell? ⟨w.heap.size + 2, 0, none⟩ = some (.slice none 0 0) := HZ.out.cell 0
    have v1 : w6.cell? ⟨w.heap.size + 2, 1, none⟩ = some (.slice none 0 0) := HZ.out.cell 1
    have f0 := HZ.out.frozen 0
    have f1 := HZ.out.frozen 1
    have v0' : w6.cell? ⟨w.heap.size + 1 + 1, 0, none⟩ = some (.slice none 0 0) := HZ.out.cell 0
    have v1' : w6.cell? ⟨w.heap.size + 1 + 1, 1, none⟩ = some (.slice none 0 0) := HZ.out.cell 1
    have f0' : w6.frozen? ⟨w.heap.size + 1 + 1, 0, none⟩ = false := HZ.out.frozen 0
    have f1' : w6.frozen? ⟨w.heap.size + 1 + 1, 1, none⟩ = false := HZ.out.frozen 1
    go_wp2_with fail
    refine bodyPost_ret (v := .tuple #[.agg #[.slice (some ⟨g1, 0, none⟩) q d1, .slice (some ⟨g2, 0, none⟩) q d2], .int .i64 0]) (by simp [results, Try.results20, go_sem, v0, v1]) rfl ⟨g1, d1, g2, d2, rfl, a5, by omega, by omega, a6, a7, ?_, ?_, ?_⟩
    · have h := (HR1.out.far (p := ⟨w.heap.size + 1 + 1, 0, none⟩) (by simp; omega) (.slice (some ⟨g1, 0, none⟩) q d1)).far (p := ⟨w.heap.size + 1 + 1, 1, none⟩) (by simp; omega) (.slice (some ⟨g2, 0, none⟩) q d2)
      rw [List.map_set]
      exact h
    · have h := (HR2.out.far (p := ⟨w.heap.size + 1 + 1, 0, none⟩) (by simp; omega) (.slice (some ⟨g1, 0, none⟩) q d1)).far (p := ⟨w.heap.size + 1 + 1, 1, none⟩) (by simp; omega) (.slice (some ⟨g2, 0, none⟩) q d2)
      rw [List.map_set]
      exact h
    · exact (HBw.out.setCell (by simp; omega) _).setCell (by simp; omega) _

end Go.Proofs.Ytejhfollfmdmpaa

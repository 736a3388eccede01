/- The walk over the reference's setting of a piece. -/
import Derived.Test.YtejhfollfmdmpaaP6
import Derived.Test.YtejhfollfmdmpaaNew
namespace Go.Proofs.Ytejhfollfmdmpaa
open Go.RowKit

set_option maxHeartbeats 2000000 in
theorem rset_yes (l1 l2 : List Nat) (B n1 c1 n2 c2 : Nat) (ad1 ad2 : Addr) (group : Int) (p ver x0 x1 x2 x3 x4 x5 x6 x7 q : Nat) (hx : Crc.Bytes [x0, x1, x2, x3, x4, x5, x6, x7]) (w : World) (hr1 : RU w B (some ad1) n1 l1) (hr2 : RU w B (some ad2) n2 l2) (hB : B ≤ w.heap.size) (hc1 : n1 ≤ c1) (hc2 : n2 ≤ c2) (hq : q = min n1 n2) (hq2 : q ≤ 65536) (hp : p < q) :
    Calls Try.prog 21 #[.agg #[.slice (some ad1) n1 c1, .slice (some ad2) n2 c2], .agg #[.int .i64 group, .int .i64 (p : Int), .int .u64 (ver : Int), bv x0, bv x1, bv x2, bv x3, bv x4, bv x5, bv x6, bv x7]] w fun e w' => SetIs w w' e q ((l1.take q).set p ver) ((l2.take q).set p (Crc.psum group p ver [x0, x1, x2, x3, x4, x5, x6, x7])) := by
  have hl1 := hr1.len
  have hl2 := hr2.len
  have hr1' := Lib.hid (hr1.take q (by omega))
  have hr2' := Lib.hid (hr2.take q (by omega))
  have hlen1 : (l1.take q).length = q := by rw [List.length_take]; omega
  have hlen2 : (l2.take q).length = q := by rw [List.length_take]; omega
  generalize l1.take q = m1 at hr1' hlen1 ⊢
  generalize l2.take q = m2 at hr2' hlen2 ⊢
  obtain ⟨X, hX⟩ : ∃ X, X = Crc.psum group p ver [x0, x1, x2, x3, x4, x5, x6, x7] := ⟨_, rfl⟩
  rw [← hX]
  obtain ⟨w0, hw0⟩ : ∃ w0, w0 = ((w.alloc (.cells #[.slice (some ad1) n1 c1, .slice (some ad2) n2 c2] 32)).alloc (.cells #[.int .i64 group, .int .i64 (p : Int), .int .u64 (ver : Int), bv x0, bv x1, bv x2, bv x3, bv x4, bv x5, bv x6, bv x7] 26)).alloc (.cells #[.slice none 0 0, .slice none 0 0] 32) := ⟨_, rfl⟩
  have e1 : (w.alloc (.cells #[.slice (some ad1) n1 c1, .slice (some ad2) n2 c2] 32)).heap.size = w.heap.size + 1 := by simp
  have e2 : ((w.alloc (.cells #[.slice (some ad1) n1 c1, .slice (some ad2) n2 c2] 32)).alloc (.cells #[.int .i64 group, .int .i64 (p : Int), .int .u64 (ver : Int), bv x0, bv x1, bv x2, bv x3, bv x4, bv x5, bv x6, bv x7] 26)).heap.size = w.heap.size + 1 + 1 := by simp
  have hE : Blk w0 w.heap.size 32 #[.slice (some ad1) n1 c1, .slice (some ad2) n2 c2] := by rw [hw0]; exact ((Blk.new _ _ _).alloc _).alloc _
  have hP : Blk w0 (w.heap.size + 1) 26 #[.int .i64 group, .int .i64 (p : Int), .int .u64 (ver : Int), bv x0, bv x1, bv x2, bv x3, bv x4, bv x5, bv x6, bv x7] := by
    rw [hw0]
    have h := (Blk.new (w.alloc (.cells #[.slice (some ad1) n1 c1, .slice (some ad2) n2 c2] 32)) 26 #[.int .i64 group, .int .i64 (p : Int), .int .u64 (ver : Int), bv x0, bv x1, bv x2, bv x3, bv x4, bv x5, bv x6, bv x7]).alloc (.cells #[.slice none 0 0, .slice none 0 0] 32)
    rwa [e1] at h
  have hZ : Blk w0 (w.heap.size + 1 + 1) 32 #[.slice none 0 0, .slice none 0 0] := by
    rw [hw0]
    have h := Blk.new ((w.alloc (.cells #[.slice (some ad1) n1 c1, .slice (some ad2) n2 c2] 32)).alloc (.cells #[.int .i64 group, .int .i64 (p : Int), .int .u64 (ver : Int), bv x0, bv x1, bv x2, bv x3, bv x4, bv x5, bv x6, bv x7] 26)) 32 #[.slice none 0 0, .slice none 0 0]
    rwa [e2] at h
  have hB0 : Below w.heap.size w w0 := by rw [hw0]; exact (((Below.refl _ _).alloc (Nat.le_refl _) _).alloc (by simp) _).alloc (by simp; omega) _
  obtain ⟨St, HSt⟩ : ∃ St : World → Prop, ∀ W, St W ↔ (Blk W w.heap.size 32 #[.slice (some ad1) n1 c1, .slice (some ad2) n2 c2] ∧ Blk W (w.heap.size + 1) 26 #[.int .i64 group, .int .i64 (p : Int), .int .u64 (ver : Int), bv x0, bv x1, bv x2, bv x3, bv x4, bv x5, bv x6, bv x7] ∧ Blk W (w.heap.size + 1 + 1) 32 #[.slice none 0 0, .slice none 0 0] ∧ Below w.heap.size w W) := ⟨_, fun _ => Iff.rfl⟩
  have HT : Hid (∀ W W', St W → Below W.heap.size W W' → St W') := Lib.hid (fun W W' h hb => by
    obtain ⟨h1, h2, h3, h4⟩ := (HSt W).1 h
    exact (HSt W').2 ⟨h1.below hb h1.lt, h2.below hb h2.lt, h3.below hb h3.lt, h4.trans (hb.mono h4.size)⟩)
  have HW : Hid (∀ W, St W → Calls Try.prog 31 #[.agg #[.slice (some ad1) n1 c1, .slice (some ad2) n2 c2]] W fun e w' => e = .returned (.int .i64 (q : Int)) ∧ St w') := Lib.hid (fun W h => by
    refine (width_any (some ad1) (some ad2) n1 c1 n2 c2 W).mono ?_
    rintro e w' ⟨h1, h2⟩
    rw [← hq] at h1
    exact ⟨h1, HT.out _ _ h h2⟩)
  have HS0 : Hid (St w0) := Lib.hid ((HSt _).2 ⟨hE, hP, hZ, hB0⟩)
  have HCell : Hid (∀ W, St W → W.cell? ⟨w.heap.size, 0, none⟩ = some (.slice (some ad1) n1 c1) ∧ W.cell? ⟨w.heap.size, 1, none⟩ = some (.slice (some ad2) n2 c2)) := Lib.hid (fun W h => ⟨((HSt W).1 h).1.cell 0, ((HSt W).1 h).1.cell 1⟩)
  have HRd1 : Hid (∀ W, St W → Reads W B 1 (some ad1) q (m1.map uv)) := Lib.hid (fun W h => Reads.below hr1'.out (((HSt W).1 h).2.2.2.mono hB))
  have HRd2 : Hid (∀ W, St W → Reads W B 1 (some ad2) q (m2.map uv)) := Lib.hid (fun W h => Reads.below hr2'.out (((HSt W).1 h).2.2.2.mono hB))
  have HS := Lib.hid HSt
  have Hw0 := Lib.hid hw0
  have Hq := Lib.hid hq
  have HX := Lib.hid hx
  have HXX := Lib.hid hX
  have q1 : (q : Int) ≤ (c1 : Int) := by omega
  have q2 : (q : Int) ≤ (c2 : Int) := by omega
  have q3 : (p : Int) < (q : Int) := by omega
  have q4 : ¬ (q : Int) ≤ (p : Int) := by omega
  have q5 : ¬ (p : Int) ≥ (q : Int) := by omega
  have hq0 : 0 < q := by omega
  clear HSt hw0 hE hP hZ hB0 hr1 hr2 hr1' hr2' hq hx hX e1 e2 hl1 hl2
  go_enter Try.func21, Try.ntmps21
  have g0 : w0.cell? ⟨w.heap.size, 0, none⟩ = some (.slice (some ad1) n1 c1) := (HCell.out _ HS0.out).1
  have g1 : w0.cell? ⟨w.heap.size, 1, none⟩ = some (.slice (some ad2) n2 c2) := (HCell.out _ HS0.out).2
  go_wp2_with fail
  rw [← Hw0.out]
  refine (HW.out w0 HS0.out).mono ?_
  rintro e w1 ⟨rfl, hS1⟩
  have HS2 := Lib.hid hS1
  have p1 : w1.cell? ⟨w.heap.size + 1, 1, none⟩ = some (.int .i64 (p : Int)) := ((HS.out _).1 hS1).2.1.cell 1
  have k0 : w1.cell? ⟨w.heap.size, 0, none⟩ = some (.slice (some ad1) n1 c1) := (HCell.out _ hS1).1
  have k1 : w1.cell? ⟨w.heap.size, 1, none⟩ = some (.slice (some ad2) n2 c2) := (HCell.out _ hS1).2
  clear hS1 g0 g1
  have HSd : Hid (St w1.drew) := Lib.hid (HT.out _ _ HS2.out (Below.refl _ _).drew)
  have HSet : Hid (∀ (W : World) (a : Addr) (u : Value), St W → w1.heap.size ≤ a.block → St (W.setCell a u)) := Lib.hid (fun W a u h ha => by
    obtain ⟨h1, h2, h3, h4⟩ := (HS.out W).1 h
    have h5 := ((HS.out w1).1 HS2.out).2.2.1.lt
    exact (HS.out _).2 ⟨h1.far (by omega) u, h2.far (by omega) u, h3.far (by omega) u, h4.setCell (by omega) u⟩)
  obtain ⟨i0, hi0, hz0, hz1, hz2⟩ := info_parts numInfo
  obtain ⟨NL, HNL'⟩ : ∃ NL : Nat → Option Addr → Nat → Option Addr → Nat → Nat → Nat → World → Prop, ∀ b7 P d1 Q d2 g1 g2 W, NL b7 P d1 Q d2 g1 g2 W ↔ (St W ∧ w1.heap.size ≤ b7 ∧ (0 < q → w1.heap.size ≤ g1 ∧ g1 ≠ b7) ∧ (0 < q → w1.heap.size ≤ g2 ∧ g2 ≠ b7) ∧ (0 < q → 0 < q → g1 ≠ g2) ∧ Blk W b7 32 #[.slice P q d1, .slice Q q d2] ∧ NewS W 22 g1 P q d1 (m1.map uv) ∧ NewS W 22 g2 Q q d2 (m2.map uv)) := ⟨_, fun _ _ _ _ _ _ _ _ => Iff.rfl⟩
  obtain ⟨SZ, HSZ'⟩ : ∃ SZ : World → Prop, ∀ W, SZ W ↔ (St W ∧ w1.heap.size ≤ W.heap.size) := ⟨_, fun _ => Iff.rfl⟩
  have HNL := Lib.hid HNL'
  have HL2 : Hid (∀ W, SZ W → W.cell? ⟨w.heap.size, 0, none⟩ = some (.slice (some ad1) n1 c1) ∧ W.cell? ⟨w.heap.size, 1, none⟩ = some (.slice (some ad2) n2 c2) ∧ SZ W) := Lib.hid (fun W h => ⟨(HCell.out _ ((HSZ' W).1 h).1).1, (HCell.out _ ((HSZ' W).1 h).1).2, h⟩)
  have HZa : Hid (∀ (W : World) (o : Obj), SZ W → SZ (W.alloc o)) := Lib.hid (fun W o h => (HSZ' _).2 ⟨HT.out _ _ ((HSZ' W).1 h).1 ((Below.refl _ _).alloc (Nat.le_refl _) _), by have := ((HSZ' W).1 h).2; simp; omega⟩)
  have HA2 : Hid (∀ (W : World) (o : Obj), SZ W → (W.alloc o).cell? ⟨w.heap.size, 0, none⟩ = some (.slice (some ad1) n1 c1) ∧ (W.alloc o).cell? ⟨w.heap.size, 1, none⟩ = some (.slice (some ad2) n2 c2) ∧ SZ (W.alloc o)) := Lib.hid (fun W o h => HL2.out _ (HZa.out _ _ h))
  have HZb : Hid (∀ (W W' : World), SZ W → Below W.heap.size W W' → SZ W') := Lib.hid (fun W W' h hb => (HSZ' _).2 ⟨HT.out _ _ ((HSZ' W).1 h).1 hb, by have := ((HSZ' W).1 h).2; have := hb.size; omega⟩)
  have HZs : Hid (∀ (W : World) (p1 p2 : Addr) (u1 u2 : Value), SZ W → w1.heap.size ≤ p1.block → w1.heap.size ≤ p2.block → ((W.setCell p1 u1).setCell p2 u2).cell? ⟨w.heap.size, 0, none⟩ = some (.slice (some ad1) n1 c1) ∧ ((W.setCell p1 u1).setCell p2 u2).cell? ⟨w.heap.size, 1, none⟩ = some (.slice (some ad2) n2 c2) ∧ SZ ((W.setCell p1 u1).setCell p2 u2)) := Lib.hid (fun W p1 p2 u1 u2 h h1 h2 => HL2.out _ ((HSZ' _).2 ⟨HSet.out _ _ _ (HSet.out _ _ _ ((HSZ' W).1 h).1 h1) h2, by have := ((HSZ' W).1 h).2; simp; omega⟩))
  have HZ0 : Hid (SZ w1.drew) := Lib.hid ((HSZ' _).2 ⟨HSd.out, Nat.le_refl _⟩)
  have HZ2 : Hid (SZ w1) := Lib.hid ((HSZ' _).2 ⟨HS2.out, Nat.le_refl _⟩)
  have HDr : Hid (∀ (W : World), SZ W → W.drew.cell? ⟨w.heap.size, 0, none⟩ = some (.slice (some ad1) n1 c1) ∧ W.drew.cell? ⟨w.heap.size, 1, none⟩ = some (.slice (some ad2) n2 c2) ∧ SZ W.drew) := Lib.hid (fun W h => HL2.out _ ((HSZ' _).2 ⟨HT.out _ _ ((HSZ' W).1 h).1 (Below.refl _ _).drew, ((HSZ' W).1 h).2⟩))
  have HZz : Hid (∀ W, SZ W → w1.heap.size ≤ W.heap.size) := Lib.hid (fun W h => ((HSZ' W).1 h).2)
  have HR1z : Hid (∀ W, SZ W → Reads W B 1 (some ad1) q (m1.map uv)) := Lib.hid (fun W h => HRd1.out _ ((HSZ' W).1 h).1)
  have HR2z : Hid (∀ W, SZ W → Reads W B 1 (some ad2) q (m2.map uv)) := Lib.hid (fun W h => HRd2.out _ ((HSZ' W).1 h).1)
  have HC1 : Hid (∀ (W : World) (P : Option Addr) (d1 : Nat) (Q : Option Addr) (d2 g1 g2 : Nat), SZ W → NewS W 22 g1 P q d1 (m1.map uv) → NewS W 22 g2 Q q d2 (m2.map uv) → w1.heap.size ≤ g1 → w1.heap.size ≤ g2 → (0 < q → 0 < q → g1 ≠ g2) → NL W.heap.size P d1 Q d2 g1 g2 (W.alloc (.cells #[.slice P q d1, .slice Q q d2] 32))) := Lib.hid (fun W P d1 Q d2 g1 g2 h k1 k2 e1 e2 e3 =>
    (HNL' _ _ _ _ _ _ _ _).2 ⟨((HSZ' _).1 (HZa.out _ _ h)).1, ((HSZ' W).1 h).2, fun z => ⟨e1, by have := k1.lt z; omega⟩, fun z => ⟨e2, by have := k2.lt z; omega⟩, e3, Blk.new _ _ _, k1.alloc _, k2.alloc _⟩)
  have HC2 : Hid (∀ (W : World) (b7 : Nat) (P : Option Addr) (d1 : Nat) (Q : Option Addr) (d2 g1 g2 : Nat), SZ W → Blk W b7 32 #[.slice none 0 0, .slice none 0 0] → NewS W 22 g1 P q d1 (m1.map uv) → NewS W 22 g2 Q q d2 (m2.map uv) → w1.heap.size ≤ b7 → w1.heap.size ≤ g1 → w1.heap.size ≤ g2 → (0 < q → 0 < q → g1 ≠ g2) → (0 < q → g1 ≠ b7) → (0 < q → g2 ≠ b7) → NL b7 P d1 Q d2 g1 g2 ((W.setCell ⟨b7, 0, none⟩ (.slice P q d1)).setCell ⟨b7, 1, none⟩ (.slice Q q d2))) := Lib.hid (fun W b7 P d1 Q d2 g1 g2 h hk k1 k2 e0 e1 e2 e3 e4 e5 =>
    (HNL' _ _ _ _ _ _ _ _).2 ⟨((HSZ' _).1 (HZs.out _ _ _ _ _ h e0 e0).2.2).1, e0, fun z => ⟨e1, e4 z⟩, fun z => ⟨e2, e5 z⟩, e3, hk.pair _ _, (k1.far e4 _).far e4 _, (k2.far e5 _).far e5 _⟩)
  have h1l : q ≤ maxLen := by unfold maxLen; omega
  have h2l : q ≤ maxLen := by unfold maxLen; omega
  have h1b : q * 8 ≤ 140737488355328 := by omega
  have h2b : q * 8 ≤ 140737488355328 := by omega
  have Hi0 := Lib.hid hi0
  have Hz0 := Lib.hid hz0
  have Hz1 := Lib.hid hz1
  have Hz2 := Lib.hid hz2
  clear HNL' HSZ' hi0 hz0 hz1 hz2
  go_upto_region 4 with fail
  go_cut [7] (fun s wx => ∃ b7 P d1 Q d2 g1 g2, s = .pointer (some ⟨b7, 0, none⟩) ∧ NL b7 P d1 Q d2 g1 g2 wx)
  case first =>
    go_region_held3 (fun W => W.cell? ⟨w.heap.size, 0, none⟩ = some (.slice (some ad1) n1 c1) ∧ W.cell? ⟨w.heap.size, 1, none⟩ = some (.slice (some ad2) n2 c2) ∧ SZ W)
      (with_reducible first | assumption | exact HL2.out _ HZ0.out | exact HDr.out _ (HZa.out _ _ HZ2.out) | exact HDr.out _ (HZa.out _ _ (HZa.out _ _ HZ2.out)) | exact HDr.out _ (HZa.out _ _ (HZa.out _ _ (HZa.out _ _ HZ2.out))) | exact HL2.out _ (by assumption) | exact HA2.out _ _ (And.right (And.right (by assumption))) | exact HA2.out _ _ (by assumption) | exact HZs.out _ _ _ _ _ (by assumption) (by simp <;> omega) (by simp <;> omega))
      (first
        | (refine step_append_new rfl (.tmp 20) (.tmp 24) _ rfl 22 i0 (.int .u64 0) 8 Try.underlying30 Hi0.out Hz0.out Hz1.out Hz2.out rfl _ rfl _ _ _ _ _ rfl (HR1z.out _ (And.right (And.right (by assumption)))) (uv_one _) h1l h1b ?_; intro ga Aa da wa hga hna hba; have hSa := HZb.out _ _ (And.right (And.right (by assumption))) hba; have za := hba.size; have la := hna.lt; have ya := HZz.out _ hSa; (try simp at za); (try simp at hga); have ka := (fun (ad : Addr) h => hba.cell (p := ad) h); have fa := (fun (ad : Addr) h => hba.frozen (p := ad) h); (try (have ya0 : w1.heap.size < wa.heap.size := by omega)); (try (have ya1 : w1.heap.size + 1 < wa.heap.size := by omega)); (try (have ya2 : w1.heap.size + 1 + 1 < wa.heap.size := by omega));(try (have xa0 : wb.heap.size < wa.heap.size := by omega)); (try (have xa1 : wb.heap.size + 1 < wa.heap.size := by omega)))
        | (refine step_append_new rfl (.tmp 26) (.tmp 30) _ rfl 22 i0 (.int .u64 0) 8 Try.underlying30 Hi0.out Hz0.out Hz1.out Hz2.out rfl _ rfl _ _ _ _ _ rfl (HR2z.out _ (And.right (And.right (by assumption)))) (uv_one _) h2l h2b ?_; intro gb Ab db wb hgb hnb hbb; have hSb := HZb.out _ _ (And.right (And.right (by assumption))) hbb; have zb := hbb.size; have lb := hnb.lt; have yb := HZz.out _ hSb; (try simp at zb); (try simp at hgb); have kb := (fun (ad : Addr) h => hbb.cell (p := ad) h); have fb := (fun (ad : Addr) h => hbb.frozen (p := ad) h); (try (have yb0 : w1.heap.size < wb.heap.size := by omega)); (try (have yb1 : w1.heap.size + 1 < wb.heap.size := by omega)); (try (have yb2 : w1.heap.size + 1 + 1 < wb.heap.size := by omega));(try (have xb0 : wa.heap.size < wb.heap.size := by omega)); (try (have xb1 : wa.heap.size + 1 < wb.heap.size := by omega))))
    all_goals (go_wp2_with fail)
    all_goals go_meet
    all_goals with_reducible first
      | refine ⟨_, Aa, da, Ab, db, ga, gb, rfl, HC1.out wb _ _ _ _ _ _ hSb ?_ hnb ?_ ?_ ?_⟩
      | refine ⟨_, Aa, da, Ab, db, ga, gb, rfl, HC1.out wa _ _ _ _ _ _ hSa hna ?_ ?_ ?_ ?_⟩
      | refine ⟨_, Aa, da, Ab, db, ga, gb, rfl, HC2.out wb _ _ _ _ _ _ _ hSb ?_ ?_ hnb ?_ ?_ ?_ ?_ ?_ ?_⟩
      | refine ⟨_, Aa, da, Ab, db, ga, gb, rfl, HC2.out wa _ _ _ _ _ _ _ hSa ?_ hna ?_ ?_ ?_ ?_ ?_ ?_ ?_⟩
    all_goals first
      | (with_reducible exact hna.below hbb)
      | (with_reducible exact (hna.alloc _).below hbb)
      | (with_reducible exact ((hna.alloc _).alloc _).below hbb)
      | (with_reducible exact hnb.below hba)
      | (with_reducible exact (hnb.alloc _).below hba)
      | (with_reducible exact ((hnb.alloc _).alloc _).below hba)
      | (intros; omega)
      | ((repeat' (first
          | exact Blk.new_at _ _ _ (by simp)
          | (with_reducible refine Blk.alloc ?_ _)
          | (with_reducible refine Blk.drew ?_)
          | (with_reducible refine Blk.below ?_ hbb ?_)
          | (with_reducible refine Blk.below ?_ hba ?_)
          | omega
          | (simp; done)
          | (simp; omega))); done)
  case rest =>
    obtain ⟨b7, P, d1, Q, d2, g1, g2, rfl, hN⟩ := hcut
    obtain ⟨hst, hb7, ha1, ha2, hdist, hB7, hn1, hn2⟩ := (HNL.out _ _ _ _ _ _ _ _).1 hN
    obtain ⟨rfl, hrow1⟩ := hn1.row hq0
    obtain ⟨rfl, hrow2⟩ := hn2.row hq0
    have hx1 := ha1 hq0
    have hx2 := ha2 hq0
    have hx3 := hdist hq0 hq0
    have hd1 := hn1.2.1
    have hd2 := hn2.2.1
    have hz2 := ((HS.out w1).1 HS2.out).2.2.1.lt
    clear hn1 hn2 ha1 ha2 hdist hN h1l h2l h1b h2b HC1 HC2 HR1z HR2z HZz HZ0 HZs HZb HA2 HZa HL2 HNL HDr HZ2 k0 k1 p1
    obtain ⟨S7, HS7⟩ : ∃ S7 : List Nat → World → Prop, ∀ k W, S7 k W ↔ (St W ∧ k.length = q ∧ Blk W b7 32 #[.slice (some ⟨g1, 0, none⟩) q d1, .slice (some ⟨g2, 0, none⟩) q d2] ∧ RowV W g1 22 d1 (k.map uv) ∧ RowV W g2 22 d2 (m2.map uv)) := ⟨_, fun _ _ => Iff.rfl⟩
    have H7 := Lib.hid HS7
    have HT7 : Hid (∀ k W W', S7 k W → Below W.heap.size W W' → S7 k W') := Lib.hid (fun k W W' h hb => by
      obtain ⟨h1, h2, h3, h4, h5⟩ := (HS7 _ W).1 h
      exact (HS7 _ W').2 ⟨HT.out _ _ h1 hb, h2, h3.below hb h3.lt, h4.below hb h4.lt, h5.below hb h5.lt⟩)
    obtain ⟨Sk, HSk⟩ : ∃ Sk : World → Prop, ∀ W, Sk W ↔ (Blk W (w.heap.size + 1) 26 #[.int .i64 group, .int .i64 (p : Int), .int .u64 (ver : Int), bv x0, bv x1, bv x2, bv x3, bv x4, bv x5, bv x6, bv x7] ∧ Blk W b7 32 #[.slice (some ⟨g1, 0, none⟩) q d1, .slice (some ⟨g2, 0, none⟩) q d2]) := ⟨_, fun _ => Iff.rfl⟩
    have HKL : Hid (∀ W, Sk W → W.cell? ⟨w.heap.size + 1, 0, none⟩ = some (.int .i64 group) ∧ W.cell? ⟨w.heap.size + 1, 1, none⟩ = some (.int .i64 (p : Int)) ∧ W.cell? ⟨w.heap.size + 1, 2, none⟩ = some (.int .u64 (ver : Int)) ∧ W.cell? ⟨w.heap.size + 1, 3, none⟩ = some (bv x0) ∧ W.cell? ⟨w.heap.size + 1, 4, none⟩ = some (bv x1) ∧ W.cell? ⟨w.heap.size + 1, 5, none⟩ = some (bv x2) ∧ W.cell? ⟨w.heap.size + 1, 6, none⟩ = some (bv x3) ∧ W.cell? ⟨w.heap.size + 1, 7, none⟩ = some (bv x4) ∧ W.cell? ⟨w.heap.size + 1, 8, none⟩ = some (bv x5) ∧ W.cell? ⟨w.heap.size + 1, 9, none⟩ = some (bv x6) ∧ W.cell? ⟨w.heap.size + 1, 10, none⟩ = some (bv x7) ∧ W.cell? ⟨b7, 0, none⟩ = some (.slice (some ⟨g1, 0, none⟩) q d1) ∧ W.cell? ⟨b7, 1, none⟩ = some (.slice (some ⟨g2, 0, none⟩) q d2) ∧ Sk W) := Lib.hid (fun W h => by
      obtain ⟨h1, h2⟩ := (HSk W).1 h
      exact ⟨h1.cell 0, h1.cell 1, h1.cell 2, h1.cell 3, h1.cell 4, h1.cell 5, h1.cell 6, h1.cell 7, h1.cell 8, h1.cell 9, h1.cell 10, h2.cell 0, h2.cell 1, h⟩)
    have HKs : Hid (∀ (W : World) (a : Addr) (u : Value), Sk W → a.block ≠ w.heap.size + 1 → a.block ≠ b7 → Sk (W.setCell a u)) := Lib.hid (fun W a u h ha hb => by
      obtain ⟨h1, h2⟩ := (HSk W).1 h
      exact (HSk _).2 ⟨h1.far (fun e => ha e.symm) u, h2.far (fun e => hb e.symm) u⟩)
    have HKS : Hid (∀ (W : World) (a : Addr) (u : Value), Sk W → a.block ≠ w.heap.size + 1 → a.block ≠ b7 → (W.setCell a u).cell? ⟨w.heap.size + 1, 0, none⟩ = some (.int .i64 group) ∧ (W.setCell a u).cell? ⟨w.heap.size + 1, 1, none⟩ = some (.int .i64 (p : Int)) ∧ (W.setCell a u).cell? ⟨w.heap.size + 1, 2, none⟩ = some (.int .u64 (ver : Int)) ∧ (W.setCell a u).cell? ⟨w.heap.size + 1, 3, none⟩ = some (bv x0) ∧ (W.setCell a u).cell? ⟨w.heap.size + 1, 4, none⟩ = some (bv x1) ∧ (W.setCell a u).cell? ⟨w.heap.size + 1, 5, none⟩ = some (bv x2) ∧ (W.setCell a u).cell? ⟨w.heap.size + 1, 6, none⟩ = some (bv x3) ∧ (W.setCell a u).cell? ⟨w.heap.size + 1, 7, none⟩ = some (bv x4) ∧ (W.setCell a u).cell? ⟨w.heap.size + 1, 8, none⟩ = some (bv x5) ∧ (W.setCell a u).cell? ⟨w.heap.size + 1, 9, none⟩ = some (bv x6) ∧ (W.setCell a u).cell? ⟨w.heap.size + 1, 10, none⟩ = some (bv x7) ∧ (W.setCell a u).cell? ⟨b7, 0, none⟩ = some (.slice (some ⟨g1, 0, none⟩) q d1) ∧ (W.setCell a u).cell? ⟨b7, 1, none⟩ = some (.slice (some ⟨g2, 0, none⟩) q d2) ∧ Sk (W.setCell a u)) := Lib.hid (fun W a u h ha hb => HKL.out _ (HKs.out W a u h ha hb))
    have HSk' : Hid (∀ k W, S7 k W → Sk W) := Lib.hid (fun k W h => by
      obtain ⟨hst, _, hB7, _⟩ := (HS7 _ W).1 h
      exact (HSk W).2 ⟨((HS.out _).1 hst).2.1, hB7⟩)
    have HQ : Hid (∀ k W, S7 k W → Calls Try.prog 12 #[.int .i64 group, .int .i64 (p : Int), .int .u64 (ver : Int), .agg #[bv x0, bv x1, bv x2, bv x3, bv x4, bv x5, bv x6, bv x7]] W fun e w' => e = .returned (.int .u64 (X : Int)) ∧ S7 k w' ∧ w'.cell? ⟨g2, p, none⟩ = some (uv (m2.getD p 0)) ∧ w'.frozen? ⟨g2, p, none⟩ = false) := Lib.hid (fun k W h => by
      refine (rpsum_any group p ver x0 x1 x2 x3 x4 x5 x6 x7 HX.out W).mono ?_
      rintro e w' ⟨rfl, hb⟩
      have h' := HT7.out _ _ _ h hb
      obtain ⟨_, _, _, _, hR2⟩ := (HS7 _ _).1 h'
      exact ⟨by rw [HXX.out], h', hR2.got p _ (by rw [List.getElem?_map, List.getElem?_eq_getElem (by omega), List.getD_eq_getElem?_getD, List.getElem?_eq_getElem (by omega)]; rfl), hR2.free p⟩)
    have c1' : wc.cell? ⟨g1, p, none⟩ = some (uv (m1.getD p 0)) := hrow1.got p _ (by rw [List.getElem?_map, List.getElem?_eq_getElem (by omega), List.getD_eq_getElem?_getD, List.getElem?_eq_getElem (by omega)]; rfl)
    have f1' : wc.frozen? ⟨g1, p, none⟩ = false := hrow1.free p
    have y0 : wc.cell? ⟨b7, 0, none⟩ = some (.slice (some ⟨g1, 0, none⟩) q d1) := hB7.cell 0
    have y1 : wc.cell? ⟨b7, 1, none⟩ = some (.slice (some ⟨g2, 0, none⟩) q d2) := hB7.cell 1
    have y2 : wc.cell? ⟨w.heap.size + 1, 1, none⟩ = some (.int .i64 (p : Int)) := ((HS.out _).1 hst).2.1.cell 1
    have y3 : wc.cell? ⟨w.heap.size + 1, 2, none⟩ = some (.int .u64 (ver : Int)) := ((HS.out _).1 hst).2.1.cell 2
    have hm : (m1.set p ver).map uv = (m1.map uv).set p (uv ver) := List.map_set
    obtain ⟨w5, hw5⟩ : ∃ w5, w5 = wc.setCell ⟨g1, p, none⟩ (.int .u64 (ver : Int)) := ⟨_, rfl⟩
    have HW5 : Hid (S7 (m1.set p ver) w5.drew) := Lib.hid (HT7.out _ w5 _ ((HS7 _ _).2 (by
      rw [hw5]
      refine ⟨HSet.out _ _ _ hst hx1.1, by simp; omega, hB7.far (Ne.symm hx1.2) _, ?_, hrow2.far (Ne.symm hx3) _⟩
      rw [hm]
      exact hrow1.set p (by simp; omega) _)) (Below.refl _ _).drew)
    have Hw5 := Lib.hid hw5
    clear hw5 HSk HS7 hst hB7 hrow1 hrow2 hm
    go_wp2_with fail
    rw [← Hw5.out]
    clear c1' f1' y0 y1 y2 y3
    have ne1 : ¬ g2 = w.heap.size + 1 := by omega
    have ne2 : ¬ g2 = b7 := hx2.2
    go_region_held3 (fun W => W.cell? ⟨w.heap.size + 1, 0, none⟩ = some (.int .i64 group) ∧ W.cell? ⟨w.heap.size + 1, 1, none⟩ = some (.int .i64 (p : Int)) ∧ W.cell? ⟨w.heap.size + 1, 2, none⟩ = some (.int .u64 (ver : Int)) ∧ W.cell? ⟨w.heap.size + 1, 3, none⟩ = some (bv x0) ∧ W.cell? ⟨w.heap.size + 1, 4, none⟩ = some (bv x1) ∧ W.cell? ⟨w.heap.size + 1, 5, none⟩ = some (bv x2) ∧ W.cell? ⟨w.heap.size + 1, 6, none⟩ = some (bv x3) ∧ W.cell? ⟨w.heap.size + 1, 7, none⟩ = some (bv x4) ∧ W.cell? ⟨w.heap.size + 1, 8, none⟩ = some (bv x5) ∧ W.cell? ⟨w.heap.size + 1, 9, none⟩ = some (bv x6) ∧ W.cell? ⟨w.heap.size + 1, 10, none⟩ = some (bv x7) ∧ W.cell? ⟨b7, 0, none⟩ = some (.slice (some ⟨g1, 0, none⟩) q d1) ∧ W.cell? ⟨b7, 1, none⟩ = some (.slice (some ⟨g2, 0, none⟩) q d2) ∧ Sk W) (with_reducible first | exact HKL.out _ (HSk'.out _ _ HW5.out) | exact HKL.out _ (HSk'.out _ _ (by assumption)) | exact HKS.out _ _ _ (HSk'.out _ _ (by assumption)) ne1 ne2)
      (first
        | (go_at_call 12; (with_reducible refine (HQ.out _ _ HW5.out).mono ?_); rintro e w6 ⟨rfl, hS6, r2, z2⟩))
    obtain ⟨hst, _, hB7, hR1, hR2⟩ := (H7.out _ _).1 hS6
    obtain ⟨_, _, h3, h4⟩ := (HS.out _).1 hst
    have hm2 : (m2.set p X).map uv = (m2.map uv).set p (uv X) := List.map_set
    have HZ := Lib.hid (h3.far (p := ⟨g2, p, none⟩) (by simp; omega) (.int .u64 (X : Int)))
    have HB7 := Lib.hid (hB7.far (p := ⟨g2, p, none⟩) (Ne.symm hx2.2) (.int .u64 (X : Int)))
    have HBw := Lib.hid (h4.setCell (p := ⟨g2, p, none⟩) (by simp; omega) (.int .u64 (X : Int)))
    have HR1 := Lib.hid (hR1.far (p := ⟨g2, p, none⟩) hx3 (.int .u64 (X : Int)))
    have HR2 : Hid (RowV (w6.setCell ⟨g2, p, none⟩ (.int .u64 (X : Int))) g2 22 d2 ((m2.set p X).map uv)) := Lib.hid (by rw [hm2]; exact hR2.set p (by simp; omega) _)
    clear r2 z2 hS6 hst hB7 hR1 hR2 h3 h4 hm2
    generalize w6.setCell ⟨g2, p, none⟩ (.int .u64 (X : Int)) = w7 at HZ HB7 HBw HR1 HR2 ⊢
    have t0 : w7.cell? ⟨b7, 0, none⟩ = some (.slice (some ⟨g1, 0, none⟩) q d1) := HB7.out.cell 0
    have t1 : w7.cell? ⟨b7, 1, none⟩ = some (.slice (some ⟨g2, 0, none⟩) q d2) := HB7.out.cell 1
    have v0 : w7.cell? ⟨w.heap.size + 1 + 1, 0, none⟩ = some (.slice none 0 0) := HZ.out.cell 0
    have v1 : w7.cell? ⟨w.heap.size + 1 + 1, 1, none⟩ = some (.slice none 0 0) := HZ.out.cell 1
    have f0 := HZ.out.frozen 0
    have f1 := HZ.out.frozen 1
    go_wp2_with fail
    refine bodyPost_ret (v := .tuple #[.agg #[.slice (some ⟨g1, 0, none⟩) q d1, .slice (some ⟨g2, 0, none⟩) q d2], .int .i64 0]) (by simp [results, Try.results21, go_sem, v0, v1]) rfl ⟨g1, d1, g2, d2, rfl, hx3, by omega, by omega, hd1, hd2, ?_, ?_, ?_⟩
    · exact (HR1.out.far (p := ⟨w.heap.size + 1 + 1, 0, none⟩) (by simp; omega) (.slice (some ⟨g1, 0, none⟩) q d1)).far (p := ⟨w.heap.size + 1 + 1, 1, none⟩) (by simp; omega) (.slice (some ⟨g2, 0, none⟩) q d2)
    · exact (HR2.out.far (p := ⟨w.heap.size + 1 + 1, 0, none⟩) (by simp; omega) (.slice (some ⟨g1, 0, none⟩) q d1)).far (p := ⟨w.heap.size + 1 + 1, 1, none⟩) (by simp; omega) (.slice (some ⟨g2, 0, none⟩) q d2)
    · exact (HBw.out.setCell (by simp; omega) _).setCell (by simp; omega) _

end Go.Proofs.Ytejhfollfmdmpaa

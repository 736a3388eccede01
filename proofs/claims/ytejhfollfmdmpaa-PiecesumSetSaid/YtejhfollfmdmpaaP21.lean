/- The walk over the statement PiecesumSet. -/
import Derived.Test.YtejhfollfmdmpaaP11
import Derived.Test.YtejhfollfmdmpaaP20
namespace Go.Proofs.Ytejhfollfmdmpaa
open Go.RowKit

/-- The versions with the first ones one higher. -/
def incL (k : List Nat) : Nat → List Nat
  | 0 => k
  | i + 1 => (incL k i).set i (Crc.u6 (((k.getD i 0 : Nat) : Int) + 1))
theorem incL_length (k : List Nat) (i : Nat) : (incL k i).length = k.length := by
  induction i with
  | zero => rfl
  | succ i ih => rw [incL, List.length_set, ih]
theorem incL_get (k : List Nat) (i j : Nat) (h : i ≤ j) : (incL k i).getD j 0 = k.getD j 0 := by
  induction i with
  | zero => rfl
  | succ i ih => rw [incL, List.getD_eq_getElem?_getD, List.getElem?_set, if_neg (by omega), ← List.getD_eq_getElem?_getD, ih (by omega)]

set_option maxHeartbeats 2000000 in
theorem PiecesumSet_walk (A1 A2 : Option Addr) (n1 c1 n2 c2 : Nat) (l1 l2 : List Nat) (g p : Int) (v x0 x1 x2 x3 x4 x5 x6 x7 : Nat) (hx : Crc.Bytes [x0, x1, x2, x3, x4, x5, x6, x7]) (w : World)
    (hr1 : RU w w.heap.size A1 n1 l1) (hr2 : RU w w.heap.size A2 n2 l2) (hc1 : n1 ≤ c1) (hc2 : n2 ≤ c2) :
    Calls Try.prog 5 #[.agg #[.slice A1 n1 c1, .slice A2 n2 c2], .agg #[.int .i64 g, .int .i64 p, .int .u64 (v : Int), bv x0, bv x1, bv x2, bv x3, bv x4, bv x5, bv x6, bv x7]] w (True1 w) := by
  unfold True1
  obtain ⟨w0, hw0⟩ : ∃ w0, w0 = (w.alloc (.cells #[.slice A1 n1 c1, .slice A2 n2 c2] 32)).alloc (.cells #[.int .i64 g, .int .i64 p, .int .u64 (v : Int), bv x0, bv x1, bv x2, bv x3, bv x4, bv x5, bv x6, bv x7] 26) := ⟨_, rfl⟩
  have hE0 : Blk w0 w.heap.size 32 #[.slice A1 n1 c1, .slice A2 n2 c2] := by rw [hw0]; exact (Blk.new _ _ _).alloc _
  have hP0 : Blk w0 (w.heap.size + 1) 26 #[.int .i64 g, .int .i64 p, .int .u64 (v : Int), bv x0, bv x1, bv x2, bv x3, bv x4, bv x5, bv x6, bv x7] := by
    rw [hw0]
    have e1 : (w.alloc (.cells #[.slice A1 n1 c1, .slice A2 n2 c2] 32)).heap.size = w.heap.size + 1 := by simp
    have h1 := Blk.new (w.alloc (.cells #[.slice A1 n1 c1, .slice A2 n2 c2] 32)) 26 #[.int .i64 g, .int .i64 p, .int .u64 (v : Int), bv x0, bv x1, bv x2, bv x3, bv x4, bv x5, bv x6, bv x7]
    rw [e1] at h1
    exact h1
  have hB0 : Below w.heap.size w w0 := by rw [hw0]; exact ((Below.refl _ _).alloc (Nat.le_refl _) _).alloc (by simp) _
  obtain ⟨St, HSt⟩ : ∃ St : World → Prop, ∀ W, St W ↔ (Blk W w.heap.size 32 #[.slice A1 n1 c1, .slice A2 n2 c2] ∧ Blk W (w.heap.size + 1) 26 #[.int .i64 g, .int .i64 p, .int .u64 (v : Int), bv x0, bv x1, bv x2, bv x3, bv x4, bv x5, bv x6, bv x7] ∧ Below w.heap.size w W) := ⟨_, fun _ => Iff.rfl⟩
  have HT : Hid (∀ W W', St W → Below W.heap.size W W' → St W') := Lib.hid (fun W W' h hb => by
    obtain ⟨h1, h2, h3⟩ := (HSt W).1 h
    exact (HSt W').2 ⟨h1.below hb h1.lt, h2.below hb h2.lt, h3.trans (hb.mono h3.size)⟩)
  have HA : Hid (∀ W, St W → Calls Try.prog 10 #[] W fun e w' => e = .returned (.bool true) ∧ St w') := Lib.hid (fun W h => (awake_any W).mono fun e w' ⟨h1, h2⟩ => ⟨h1, HT.out W w' h h2⟩)
  have HF : Hid (∀ W, St W → Calls Try.prog 16 #[.agg #[.slice A1 n1 c1, .slice A2 n2 c2]] W fun e w' => e = .returned (.bool (decide (n1 ≤ 40 ∧ n2 ≤ 40))) ∧ St w') := Lib.hid (fun W h => (fair_any _ _ _ _ _ _ W).mono fun e w' ⟨h1, h2⟩ => ⟨h1, HT.out W w' h h2⟩)
  have HS0 : Hid (St w0) := Lib.hid ((HSt _).2 ⟨hE0, hP0, hB0⟩)
  have HSB : Hid (∀ W, St W → Below w.heap.size w W) := Lib.hid (fun W h => ((HSt W).1 h).2.2)
  have HCell : Hid (∀ W, St W → W.cell? ⟨w.heap.size, 0, none⟩ = some (.slice A1 n1 c1) ∧ W.cell? ⟨w.heap.size, 1, none⟩ = some (.slice A2 n2 c2)) := Lib.hid (fun W h => ⟨((HSt W).1 h).1.cell 0, ((HSt W).1 h).1.cell 1⟩)
  have HPW : Hid (∀ W, St W → W.cell? ⟨w.heap.size + 1, 0, none⟩ = some (.int .i64 g) ∧ W.cell? ⟨w.heap.size + 1, 1, none⟩ = some (.int .i64 p) ∧ W.cell? ⟨w.heap.size + 1, 2, none⟩ = some (.int .u64 (v : Int)) ∧ W.cell? ⟨w.heap.size + 1, 3, none⟩ = some (bv x0) ∧ W.cell? ⟨w.heap.size + 1, 4, none⟩ = some (bv x1) ∧ W.cell? ⟨w.heap.size + 1, 5, none⟩ = some (bv x2) ∧ W.cell? ⟨w.heap.size + 1, 6, none⟩ = some (bv x3) ∧ W.cell? ⟨w.heap.size + 1, 7, none⟩ = some (bv x4) ∧ W.cell? ⟨w.heap.size + 1, 8, none⟩ = some (bv x5) ∧ W.cell? ⟨w.heap.size + 1, 9, none⟩ = some (bv x6) ∧ W.cell? ⟨w.heap.size + 1, 10, none⟩ = some (bv x7)) := Lib.hid (fun W h => by
    obtain ⟨_, h1, _⟩ := (HSt W).1 h
    exact ⟨h1.cell 0, h1.cell 1, h1.cell 2, h1.cell 3, h1.cell 4, h1.cell 5, h1.cell 6, h1.cell 7, h1.cell 8, h1.cell 9, h1.cell 10⟩)
  have HRd1 : Hid (∀ W, St W → Reads W w.heap.size 1 A1 n1 (l1.map uv)) := Lib.hid (fun W h => hr1.below ((HSt W).1 h).2.2)
  have HRd2 : Hid (∀ W, St W → Reads W w.heap.size 1 A2 n2 (l2.map uv)) := Lib.hid (fun W h => hr2.below ((HSt W).1 h).2.2)
  have hl1 := hr1.len
  have hl2 := hr2.len
  have Hw0 := Lib.hid hw0
  have HSt' := Lib.hid HSt
  have HX := Lib.hid hx
  clear HSt hw0 hE0 hP0 hB0 hr1 hr2 hx
  go_enter Try.func5, Try.ntmps5
  go_wp2_with fail
  rw [← Hw0.out]
  refine (HA.out _ HS0.out).mono ?_
  rintro e w1 ⟨rfl, hS1⟩
  have HS1 := Lib.hid hS1
  obtain ⟨k0, k1⟩ := HCell.out _ hS1
  clear hS1
  go_wp2_with fail
  refine (HF.out _ HS1.out).mono ?_
  clear k0 k1
  rintro e w2 ⟨rfl, hS2⟩
  have HS2 := Lib.hid hS2
  obtain ⟨k0, k1⟩ := HCell.out _ hS2
  clear hS2
  by_cases hf : n1 ≤ 40 ∧ n2 ≤ 40
  case neg =>
    rw [decide_eq_false hf]
    go_wp2_with fail
    refine (HA.out _ HS2.out).mono ?_
    rintro e w3 ⟨rfl, hS3⟩
    go_wp2
    go_ret
    exact ⟨rfl, HSB.out _ hS3⟩
  rw [decide_eq_true hf]
  have h40a := hf.1
  have h40b := hf.2
  have HSd : Hid (St w2.drew) := Lib.hid (HT.out _ _ HS2.out (Below.refl _ _).drew)
  have HSet : Hid (∀ (W : World) (a : Addr) (u : Value), St W → w2.heap.size ≤ a.block → St (W.setCell a u)) := Lib.hid (fun W a u h ha => by
    obtain ⟨h1, h2, h3⟩ := (HSt'.out W).1 h
    have h5 := ((HSt'.out w2).1 HS2.out).2.1.lt
    exact (HSt'.out _).2 ⟨h1.far (by omega) u, h2.far (by omega) u, h3.setCell (by omega) u⟩)
  clear hf HA HF HS0 HS1
  obtain ⟨i0, hi0, hz0, hz1, hz2⟩ := info_parts numInfo
  obtain ⟨NL, HNL'⟩ : ∃ NL : Nat → Option Addr → Nat → Option Addr → Nat → Nat → Nat → World → Prop, ∀ b7 P d1 Q d2 g1 g2 W, NL b7 P d1 Q d2 g1 g2 W ↔ (St W ∧ w2.heap.size ≤ b7 ∧ (0 < n1 → w2.heap.size ≤ g1 ∧ g1 ≠ b7) ∧ (0 < n2 → w2.heap.size ≤ g2 ∧ g2 ≠ b7) ∧ (0 < n1 → 0 < n2 → g1 ≠ g2) ∧ Blk W b7 32 #[.slice P n1 d1, .slice Q n2 d2] ∧ NewS W 22 g1 P n1 d1 (l1.map uv) ∧ NewS W 22 g2 Q n2 d2 (l2.map uv)) := ⟨_, fun _ _ _ _ _ _ _ _ => Iff.rfl⟩
  obtain ⟨SZ, HSZ'⟩ : ∃ SZ : World → Prop, ∀ W, SZ W ↔ (St W ∧ w2.heap.size ≤ W.heap.size) := ⟨_, fun _ => Iff.rfl⟩
  have HNL := Lib.hid HNL'
  have HL2 : Hid (∀ W, SZ W → W.cell? ⟨w.heap.size, 0, none⟩ = some (.slice A1 n1 c1) ∧ W.cell? ⟨w.heap.size, 1, none⟩ = some (.slice A2 n2 c2) ∧ SZ W) := Lib.hid (fun W h => ⟨(HCell.out _ ((HSZ' W).1 h).1).1, (HCell.out _ ((HSZ' W).1 h).1).2, h⟩)
  have HZa : Hid (∀ (W : World) (o : Obj), SZ W → SZ (W.alloc o)) := Lib.hid (fun W o h => (HSZ' _).2 ⟨HT.out _ _ ((HSZ' W).1 h).1 ((Below.refl _ _).alloc (Nat.le_refl _) _), by have := ((HSZ' W).1 h).2; simp; omega⟩)
  have HA2 : Hid (∀ (W : World) (o : Obj), SZ W → (W.alloc o).cell? ⟨w.heap.size, 0, none⟩ = some (.slice A1 n1 c1) ∧ (W.alloc o).cell? ⟨w.heap.size, 1, none⟩ = some (.slice A2 n2 c2) ∧ SZ (W.alloc o)) := Lib.hid (fun W o h => HL2.out _ (HZa.out _ _ h))
  have HZb : Hid (∀ (W W' : World), SZ W → Below W.heap.size W W' → SZ W') := Lib.hid (fun W W' h hb => (HSZ' _).2 ⟨HT.out _ _ ((HSZ' W).1 h).1 hb, by have := ((HSZ' W).1 h).2; have := hb.size; omega⟩)
  have HZs : Hid (∀ (W : World) (p1 p2 : Addr) (u1 u2 : Value), SZ W → w2.heap.size ≤ p1.block → w2.heap.size ≤ p2.block → ((W.setCell p1 u1).setCell p2 u2).cell? ⟨w.heap.size, 0, none⟩ = some (.slice A1 n1 c1) ∧ ((W.setCell p1 u1).setCell p2 u2).cell? ⟨w.heap.size, 1, none⟩ = some (.slice A2 n2 c2) ∧ SZ ((W.setCell p1 u1).setCell p2 u2)) := Lib.hid (fun W p1 p2 u1 u2 h h1 h2 => HL2.out _ ((HSZ' _).2 ⟨HSet.out _ _ _ (HSet.out _ _ _ ((HSZ' W).1 h).1 h1) h2, by have := ((HSZ' W).1 h).2; simp; omega⟩))
  have HZ0 : Hid (SZ w2.drew) := Lib.hid ((HSZ' _).2 ⟨HSd.out, Nat.le_refl _⟩)
  have HZ2 : Hid (SZ w2) := Lib.hid ((HSZ' _).2 ⟨HS2.out, Nat.le_refl _⟩)
  have HDr : Hid (∀ (W : World), SZ W → W.drew.cell? ⟨w.heap.size, 0, none⟩ = some (.slice A1 n1 c1) ∧ W.drew.cell? ⟨w.heap.size, 1, none⟩ = some (.slice A2 n2 c2) ∧ SZ W.drew) := Lib.hid (fun W h => HL2.out _ ((HSZ' _).2 ⟨HT.out _ _ ((HSZ' W).1 h).1 (Below.refl _ _).drew, ((HSZ' W).1 h).2⟩))
  have HZz : Hid (∀ W, SZ W → w2.heap.size ≤ W.heap.size) := Lib.hid (fun W h => ((HSZ' W).1 h).2)
  have HR1z : Hid (∀ W, SZ W → Reads W w.heap.size 1 A1 n1 (l1.map uv)) := Lib.hid (fun W h => HRd1.out _ ((HSZ' W).1 h).1)
  have HR2z : Hid (∀ W, SZ W → Reads W w.heap.size 1 A2 n2 (l2.map uv)) := Lib.hid (fun W h => HRd2.out _ ((HSZ' W).1 h).1)
  have HC1 : Hid (∀ (W : World) (P : Option Addr) (d1 : Nat) (Q : Option Addr) (d2 g1 g2 : Nat), SZ W → NewS W 22 g1 P n1 d1 (l1.map uv) → NewS W 22 g2 Q n2 d2 (l2.map uv) → w2.heap.size ≤ g1 → w2.heap.size ≤ g2 → (0 < n1 → 0 < n2 → g1 ≠ g2) → NL W.heap.size P d1 Q d2 g1 g2 (W.alloc (.cells #[.slice P n1 d1, .slice Q n2 d2] 32))) := Lib.hid (fun W P d1 Q d2 g1 g2 h k1 k2 e1 e2 e3 =>
    (HNL' _ _ _ _ _ _ _ _).2 ⟨((HSZ' _).1 (HZa.out _ _ h)).1, ((HSZ' W).1 h).2, fun z => ⟨e1, by have := k1.lt z; omega⟩, fun z => ⟨e2, by have := k2.lt z; omega⟩, e3, Blk.new _ _ _, k1.alloc _, k2.alloc _⟩)
  have HC2 : Hid (∀ (W : World) (b7 : Nat) (P : Option Addr) (d1 : Nat) (Q : Option Addr) (d2 g1 g2 : Nat), SZ W → Blk W b7 32 #[.slice none 0 0, .slice none 0 0] → NewS W 22 g1 P n1 d1 (l1.map uv) → NewS W 22 g2 Q n2 d2 (l2.map uv) → w2.heap.size ≤ b7 → w2.heap.size ≤ g1 → w2.heap.size ≤ g2 → (0 < n1 → 0 < n2 → g1 ≠ g2) → (0 < n1 → g1 ≠ b7) → (0 < n2 → g2 ≠ b7) → NL b7 P d1 Q d2 g1 g2 ((W.setCell ⟨b7, 0, none⟩ (.slice P n1 d1)).setCell ⟨b7, 1, none⟩ (.slice Q n2 d2))) := Lib.hid (fun W b7 P d1 Q d2 g1 g2 h hk k1 k2 e0 e1 e2 e3 e4 e5 =>
    (HNL' _ _ _ _ _ _ _ _).2 ⟨((HSZ' _).1 (HZs.out _ _ _ _ _ h e0 e0).2.2).1, e0, fun z => ⟨e1, e4 z⟩, fun z => ⟨e2, e5 z⟩, e3, hk.pair _ _, (k1.far e4 _).far e4 _, (k2.far e5 _).far e5 _⟩)
  have h1l : n1 ≤ maxLen := by unfold maxLen; omega
  have h2l : n2 ≤ maxLen := by unfold maxLen; omega
  have h1b : n1 * 8 ≤ 140737488355328 := by omega
  have h2b : n2 * 8 ≤ 140737488355328 := by omega
  have Hi0 := Lib.hid hi0
  have Hz0 := Lib.hid hz0
  have Hz1 := Lib.hid hz1
  have Hz2 := Lib.hid hz2
  clear HNL' HSZ' hi0 hz0 hz1 hz2
  go_upto_region 3 with fail
  go_cut [5] (fun s wx => ∃ b7 P d1 Q d2 g1 g2, s = .pointer (some ⟨b7, 0, none⟩) ∧ NL b7 P d1 Q d2 g1 g2 wx)
  case first =>
    go_region_held3 (fun W => W.cell? ⟨w.heap.size, 0, none⟩ = some (.slice A1 n1 c1) ∧ W.cell? ⟨w.heap.size, 1, none⟩ = some (.slice A2 n2 c2) ∧ SZ W)
      (with_reducible first | assumption | exact HL2.out _ HZ0.out | exact HDr.out _ (HZa.out _ _ HZ2.out) | exact HDr.out _ (HZa.out _ _ (HZa.out _ _ HZ2.out)) | exact HDr.out _ (HZa.out _ _ (HZa.out _ _ (HZa.out _ _ HZ2.out))) | exact HL2.out _ (by assumption) | exact HA2.out _ _ (And.right (And.right (by assumption))) | exact HA2.out _ _ (by assumption) | exact HZs.out _ _ _ _ _ (by assumption) (by simp <;> omega) (by simp <;> omega))
      (first
        | (refine step_append_new rfl (.tmp 19) (.tmp 21) _ rfl 22 i0 (.int .u64 0) 8 Try.underlying30 Hi0.out Hz0.out Hz1.out Hz2.out rfl _ rfl _ _ _ _ _ rfl (HR1z.out _ (And.right (And.right (by assumption)))) (uv_one _) h1l h1b ?_; intro ga Aa da wa hga hna hba; have hSa := HZb.out _ _ (And.right (And.right (by assumption))) hba; have za := hba.size; have la := hna.lt; have ya := HZz.out _ hSa; (try simp at za); (try simp at hga); have ka := (fun (ad : Addr) h => hba.cell (p := ad) h); have fa := (fun (ad : Addr) h => hba.frozen (p := ad) h); (try (have ya0 : w2.heap.size < wa.heap.size := by omega)); (try (have ya1 : w2.heap.size + 1 < wa.heap.size := by omega)); (try (have ya2 : w2.heap.size + 1 + 1 < wa.heap.size := by omega));(try (have xa0 : wb.heap.size < wa.heap.size := by omega)); (try (have xa1 : wb.heap.size + 1 < wa.heap.size := by omega)))
        | (refine step_append_new rfl (.tmp 23) (.tmp 25) _ rfl 22 i0 (.int .u64 0) 8 Try.underlying30 Hi0.out Hz0.out Hz1.out Hz2.out rfl _ rfl _ _ _ _ _ rfl (HR2z.out _ (And.right (And.right (by assumption)))) (uv_one _) h2l h2b ?_; intro gb Ab db wb hgb hnb hbb; have hSb := HZb.out _ _ (And.right (And.right (by assumption))) hbb; have zb := hbb.size; have lb := hnb.lt; have yb := HZz.out _ hSb; (try simp at zb); (try simp at hgb); have kb := (fun (ad : Addr) h => hbb.cell (p := ad) h); have fb := (fun (ad : Addr) h => hbb.frozen (p := ad) h); (try (have yb0 : w2.heap.size < wb.heap.size := by omega)); (try (have yb1 : w2.heap.size + 1 < wb.heap.size := by omega)); (try (have yb2 : w2.heap.size + 1 + 1 < wb.heap.size := by omega));(try (have xb0 : wa.heap.size < wb.heap.size := by omega)); (try (have xb1 : wa.heap.size + 1 < wb.heap.size := by omega))))
    all_goals (go_wp2_with fail)
    all_goals go_meet
    all_goals with_reducible first
      | refine ⟨_, Aa, da, Ab, db, ga, gb, rfl, HC1.out wb _ _ _ _ _ _ hSb ?_ hnb ?_ ?_ ?_⟩
      | refine ⟨_, Aa, da, Ab, db, ga, gb, rfl, HC1.out wa _ _ _ _ _ _ hSa hna ?_ ?_ ?_ ?_⟩
      | refine ⟨_, Aa, da, Ab, db, ga, gb, rfl, HC2.out wb _ _ _ _ _ _ _ hSb ?_ ?_ hnb ?_ ?_ ?_ ?_ ?_ ?_⟩
      | refine ⟨_, Aa, da, Ab, db, ga, gb, rfl, HC2.out wa _ _ _ _ _ _ _ hSa ?_ hna ?_ ?_ ?_ ?_ ?_ ?_ ?_⟩
    all_goals first
      | (with_reducible exact hna.below hbb)
      | (with_reducible exact (hna.alloc _).below hbb)
      | (with_reducible exact ((hna.alloc _).alloc _).below hbb)
      | (with_reducible exact hnb.below hba)
      | (with_reducible exact (hnb.alloc _).below hba)
      | (with_reducible exact ((hnb.alloc _).alloc _).below hba)
      | (intros; omega)
      | ((repeat' (first
          | exact Blk.new_at _ _ _ (by simp)
          | (with_reducible refine Blk.alloc ?_ _)
          | (with_reducible refine Blk.drew ?_)
          | (with_reducible refine Blk.below ?_ hbb ?_)
          | (with_reducible refine Blk.below ?_ hba ?_)
          | omega
          | (simp; done)
          | (simp; omega))); done)
  case rest =>
    obtain ⟨b7, P, d1, Q, d2, g1, g2, rfl, hN⟩ := hcut
    obtain ⟨hst, hb7, ha1, ha2, hdist, hB7, hn1, hn2⟩ := (HNL.out _ _ _ _ _ _ _ _).1 hN
    clear ha1 ha2 hdist hN h1l h2l h1b h2b HC1 HC2 HR1z HR2z HZz HZ0 HZs HZb HA2 HZa HL2 HNL HDr HZ2 k0 k1
    have hg1 : 0 < n1 → g1 < wc.heap.size := hn1.lt
    have hg2 : 0 < n2 → g2 < wc.heap.size := hn2.lt
    have hbz := hB7.lt
    have hd1 := hn1.2.1
    have hd2 := hn2.2.1
    obtain ⟨q, hq⟩ : ∃ q, q = min n1 n2 := ⟨_, rfl⟩
    have hwz : w2.heap.size ≤ wc.heap.size := by omega
    obtain ⟨S3, HS3'⟩ : ∃ S3 : World → Prop, ∀ W, S3 W ↔ (St W ∧ Blk W b7 32 #[.slice P n1 d1, .slice Q n2 d2] ∧ NewS W 22 g1 P n1 d1 (l1.map uv) ∧ NewS W 22 g2 Q n2 d2 (l2.map uv)) := ⟨_, fun _ => Iff.rfl⟩
    have HS3i := Lib.hid HS3'
    have HT3 : Hid (∀ W W', S3 W → Below W.heap.size W W' → S3 W') := Lib.hid (fun W W' h hb => by
      obtain ⟨h1, h2, h3, h4⟩ := (HS3' W).1 h
      exact (HS3' W').2 ⟨HT.out _ _ h1 hb, h2.below hb h2.lt, h3.below hb, h4.below hb⟩)
    have HSet3 : Hid (∀ (W : World) (a : Addr) (u : Value), S3 W → wc.heap.size ≤ a.block → S3 (W.setCell a u)) := Lib.hid (fun W a u h ha => by
      obtain ⟨h1, h2, h3, h4⟩ := (HS3' W).1 h
      exact (HS3' _).2 ⟨HSet.out _ _ _ h1 (by omega), h2.far (by omega) u, h3.far (fun z => by have := hg1 z; omega) u, h4.far (fun z => by have := hg2 z; omega) u⟩)
    have HC3 : Hid (∀ W, S3 W → W.cell? ⟨b7, 0, none⟩ = some (.slice P n1 d1) ∧ W.cell? ⟨b7, 1, none⟩ = some (.slice Q n2 d2) ∧ W.cell? ⟨w.heap.size, 0, none⟩ = some (.slice A1 n1 c1) ∧ W.cell? ⟨w.heap.size, 1, none⟩ = some (.slice A2 n2 c2)) := Lib.hid (fun W h => by
      obtain ⟨h1, h2, _⟩ := (HS3' W).1 h
      exact ⟨h2.cell 0, h2.cell 1, (HCell.out _ h1).1, (HCell.out _ h1).2⟩)
    have HPW3 : Hid (∀ W, S3 W → W.cell? ⟨w.heap.size + 1, 0, none⟩ = some (.int .i64 g) ∧ W.cell? ⟨w.heap.size + 1, 1, none⟩ = some (.int .i64 p) ∧ W.cell? ⟨w.heap.size + 1, 2, none⟩ = some (.int .u64 (v : Int)) ∧ W.cell? ⟨w.heap.size + 1, 3, none⟩ = some (bv x0) ∧ W.cell? ⟨w.heap.size + 1, 4, none⟩ = some (bv x1) ∧ W.cell? ⟨w.heap.size + 1, 5, none⟩ = some (bv x2) ∧ W.cell? ⟨w.heap.size + 1, 6, none⟩ = some (bv x3) ∧ W.cell? ⟨w.heap.size + 1, 7, none⟩ = some (bv x4) ∧ W.cell? ⟨w.heap.size + 1, 8, none⟩ = some (bv x5) ∧ W.cell? ⟨w.heap.size + 1, 9, none⟩ = some (bv x6) ∧ W.cell? ⟨w.heap.size + 1, 10, none⟩ = some (bv x7)) := Lib.hid (fun W h => HPW.out _ ((HS3' W).1 h).1)
    have HB3 : Hid (∀ W, S3 W → Below w.heap.size w W) := Lib.hid (fun W h => HSB.out _ ((HS3' W).1 h).1)
    have HSame : Hid (∀ W, S3 W → Calls Try.prog 13 #[.agg #[.slice P n1 d1, .slice Q n2 d2], .agg #[.slice A1 n1 c1, .slice A2 n2 c2]] W fun e w' => e = .returned (.bool true) ∧ S3 w') := Lib.hid (fun W h => by
      obtain ⟨h1, h2, h3, h4⟩ := (HS3' W).1 h
      have hz := (HSB.out _ h1).size
      refine (same_any l1 l2 l1 l2 W.heap.size n1 d1 n2 d2 n1 c1 n2 c2 P Q A1 A2 W h3.reads h4.reads (Reads.more (HRd1.out _ h1) hz) (Reads.more (HRd2.out _ h1) hz) (Nat.le_refl _) (by omega) (by omega)).mono ?_
      rintro e w' ⟨h5, h6⟩
      rw [decide_eq_true ⟨rfl, rfl⟩] at h5
      exact ⟨h5, HT3.out _ _ h h6⟩)
    have hS3 : S3 wc := (HS3' _).2 ⟨hst, hB7, hn1, hn2⟩
    have HS3c := Lib.hid hS3
    have Hn1 := Lib.hid hn1
    have Hn2 := Lib.hid hn2
    have Hst := Lib.hid hst
    clear hst hB7 hn1 hn2 HS3' hS3 HSt' HCell HPW HT HSet HSd HS2
    obtain ⟨y0, y1, y2, y3⟩ := HC3.out _ HS3c.out
    obtain ⟨m0, m1, m2, m3, m4, m5, m6, m7, m8, m9, m10⟩ := HPW3.out _ HS3c.out
    by_cases hp : 0 ≤ p ∧ p < (q : Int)
    case neg =>
      have HSet1 : Hid (Calls Try.prog 20 #[.agg #[.slice P n1 d1, .slice Q n2 d2], .agg #[.int .i64 g, .int .i64 p, .int .u64 (v : Int), bv x0, bv x1, bv x2, bv x3, bv x4, bv x5, bv x6, bv x7]] wc fun e w' => e = .returned (.tuple #[.agg #[.slice none 0 0, .slice none 0 0], .int .i64 2]) ∧ S3 w') := Lib.hid ((set_no n1 d1 n2 d2 P Q g p v x0 x1 x2 x3 x4 x5 x6 x7 q wc hq hp).mono fun e w' ⟨h1, h2⟩ => ⟨h1, HT3.out _ _ HS3c.out h2⟩)
      have HSet2 : Hid (∀ W, S3 W → Calls Try.prog 21 #[.agg #[.slice A1 n1 c1, .slice A2 n2 c2], .agg #[.int .i64 g, .int .i64 p, .int .u64 (v : Int), bv x0, bv x1, bv x2, bv x3, bv x4, bv x5, bv x6, bv x7]] W fun e w' => e = .returned (.tuple #[.agg #[.slice none 0 0, .slice none 0 0], .int .i64 2]) ∧ S3 w' ∧ Below W.heap.size W w') := Lib.hid (fun W h => (rset_no n1 c1 n2 c2 A1 A2 g p v x0 x1 x2 x3 x4 x5 x6 x7 q W hq hp).mono fun e w' ⟨h1, h2⟩ => ⟨h1, HT3.out _ _ h h2, h2⟩)
      clear hq hp
      go_wp2_with fail
      refine HSet1.out.mono ?_
      clear y0 y1 y2 y3 m0 m1 m2 m3 m4 m5 m6 m7 m8 m9 m10
      rintro e w5 ⟨rfl, hS5⟩
      obtain ⟨w6, hw6⟩ : ∃ w6, w6 = w5.alloc (.cells #[.slice none 0 0, .slice none 0 0] 32) := ⟨_, rfl⟩
      have hb6 : Below w5.heap.size w5 w6 := by rw [hw6]; exact (Below.refl _ _).alloc (Nat.le_refl _) _
      have hK6 : Blk w6 w5.heap.size 32 #[.slice none 0 0, .slice none 0 0] := by rw [hw6]; exact Blk.new _ _ _
      have hS6 := HT3.out _ _ hS5 hb6
      have HS6 := Lib.hid hS6
      have HK6 := Lib.hid hK6
      obtain ⟨y0, y1, y2, y3⟩ := HC3.out _ hS6
      obtain ⟨m0, m1, m2, m3, m4, m5, m6, m7, m8, m9, m10⟩ := HPW3.out _ hS6
      have Hw6 := Lib.hid hw6
      clear hS5 hS6 hK6 hb6
      rw [hw6] at y0 y1 y2 y3 m0 m1 m2 m3 m4 m5 m6 m7 m8 m9 m10
      clear hw6
      go_wp2_with fail
      rw [← Hw6.out]
      refine (HSet2.out _ HS6.out).mono ?_
      clear y0 y1 y2 y3 m0 m1 m2 m3 m4 m5 m6 m7 m8 m9 m10
      rintro e w7 ⟨rfl, hS7, hb7'⟩
      obtain ⟨w8, hw8⟩ : ∃ w8, w8 = w7.alloc (.cells #[.slice none 0 0, .slice none 0 0] 32) := ⟨_, rfl⟩
      have hb8 : Below w7.heap.size w7 w8 := by rw [hw8]; exact (Below.refl _ _).alloc (Nat.le_refl _) _
      have hK7 := HK6.out.below hb7' HK6.out.lt
      have hK8 := hK7.below hb8 hK7.lt
      have hJ8 : Blk w8 w7.heap.size 32 #[.slice none 0 0, .slice none 0 0] := by rw [hw8]; exact Blk.new _ _ _
      have hS8 := HT3.out _ _ hS7 hb8
      have HS8 := Lib.hid hS8
      obtain ⟨y0, y1, y2, y3⟩ := HC3.out _ hS8
      have a0 : w8.cell? ⟨w5.heap.size, 0, none⟩ = some (.slice none 0 0) := hK8.cell 0
      have a1 : w8.cell? ⟨w5.heap.size, 1, none⟩ = some (.slice none 0 0) := hK8.cell 1
      have a2 : w8.cell? ⟨w7.heap.size, 0, none⟩ = some (.slice none 0 0) := hJ8.cell 0
      have a3 : w8.cell? ⟨w7.heap.size, 1, none⟩ = some (.slice none 0 0) := hJ8.cell 1
      have Hw8 := Lib.hid hw8
      have HSn : Hid (Calls Try.prog 13 #[.agg #[.slice none 0 0, .slice none 0 0], .agg #[.slice none 0 0, .slice none 0 0]] w8 fun e w' => e = .returned (.bool true) ∧ S3 w') := Lib.hid (by
        refine (same_any [] [] [] [] 0 0 0 0 0 0 0 0 0 none none none none w8 (ru_nil _ _ _) (ru_nil _ _ _) (ru_nil _ _ _) (ru_nil _ _ _) (Nat.zero_le _) (by omega) (by omega)).mono ?_
        rintro e w' ⟨h5, h6⟩
        rw [decide_eq_true ⟨rfl, rfl⟩] at h5
        exact ⟨h5, HT3.out _ _ HS8.out h6⟩)
      clear hS7 hS8 hK7 hK8 hJ8 hb7' hb8
      rw [hw8] at y0 y1 y2 y3 a0 a1 a2 a3
      clear hw8
      go_wp2_with fail
      rw [← Hw8.out]
      rw [← Hw8.out] at y0 y1 y2 y3 a0 a1 a2 a3
      go_loopw [10] (fun s10 wr => s10 = .int .i64 0 ∧ wr = w8) (fun _ _ => 0)
      case atStart => exact ⟨rfl, rfl⟩
      case round =>
        obtain ⟨rfl, rfl⟩ := hrel
        go_wp2_with fail
        refine HSn.out.mono ?_
        clear y0 y1 y2 y3 a0 a1 a2 a3
        rintro e w9 ⟨rfl, hS9⟩
        have HS9 := Lib.hid hS9
        obtain ⟨y0, y1, y2, y3⟩ := HC3.out _ hS9
        clear hS9
        go_wp2_with fail
        refine (HSame.out _ HS9.out).mono ?_
        rintro e w10 ⟨rfl, hS10⟩
        go_wp2
        go_ret
        exact ⟨rfl, HB3.out _ hS10⟩
    case pos =>
      obtain ⟨pn, rfl⟩ := Int.eq_ofNat_of_zero_le hp.1
      have hpq : pn < q := by have := hp.2; omega
      have hn10 : 0 < n1 := by omega
      have hn20 : 0 < n2 := by omega
      obtain ⟨rfl, _⟩ := Hn1.out.row hn10
      obtain ⟨rfl, _⟩ := Hn2.out.row hn20
      obtain ⟨ad1, rfl, _, _⟩ := RU.at_ (HRd1.out _ Hst.out) hn10
      obtain ⟨ad2, rfl, _, _⟩ := RU.at_ (HRd2.out _ Hst.out) hn20
      have hq40 : q ≤ 40 := by omega
      obtain ⟨K1, hK1⟩ : ∃ K1, K1 = (l1.take q).set pn v := ⟨_, rfl⟩
      obtain ⟨K2, hK2⟩ : ∃ K2, K2 = (l2.take q).set pn (Crc.psum g pn v [x0, x1, x2, x3, x4, x5, x6, x7]) := ⟨_, rfl⟩
      have hlK1 : K1.length = q := by rw [hK1]; simp; omega
      have hlK2 : K2.length = q := by rw [hK2]; simp; omega
      have HSet1 : Hid (Calls Try.prog 20 #[.agg #[.slice (some ⟨g1, 0, none⟩) n1 d1, .slice (some ⟨g2, 0, none⟩) n2 d2], .agg #[.int .i64 g, .int .i64 (pn : Int), .int .u64 (v : Int), bv x0, bv x1, bv x2, bv x3, bv x4, bv x5, bv x6, bv x7]] wc fun e w' => SetIs wc w' e q K1 K2) := Lib.hid (by
        have h := set_yes l1 l2 wc.heap.size n1 d1 n2 d2 ⟨g1, 0, none⟩ ⟨g2, 0, none⟩ g pn v x0 x1 x2 x3 x4 x5 x6 x7 q HX.out wc Hn1.out.reads Hn2.out.reads (Nat.le_refl _) hd1 hd2 hq (by omega) hpq
        rw [← hK1, ← hK2] at h
        exact h)
      have HSet2 : Hid (∀ W, S3 W → Calls Try.prog 21 #[.agg #[.slice (some ad1) n1 c1, .slice (some ad2) n2 c2], .agg #[.int .i64 g, .int .i64 (pn : Int), .int .u64 (v : Int), bv x0, bv x1, bv x2, bv x3, bv x4, bv x5, bv x6, bv x7]] W fun e w' => SetIs W w' e q K1 K2) := Lib.hid (fun W hS => by
        have hs := ((HS3i.out W).1 hS).1
        have h := rset_yes l1 l2 w.heap.size n1 c1 n2 c2 ad1 ad2 g pn v x0 x1 x2 x3 x4 x5 x6 x7 q HX.out W (HRd1.out _ hs) (HRd2.out _ hs) (HSB.out _ hs).size hc1 hc2 hq (by omega) hpq
        rw [← hK1, ← hK2] at h
        exact h)
      have Hq := Lib.hid hq
      clear hq hp hK1 hK2
      go_wp2_with fail
      refine HSet1.out.mono ?_
      clear y0 y1 y2 y3 m0 m1 m2 m3 m4 m5 m6 m7 m8 m9 m10
      rintro e w5 ⟨a1, ca, a2, ca2, rfl, ha12, hza1, hza2, hqa1, hqa2, hRa1, hRa2, hba⟩
      have hS5 := HT3.out _ _ HS3c.out hba
      have la1 := hRa1.lt
      have la2 := hRa2.lt
      obtain ⟨w6, hw6⟩ : ∃ w6, w6 = w5.alloc (.cells #[.slice (some ⟨a1, 0, none⟩) q ca, .slice (some ⟨a2, 0, none⟩) q ca2] 32) := ⟨_, rfl⟩
      have hb6 : Below w5.heap.size w5 w6 := by rw [hw6]; exact (Below.refl _ _).alloc (Nat.le_refl _) _
      have hK6 : Blk w6 w5.heap.size 32 #[.slice (some ⟨a1, 0, none⟩) q ca, .slice (some ⟨a2, 0, none⟩) q ca2] := by rw [hw6]; exact Blk.new _ _ _
      have hz6 : w6.heap.size = w5.heap.size + 1 := by rw [hw6]; simp
      have HRa1 := Lib.hid (hRa1.below hb6 hRa1.lt)
      have HRa2 := Lib.hid (hRa2.below hb6 hRa2.lt)
      have HK6 := Lib.hid hK6
      have HS6 := Lib.hid (HT3.out _ _ hS5 hb6)
      obtain ⟨y0, y1, y2, y3⟩ := HC3.out _ HS6.out
      obtain ⟨m0, m1, m2, m3, m4, m5, m6, m7, m8, m9, m10⟩ := HPW3.out _ HS6.out
      have Hw6 := Lib.hid hw6
      clear hS5 hK6 hb6 hRa1 hRa2 hba
      rw [hw6] at y0 y1 y2 y3 m0 m1 m2 m3 m4 m5 m6 m7 m8 m9 m10
      clear hw6
      go_wp2_with fail
      rw [← Hw6.out]
      refine (HSet2.out _ HS6.out).mono ?_
      clear y0 y1 y2 y3 m0 m1 m2 m3 m4 m5 m6 m7 m8 m9 m10
      rintro e w7 ⟨b1, cb, b2, cb2, rfl, hb12, hzb1, hzb2, hqb1, hqb2, hRb1, hRb2, hbb⟩
      have lb1 := hRb1.lt
      have lb2 := hRb2.lt
      obtain ⟨w8, hw8⟩ : ∃ w8, w8 = w7.alloc (.cells #[.slice (some ⟨b1, 0, none⟩) q cb, .slice (some ⟨b2, 0, none⟩) q cb2] 32) := ⟨_, rfl⟩
      have hb8 : Below w7.heap.size w7 w8 := by rw [hw8]; exact (Below.refl _ _).alloc (Nat.le_refl _) _
      obtain ⟨ba, hba⟩ : ∃ ba, ba = w5.heap.size := ⟨_, rfl⟩
      obtain ⟨bb, hbb'⟩ : ∃ bb, bb = w7.heap.size := ⟨_, rfl⟩
      have hs67 := hbb.size
      obtain ⟨S4, HS4'⟩ : ∃ S4 : List Nat → World → Prop, ∀ k W, S4 k W ↔ (S3 W ∧ Blk W ba 32 #[.slice (some ⟨a1, 0, none⟩) q ca, .slice (some ⟨a2, 0, none⟩) q ca2] ∧ Blk W bb 32 #[.slice (some ⟨b1, 0, none⟩) q cb, .slice (some ⟨b2, 0, none⟩) q cb2] ∧ k.length = q ∧ RowV W a1 22 ca (k.map uv) ∧ RowV W a2 22 ca2 (K2.map uv) ∧ RowV W b1 22 cb (k.map uv) ∧ RowV W b2 22 cb2 (K2.map uv)) := ⟨_, fun _ _ => Iff.rfl⟩
      have HS4i := Lib.hid HS4'
      have hS8 : S4 K1 w8 := (HS4' _ _).2 ⟨HT3.out _ _ (HT3.out _ _ HS6.out hbb) hb8, by rw [hba]; exact (HK6.out.below hbb HK6.out.lt).below hb8 (by omega), by rw [hw8, hbb']; exact Blk.new _ _ _, hlK1,
        (HRa1.out.below hbb (by omega)).below hb8 (by omega), (HRa2.out.below hbb (by omega)).below hb8 (by omega), hRb1.below hb8 (by omega), hRb2.below hb8 (by omega)⟩
      have HS8 := Lib.hid hS8
      have n1' : ¬ a1 = b1 := by omega
      have n2' : ¬ a1 = b2 := by omega
      have n3' : ¬ a1 = ba := by omega
      have n4' : ¬ a1 = bb := by omega
      have n5' : ¬ b1 = a2 := by omega
      have n6' : ¬ b1 = ba := by omega
      have n7' : ¬ b1 = bb := by omega
      have n8' : ¬ b1 = a1 := by omega
      have n9' : ¬ bb = a1 := by omega
      have nwa : wc.heap.size ≤ a1 := hza1
      have nwb : wc.heap.size ≤ b1 := by have := ((HS3i.out _).1 HS6.out).2.1.lt; omega
      have HSt4 : Hid (∀ k W i x, S4 k W → i < q → S4 (k.set i x) ((W.setCell ⟨a1, i, none⟩ (.int .u64 (x : Int))).setCell ⟨b1, i, none⟩ (.int .u64 (x : Int)))) := Lib.hid (fun k W i x h hi => by
        obtain ⟨h1, h2, h3, h4, h5, h6, h7, h8⟩ := (HS4' k W).1 h
        have hm : (k.set i x).map uv = (k.map uv).set i (uv x) := List.map_set
        refine (HS4' _ _).2 ⟨HSet3.out _ _ _ (HSet3.out _ _ _ h1 nwa) nwb, (h2.far (Ne.symm n3') _).far (Ne.symm n6') _, (h3.far n9' _).far (Ne.symm n7') _, by simp; exact h4, ?_, (h6.far (Ne.symm ha12) _).far (Ne.symm n5') _, ?_, (h8.far (Ne.symm n2') _).far (Ne.symm hb12) _⟩
        · rw [hm]; exact (h5.set i (by simp; omega) _).far n1' _
        · rw [hm]; exact (h7.far n8' _).set i (by simp; omega) _)
      have HC4 : Hid (∀ k W, S4 k W → W.cell? ⟨ba, 0, none⟩ = some (.slice (some ⟨a1, 0, none⟩) q ca) ∧ W.cell? ⟨ba, 1, none⟩ = some (.slice (some ⟨a2, 0, none⟩) q ca2) ∧ W.cell? ⟨bb, 0, none⟩ = some (.slice (some ⟨b1, 0, none⟩) q cb) ∧ W.cell? ⟨bb, 1, none⟩ = some (.slice (some ⟨b2, 0, none⟩) q cb2) ∧ (∀ u i, (W.setCell ⟨a1, i, none⟩ u).cell? ⟨bb, 0, none⟩ = some (.slice (some ⟨b1, 0, none⟩) q cb))) := Lib.hid (fun k W h => by
        obtain ⟨h1, h2, h3, _⟩ := (HS4' k W).1 h
        exact ⟨h2.cell 0, h2.cell 1, h3.cell 0, h3.cell 1, fun u i => (h3.far n9' u).cell 0⟩)
      have HE4 : Hid (∀ k W i, S4 k W → i < q → W.cell? ⟨a1, i, none⟩ = some (.int .u64 ((k.getD i 0 : Nat) : Int)) ∧ W.frozen? ⟨a1, i, none⟩ = false ∧ (∀ u, (W.setCell ⟨a1, i, none⟩ u).cell? ⟨b1, i, none⟩ = some (.int .u64 ((k.getD i 0 : Nat) : Int))) ∧ (∀ u, (W.setCell ⟨a1, i, none⟩ u).frozen? ⟨b1, i, none⟩ = false)) := Lib.hid (fun k W i h hi => by
        obtain ⟨h1, h2, h3, h4, h5, h6, h7, h8⟩ := (HS4' k W).1 h
        have hg : (k.map uv)[i]? = some (.int .u64 ((k.getD i 0 : Nat) : Int)) := by rw [List.getElem?_map, List.getElem?_eq_getElem (by omega), List.getD_eq_getElem?_getD, List.getElem?_eq_getElem (by omega)]; rfl
        exact ⟨h5.got i _ hg, h5.free i, fun u => (h7.far n8' u).got i _ hg, fun u => (h7.far n8' u).free i⟩)
      have HSm4 : Hid (∀ k W, S4 k W → Calls Try.prog 13 #[.agg #[.slice (some ⟨a1, 0, none⟩) q ca, .slice (some ⟨a2, 0, none⟩) q ca2], .agg #[.slice (some ⟨b1, 0, none⟩) q cb, .slice (some ⟨b2, 0, none⟩) q cb2]] W fun e w' => e = .returned (.bool true) ∧ S3 w') := Lib.hid (fun k W h => by
        obtain ⟨h1, h2, h3, h4, h5, h6, h7, h8⟩ := (HS4' k W).1 h
        have r5 := h5.reads
        have r6 := h6.reads
        have r7 := h7.reads
        have r8 := h8.reads
        rw [List.length_map, h4] at r5 r7
        rw [List.length_map, hlK2] at r6 r8
        refine (same_any k K2 k K2 W.heap.size q ca q ca2 q cb q cb2 _ _ _ _ W r5 r6 r7 r8 (Nat.le_refl _) (by omega) (by omega)).mono ?_
        rintro e w' ⟨h9, h10⟩
        rw [decide_eq_true ⟨rfl, rfl⟩] at h9
        exact ⟨h9, HT3.out _ _ h1 h10⟩)
      have HS43 : Hid (∀ k W, S4 k W → S3 W) := Lib.hid (fun k W h => ((HS4' k W).1 h).1)
      have HlK1 := Lib.hid hlK1
      have Hw8 := Lib.hid hw8
      have Hbb := Lib.hid hbb'
      have Hba := Lib.hid hba
      clear HS4' hS8 hb8 hbb hRb1 hRb2 hlK1 hlK2 hs67 hz6 la1 la2 lb1 lb2 hza1 hza2 hzb1 hzb2 hbb' hba
      clear hw8
      go_wp2_with fail
      rw [← Hw8.out, ← Hbb.out, ← Hba.out]
      go_loopw [10] (fun s10 wr => ∃ i : Nat, i ≤ q ∧ s10 = .int .i64 (i : Int) ∧ S4 (incL K1 i) wr) (fun s10 _ => q - (intOf s10).toNat)
      case atStart => exact ⟨0, by omega, rfl, HS8.out⟩
      case round =>
        obtain ⟨i, hi, rfl, hS⟩ := hrel
        have HSr := Lib.hid hS
        obtain ⟨u0, u1, u2, u3, u4⟩ := HC4.out _ _ hS
        clear hS
        by_cases hlt : i < q
        · obtain ⟨f0, f1, f2, f3⟩ := HE4.out _ _ _ HSr.out hlt
          rw [incL_get K1 i i (Nat.le_refl _)] at f0 f2
          have HSn := Lib.hid (HSt4.out _ _ _ (Crc.u6 (((K1.getD i 0 : Nat) : Int) + 1)) HSr.out hlt)
          have hwr := Crc.u6_wrap (((K1.getD i 0 : Nat) : Int) + 1)
          have HSn' : Hid (S4 (incL K1 (i + 1)) _) := Lib.hid HSn.out
          generalize Crc.u6 (((K1.getD i 0 : Nat) : Int) + 1) = y at hwr HSn'
          generalize K1.getD i 0 = x at f0 f2 hwr
          clear HSn
          go_wp2_with fail
          go_roundw
          case rel => exact ⟨i + 1, by omega, by go_num, HSn'.out⟩
          case measure => simp [intOf]; omega
        · have e : i = q := by omega
          have He := Lib.hid e
          clear e
          have hSr := HSr.out
          have HSr3 := Lib.hid (HS43.out _ _ hSr)
          obtain ⟨y0, y1, y2, y3⟩ := HC3.out _ HSr3.out
          clear hSr
          go_wp2_with fail
          refine (HSm4.out _ _ HSr.out).mono ?_
          clear u0 u1 u2 u3 u4 y0 y1 y2 y3
          rintro e w9 ⟨rfl, hS9⟩
          have HS9 := Lib.hid hS9
          obtain ⟨y0, y1, y2, y3⟩ := HC3.out _ hS9
          clear hS9
          go_wp2_with fail
          refine (HSame.out _ HS9.out).mono ?_
          rintro e w10 ⟨rfl, hS10⟩
          go_wp2
          go_ret
          exact ⟨rfl, HB3.out _ hS10⟩

end Go.Proofs.Ytejhfollfmdmpaa

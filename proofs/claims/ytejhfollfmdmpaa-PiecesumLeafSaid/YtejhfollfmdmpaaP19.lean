/- The walk over the statement PiecesumLeaf. -/
import Derived.Test.YtejhfollfmdmpaaP11
import Derived.Test.YtejhfollfmdmpaaP14
import Derived.Test.YtejhfollfmdmpaaLf
import Derived.Test.YtejhfollfmdmpaaNew
namespace Go.Proofs.Ytejhfollfmdmpaa
open Go.RowKit

set_option maxHeartbeats 2000000 in
theorem PiecesumLeaf_walk (A1 A2 : Option Addr) (n1 c1 n2 c2 : Nat) (l1 l2 : List Nat) (at_ : Int) (other : Nat) (hoth : other < 18446744073709551616) (w : World)
    (hr1 : RU w w.heap.size A1 n1 l1) (hr2 : RU w w.heap.size A2 n2 l2) (hv1 : ∀ b ∈ l1, b < 18446744073709551616) (hv2 : ∀ b ∈ l2, b < 18446744073709551616) :
    Calls Try.prog 9 #[.agg #[.slice A1 n1 c1, .slice A2 n2 c2], .int .i64 at_, .int .u64 (other : Int)] w (True1 w) := by
  unfold True1
  obtain ⟨w0, hw0⟩ : ∃ w0, w0 = w.alloc (.cells #[.slice A1 n1 c1, .slice A2 n2 c2] 32) := ⟨_, rfl⟩
  have hE0 : Blk w0 w.heap.size 32 #[.slice A1 n1 c1, .slice A2 n2 c2] := by rw [hw0]; exact Blk.new _ _ _
  have hB0 : Below w.heap.size w w0 := by rw [hw0]; exact (Below.refl _ _).alloc (Nat.le_refl _) _
  obtain ⟨St, HSt⟩ : ∃ St : World → Prop, ∀ W, St W ↔ (Blk W w.heap.size 32 #[.slice A1 n1 c1, .slice A2 n2 c2] ∧ Below w.heap.size w W) := ⟨_, fun _ => Iff.rfl⟩
  have HT : Hid (∀ W W', St W → Below W.heap.size W W' → St W') := Lib.hid (fun W W' h hb => by
    obtain ⟨h1, h2⟩ := (HSt W).1 h
    exact (HSt W').2 ⟨h1.below hb h1.lt, h2.trans (hb.mono h2.size)⟩)
  have HA : Hid (∀ W, St W → Calls Try.prog 10 #[] W fun e w' => e = .returned (.bool true) ∧ St w') := Lib.hid (fun W h => (awake_any W).mono fun e w' ⟨h1, h2⟩ => ⟨h1, HT.out W w' h h2⟩)
  have HF : Hid (∀ W, St W → Calls Try.prog 16 #[.agg #[.slice A1 n1 c1, .slice A2 n2 c2]] W fun e w' => e = .returned (.bool (decide (n1 ≤ 40 ∧ n2 ≤ 40))) ∧ St w') := Lib.hid (fun W h => (fair_any _ _ _ _ _ _ W).mono fun e w' ⟨h1, h2⟩ => ⟨h1, HT.out W w' h h2⟩)
  have HS0 : Hid (St w0) := Lib.hid ((HSt _).2 ⟨hE0, hB0⟩)
  have HSB : Hid (∀ W, St W → Below w.heap.size w W) := Lib.hid (fun W h => ((HSt W).1 h).2)
  have HCell : Hid (∀ W, St W → W.cell? ⟨w.heap.size, 0, none⟩ = some (.slice A1 n1 c1) ∧ W.cell? ⟨w.heap.size, 1, none⟩ = some (.slice A2 n2 c2)) := Lib.hid (fun W h => ⟨((HSt W).1 h).1.cell 0, ((HSt W).1 h).1.cell 1⟩)
  have HRd1 : Hid (∀ W, St W → Reads W w.heap.size 1 A1 n1 (l1.map uv)) := Lib.hid (fun W h => hr1.below ((HSt W).1 h).2)
  have HRd2 : Hid (∀ W, St W → Reads W w.heap.size 1 A2 n2 (l2.map uv)) := Lib.hid (fun W h => hr2.below ((HSt W).1 h).2)
  have hl1 := hr1.len
  have hl2 := hr2.len
  have Hw0 := Lib.hid hw0
  have HSt' := Lib.hid HSt
  clear HSt hw0 hE0 hB0 hr1 hr2
  go_enter Try.func9, Try.ntmps9
  go_wp2_with fail
  rw [← Hw0.out]
  refine (HA.out _ HS0.out).mono ?_
  rintro e w1 ⟨rfl, hS1⟩
  have HS1 := Lib.hid hS1
  obtain ⟨k0, k1⟩ := HCell.out _ hS1
  clear hS1
  go_wp2_with fail
  refine (HF.out _ HS1.out).mono ?_
  clear k0 k1
  rintro e w2 ⟨rfl, hS2⟩
  have HS2 := Lib.hid hS2
  obtain ⟨k0, k1⟩ := HCell.out _ hS2
  clear hS2
  by_cases hf : n1 ≤ 40 ∧ n2 ≤ 40
  case neg =>
    rw [decide_eq_false hf]
    go_wp2_with fail
    refine (HA.out _ HS2.out).mono ?_
    rintro e w3 ⟨rfl, hS3⟩
    go_wp2
    go_ret
    exact ⟨rfl, HSB.out _ hS3⟩
  rw [decide_eq_true hf]
  by_cases he : n1 = n2
  case neg =>
    have t0 : ((n1 : Int) != (n2 : Int)) = true := bne_iff_ne.2 (by omega)
    go_wp2_with fail
    refine (HA.out _ HS2.out).mono ?_
    rintro e w3 ⟨rfl, hS3⟩
    go_wp2
    go_ret
    exact ⟨rfl, HSB.out _ hS3⟩
  have t0 : ((n1 : Int) != (n2 : Int)) = false := by rw [he]; exact bne_self_eq_false _
  by_cases h0 : at_ < 0
  case pos =>
    have He := Lib.hid he
    clear he
    go_wp2_with fail
    refine (HA.out _ HS2.out).mono ?_
    rintro e w3 ⟨rfl, hS3⟩
    go_wp2
    go_ret
    exact ⟨rfl, HSB.out _ hS3⟩
  by_cases h2 : at_ ≥ 2 * (n2 : Int)
  case pos =>
    have He := Lib.hid he
    clear he
    go_wp2_with fail
    refine (HA.out _ HS2.out).mono ?_
    rintro e w3 ⟨rfl, hS3⟩
    go_wp2
    go_ret
    exact ⟨rfl, HSB.out _ hS3⟩
  have h40a := hf.1
  have h40b := hf.2
  have hn1 : 0 < n1 := by omega
  have hn2 : 0 < n2 := by omega
  have He := Lib.hid he
  have HSd : Hid (St w2.drew) := Lib.hid (HT.out _ _ HS2.out (Below.refl _ _).drew)
  have HSet : Hid (∀ (W : World) (p : Addr) (u : Value), St W → w2.heap.size ≤ p.block → St (W.setCell p u)) := Lib.hid (fun W p u h hp => by
    obtain ⟨h1, h2⟩ := (HSt'.out W).1 h
    have h3 := ((HSt'.out w2).1 HS2.out).1.lt
    exact (HSt'.out _).2 ⟨h1.far (by omega) u, h2.setCell (by omega) u⟩)
  clear he hf HA HF HS0 HS1
  obtain ⟨i0, hi0, hz0, hz1, hz2⟩ := info_parts numInfo
  obtain ⟨NL, HNL'⟩ : ∃ NL : Nat → Option Addr → Nat → Option Addr → Nat → Nat → Nat → World → Prop, ∀ b7 P d1 Q d2 g1 g2 W, NL b7 P d1 Q d2 g1 g2 W ↔ (St W ∧ w2.heap.size ≤ b7 ∧ (0 < n1 → w2.heap.size ≤ g1 ∧ g1 ≠ b7) ∧ (0 < n2 → w2.heap.size ≤ g2 ∧ g2 ≠ b7) ∧ (0 < n1 → 0 < n2 → g1 ≠ g2) ∧ Blk W b7 32 #[.slice P n1 d1, .slice Q n2 d2] ∧ NewS W 22 g1 P n1 d1 (l1.map uv) ∧ NewS W 22 g2 Q n2 d2 (l2.map uv)) := ⟨_, fun _ _ _ _ _ _ _ _ => Iff.rfl⟩
  obtain ⟨SZ, HSZ'⟩ : ∃ SZ : World → Prop, ∀ W, SZ W ↔ (St W ∧ w2.heap.size ≤ W.heap.size) := ⟨_, fun _ => Iff.rfl⟩
  have HNL := Lib.hid HNL'
  have HL2 : Hid (∀ W, SZ W → W.cell? ⟨w.heap.size, 0, none⟩ = some (.slice A1 n1 c1) ∧ W.cell? ⟨w.heap.size, 1, none⟩ = some (.slice A2 n2 c2) ∧ SZ W) := Lib.hid (fun W h => ⟨(HCell.out _ ((HSZ' W).1 h).1).1, (HCell.out _ ((HSZ' W).1 h).1).2, h⟩)
  have HZa : Hid (∀ (W : World) (o : Obj), SZ W → SZ (W.alloc o)) := Lib.hid (fun W o h => (HSZ' _).2 ⟨HT.out _ _ ((HSZ' W).1 h).1 ((Below.refl _ _).alloc (Nat.le_refl _) _), by have := ((HSZ' W).1 h).2; simp; omega⟩)
  have HA2 : Hid (∀ (W : World) (o : Obj), SZ W → (W.alloc o).cell? ⟨w.heap.size, 0, none⟩ = some (.slice A1 n1 c1) ∧ (W.alloc o).cell? ⟨w.heap.size, 1, none⟩ = some (.slice A2 n2 c2) ∧ SZ (W.alloc o)) := Lib.hid (fun W o h => HL2.out _ (HZa.out _ _ h))
  have HZb : Hid (∀ (W W' : World), SZ W → Below W.heap.size W W' → SZ W') := Lib.hid (fun W W' h hb => (HSZ' _).2 ⟨HT.out _ _ ((HSZ' W).1 h).1 hb, by have := ((HSZ' W).1 h).2; have := hb.size; omega⟩)
  have HZs : Hid (∀ (W : World) (p1 p2 : Addr) (u1 u2 : Value), SZ W → w2.heap.size ≤ p1.block → w2.heap.size ≤ p2.block → ((W.setCell p1 u1).setCell p2 u2).cell? ⟨w.heap.size, 0, none⟩ = some (.slice A1 n1 c1) ∧ ((W.setCell p1 u1).setCell p2 u2).cell? ⟨w.heap.size, 1, none⟩ = some (.slice A2 n2 c2) ∧ SZ ((W.setCell p1 u1).setCell p2 u2)) := Lib.hid (fun W p1 p2 u1 u2 h h1 h2 => HL2.out _ ((HSZ' _).2 ⟨HSet.out _ _ _ (HSet.out _ _ _ ((HSZ' W).1 h).1 h1) h2, by have := ((HSZ' W).1 h).2; simp; omega⟩))
  have HZ0 : Hid (SZ w2.drew) := Lib.hid ((HSZ' _).2 ⟨HSd.out, Nat.le_refl _⟩)
  have HZ2 : Hid (SZ w2) := Lib.hid ((HSZ' _).2 ⟨HS2.out, Nat.le_refl _⟩)
  have HDr : Hid (∀ (W : World), SZ W → W.drew.cell? ⟨w.heap.size, 0, none⟩ = some (.slice A1 n1 c1) ∧ W.drew.cell? ⟨w.heap.size, 1, none⟩ = some (.slice A2 n2 c2) ∧ SZ W.drew) := Lib.hid (fun W h => HL2.out _ ((HSZ' _).2 ⟨HT.out _ _ ((HSZ' W).1 h).1 (Below.refl _ _).drew, ((HSZ' W).1 h).2⟩))
  have HZz : Hid (∀ W, SZ W → w2.heap.size ≤ W.heap.size) := Lib.hid (fun W h => ((HSZ' W).1 h).2)
  have HR1z : Hid (∀ W, SZ W → Reads W w.heap.size 1 A1 n1 (l1.map uv)) := Lib.hid (fun W h => HRd1.out _ ((HSZ' W).1 h).1)
  have HR2z : Hid (∀ W, SZ W → Reads W w.heap.size 1 A2 n2 (l2.map uv)) := Lib.hid (fun W h => HRd2.out _ ((HSZ' W).1 h).1)
  have HC1 : Hid (∀ (W : World) (P : Option Addr) (d1 : Nat) (Q : Option Addr) (d2 g1 g2 : Nat), SZ W → NewS W 22 g1 P n1 d1 (l1.map uv) → NewS W 22 g2 Q n2 d2 (l2.map uv) → w2.heap.size ≤ g1 → w2.heap.size ≤ g2 → (0 < n1 → 0 < n2 → g1 ≠ g2) → NL W.heap.size P d1 Q d2 g1 g2 (W.alloc (.cells #[.slice P n1 d1, .slice Q n2 d2] 32))) := Lib.hid (fun W P d1 Q d2 g1 g2 h k1 k2 e1 e2 e3 =>
    (HNL' _ _ _ _ _ _ _ _).2 ⟨((HSZ' _).1 (HZa.out _ _ h)).1, ((HSZ' W).1 h).2, fun z => ⟨e1, by have := k1.lt z; omega⟩, fun z => ⟨e2, by have := k2.lt z; omega⟩, e3, Blk.new _ _ _, k1.alloc _, k2.alloc _⟩)
  have HC2 : Hid (∀ (W : World) (b7 : Nat) (P : Option Addr) (d1 : Nat) (Q : Option Addr) (d2 g1 g2 : Nat), SZ W → Blk W b7 32 #[.slice none 0 0, .slice none 0 0] → NewS W 22 g1 P n1 d1 (l1.map uv) → NewS W 22 g2 Q n2 d2 (l2.map uv) → w2.heap.size ≤ b7 → w2.heap.size ≤ g1 → w2.heap.size ≤ g2 → (0 < n1 → 0 < n2 → g1 ≠ g2) → (0 < n1 → g1 ≠ b7) → (0 < n2 → g2 ≠ b7) → NL b7 P d1 Q d2 g1 g2 ((W.setCell ⟨b7, 0, none⟩ (.slice P n1 d1)).setCell ⟨b7, 1, none⟩ (.slice Q n2 d2))) := Lib.hid (fun W b7 P d1 Q d2 g1 g2 h hk k1 k2 e0 e1 e2 e3 e4 e5 =>
    (HNL' _ _ _ _ _ _ _ _).2 ⟨((HSZ' _).1 (HZs.out _ _ _ _ _ h e0 e0).2.2).1, e0, fun z => ⟨e1, e4 z⟩, fun z => ⟨e2, e5 z⟩, e3, hk.pair _ _, (k1.far e4 _).far e4 _, (k2.far e5 _).far e5 _⟩)
  have h1l : n1 ≤ maxLen := by unfold maxLen; omega
  have h2l : n2 ≤ maxLen := by unfold maxLen; omega
  have h1b : n1 * 8 ≤ 140737488355328 := by omega
  have h2b : n2 * 8 ≤ 140737488355328 := by omega
  have Hi0 := Lib.hid hi0
  have Hz0 := Lib.hid hz0
  have Hz1 := Lib.hid hz1
  have Hz2 := Lib.hid hz2
  clear HNL' HSZ' hi0 hz0 hz1 hz2
  go_upto_region 3 with fail
  go_cut [7] (fun s wx => ∃ b7 P d1 Q d2 g1 g2, s = .pointer (some ⟨b7, 0, none⟩) ∧ NL b7 P d1 Q d2 g1 g2 wx)
  case first =>
    go_region_held3 (fun W => W.cell? ⟨w.heap.size, 0, none⟩ = some (.slice A1 n1 c1) ∧ W.cell? ⟨w.heap.size, 1, none⟩ = some (.slice A2 n2 c2) ∧ SZ W)
      (with_reducible first | assumption | exact HL2.out _ HZ0.out | exact HDr.out _ (HZa.out _ _ HZ2.out) | exact HDr.out _ (HZa.out _ _ (HZa.out _ _ HZ2.out)) | exact HDr.out _ (HZa.out _ _ (HZa.out _ _ (HZa.out _ _ HZ2.out))) | exact HL2.out _ (by assumption) | exact HA2.out _ _ (And.right (And.right (by assumption))) | exact HA2.out _ _ (by assumption) | exact HZs.out _ _ _ _ _ (by assumption) (by simp <;> omega) (by simp <;> omega))
      (first
        | (refine step_append_new rfl (.tmp 38) (.tmp 40) _ rfl 22 i0 (.int .u64 0) 8 Try.underlying30 Hi0.out Hz0.out Hz1.out Hz2.out rfl _ rfl _ _ _ _ _ rfl (HR1z.out _ (And.right (And.right (by assumption)))) (uv_one _) h1l h1b ?_; intro ga Aa da wa hga hna hba; have hSa := HZb.out _ _ (And.right (And.right (by assumption))) hba; have za := hba.size; have la := hna.lt; have ya := HZz.out _ hSa; (try simp at za); (try simp at hga); have ka := (fun (ad : Addr) h => hba.cell (p := ad) h); have fa := (fun (ad : Addr) h => hba.frozen (p := ad) h); (try (have ya0 : w2.heap.size < wa.heap.size := by omega)); (try (have ya1 : w2.heap.size + 1 < wa.heap.size := by omega)); (try (have ya2 : w2.heap.size + 1 + 1 < wa.heap.size := by omega));(try (have xa0 : wb.heap.size < wa.heap.size := by omega)); (try (have xa1 : wb.heap.size + 1 < wa.heap.size := by omega)))
        | (refine step_append_new rfl (.tmp 42) (.tmp 44) _ rfl 22 i0 (.int .u64 0) 8 Try.underlying30 Hi0.out Hz0.out Hz1.out Hz2.out rfl _ rfl _ _ _ _ _ rfl (HR2z.out _ (And.right (And.right (by assumption)))) (uv_one _) h2l h2b ?_; intro gb Ab db wb hgb hnb hbb; have hSb := HZb.out _ _ (And.right (And.right (by assumption))) hbb; have zb := hbb.size; have lb := hnb.lt; have yb := HZz.out _ hSb; (try simp at zb); (try simp at hgb); have kb := (fun (ad : Addr) h => hbb.cell (p := ad) h); have fb := (fun (ad : Addr) h => hbb.frozen (p := ad) h); (try (have yb0 : w2.heap.size < wb.heap.size := by omega)); (try (have yb1 : w2.heap.size + 1 < wb.heap.size := by omega)); (try (have yb2 : w2.heap.size + 1 + 1 < wb.heap.size := by omega));(try (have xb0 : wa.heap.size < wb.heap.size := by omega)); (try (have xb1 : wa.heap.size + 1 < wb.heap.size := by omega))))
    all_goals (go_wp2_with fail)
    all_goals go_meet
    all_goals with_reducible first
      | refine ⟨_, Aa, da, Ab, db, ga, gb, rfl, HC1.out wb _ _ _ _ _ _ hSb ?_ hnb ?_ ?_ ?_⟩
      | refine ⟨_, Aa, da, Ab, db, ga, gb, rfl, HC1.out wa _ _ _ _ _ _ hSa hna ?_ ?_ ?_ ?_⟩
      | refine ⟨_, Aa, da, Ab, db, ga, gb, rfl, HC2.out wb _ _ _ _ _ _ _ hSb ?_ ?_ hnb ?_ ?_ ?_ ?_ ?_ ?_⟩
      | refine ⟨_, Aa, da, Ab, db, ga, gb, rfl, HC2.out wa _ _ _ _ _ _ _ hSa ?_ hna ?_ ?_ ?_ ?_ ?_ ?_ ?_⟩
    all_goals first
      | (with_reducible exact hna.below hbb)
      | (with_reducible exact (hna.alloc _).below hbb)
      | (with_reducible exact ((hna.alloc _).alloc _).below hbb)
      | (with_reducible exact hnb.below hba)
      | (with_reducible exact (hnb.alloc _).below hba)
      | (with_reducible exact ((hnb.alloc _).alloc _).below hba)
      | (intros; omega)
      | ((repeat' (first
          | exact Blk.new_at _ _ _ (by simp)
          | (with_reducible refine Blk.alloc ?_ _)
          | (with_reducible refine Blk.drew ?_)
          | (with_reducible refine Blk.below ?_ hbb ?_)
          | (with_reducible refine Blk.below ?_ hba ?_)
          | omega
          | (simp; done)
          | (simp; omega))); done)
  case rest =>
    obtain ⟨b7, P, d1, Q, d2, g1, g2, rfl, hN⟩ := hcut
    obtain ⟨hst, hb7, ha1, ha2, hdist, hB7, hr1, hr2⟩ := (HNL.out _ _ _ _ _ _ _ _).1 hN
    obtain ⟨rfl, hrow1⟩ := hr1.row hn1
    obtain ⟨rfl, hrow2⟩ := hr2.row hn2
    have hx1 := ha1 hn1
    have hx2 := ha2 hn2
    have hx3 := hdist hn1 hn2
    have hd1 := hr1.2.1
    have hd2 := hr2.2.1
    clear hr1 hr2 ha1 ha2 hdist hN h1l h2l h1b h2b HC1 HC2 HR1z HR2z HZz HZ0 HZs HZb HA2 HZa HL2 HNL HDr HZ2
    obtain ⟨a, rfl⟩ := Int.eq_ofNat_of_zero_le (show 0 ≤ at_ by omega)
    obtain ⟨i, hi⟩ : ∃ i, i = a / 2 := ⟨_, rfl⟩
    have hin1 : i < n1 := by have := He.out; omega
    have hin2 : i < n2 := by omega
    have td : (a : Int) / 2 = (i : Int) := by omega
    have td' : Int.tdiv (a : Int) 2 = (i : Int) := by rw [Int.tdiv_eq_ediv_of_nonneg (by omega)]; exact td
    have ti1 : (i : Int) < (n1 : Int) := by omega
    have ti2 : (i : Int) < (n2 : Int) := by omega
    have tw : IntKind.i64.wrap (i : Int) = (i : Int) := by rw [IntKind.wrap_i64]; omega
    have hi40 : i ≤ 40 := by omega
    obtain ⟨S2, HS2'⟩ : ∃ S2 : List Nat → List Nat → World → Prop, ∀ k1 k2 W, S2 k1 k2 W ↔ (St W ∧ Blk W b7 32 #[.slice (some ⟨g1, 0, none⟩) n1 d1, .slice (some ⟨g2, 0, none⟩) n2 d2] ∧ k1.length = n1 ∧ k2.length = n2 ∧ RowV W g1 22 d1 (k1.map uv) ∧ RowV W g2 22 d2 (k2.map uv)) := ⟨_, fun _ _ _ => Iff.rfl⟩
    have HS2 := Lib.hid HS2'
    have HT2 : Hid (∀ k1 k2 W W', S2 k1 k2 W → Below W.heap.size W W' → S2 k1 k2 W') := Lib.hid (fun k1 k2 W W' h hb => by
      obtain ⟨h1, h2, h3, h4, h5, h6⟩ := (HS2' _ _ W).1 h
      exact (HS2' _ _ W').2 ⟨HT.out _ _ h1 hb, h2.below hb h2.lt, h3, h4, h5.below hb h5.lt, h6.below hb h6.lt⟩)
    have HSm : Hid (∀ k1 k2 W, S2 k1 k2 W → Calls Try.prog 24 #[.int .i64 3, .agg #[.slice (some ⟨g1, 0, none⟩) n1 d1, .slice (some ⟨g2, 0, none⟩) n2 d2]] W fun e w' => e = .returned (.int .u64 ((Crc.leafS 3 n1 k1 k2 : Nat) : Int)) ∧ S2 k1 k2 w') := Lib.hid (fun k1 k2 W h => by
      obtain ⟨h1, h2, h3, h4, h5, h6⟩ := (HS2' _ _ W).1 h
      have q1 := h5.reads
      have q2 := h6.reads
      rw [List.length_map, h3] at q1
      rw [List.length_map, h4] at q2
      refine (leafsum_any k1 k2 W.heap.size n1 d1 n2 d2 n1 _ _ 3 W q1 q2 (Nat.le_refl _) (by have := He.out; omega) (by omega)).mono ?_
      rintro e w' ⟨h7, h8⟩
      exact ⟨h7, HT2.out _ _ _ _ h h8⟩)
    have HSl : Hid (∀ k1 k2 W, S2 k1 k2 W → Calls Try.prog 24 #[.int .i64 3, .agg #[.slice A1 n1 c1, .slice A2 n2 c2]] W fun e w' => e = .returned (.int .u64 ((Crc.leafS 3 n1 l1 l2 : Nat) : Int)) ∧ S2 k1 k2 w') := Lib.hid (fun k1 k2 W h => by
      obtain ⟨h1, _⟩ := (HS2' _ _ W).1 h
      refine (leafsum_any l1 l2 w.heap.size n1 c1 n2 c2 n1 _ _ 3 W (HRd1.out _ h1) (HRd2.out _ h1) (HSB.out _ h1).size (by have := He.out; omega) (by omega)).mono ?_
      rintro e w' ⟨h7, h8⟩
      exact ⟨h7, HT2.out _ _ _ _ h h8⟩)
    have HK2 : Hid (∀ k1 k2 W, S2 k1 k2 W → W.cell? ⟨b7, 0, none⟩ = some (.slice (some ⟨g1, 0, none⟩) n1 d1) ∧ W.cell? ⟨b7, 1, none⟩ = some (.slice (some ⟨g2, 0, none⟩) n2 d2) ∧ W.cell? ⟨w.heap.size, 0, none⟩ = some (.slice A1 n1 c1) ∧ W.cell? ⟨w.heap.size, 1, none⟩ = some (.slice A2 n2 c2)) := Lib.hid (fun k1 k2 W h => by
      obtain ⟨h1, h2, _⟩ := (HS2' _ _ W).1 h
      exact ⟨h2.cell 0, h2.cell 1, (HCell.out _ h1).1, (HCell.out _ h1).2⟩)
    have hS2 : S2 l1 l2 wc := (HS2' _ _ _).2 ⟨hst, hB7, hl1, hl2, hrow1, hrow2⟩
    have e1 : wc.drew.cell? ⟨b7, 0, none⟩ = some (.slice (some ⟨g1, 0, none⟩) n1 d1) := hB7.cell 0
    have e2 : wc.drew.cell? ⟨b7, 1, none⟩ = some (.slice (some ⟨g2, 0, none⟩) n2 d2) := hB7.cell 1
    have HSc := Lib.hid hS2
    have Ho1 : Hid (l1.getD i 0 < 18446744073709551616) := Lib.hid (hv1 _ (by rw [List.getD_eq_getElem?_getD, List.getElem?_eq_getElem (by omega)]; exact List.getElem_mem _))
    have Ho2 : Hid (l2.getD i 0 < 18446744073709551616) := Lib.hid (hv2 _ (by rw [List.getD_eq_getElem?_getD, List.getElem?_eq_getElem (by omega)]; exact List.getElem_mem _))
    have c1' : wc.drew.cell? ⟨g1, i, none⟩ = some (.int .u64 ((l1.getD i 0 : Nat) : Int)) := hrow1.got i _ (by rw [List.getElem?_map, List.getElem?_eq_getElem (by omega), List.getD_eq_getElem?_getD, List.getElem?_eq_getElem (by omega)]; rfl)
    have c2' : wc.drew.cell? ⟨g2, i, none⟩ = some (.int .u64 ((l2.getD i 0 : Nat) : Int)) := hrow2.got i _ (by rw [List.getElem?_map, List.getElem?_eq_getElem (by omega), List.getD_eq_getElem?_getD, List.getElem?_eq_getElem (by omega)]; rfl)
    have f1' : wc.drew.frozen? ⟨g1, i, none⟩ = false := hrow1.free i
    have f2' : wc.drew.frozen? ⟨g2, i, none⟩ = false := hrow2.free i
    have HP1 : Hid (S2 (l1.set i other) l2 (wc.drew.setCell ⟨g1, i, none⟩ (.int .u64 (other : Int)))) := Lib.hid (by
      have hm : (l1.set i other).map uv = (l1.map uv).set i (uv other) := List.map_set
      refine (HS2' _ _ _).2 ⟨HSet.out _ _ _ (HT.out _ _ hst (Below.refl _ _).drew) hx1.1, hB7.drew.far (Ne.symm hx1.2) _, by simp; omega, hl2, ?_, hrow2.drew.far (Ne.symm hx3) _⟩
      rw [hm]
      exact hrow1.drew.set i (by simp; omega) _)
    have HP2 : Hid (S2 l1 (l2.set i other) (wc.drew.setCell ⟨g2, i, none⟩ (.int .u64 (other : Int)))) := Lib.hid (by
      have hm : (l2.set i other).map uv = (l2.map uv).set i (uv other) := List.map_set
      refine (HS2' _ _ _).2 ⟨HSet.out _ _ _ (HT.out _ _ hst (Below.refl _ _).drew) hx2.1, hB7.drew.far (Ne.symm hx2.2) _, hl1, by simp; omega, hrow1.drew.far hx3 _, ?_⟩
      rw [hm]
      exact hrow2.drew.set i (by simp; omega) _)
    have Ht1 : Hid ((((Crc.leafS 3 n1 (l1.set i other) l2 : Nat) : Int) == ((Crc.leafS 3 n1 l1 l2 : Nat) : Int)) = (((l1.getD i 0 : Nat) : Int) == (other : Int))) := Lib.hid (by
      have h := Crc.leafS_set1 3 n1 l1 l2 i other (by omega) hin1 hoth Ho1.out
      rw [Bool.eq_iff_iff, beq_iff_eq, beq_iff_eq]
      constructor
      · intro h1; have := h.1 (by omega); omega
      · intro h1; have := h.2 (by omega); omega)
    have Ht2 : Hid ((((Crc.leafS 3 n1 l1 (l2.set i other) : Nat) : Int) == ((Crc.leafS 3 n1 l1 l2 : Nat) : Int)) = (((l2.getD i 0 : Nat) : Int) == (other : Int))) := Lib.hid (by
      have h := Crc.leafS_set2 3 n1 l1 l2 i other (by omega) (by omega) hoth Ho2.out
      rw [Bool.eq_iff_iff, beq_iff_eq, beq_iff_eq]
      constructor
      · intro h1; have := h.1 (by omega); omega
      · intro h1; have := h.2 (by omega); omega)
    have HSB2 : Hid (∀ k1 k2 W, S2 k1 k2 W → Below w.heap.size w W) := Lib.hid (fun k1 k2 W h => HSB.out _ ((HS2' _ _ W).1 h).1)
    clear hst hB7 hrow1 hrow2 hi hS2 HSc HSet Ho1 Ho2
    generalize l1.getD i 0 = o1 at c1' Ht1
    generalize l2.getD i 0 = o2 at c2' Ht2
    by_cases hev : a % 2 = 0
    · have tm : (a : Int) % 2 = 0 := by omega
      have He2 := Lib.hid hev
      clear hev
      go_wp2_with fail
      refine wp_region_still_tail 13 (by kernel_rfl) (by kernel_rfl) ?_
      simp only [List.take_succ_cons, List.take_zero, List.drop_succ_cons, List.drop_zero]
      change wpStill _ _ wc.drew _ _ _
      repeat still_step
      refine wpStill_nil ?_
      change wpList _ _ _ _ _ wc.drew
      go_wp2_with fail
      have HSd2 : Hid (S2 (l1.set i other) l2 (wc.drew.setCell ⟨g1, i, none⟩ (.int .u64 (other : Int))).drew) := Lib.hid (HT2.out _ _ _ _ HP1.out (Below.refl _ _).drew)
      have hSm := HSm.out (l1.set i other) l2
      have hSl := HSl.out (l1.set i other) l2
      have hK2 := HK2.out (l1.set i other) l2
      have tB := Ht1.out
      obtain ⟨S3, hS3⟩ : ∃ S3, S3 = S2 (l1.set i other) l2 := ⟨_, rfl⟩
      rw [← hS3] at HSd2 hSm hSl hK2
      generalize Crc.leafS 3 n1 (l1.set i other) l2 = Y at tB hSm
      generalize Crc.leafS 3 n1 l1 l2 = X at tB hSl
      have HSm' := Lib.hid hSm
      have HSl' := Lib.hid hSl
      have HB3 : Hid (∀ W, S3 W → Below w.heap.size w W) := Lib.hid (fun W h => HSB2.out _ _ W (by rw [← hS3]; exact h))
      have inh : Nonempty (Cls S3) := ⟨⟨_, HSd2.out⟩⟩
      have z0 : ∀ z : Cls S3, z.W.cell? ⟨b7, 0, none⟩ = some (.slice (some ⟨g1, 0, none⟩) n1 d1) := fun z => (hK2 _ z.ok).1
      have z1 : ∀ z : Cls S3, z.W.cell? ⟨b7, 1, none⟩ = some (.slice (some ⟨g2, 0, none⟩) n2 d2) := fun z => (hK2 _ z.ok).2.1
      have z2 : ∀ z : Cls S3, z.W.cell? ⟨w.heap.size, 0, none⟩ = some (.slice A1 n1 c1) := fun z => (hK2 _ z.ok).2.2.1
      have z3 : ∀ z : Cls S3, z.W.cell? ⟨w.heap.size, 1, none⟩ = some (.slice A2 n2 c2) := fun z => (hK2 _ z.ok).2.2.2
      clear hS3 hSm hSl hK2 e1 e2 c1' c2' f1' f2'
      have tC : (((o1 : Int) == (other : Int)) == ((o1 : Int) == (other : Int))) = true := beq_self_eq_true _
      refine wp_region_cls S3 (by kernel_rfl) (by kernel_rfl) HSd2.out ?_
      repeat (go_big_quiet_step (first | (go_at_call 24; (with_reducible first | exact cls_call HSm'.out | exact cls_call HSl'.out))))
      refine wpQuiet_nil ?_
      rintro _ ⟨zq, rfl⟩
      go_wp2
      go_ret
      exact ⟨rfl, HB3.out _ zq.ok⟩
    · have tm : (a : Int) % 2 = 1 := by omega
      have He2 := Lib.hid hev
      clear hev
      go_wp2_with fail
      refine wp_region_still_tail 13 (by kernel_rfl) (by kernel_rfl) ?_
      simp only [List.take_succ_cons, List.take_zero, List.drop_succ_cons, List.drop_zero]
      change wpStill _ _ wc.drew _ _ _
      repeat still_step
      refine wpStill_nil ?_
      change wpList _ _ _ _ _ wc.drew
      go_wp2_with fail
      have HSd2 : Hid (S2 l1 (l2.set i other) (wc.drew.setCell ⟨g2, i, none⟩ (.int .u64 (other : Int))).drew) := Lib.hid (HT2.out _ _ _ _ HP2.out (Below.refl _ _).drew)
      have hSm := HSm.out l1 (l2.set i other)
      have hSl := HSl.out l1 (l2.set i other)
      have hK2 := HK2.out l1 (l2.set i other)
      have tB := Ht2.out
      obtain ⟨S3, hS3⟩ : ∃ S3, S3 = S2 l1 (l2.set i other) := ⟨_, rfl⟩
      rw [← hS3] at HSd2 hSm hSl hK2
      generalize Crc.leafS 3 n1 l1 (l2.set i other) = Y at tB hSm
      generalize Crc.leafS 3 n1 l1 l2 = X at tB hSl
      have HSm' := Lib.hid hSm
      have HSl' := Lib.hid hSl
      have HB3 : Hid (∀ W, S3 W → Below w.heap.size w W) := Lib.hid (fun W h => HSB2.out _ _ W (by rw [← hS3]; exact h))
      have inh : Nonempty (Cls S3) := ⟨⟨_, HSd2.out⟩⟩
      have z0 : ∀ z : Cls S3, z.W.cell? ⟨b7, 0, none⟩ = some (.slice (some ⟨g1, 0, none⟩) n1 d1) := fun z => (hK2 _ z.ok).1
      have z1 : ∀ z : Cls S3, z.W.cell? ⟨b7, 1, none⟩ = some (.slice (some ⟨g2, 0, none⟩) n2 d2) := fun z => (hK2 _ z.ok).2.1
      have z2 : ∀ z : Cls S3, z.W.cell? ⟨w.heap.size, 0, none⟩ = some (.slice A1 n1 c1) := fun z => (hK2 _ z.ok).2.2.1
      have z3 : ∀ z : Cls S3, z.W.cell? ⟨w.heap.size, 1, none⟩ = some (.slice A2 n2 c2) := fun z => (hK2 _ z.ok).2.2.2
      clear hS3 hSm hSl hK2 e1 e2 c1' c2' f1' f2'
      have tC : (((o2 : Int) == (other : Int)) == ((o2 : Int) == (other : Int))) = true := beq_self_eq_true _
      refine wp_region_cls S3 (by kernel_rfl) (by kernel_rfl) HSd2.out ?_
      repeat (go_big_quiet_step (first | (go_at_call 24; (with_reducible first | exact cls_call HSm'.out | exact cls_call HSl'.out))))
      refine wpQuiet_nil ?_
      rintro _ ⟨zq, rfl⟩
      go_wp2
      go_ret
      exact ⟨rfl, HB3.out _ zq.ok⟩

end Go.Proofs.Ytejhfollfmdmpaa

/- The walk over parse. -/
import Derived.Test.YtijhmopejadpdaaR2
import Derived.Deep.RegionHeld3
namespace Go.Proofs.Ytijhmopejadpdaa
open Go.RowKit
namespace Crc
/-- Whether a byte string is a sector. -/
def okB (l : List Nat) : Bool := decide (25 ≤ l.length ∧ l.getD 16 0 = l.length - 25 ∧ l.length - 25 ≤ 32 ∧ num (l.drop (l.length - 8)) = sumS (l.take (l.length - 8)))
end Crc

theorem take_at {P : Program} {ops : Array Oper} {Q : Exit → Act → World → Prop} {md : Region.Mode} {S : World → Prop} {fuel : Nat} {listed : Array Bool} {a : Act} {w : World} {oi : Oper} (i : Nat) (d : Option Tmp) (v : Value) (hi : ops[i]? = some oi) (hd : oi.dst = d)
    (hs : Region.noSelect ops = true) (hf : Region.free md ops listed i = true) (hr : (Region.ready md ops listed).contains i = true)
    (hQ : ∀ c a w, Q (.panic c) (a.put d v) w → Q (.panic c) a w) (hy : YieldsIf P ops S oi v a) (hS : S w)
    (h : wpAnyH P md ops Q S fuel (listed.setIfInBounds i true) (a.put d v) w) : wpAnyH P md ops Q S (fuel + 1) listed a w := by
  subst hd
  exact wpAnyH_take hi hs hf hr hQ hy hS h
theorem Blk.quad {w : World} {g : Nat} {t : TypeId} {a b c d : Value} (h : Blk w g t #[a, b, c, d]) (u0 u1 u2 u3 : Value) : Blk ((((w.setCell ⟨g, 0, none⟩ u0).setCell ⟨g, 1, none⟩ u1).setCell ⟨g, 2, none⟩ u2).setCell ⟨g, 3, none⟩ u3) g t #[u0, u1, u2, u3] := (((h.set_ 0 u0).set_ 1 u1).set_ 2 u2).set_ 3 u3
theorem Blk.quadFar {w : World} {g g' : Nat} {t : TypeId} {cs : Array Value} (h : Blk w g t cs) (hg : g ≠ g') (u0 u1 u2 u3 : Value) : Blk ((((w.setCell ⟨g', 0, none⟩ u0).setCell ⟨g', 1, none⟩ u1).setCell ⟨g', 2, none⟩ u2).setCell ⟨g', 3, none⟩ u3) g t cs := (((h.far hg u0).far hg u1).far hg u2).far hg u3
theorem add_pos' (ad : Addr) (k : Nat) (h : 0 < k) : ad.add k = ⟨ad.block, ad.off + k, none⟩ := by
  unfold Addr.add
  rw [if_neg (by omega)]
/-- The sector of the bytes l, as parse returns it. -/
def SecV (w : World) (B : Nat) (l : List Nat) (g ix m : Nat) (X : Option Addr) (k : Nat) : Prop :=
  g = Crc.num (l.take 8) ∧ ix = Crc.num ((l.drop 8).take 4) ∧ m = Crc.num ((l.drop 12).take 4) ∧ k = l.length - 25 ∧ RB w B X k ((l.drop 17).take k)

set_option maxHeartbeats 1000000 in
theorem parse_long (l : List Nat) (hb : Crc.Bytes l) (B n k c : Nat) (ad : Addr) (w : World) (hr : RB w B (some ad) n l) (hB : B ≤ w.heap.size) (hc : n ≤ c) (hn : n = k + 25) (hk : k ≤ 65536) :
    Calls Try.prog 27 #[.slice (some ad) n c] w fun e w' => ∃ (g ix m : Nat) (X : Option Addr) (d : Nat), e = .returned (.tuple #[.agg #[.int .u64 (g : Int), .int .u64 (ix : Int), .int .u64 (m : Int), .slice X k d], .bool (Crc.okB l)]) ∧ SecV w B l g ix m X k ∧ Below w.heap.size w w' := by
  have hl := hr.len
  obtain ⟨e, he⟩ : ∃ e, e = k + 17 := ⟨_, rfl⟩
  have tE : (n : Int) - 8 = (e : Int) := by omega
  have t1 : ¬ ((n : Int) < 25) := by omega
  have tk : e - 17 = k := by omega
  have c1 : ¬ c = 8 := by omega
  have c2 : ¬ c = 12 := by omega
  have c3 : ¬ c = 17 := by omega
  have c3' : ¬ c = e := by omega
  have c4 : (8 : Int) ≤ (c : Int) := by omega
  have c5 : (12 : Int) ≤ (c : Int) := by omega
  have c6 : (16 : Int) ≤ (c : Int) := by omega
  have c7 : (17 : Int) ≤ (e : Int) := by omega
  have c8 : (e : Int) ≤ (c : Int) := by omega
  have c9 : (e : Int) ≤ (n : Int) := by omega
  have c10 : (16 : Int) < (n : Int) := by omega
  have tw : IntKind.i64.wrap (e : Int) = (e : Int) := by rw [IntKind.wrap_i64]; omega
  obtain ⟨g, hg⟩ : ∃ g, g = Crc.num (l.take 8) := ⟨_, rfl⟩
  obtain ⟨ix, hix⟩ : ∃ ix, ix = Crc.num ((l.drop 8).take 4) := ⟨_, rfl⟩
  obtain ⟨m, hm⟩ : ∃ m, m = Crc.num ((l.drop 12).take 4) := ⟨_, rfl⟩
  obtain ⟨T, HT'⟩ : ∃ T : World → Prop, ∀ W, T W ↔ (Blk W w.heap.size 43 #[.int .u64 0, .int .u64 0, .int .u64 0, .slice none 0 0] ∧ Below w.heap.size w W) := ⟨_, fun _ => Iff.rfl⟩
  have HN1 : Hid (∀ W, T W → Calls Try.prog 30 #[.slice (some ad) 8 c] W fun e w' => e = .returned (.int .u64 (g : Int)) ∧ W = w') := Lib.hid (fun W h => by
    rw [hg]
    exact number_any (l.take 8) (bytes_take hb 8) B 8 c _ W ((hr.below (((HT' W).1 h).2.mono hB)).take 8 (by omega)) (by omega))
  have HN2 : Hid (∀ W, T W → Calls Try.prog 30 #[.slice (some ⟨ad.block, ad.off + 8, none⟩) 4 (c - 8)] W fun e w' => e = .returned (.int .u64 (ix : Int)) ∧ W = w') := Lib.hid (fun W h => by
    rw [hix, ← add_pos' ad 8 (by omega)]
    exact number_any ((l.drop 8).take 4) (bytes_take (bytes_drop hb 8) 4) B 4 _ _ W ((hr.below (((HT' W).1 h).2.mono hB)).cut 8 4 (by omega)) (by omega))
  have HN3 : Hid (∀ W, T W → Calls Try.prog 30 #[.slice (some ⟨ad.block, ad.off + 12, none⟩) 4 (c - 12)] W fun e w' => e = .returned (.int .u64 (m : Int)) ∧ W = w') := Lib.hid (fun W h => by
    rw [hm, ← add_pos' ad 12 (by omega)]
    exact number_any ((l.drop 12).take 4) (bytes_take (bytes_drop hb 12) 4) B 4 _ _ W ((hr.below (((HT' W).1 h).2.mono hB)).cut 12 4 (by omega)) (by omega))
  have hT0 : T (w.alloc (.cells #[.int .u64 0, .int .u64 0, .int .u64 0, .slice none 0 0] 43)) := (HT' _).2 ⟨Blk.new _ _ _, (Below.refl _ _).alloc (Nat.le_refl _) _⟩
  obtain ⟨w0, hw0⟩ : ∃ w0, w0 = w.alloc (.cells #[.int .u64 0, .int .u64 0, .int .u64 0, .slice none 0 0] 43) := ⟨_, rfl⟩
  rw [← hw0] at hT0
  have HTa : Hid (∀ W o, T W → T (W.alloc o)) := Lib.hid (fun W o h => (HT' _).2 ⟨((HT' W).1 h).1.alloc o, ((HT' W).1 h).2.alloc ((HT' W).1 h).2.size o⟩)
  have HTd : Hid (∀ W, T W → T W.drew) := Lib.hid (fun W h => (HT' _).2 ⟨((HT' W).1 h).1, ((HT' W).1 h).2.drew⟩)
  have HT0 := Lib.hid hT0
  have HTd0 := Lib.hid (HTd.out _ hT0)
  have Hw0 := Lib.hid hw0
  have HR := Lib.hid hr
  have HT := Lib.hid HT'
  have Hg := Lib.hid hg
  have Hix := Lib.hid hix
  have Hm := Lib.hid hm
  have He := Lib.hid he
  have Hn := Lib.hid hn
  clear hr HT' hg hix hm hw0 hT0 hn he
  go_enter Try.func27, Try.ntmps27
  go_upto_region 4 with fail
  rw [← Hw0.out]
  obtain ⟨T2, HT2'⟩ : ∃ T2 : World → Prop, ∀ W, T2 W ↔ (T W ∧ Blk W w0.heap.size 43 #[.int .u64 (g : Int), .int .u64 (ix : Int), .int .u64 (m : Int), .slice (some ⟨ad.block, ad.off + 17, none⟩) k (c - 17)]) := ⟨_, fun _ => Iff.rfl⟩
  have HF1 : Hid (T2 (w0.alloc (.cells #[.int .u64 (g : Int), .int .u64 (ix : Int), .int .u64 (m : Int), .slice (some ⟨ad.block, ad.off + 17, none⟩) k (c - 17)] 43)).drew) := Lib.hid ((HT2' _).2 ⟨HTd.out _ (HTa.out _ _ HT0.out), (Blk.new w0 _ _).drew⟩)
  have HT2 := Lib.hid HT2'
  clear HT2'
  go_cut [5] (fun s5 wx => s5 = .pointer (some ⟨w0.heap.size, 0, none⟩) ∧ T2 wx)
  case first =>
    go_region_held3 (fun W => T W) (with_reducible first | exact HTd0.out | assumption | exact HTd.out _ (HTa.out _ _ HT0.out))
      (first
        | (go_at_call 30; (with_reducible first | refine (HN1.out _ (by assumption)).mono ?_ | refine (HN2.out _ (by assumption)).mono ?_ | refine (HN3.out _ (by assumption)).mono ?_); rintro e w' ⟨rfl, rfl⟩))
    all_goals go_wp2_with fail
    all_goals go_meet
    all_goals exact ⟨rfl, HF1.out⟩
  case rest =>
    obtain ⟨rfl, hT2⟩ := hcut
    obtain ⟨hT, hS⟩ := (HT2.out _).1 hT2
    obtain ⟨hZ, hB'⟩ := (HT.out _).1 hT
    clear HN1 HN2 HN3 HF1 hT hT2
    have hrc := (HR.out.below (hB'.mono hB)).drew
    obtain ⟨ad', e', _, h16⟩ := hrc.at_ (k := 16) (by omega)
    injection e' with e'
    subst e'
    generalize hb16 : l.getD 16 0 = b16 at h16
    obtain ⟨Y, hY⟩ : ∃ Y, Y = Crc.num (l.drop e) := ⟨_, rfl⟩
    obtain ⟨X, hX⟩ : ∃ X, X = Crc.sumS (l.take e) := ⟨_, rfl⟩
    have HNe : Hid (Calls Try.prog 30 #[.slice (some (ad.add e)) (n - e) (c - e)] wc.drew fun e w' => e = .returned (.int .u64 (Y : Int)) ∧ wc.drew = w') := Lib.hid (by
      rw [hY]
      have h := hrc.cut e (n - e) (by omega)
      rw [List.take_of_length_le (by rw [List.length_drop]; omega)] at h
      exact number_any (l.drop e) (bytes_drop hb e) B _ _ _ wc.drew h (by have := He.out; have := Hn.out; omega))
    have HSm : Hid (Calls Try.prog 16 #[.slice (some ad) e c] wc.drew fun e w' => e = .returned (.int .u64 (X : Int)) ∧ wc.drew = w') := Lib.hid (by
      rw [hX]
      exact sum_any (l.take e) (bytes_take hb e) B _ _ _ wc.drew (hrc.take e (by omega)) (by unfold maxLen; omega))
    have h16' : wc.drew.cell? ⟨ad.block, ad.off + 16, none⟩ = some (.int .u8 (b16 : Int)) := by rw [← add_pos' ad 16 (by omega)]; exact h16
    have z0 : wc.drew.cell? ⟨w.heap.size, 0, none⟩ = some (.int .u64 0) := hZ.cell 0
    have z1 : wc.drew.cell? ⟨w.heap.size, 1, none⟩ = some (.int .u64 0) := hZ.cell 1
    have z2 : wc.drew.cell? ⟨w.heap.size, 2, none⟩ = some (.int .u64 0) := hZ.cell 2
    have z3 : wc.drew.cell? ⟨w.heap.size, 3, none⟩ = some (.slice none 0 0) := hZ.cell 3
    have y0 : wc.drew.frozen? ⟨w.heap.size, 0, none⟩ = false := hZ.frozen 0
    have y1 : wc.drew.frozen? ⟨w.heap.size, 1, none⟩ = false := hZ.frozen 1
    have y2 : wc.drew.frozen? ⟨w.heap.size, 2, none⟩ = false := hZ.frozen 2
    have y3 : wc.drew.frozen? ⟨w.heap.size, 3, none⟩ = false := hZ.frozen 3
    have Z0 : Hid (wc.cell? ⟨w.heap.size, 0, none⟩ = some (.int .u64 0) ∧ wc.frozen? ⟨w.heap.size, 0, none⟩ = false) := Lib.hid ⟨hZ.cell 0, hZ.frozen 0⟩
    have Z1 : Hid (wc.cell? ⟨w.heap.size, 1, none⟩ = some (.int .u64 0) ∧ wc.frozen? ⟨w.heap.size, 1, none⟩ = false) := Lib.hid ⟨hZ.cell 1, hZ.frozen 1⟩
    have Z2 : Hid (wc.cell? ⟨w.heap.size, 2, none⟩ = some (.int .u64 0) ∧ wc.frozen? ⟨w.heap.size, 2, none⟩ = false) := Lib.hid ⟨hZ.cell 2, hZ.frozen 2⟩
    have Z3 : Hid (wc.cell? ⟨w.heap.size, 3, none⟩ = some (.slice none 0 0) ∧ wc.frozen? ⟨w.heap.size, 3, none⟩ = false) := Lib.hid ⟨hZ.cell 3, hZ.frozen 3⟩
    have HZd : Hid (Blk wc.drew w.heap.size 43 #[.int .u64 0, .int .u64 0, .int .u64 0, .slice none 0 0]) := Lib.hid hZ.drew
    have HBd : Hid (Below w.heap.size w wc.drew) := Lib.hid hB'.drew
    have HSc : Hid (wc.drew.cell? ⟨w0.heap.size, 0, none⟩ = some (.int .u64 (g : Int)) ∧ wc.drew.cell? ⟨w0.heap.size, 1, none⟩ = some (.int .u64 (ix : Int)) ∧ wc.drew.cell? ⟨w0.heap.size, 2, none⟩ = some (.int .u64 (m : Int)) ∧ wc.drew.cell? ⟨w0.heap.size, 3, none⟩ = some (.slice (some ⟨ad.block, ad.off + 17, none⟩) k (c - 17)) ∧ wc.drew.cell? ⟨ad.block, ad.off + 16, none⟩ = some (.int .u8 (b16 : Int))) := Lib.hid ⟨hS.cell 0, hS.cell 1, hS.cell 2, hS.cell 3, h16'⟩
    have hwz : w.heap.size < w0.heap.size := by rw [Hw0.out]; simp
    have hadb : ad.block < w.heap.size := by obtain ⟨ad', e', hlt, _⟩ := HR.out.2 (by omega); injection e' with e'; subst e'; omega
    have HQ : Hid (((((wc.drew.setCell ⟨w.heap.size, 0, none⟩ (.int .u64 (g : Int))).setCell ⟨w.heap.size, 1, none⟩ (.int .u64 (ix : Int))).setCell ⟨w.heap.size, 2, none⟩ (.int .u64 (m : Int))).setCell ⟨w.heap.size, 3, none⟩ (.slice (some ⟨ad.block, ad.off + 17, none⟩) k (c - 17))).cell? ⟨w0.heap.size, 0, none⟩ = some (.int .u64 (g : Int)) ∧ ((((wc.drew.setCell ⟨w.heap.size, 0, none⟩ (.int .u64 (g : Int))).setCell ⟨w.heap.size, 1, none⟩ (.int .u64 (ix : Int))).setCell ⟨w.heap.size, 2, none⟩ (.int .u64 (m : Int))).setCell ⟨w.heap.size, 3, none⟩ (.slice (some ⟨ad.block, ad.off + 17, none⟩) k (c - 17))).cell? ⟨w0.heap.size, 1, none⟩ = some (.int .u64 (ix : Int)) ∧ ((((wc.drew.setCell ⟨w.heap.size, 0, none⟩ (.int .u64 (g : Int))).setCell ⟨w.heap.size, 1, none⟩ (.int .u64 (ix : Int))).setCell ⟨w.heap.size, 2, none⟩ (.int .u64 (m : Int))).setCell ⟨w.heap.size, 3, none⟩ (.slice (some ⟨ad.block, ad.off + 17, none⟩) k (c - 17))).cell? ⟨w0.heap.size, 2, none⟩ = some (.int .u64 (m : Int)) ∧ ((((wc.drew.setCell ⟨w.heap.size, 0, none⟩ (.int .u64 (g : Int))).setCell ⟨w.heap.size, 1, none⟩ (.int .u64 (ix : Int))).setCell ⟨w.heap.size, 2, none⟩ (.int .u64 (m : Int))).setCell ⟨w.heap.size, 3, none⟩ (.slice (some ⟨ad.block, ad.off + 17, none⟩) k (c - 17))).cell? ⟨w0.heap.size, 3, none⟩ = some (.slice (some ⟨ad.block, ad.off + 17, none⟩) k (c - 17)) ∧ ((((wc.drew.setCell ⟨w.heap.size, 0, none⟩ (.int .u64 (g : Int))).setCell ⟨w.heap.size, 1, none⟩ (.int .u64 (ix : Int))).setCell ⟨w.heap.size, 2, none⟩ (.int .u64 (m : Int))).setCell ⟨w.heap.size, 3, none⟩ (.slice (some ⟨ad.block, ad.off + 17, none⟩) k (c - 17))).cell? ⟨ad.block, ad.off + 16, none⟩ = some (.int .u8 (b16 : Int))) := Lib.hid (by
      have hS' := Blk.quadFar hS.drew (g' := w.heap.size) (by omega) (.int .u64 (g : Int)) (.int .u64 (ix : Int)) (.int .u64 (m : Int)) (.slice (some ⟨ad.block, ad.off + 17, none⟩) k (c - 17))
      refine ⟨hS'.cell 0, hS'.cell 1, hS'.cell 2, hS'.cell 3, ?_⟩
      rw [World.cell?_setCell_far _ _ _ _ (by simp; omega), World.cell?_setCell_far _ _ _ _ (by simp; omega), World.cell?_setCell_far _ _ _ _ (by simp; omega), World.cell?_setCell_far _ _ _ _ (by simp; omega)]
      exact h16')
    have HQc : Hid (((((wc.setCell ⟨w.heap.size, 0, none⟩ (.int .u64 (g : Int))).setCell ⟨w.heap.size, 1, none⟩ (.int .u64 (ix : Int))).setCell ⟨w.heap.size, 2, none⟩ (.int .u64 (m : Int))).setCell ⟨w.heap.size, 3, none⟩ (.slice (some ⟨ad.block, ad.off + 17, none⟩) k (c - 17))).drew.cell? ⟨w0.heap.size, 0, none⟩ = some (.int .u64 (g : Int)) ∧ ((((wc.setCell ⟨w.heap.size, 0, none⟩ (.int .u64 (g : Int))).setCell ⟨w.heap.size, 1, none⟩ (.int .u64 (ix : Int))).setCell ⟨w.heap.size, 2, none⟩ (.int .u64 (m : Int))).setCell ⟨w.heap.size, 3, none⟩ (.slice (some ⟨ad.block, ad.off + 17, none⟩) k (c - 17))).drew.cell? ⟨w0.heap.size, 1, none⟩ = some (.int .u64 (ix : Int)) ∧ ((((wc.setCell ⟨w.heap.size, 0, none⟩ (.int .u64 (g : Int))).setCell ⟨w.heap.size, 1, none⟩ (.int .u64 (ix : Int))).setCell ⟨w.heap.size, 2, none⟩ (.int .u64 (m : Int))).setCell ⟨w.heap.size, 3, none⟩ (.slice (some ⟨ad.block, ad.off + 17, none⟩) k (c - 17))).drew.cell? ⟨w0.heap.size, 2, none⟩ = some (.int .u64 (m : Int)) ∧ ((((wc.setCell ⟨w.heap.size, 0, none⟩ (.int .u64 (g : Int))).setCell ⟨w.heap.size, 1, none⟩ (.int .u64 (ix : Int))).setCell ⟨w.heap.size, 2, none⟩ (.int .u64 (m : Int))).setCell ⟨w.heap.size, 3, none⟩ (.slice (some ⟨ad.block, ad.off + 17, none⟩) k (c - 17))).drew.cell? ⟨w0.heap.size, 3, none⟩ = some (.slice (some ⟨ad.block, ad.off + 17, none⟩) k (c - 17)) ∧ ((((wc.setCell ⟨w.heap.size, 0, none⟩ (.int .u64 (g : Int))).setCell ⟨w.heap.size, 1, none⟩ (.int .u64 (ix : Int))).setCell ⟨w.heap.size, 2, none⟩ (.int .u64 (m : Int))).setCell ⟨w.heap.size, 3, none⟩ (.slice (some ⟨ad.block, ad.off + 17, none⟩) k (c - 17))).drew.cell? ⟨ad.block, ad.off + 16, none⟩ = some (.int .u8 (b16 : Int))) := Lib.hid HQ.out
    have HZc : Hid (Blk (((((wc.setCell ⟨w.heap.size, 0, none⟩ (.int .u64 (g : Int))).setCell ⟨w.heap.size, 1, none⟩ (.int .u64 (ix : Int))).setCell ⟨w.heap.size, 2, none⟩ (.int .u64 (m : Int))).setCell ⟨w.heap.size, 3, none⟩ (.slice (some ⟨ad.block, ad.off + 17, none⟩) k (c - 17)))).drew w.heap.size 43 #[.int .u64 (g : Int), .int .u64 (ix : Int), .int .u64 (m : Int), .slice (some ⟨ad.block, ad.off + 17, none⟩) k (c - 17)]) := Lib.hid (hZ.quad (.int .u64 (g : Int)) (.int .u64 (ix : Int)) (.int .u64 (m : Int)) (.slice (some ⟨ad.block, ad.off + 17, none⟩) k (c - 17))).drew
    have HBc : Hid (Below w.heap.size w (((((wc.setCell ⟨w.heap.size, 0, none⟩ (.int .u64 (g : Int))).setCell ⟨w.heap.size, 1, none⟩ (.int .u64 (ix : Int))).setCell ⟨w.heap.size, 2, none⟩ (.int .u64 (m : Int))).setCell ⟨w.heap.size, 3, none⟩ (.slice (some ⟨ad.block, ad.off + 17, none⟩) k (c - 17)))).drew) := Lib.hid ((((hB'.setCell (Nat.le_refl _) _).setCell (Nat.le_refl _) _).setCell (Nat.le_refl _) _).setCell (Nat.le_refl _) _).drew
    have HSec : Hid (SecV w B l g ix m (some ⟨ad.block, ad.off + 17, none⟩) k) := Lib.hid ⟨Hg.out, Hix.out, Hm.out, by have := Hn.out; omega, by rw [← add_pos' ad 17 (by omega)]; exact HR.out.cut 17 k (by have := Hn.out; omega)⟩
    have hok : Crc.okB l = decide (b16 = k ∧ k ≤ 32 ∧ Y = X) := by
      unfold Crc.okB
      rw [decide_eq_decide, hb16, hY, hX, show l.length - 8 = e by have := He.out; have := Hn.out; omega, show l.length - 25 = k by have := Hn.out; omega]
      constructor
      · rintro ⟨_, h2, h3, h4⟩; exact ⟨h2, h3, h4⟩
      · rintro ⟨h2, h3, h4⟩; exact ⟨by have := Hn.out; omega, h2, h3, h4⟩
    have tW : IntKind.i64.wrap (b16 : Int) = (b16 : Int) := by rw [IntKind.wrap_i64]; have := bytes_getD hb 16; omega
    clear hS hZ hB' hrc h16 h16' hb16 hY hX hwz hadb
    by_cases hA : b16 = k
    · have tA : ((b16 : Int) == (k : Int)) = true := beq_iff_eq.2 (by omega)
      by_cases hk32 : k ≤ 32
      · have tB : decide ((k : Int) ≤ 32) = true := decide_eq_true (by omega)
        have tB' : (k : Int) ≤ 32 := by omega
        have HOk : Hid (Crc.okB l = decide (Y = X)) := Lib.hid (by
          rw [hok, decide_eq_decide]
          exact ⟨fun h => h.2.2, fun h => ⟨hA, hk32, h⟩⟩)
        have tC : decide (((Y : Nat) : Int) = ((X : Nat) : Int)) = decide (Y = X) := by rw [decide_eq_decide]; omega
        have tD : (((Y : Nat) : Int) == ((X : Nat) : Int)) = decide (Y = X) := by rw [Bool.eq_iff_iff, beq_iff_eq, decide_eq_true_iff]; omega
        clear hok hA hk32
        generalize decide (Y = X) = ok at HOk tC tD
        obtain ⟨a0, b0⟩ := Z0.out
        obtain ⟨a1, b1⟩ := Z1.out
        obtain ⟨a2, b2⟩ := Z2.out
        obtain ⟨a3, b3⟩ := Z3.out
        clear z0 z1 z2 z3 y0 y1 y2 y3
        go_wp2_with fail
        go_region_held3 (fun W => W.cell? ⟨w0.heap.size, 0, none⟩ = some (.int .u64 (g : Int)) ∧ W.cell? ⟨w0.heap.size, 1, none⟩ = some (.int .u64 (ix : Int)) ∧ W.cell? ⟨w0.heap.size, 2, none⟩ = some (.int .u64 (m : Int)) ∧ W.cell? ⟨w0.heap.size, 3, none⟩ = some (.slice (some ⟨ad.block, ad.off + 17, none⟩) k (c - 17)) ∧ W.cell? ⟨ad.block, ad.off + 16, none⟩ = some (.int .u8 (b16 : Int))) (with_reducible first | exact HSc.out | assumption | exact HQc.out)
          (first
            | (go_at_call 30; (with_reducible refine HNe.out.mono ?_); rintro e w' ⟨rfl, rfl⟩)
            | (go_at_call 16; (with_reducible refine HSm.out.mono ?_); rintro e w' ⟨rfl, rfl⟩))
        all_goals generalize (((((wc.setCell ⟨w.heap.size, 0, none⟩ (.int .u64 (g : Int))).setCell ⟨w.heap.size, 1, none⟩ (.int .u64 (ix : Int))).setCell ⟨w.heap.size, 2, none⟩ (.int .u64 (m : Int))).setCell ⟨w.heap.size, 3, none⟩ (.slice (some ⟨ad.block, ad.off + 17, none⟩) k (c - 17)))).drew = wz at HZc HBc ⊢
        all_goals
          have r0 : wz.cell? ⟨w.heap.size, 0, none⟩ = some (.int .u64 (g : Int)) := HZc.out.cell 0
          have r1 : wz.cell? ⟨w.heap.size, 1, none⟩ = some (.int .u64 (ix : Int)) := HZc.out.cell 1
          have r2 : wz.cell? ⟨w.heap.size, 2, none⟩ = some (.int .u64 (m : Int)) := HZc.out.cell 2
          have r3 : wz.cell? ⟨w.heap.size, 3, none⟩ = some (.slice (some ⟨ad.block, ad.off + 17, none⟩) k (c - 17)) := HZc.out.cell 3
          go_wp2
          refine bodyPost_ret (v := .tuple #[.agg #[.int .u64 (g : Int), .int .u64 (ix : Int), .int .u64 (m : Int), .slice (some ⟨ad.block, ad.off + 17, none⟩) k (c - 17)], .bool ok]) (by simp [results, Try.results27, go_sem, r0, r1, r2, r3]) rfl ⟨g, ix, m, _, _, by rw [HOk.out], HSec.out, HBc.out⟩

      · have tB : decide ((k : Int) ≤ 32) = false := decide_eq_false (by omega)
        have HOk : Hid (Crc.okB l = false) := Lib.hid (by rw [hok]; exact decide_eq_false (fun h => hk32 h.2.1))
        clear hA hk32
        clear hok
        go_wp2_with fail
        refine wp_region_held_drew (S := fun W => W.cell? ⟨w0.heap.size, 0, none⟩ = some (.int .u64 (g : Int)) ∧ W.cell? ⟨w0.heap.size, 1, none⟩ = some (.int .u64 (ix : Int)) ∧ W.cell? ⟨w0.heap.size, 2, none⟩ = some (.int .u64 (m : Int)) ∧ W.cell? ⟨w0.heap.size, 3, none⟩ = some (.slice (some ⟨ad.block, ad.off + 17, none⟩) k (c - 17)) ∧ W.cell? ⟨ad.block, ad.off + 16, none⟩ = some (.int .u8 (b16 : Int))) (by kernel_rfl) HSc.out (fun hSS => ?_)
        generalize wc.drew = wd at hSS HZd HBd HNe HSm HSc HQ z0 z1 z2 z3 y0 y1 y2 y3 ⊢
        refine take_at 0 (some 26) ?bv0 rfl rfl (by kernel_rfl) (by kernel_rfl) (by kernel_rfl) (fun _ _ _ h => h) ?by0 hSS ?br0
        case by0 => first | (refine Or.inr ⟨?_, ?_⟩; rfl; rfl) | (refine Or.inl ⟨by rfl, ?_⟩; intro W9 hSw; (try dsimp only at hSw); go_simp; done) | (refine Or.inl ⟨by rfl, ?_⟩; intro W9 hSw; (try dsimp only at hSw); go_simp; with_reducible rfl)
        simp only [Act.put, List.setIfInBounds_toArray, List.set_cons_zero, List.set_cons_succ]
        refine take_at 1 (some 27) ?bv1 rfl rfl (by kernel_rfl) (by kernel_rfl) (by kernel_rfl) (fun _ _ _ h => h) ?by1 hSS ?br1
        case by1 => first | (refine Or.inr ⟨?_, ?_⟩; rfl; rfl) | (refine Or.inl ⟨by rfl, ?_⟩; intro W9 hSw; (try dsimp only at hSw); go_simp; done) | (refine Or.inl ⟨by rfl, ?_⟩; intro W9 hSw; (try dsimp only at hSw); go_simp; with_reducible rfl)
        simp only [Act.put, List.setIfInBounds_toArray, List.set_cons_zero, List.set_cons_succ]
        refine take_at 2 (some 28) ?bv2 rfl rfl (by kernel_rfl) (by kernel_rfl) (by kernel_rfl) (fun _ _ _ h => h) ?by2 hSS ?br2
        case by2 => first | (refine Or.inr ⟨?_, ?_⟩; rfl; rfl) | (refine Or.inl ⟨by rfl, ?_⟩; intro W9 hSw; (try dsimp only at hSw); go_simp; done) | (refine Or.inl ⟨by rfl, ?_⟩; intro W9 hSw; (try dsimp only at hSw); go_simp; with_reducible rfl)
        simp only [Act.put, List.setIfInBounds_toArray, List.set_cons_zero, List.set_cons_succ]
        refine take_at 3 (some 29) ?bv3 rfl rfl (by kernel_rfl) (by kernel_rfl) (by kernel_rfl) (fun _ _ _ h => h) ?by3 hSS ?br3
        case by3 => first | (refine Or.inr ⟨?_, ?_⟩; rfl; rfl) | (refine Or.inl ⟨by rfl, ?_⟩; intro W9 hSw; (try dsimp only at hSw); go_simp; done) | (refine Or.inl ⟨by rfl, ?_⟩; intro W9 hSw; (try dsimp only at hSw); go_simp; with_reducible rfl)
        simp only [Act.put, List.setIfInBounds_toArray, List.set_cons_zero, List.set_cons_succ]
        refine take_at 4 (some 30) ?bv4 rfl rfl (by kernel_rfl) (by kernel_rfl) (by kernel_rfl) (fun _ _ _ h => h) ?by4 hSS ?br4
        case by4 => first | (refine Or.inr ⟨?_, ?_⟩; rfl; rfl) | (refine Or.inl ⟨by rfl, ?_⟩; intro W9 hSw; (try dsimp only at hSw); go_simp; done) | (refine Or.inl ⟨by rfl, ?_⟩; intro W9 hSw; (try dsimp only at hSw); go_simp; with_reducible rfl)
        simp only [Act.put, List.setIfInBounds_toArray, List.set_cons_zero, List.set_cons_succ]
        refine take_at 5 (some 31) ?bv5 rfl rfl (by kernel_rfl) (by kernel_rfl) (by kernel_rfl) (fun _ _ _ h => h) ?by5 hSS ?br5
        case by5 => first | (refine Or.inr ⟨?_, ?_⟩; rfl; rfl) | (refine Or.inl ⟨by rfl, ?_⟩; intro W9 hSw; (try dsimp only at hSw); go_simp; done) | (refine Or.inl ⟨by rfl, ?_⟩; intro W9 hSw; (try dsimp only at hSw); go_simp; with_reducible rfl)
        simp only [Act.put, List.setIfInBounds_toArray, List.set_cons_zero, List.set_cons_succ]
        refine take_at 6 (some 32) ?bv6 rfl rfl (by kernel_rfl) (by kernel_rfl) (by kernel_rfl) (fun _ _ _ h => h) ?by6 hSS ?br6
        case by6 => first | (refine Or.inr ⟨?_, ?_⟩; rfl; rfl) | (refine Or.inl ⟨by rfl, ?_⟩; intro W9 hSw; (try dsimp only at hSw); go_simp; done) | (refine Or.inl ⟨by rfl, ?_⟩; intro W9 hSw; (try dsimp only at hSw); go_simp; with_reducible rfl)
        simp only [Act.put, List.setIfInBounds_toArray, List.set_cons_zero, List.set_cons_succ]
        refine take_at 7 (some 33) ?bv7 rfl rfl (by kernel_rfl) (by kernel_rfl) (by kernel_rfl) (fun _ _ _ h => h) ?by7 hSS ?br7
        case by7 => first | (refine Or.inr ⟨?_, ?_⟩; rfl; rfl) | (refine Or.inl ⟨by rfl, ?_⟩; intro W9 hSw; (try dsimp only at hSw); go_simp; done) | (refine Or.inl ⟨by rfl, ?_⟩; intro W9 hSw; (try dsimp only at hSw); go_simp; with_reducible rfl)
        simp only [Act.put, List.setIfInBounds_toArray, List.set_cons_zero, List.set_cons_succ]
        refine take_at 8 (some 34) ?bv8 rfl rfl (by kernel_rfl) (by kernel_rfl) (by kernel_rfl) (fun _ _ _ h => h) ?by8 hSS ?br8
        case by8 => first | (refine Or.inr ⟨?_, ?_⟩; rfl; rfl) | (refine Or.inl ⟨by rfl, ?_⟩; intro W9 hSw; (try dsimp only at hSw); go_simp; done) | (refine Or.inl ⟨by rfl, ?_⟩; intro W9 hSw; (try dsimp only at hSw); go_simp; with_reducible rfl)
        simp only [Act.put, List.setIfInBounds_toArray, List.set_cons_zero, List.set_cons_succ]
        refine take_at 9 (some 35) ?bv9 rfl rfl (by kernel_rfl) (by kernel_rfl) (by kernel_rfl) (fun _ _ _ h => h) ?by9 hSS ?br9
        case by9 => first | (refine Or.inr ⟨?_, ?_⟩; rfl; rfl) | (refine Or.inl ⟨by rfl, ?_⟩; intro W9 hSw; (try dsimp only at hSw); go_simp; done) | (refine Or.inl ⟨by rfl, ?_⟩; intro W9 hSw; (try dsimp only at hSw); go_simp; with_reducible rfl)
        simp only [Act.put, List.setIfInBounds_toArray, List.set_cons_zero, List.set_cons_succ]
        refine take_at 10 (some 36) ?bv10 rfl rfl (by kernel_rfl) (by kernel_rfl) (by kernel_rfl) (fun _ _ _ h => h) ?by10 hSS ?br10
        case by10 => first | (refine Or.inr ⟨?_, ?_⟩; rfl; rfl) | (refine Or.inl ⟨by rfl, ?_⟩; intro W9 hSw; (try dsimp only at hSw); go_simp; done) | (refine Or.inl ⟨by rfl, ?_⟩; intro W9 hSw; (try dsimp only at hSw); go_simp; with_reducible rfl)
        simp only [Act.put, List.setIfInBounds_toArray, List.set_cons_zero, List.set_cons_succ]
        refine take_at 11 (some 37) ?bv11 rfl rfl (by kernel_rfl) (by kernel_rfl) (by kernel_rfl) (fun _ _ _ h => h) ?by11 hSS ?br11
        case by11 => first | (refine Or.inr ⟨?_, ?_⟩; rfl; rfl) | (refine Or.inl ⟨by rfl, ?_⟩; intro W9 hSw; (try dsimp only at hSw); go_simp; done) | (refine Or.inl ⟨by rfl, ?_⟩; intro W9 hSw; (try dsimp only at hSw); go_simp; with_reducible rfl)
        simp only [Act.put, List.setIfInBounds_toArray, List.set_cons_zero, List.set_cons_succ]
        refine take_at 12 (some 38) ?bv12 rfl rfl (by kernel_rfl) (by kernel_rfl) (by kernel_rfl) (fun _ _ _ h => h) ?by12 hSS ?br12
        case by12 => first | (refine Or.inr ⟨?_, ?_⟩; rfl; rfl) | (refine Or.inl ⟨by rfl, ?_⟩; intro W9 hSw; (try dsimp only at hSw); go_simp; done) | (refine Or.inl ⟨by rfl, ?_⟩; intro W9 hSw; (try dsimp only at hSw); go_simp; with_reducible rfl)
        simp only [Act.put, List.setIfInBounds_toArray, List.set_cons_zero, List.set_cons_succ]
        refine take_at 13 (some 39) ?bv13 rfl rfl (by kernel_rfl) (by kernel_rfl) (by kernel_rfl) (fun _ _ _ h => h) ?by13 hSS ?br13
        case by13 => first | (refine Or.inr ⟨?_, ?_⟩; rfl; rfl) | (refine Or.inl ⟨by rfl, ?_⟩; intro W9 hSw; (try dsimp only at hSw); go_simp; done) | (refine Or.inl ⟨by rfl, ?_⟩; intro W9 hSw; (try dsimp only at hSw); go_simp; with_reducible rfl)
        simp only [Act.put, List.setIfInBounds_toArray, List.set_cons_zero, List.set_cons_succ]
        refine take_at 14 (some 40) ?bv14 rfl rfl (by kernel_rfl) (by kernel_rfl) (by kernel_rfl) (fun _ _ _ h => h) ?by14 hSS ?br14
        case by14 => first | (refine Or.inr ⟨?_, ?_⟩; rfl; rfl) | (refine Or.inl ⟨by rfl, ?_⟩; intro W9 hSw; (try dsimp only at hSw); go_simp; done) | (refine Or.inl ⟨by rfl, ?_⟩; intro W9 hSw; (try dsimp only at hSw); go_simp; with_reducible rfl)
        simp only [Act.put, List.setIfInBounds_toArray, List.set_cons_zero, List.set_cons_succ]
        refine take_at 15 (some 41) ?bv15 rfl rfl (by kernel_rfl) (by kernel_rfl) (by kernel_rfl) (fun _ _ _ h => h) ?by15 hSS ?br15
        case by15 => first | (refine Or.inr ⟨?_, ?_⟩; rfl; rfl) | (refine Or.inl ⟨by rfl, ?_⟩; intro W9 hSw; (try dsimp only at hSw); go_simp; done) | (refine Or.inl ⟨by rfl, ?_⟩; intro W9 hSw; (try dsimp only at hSw); go_simp; with_reducible rfl)
        simp only [Act.put, List.setIfInBounds_toArray, List.set_cons_zero, List.set_cons_succ]
        refine take_at 16 (some 42) ?bv16 rfl rfl (by kernel_rfl) (by kernel_rfl) (by kernel_rfl) (fun _ _ _ h => h) ?by16 hSS ?br16
        case by16 => first | (refine Or.inr ⟨?_, ?_⟩; rfl; rfl) | (refine Or.inl ⟨by rfl, ?_⟩; intro W9 hSw; (try dsimp only at hSw); go_simp; done) | (refine Or.inl ⟨by rfl, ?_⟩; intro W9 hSw; (try dsimp only at hSw); go_simp; with_reducible rfl)
        simp only [Act.put, List.setIfInBounds_toArray, List.set_cons_zero, List.set_cons_succ]
        refine take_at 17 (some 43) ?bv17 rfl rfl (by kernel_rfl) (by kernel_rfl) (by kernel_rfl) (fun _ _ _ h => h) ?by17 hSS ?br17
        case by17 => first | (refine Or.inr ⟨?_, ?_⟩; rfl; rfl) | (refine Or.inl ⟨by rfl, ?_⟩; intro W9 hSw; (try dsimp only at hSw); go_simp; done) | (refine Or.inl ⟨by rfl, ?_⟩; intro W9 hSw; (try dsimp only at hSw); go_simp; with_reducible rfl)
        simp only [Act.put, List.setIfInBounds_toArray, List.set_cons_zero, List.set_cons_succ]
        refine take_at 18 (some 44) ?bv18 rfl rfl (by kernel_rfl) (by kernel_rfl) (by kernel_rfl) (fun _ _ _ h => h) ?by18 hSS ?br18
        case by18 => first | (refine Or.inr ⟨?_, ?_⟩; rfl; rfl) | (refine Or.inl ⟨by rfl, ?_⟩; intro W9 hSw; (try dsimp only at hSw); go_simp; done) | (refine Or.inl ⟨by rfl, ?_⟩; intro W9 hSw; (try dsimp only at hSw); go_simp; with_reducible rfl)
        simp only [Act.put, List.setIfInBounds_toArray, List.set_cons_zero, List.set_cons_succ]
        refine take_at 19 (some 45) ?bv19 rfl rfl (by kernel_rfl) (by kernel_rfl) (by kernel_rfl) (fun _ _ _ h => h) ?by19 hSS ?br19
        case by19 => first | (refine Or.inr ⟨?_, ?_⟩; rfl; rfl) | (refine Or.inl ⟨by rfl, ?_⟩; intro W9 hSw; (try dsimp only at hSw); go_simp; done) | (refine Or.inl ⟨by rfl, ?_⟩; intro W9 hSw; (try dsimp only at hSw); go_simp; with_reducible rfl)
        simp only [Act.put, List.setIfInBounds_toArray, List.set_cons_zero, List.set_cons_succ]
        refine take_at 20 (some 46) ?bv20 rfl rfl (by kernel_rfl) (by kernel_rfl) (by kernel_rfl) (fun _ _ _ h => h) ?by20 hSS ?br20
        case by20 => first | (refine Or.inr ⟨?_, ?_⟩; rfl; rfl) | (refine Or.inl ⟨by rfl, ?_⟩; intro W9 hSw; (try dsimp only at hSw); go_simp; done) | (refine Or.inl ⟨by rfl, ?_⟩; intro W9 hSw; (try dsimp only at hSw); go_simp; with_reducible rfl)
        simp only [Act.put, List.setIfInBounds_toArray, List.set_cons_zero, List.set_cons_succ]
        refine take_at 21 (some 47) ?bv21 rfl rfl (by kernel_rfl) (by kernel_rfl) (by kernel_rfl) (fun _ _ _ h => h) ?by21 hSS ?br21
        case by21 => first | (refine Or.inr ⟨?_, ?_⟩; rfl; rfl) | (refine Or.inl ⟨by rfl, ?_⟩; intro W9 hSw; (try dsimp only at hSw); go_simp; done) | (refine Or.inl ⟨by rfl, ?_⟩; intro W9 hSw; (try dsimp only at hSw); go_simp; with_reducible rfl)
        simp only [Act.put, List.setIfInBounds_toArray, List.set_cons_zero, List.set_cons_succ]
        refine take_at 22 (some 48) ?bv22 rfl rfl (by kernel_rfl) (by kernel_rfl) (by kernel_rfl) (fun _ _ _ h => h) ?by22 hSS ?br22
        case by22 => first | (refine Or.inr ⟨?_, ?_⟩; rfl; rfl) | (refine Or.inl ⟨by rfl, ?_⟩; intro W9 hSw; (try dsimp only at hSw); go_simp; done) | (refine Or.inl ⟨by rfl, ?_⟩; intro W9 hSw; (try dsimp only at hSw); go_simp; with_reducible rfl)
        simp only [Act.put, List.setIfInBounds_toArray, List.set_cons_zero, List.set_cons_succ]
        refine take_at 23 (some 49) ?bv23 rfl rfl (by kernel_rfl) (by kernel_rfl) (by kernel_rfl) (fun _ _ _ h => h) ?by23 hSS ?br23
        case by23 => first | (refine Or.inr ⟨?_, ?_⟩; rfl; rfl) | (refine Or.inl ⟨by rfl, ?_⟩; intro W9 hSw; (try dsimp only at hSw); go_simp; done) | (refine Or.inl ⟨by rfl, ?_⟩; intro W9 hSw; (try dsimp only at hSw); go_simp; with_reducible rfl)
        simp only [Act.put, List.setIfInBounds_toArray, List.set_cons_zero, List.set_cons_succ]
        refine take_at 24 (some 50) ?bv24 rfl rfl (by kernel_rfl) (by kernel_rfl) (by kernel_rfl) (fun _ _ _ h => h) ?by24 hSS ?br24
        case by24 => first | (refine Or.inr ⟨?_, ?_⟩; rfl; rfl) | (refine Or.inl ⟨by rfl, ?_⟩; intro W9 hSw; (try dsimp only at hSw); go_simp; done) | (refine Or.inl ⟨by rfl, ?_⟩; intro W9 hSw; (try dsimp only at hSw); go_simp; with_reducible rfl)
        simp only [Act.put, List.setIfInBounds_toArray, List.set_cons_zero, List.set_cons_succ]
        refine take_at 25 (some 51) ?bv25 rfl rfl (by kernel_rfl) (by kernel_rfl) (by kernel_rfl) (fun _ _ _ h => h) ?by25 hSS ?br25
        case by25 => first | (refine Or.inr ⟨?_, ?_⟩; rfl; rfl) | (refine Or.inl ⟨by rfl, ?_⟩; intro W9 hSw; (try dsimp only at hSw); go_simp; done) | (refine Or.inl ⟨by rfl, ?_⟩; intro W9 hSw; (try dsimp only at hSw); go_simp; with_reducible rfl)
        simp only [Act.put, List.setIfInBounds_toArray, List.set_cons_zero, List.set_cons_succ]
        refine wpAnyH_ready (rs := [26]) (by kernel_rfl) (by simp) ?_
        refine AllReadyH.cons rfl (fun K hK => ?_) AllReadyH.nil
        go_simp
        refine hK.out _ _ HQ.out (fun hS3 => ?_)
        clear hK K
        have HZ2 := Lib.hid (HZd.out.quad (.int .u64 (g : Int)) (.int .u64 (ix : Int)) (.int .u64 (m : Int)) (.slice (some ⟨ad.block, ad.off + 17, none⟩) k (c - 17)))
        have HB2 : Hid (Below w.heap.size w ((((wd.setCell ⟨w.heap.size, 0, none⟩ (.int .u64 (g : Int))).setCell ⟨w.heap.size, 1, none⟩ (.int .u64 (ix : Int))).setCell ⟨w.heap.size, 2, none⟩ (.int .u64 (m : Int))).setCell ⟨w.heap.size, 3, none⟩ (.slice (some ⟨ad.block, ad.off + 17, none⟩) k (c - 17)))) := Lib.hid ((((HBd.out.setCell (Nat.le_refl _) _).setCell (Nat.le_refl _) _).setCell (Nat.le_refl _) _).setCell (Nat.le_refl _) _)
        generalize ((((wd.setCell ⟨w.heap.size, 0, none⟩ (.int .u64 (g : Int))).setCell ⟨w.heap.size, 1, none⟩ (.int .u64 (ix : Int))).setCell ⟨w.heap.size, 2, none⟩ (.int .u64 (m : Int))).setCell ⟨w.heap.size, 3, none⟩ (.slice (some ⟨ad.block, ad.off + 17, none⟩) k (c - 17))) = wz at hS3 HZ2 HB2 ⊢
        refine take_at 27 (some 3) ?bv27 rfl rfl (by kernel_rfl) (by kernel_rfl) (by kernel_rfl) (fun _ _ _ h => h) ?by27 hS3 ?br27
        case by27 => first | (refine Or.inr ⟨?_, ?_⟩; rfl; rfl) | (refine Or.inl ⟨by rfl, ?_⟩; intro W9 hSw; (try dsimp only at hSw); go_simp; done) | (refine Or.inl ⟨by rfl, ?_⟩; intro W9 hSw; (try dsimp only at hSw); go_simp; with_reducible rfl)
        simp only [Act.put, List.setIfInBounds_toArray, List.set_cons_zero, List.set_cons_succ]
        refine wpAnyH_done (by kernel_rfl) ?_ _
        have r0 : wz.cell? ⟨w.heap.size, 0, none⟩ = some (.int .u64 (g : Int)) := HZ2.out.cell 0
        have r1 : wz.cell? ⟨w.heap.size, 1, none⟩ = some (.int .u64 (ix : Int)) := HZ2.out.cell 1
        have r2 : wz.cell? ⟨w.heap.size, 2, none⟩ = some (.int .u64 (m : Int)) := HZ2.out.cell 2
        have r3 : wz.cell? ⟨w.heap.size, 3, none⟩ = some (.slice (some ⟨ad.block, ad.off + 17, none⟩) k (c - 17)) := HZ2.out.cell 3
        go_wp2
        refine bodyPost_ret (v := .tuple #[.agg #[.int .u64 (g : Int), .int .u64 (ix : Int), .int .u64 (m : Int), .slice (some ⟨ad.block, ad.off + 17, none⟩) k (c - 17)], .bool false]) (by simp [results, Try.results27, go_sem, r0, r1, r2, r3]) rfl ⟨g, ix, m, _, _, by rw [HOk.out], HSec.out, HB2.out⟩

    · have tA : ((b16 : Int) == (k : Int)) = false := beq_eq_false_iff_ne.2 (by omega)
      have HOk : Hid (Crc.okB l = false) := Lib.hid (by rw [hok]; exact decide_eq_false (fun h => hA h.1))
      clear hA
      clear hok
      go_wp2_with fail
      refine wp_region_held_drew (S := fun W => W.cell? ⟨w0.heap.size, 0, none⟩ = some (.int .u64 (g : Int)) ∧ W.cell? ⟨w0.heap.size, 1, none⟩ = some (.int .u64 (ix : Int)) ∧ W.cell? ⟨w0.heap.size, 2, none⟩ = some (.int .u64 (m : Int)) ∧ W.cell? ⟨w0.heap.size, 3, none⟩ = some (.slice (some ⟨ad.block, ad.off + 17, none⟩) k (c - 17)) ∧ W.cell? ⟨ad.block, ad.off + 16, none⟩ = some (.int .u8 (b16 : Int))) (by kernel_rfl) HSc.out (fun hSS => ?_)
      generalize wc.drew = wd at hSS HZd HBd HNe HSm HSc HQ z0 z1 z2 z3 y0 y1 y2 y3 ⊢
      refine take_at 0 (some 26) ?av0 rfl rfl (by kernel_rfl) (by kernel_rfl) (by kernel_rfl) (fun _ _ _ h => h) ?ay0 hSS ?ar0
      case ay0 => first | (refine Or.inr ⟨?_, ?_⟩; rfl; rfl) | (refine Or.inl ⟨by rfl, ?_⟩; intro W9 hSw; (try dsimp only at hSw); go_simp; done) | (refine Or.inl ⟨by rfl, ?_⟩; intro W9 hSw; (try dsimp only at hSw); go_simp; with_reducible rfl)
      simp only [Act.put, List.setIfInBounds_toArray, List.set_cons_zero, List.set_cons_succ]
      refine take_at 1 (some 27) ?av1 rfl rfl (by kernel_rfl) (by kernel_rfl) (by kernel_rfl) (fun _ _ _ h => h) ?ay1 hSS ?ar1
      case ay1 => first | (refine Or.inr ⟨?_, ?_⟩; rfl; rfl) | (refine Or.inl ⟨by rfl, ?_⟩; intro W9 hSw; (try dsimp only at hSw); go_simp; done) | (refine Or.inl ⟨by rfl, ?_⟩; intro W9 hSw; (try dsimp only at hSw); go_simp; with_reducible rfl)
      simp only [Act.put, List.setIfInBounds_toArray, List.set_cons_zero, List.set_cons_succ]
      refine take_at 2 (some 28) ?av2 rfl rfl (by kernel_rfl) (by kernel_rfl) (by kernel_rfl) (fun _ _ _ h => h) ?ay2 hSS ?ar2
      case ay2 => first | (refine Or.inr ⟨?_, ?_⟩; rfl; rfl) | (refine Or.inl ⟨by rfl, ?_⟩; intro W9 hSw; (try dsimp only at hSw); go_simp; done) | (refine Or.inl ⟨by rfl, ?_⟩; intro W9 hSw; (try dsimp only at hSw); go_simp; with_reducible rfl)
      simp only [Act.put, List.setIfInBounds_toArray, List.set_cons_zero, List.set_cons_succ]
      refine take_at 3 (some 29) ?av3 rfl rfl (by kernel_rfl) (by kernel_rfl) (by kernel_rfl) (fun _ _ _ h => h) ?ay3 hSS ?ar3
      case ay3 => first | (refine Or.inr ⟨?_, ?_⟩; rfl; rfl) | (refine Or.inl ⟨by rfl, ?_⟩; intro W9 hSw; (try dsimp only at hSw); go_simp; done) | (refine Or.inl ⟨by rfl, ?_⟩; intro W9 hSw; (try dsimp only at hSw); go_simp; with_reducible rfl)
      simp only [Act.put, List.setIfInBounds_toArray, List.set_cons_zero, List.set_cons_succ]
      refine take_at 4 (some 30) ?av4 rfl rfl (by kernel_rfl) (by kernel_rfl) (by kernel_rfl) (fun _ _ _ h => h) ?ay4 hSS ?ar4
      case ay4 => first | (refine Or.inr ⟨?_, ?_⟩; rfl; rfl) | (refine Or.inl ⟨by rfl, ?_⟩; intro W9 hSw; (try dsimp only at hSw); go_simp; done) | (refine Or.inl ⟨by rfl, ?_⟩; intro W9 hSw; (try dsimp only at hSw); go_simp; with_reducible rfl)
      simp only [Act.put, List.setIfInBounds_toArray, List.set_cons_zero, List.set_cons_succ]
      refine take_at 5 (some 31) ?av5 rfl rfl (by kernel_rfl) (by kernel_rfl) (by kernel_rfl) (fun _ _ _ h => h) ?ay5 hSS ?ar5
      case ay5 => first | (refine Or.inr ⟨?_, ?_⟩; rfl; rfl) | (refine Or.inl ⟨by rfl, ?_⟩; intro W9 hSw; (try dsimp only at hSw); go_simp; done) | (refine Or.inl ⟨by rfl, ?_⟩; intro W9 hSw; (try dsimp only at hSw); go_simp; with_reducible rfl)
      simp only [Act.put, List.setIfInBounds_toArray, List.set_cons_zero, List.set_cons_succ]
      refine take_at 6 (some 32) ?av6 rfl rfl (by kernel_rfl) (by kernel_rfl) (by kernel_rfl) (fun _ _ _ h => h) ?ay6 hSS ?ar6
      case ay6 => first | (refine Or.inr ⟨?_, ?_⟩; rfl; rfl) | (refine Or.inl ⟨by rfl, ?_⟩; intro W9 hSw; (try dsimp only at hSw); go_simp; done) | (refine Or.inl ⟨by rfl, ?_⟩; intro W9 hSw; (try dsimp only at hSw); go_simp; with_reducible rfl)
      simp only [Act.put, List.setIfInBounds_toArray, List.set_cons_zero, List.set_cons_succ]
      refine take_at 7 (some 33) ?av7 rfl rfl (by kernel_rfl) (by kernel_rfl) (by kernel_rfl) (fun _ _ _ h => h) ?ay7 hSS ?ar7
      case ay7 => first | (refine Or.inr ⟨?_, ?_⟩; rfl; rfl) | (refine Or.inl ⟨by rfl, ?_⟩; intro W9 hSw; (try dsimp only at hSw); go_simp; done) | (refine Or.inl ⟨by rfl, ?_⟩; intro W9 hSw; (try dsimp only at hSw); go_simp; with_reducible rfl)
      simp only [Act.put, List.setIfInBounds_toArray, List.set_cons_zero, List.set_cons_succ]
      refine take_at 8 (some 34) ?av8 rfl rfl (by kernel_rfl) (by kernel_rfl) (by kernel_rfl) (fun _ _ _ h => h) ?ay8 hSS ?ar8
      case ay8 => first | (refine Or.inr ⟨?_, ?_⟩; rfl; rfl) | (refine Or.inl ⟨by rfl, ?_⟩; intro W9 hSw; (try dsimp only at hSw); go_simp; done) | (refine Or.inl ⟨by rfl, ?_⟩; intro W9 hSw; (try dsimp only at hSw); go_simp; with_reducible rfl)
      simp only [Act.put, List.setIfInBounds_toArray, List.set_cons_zero, List.set_cons_succ]
      refine take_at 9 (some 35) ?av9 rfl rfl (by kernel_rfl) (by kernel_rfl) (by kernel_rfl) (fun _ _ _ h => h) ?ay9 hSS ?ar9
      case ay9 => first | (refine Or.inr ⟨?_, ?_⟩; rfl; rfl) | (refine Or.inl ⟨by rfl, ?_⟩; intro W9 hSw; (try dsimp only at hSw); go_simp; done) | (refine Or.inl ⟨by rfl, ?_⟩; intro W9 hSw; (try dsimp only at hSw); go_simp; with_reducible rfl)
      simp only [Act.put, List.setIfInBounds_toArray, List.set_cons_zero, List.set_cons_succ]
      refine take_at 10 (some 36) ?av10 rfl rfl (by kernel_rfl) (by kernel_rfl) (by kernel_rfl) (fun _ _ _ h => h) ?ay10 hSS ?ar10
      case ay10 => first | (refine Or.inr ⟨?_, ?_⟩; rfl; rfl) | (refine Or.inl ⟨by rfl, ?_⟩; intro W9 hSw; (try dsimp only at hSw); go_simp; done) | (refine Or.inl ⟨by rfl, ?_⟩; intro W9 hSw; (try dsimp only at hSw); go_simp; with_reducible rfl)
      simp only [Act.put, List.setIfInBounds_toArray, List.set_cons_zero, List.set_cons_succ]
      refine take_at 11 (some 37) ?av11 rfl rfl (by kernel_rfl) (by kernel_rfl) (by kernel_rfl) (fun _ _ _ h => h) ?ay11 hSS ?ar11
      case ay11 => first | (refine Or.inr ⟨?_, ?_⟩; rfl; rfl) | (refine Or.inl ⟨by rfl, ?_⟩; intro W9 hSw; (try dsimp only at hSw); go_simp; done) | (refine Or.inl ⟨by rfl, ?_⟩; intro W9 hSw; (try dsimp only at hSw); go_simp; with_reducible rfl)
      simp only [Act.put, List.setIfInBounds_toArray, List.set_cons_zero, List.set_cons_succ]
      refine take_at 12 (some 38) ?av12 rfl rfl (by kernel_rfl) (by kernel_rfl) (by kernel_rfl) (fun _ _ _ h => h) ?ay12 hSS ?ar12
      case ay12 => first | (refine Or.inr ⟨?_, ?_⟩; rfl; rfl) | (refine Or.inl ⟨by rfl, ?_⟩; intro W9 hSw; (try dsimp only at hSw); go_simp; done) | (refine Or.inl ⟨by rfl, ?_⟩; intro W9 hSw; (try dsimp only at hSw); go_simp; with_reducible rfl)
      simp only [Act.put, List.setIfInBounds_toArray, List.set_cons_zero, List.set_cons_succ]
      refine take_at 13 (some 39) ?av13 rfl rfl (by kernel_rfl) (by kernel_rfl) (by kernel_rfl) (fun _ _ _ h => h) ?ay13 hSS ?ar13
      case ay13 => first | (refine Or.inr ⟨?_, ?_⟩; rfl; rfl) | (refine Or.inl ⟨by rfl, ?_⟩; intro W9 hSw; (try dsimp only at hSw); go_simp; done) | (refine Or.inl ⟨by rfl, ?_⟩; intro W9 hSw; (try dsimp only at hSw); go_simp; with_reducible rfl)
      simp only [Act.put, List.setIfInBounds_toArray, List.set_cons_zero, List.set_cons_succ]
      refine take_at 14 (some 40) ?av14 rfl rfl (by kernel_rfl) (by kernel_rfl) (by kernel_rfl) (fun _ _ _ h => h) ?ay14 hSS ?ar14
      case ay14 => first | (refine Or.inr ⟨?_, ?_⟩; rfl; rfl) | (refine Or.inl ⟨by rfl, ?_⟩; intro W9 hSw; (try dsimp only at hSw); go_simp; done) | (refine Or.inl ⟨by rfl, ?_⟩; intro W9 hSw; (try dsimp only at hSw); go_simp; with_reducible rfl)
      simp only [Act.put, List.setIfInBounds_toArray, List.set_cons_zero, List.set_cons_succ]
      refine take_at 15 (some 41) ?av15 rfl rfl (by kernel_rfl) (by kernel_rfl) (by kernel_rfl) (fun _ _ _ h => h) ?ay15 hSS ?ar15
      case ay15 => first | (refine Or.inr ⟨?_, ?_⟩; rfl; rfl) | (refine Or.inl ⟨by rfl, ?_⟩; intro W9 hSw; (try dsimp only at hSw); go_simp; done) | (refine Or.inl ⟨by rfl, ?_⟩; intro W9 hSw; (try dsimp only at hSw); go_simp; with_reducible rfl)
      simp only [Act.put, List.setIfInBounds_toArray, List.set_cons_zero, List.set_cons_succ]
      refine take_at 16 (some 42) ?av16 rfl rfl (by kernel_rfl) (by kernel_rfl) (by kernel_rfl) (fun _ _ _ h => h) ?ay16 hSS ?ar16
      case ay16 => first | (refine Or.inr ⟨?_, ?_⟩; rfl; rfl) | (refine Or.inl ⟨by rfl, ?_⟩; intro W9 hSw; (try dsimp only at hSw); go_simp; done) | (refine Or.inl ⟨by rfl, ?_⟩; intro W9 hSw; (try dsimp only at hSw); go_simp; with_reducible rfl)
      simp only [Act.put, List.setIfInBounds_toArray, List.set_cons_zero, List.set_cons_succ]
      refine take_at 17 (some 43) ?av17 rfl rfl (by kernel_rfl) (by kernel_rfl) (by kernel_rfl) (fun _ _ _ h => h) ?ay17 hSS ?ar17
      case ay17 => first | (refine Or.inr ⟨?_, ?_⟩; rfl; rfl) | (refine Or.inl ⟨by rfl, ?_⟩; intro W9 hSw; (try dsimp only at hSw); go_simp; done) | (refine Or.inl ⟨by rfl, ?_⟩; intro W9 hSw; (try dsimp only at hSw); go_simp; with_reducible rfl)
      simp only [Act.put, List.setIfInBounds_toArray, List.set_cons_zero, List.set_cons_succ]
      refine take_at 18 (some 44) ?av18 rfl rfl (by kernel_rfl) (by kernel_rfl) (by kernel_rfl) (fun _ _ _ h => h) ?ay18 hSS ?ar18
      case ay18 => first | (refine Or.inr ⟨?_, ?_⟩; rfl; rfl) | (refine Or.inl ⟨by rfl, ?_⟩; intro W9 hSw; (try dsimp only at hSw); go_simp; done) | (refine Or.inl ⟨by rfl, ?_⟩; intro W9 hSw; (try dsimp only at hSw); go_simp; with_reducible rfl)
      simp only [Act.put, List.setIfInBounds_toArray, List.set_cons_zero, List.set_cons_succ]
      refine take_at 19 (some 45) ?av19 rfl rfl (by kernel_rfl) (by kernel_rfl) (by kernel_rfl) (fun _ _ _ h => h) ?ay19 hSS ?ar19
      case ay19 => first | (refine Or.inr ⟨?_, ?_⟩; rfl; rfl) | (refine Or.inl ⟨by rfl, ?_⟩; intro W9 hSw; (try dsimp only at hSw); go_simp; done) | (refine Or.inl ⟨by rfl, ?_⟩; intro W9 hSw; (try dsimp only at hSw); go_simp; with_reducible rfl)
      simp only [Act.put, List.setIfInBounds_toArray, List.set_cons_zero, List.set_cons_succ]
      refine take_at 20 (some 46) ?av20 rfl rfl (by kernel_rfl) (by kernel_rfl) (by kernel_rfl) (fun _ _ _ h => h) ?ay20 hSS ?ar20
      case ay20 => first | (refine Or.inr ⟨?_, ?_⟩; rfl; rfl) | (refine Or.inl ⟨by rfl, ?_⟩; intro W9 hSw; (try dsimp only at hSw); go_simp; done) | (refine Or.inl ⟨by rfl, ?_⟩; intro W9 hSw; (try dsimp only at hSw); go_simp; with_reducible rfl)
      simp only [Act.put, List.setIfInBounds_toArray, List.set_cons_zero, List.set_cons_succ]
      refine take_at 21 (some 47) ?av21 rfl rfl (by kernel_rfl) (by kernel_rfl) (by kernel_rfl) (fun _ _ _ h => h) ?ay21 hSS ?ar21
      case ay21 => first | (refine Or.inr ⟨?_, ?_⟩; rfl; rfl) | (refine Or.inl ⟨by rfl, ?_⟩; intro W9 hSw; (try dsimp only at hSw); go_simp; done) | (refine Or.inl ⟨by rfl, ?_⟩; intro W9 hSw; (try dsimp only at hSw); go_simp; with_reducible rfl)
      simp only [Act.put, List.setIfInBounds_toArray, List.set_cons_zero, List.set_cons_succ]
      refine take_at 22 (some 48) ?av22 rfl rfl (by kernel_rfl) (by kernel_rfl) (by kernel_rfl) (fun _ _ _ h => h) ?ay22 hSS ?ar22
      case ay22 => first | (refine Or.inr ⟨?_, ?_⟩; rfl; rfl) | (refine Or.inl ⟨by rfl, ?_⟩; intro W9 hSw; (try dsimp only at hSw); go_simp; done) | (refine Or.inl ⟨by rfl, ?_⟩; intro W9 hSw; (try dsimp only at hSw); go_simp; with_reducible rfl)
      simp only [Act.put, List.setIfInBounds_toArray, List.set_cons_zero, List.set_cons_succ]
      refine take_at 23 (some 49) ?av23 rfl rfl (by kernel_rfl) (by kernel_rfl) (by kernel_rfl) (fun _ _ _ h => h) ?ay23 hSS ?ar23
      case ay23 => first | (refine Or.inr ⟨?_, ?_⟩; rfl; rfl) | (refine Or.inl ⟨by rfl, ?_⟩; intro W9 hSw; (try dsimp only at hSw); go_simp; done) | (refine Or.inl ⟨by rfl, ?_⟩; intro W9 hSw; (try dsimp only at hSw); go_simp; with_reducible rfl)
      simp only [Act.put, List.setIfInBounds_toArray, List.set_cons_zero, List.set_cons_succ]
      refine take_at 24 (some 50) ?av24 rfl rfl (by kernel_rfl) (by kernel_rfl) (by kernel_rfl) (fun _ _ _ h => h) ?ay24 hSS ?ar24
      case ay24 => first | (refine Or.inr ⟨?_, ?_⟩; rfl; rfl) | (refine Or.inl ⟨by rfl, ?_⟩; intro W9 hSw; (try dsimp only at hSw); go_simp; done) | (refine Or.inl ⟨by rfl, ?_⟩; intro W9 hSw; (try dsimp only at hSw); go_simp; with_reducible rfl)
      simp only [Act.put, List.setIfInBounds_toArray, List.set_cons_zero, List.set_cons_succ]
      refine take_at 25 (some 51) ?av25 rfl rfl (by kernel_rfl) (by kernel_rfl) (by kernel_rfl) (fun _ _ _ h => h) ?ay25 hSS ?ar25
      case ay25 => first | (refine Or.inr ⟨?_, ?_⟩; rfl; rfl) | (refine Or.inl ⟨by rfl, ?_⟩; intro W9 hSw; (try dsimp only at hSw); go_simp; done) | (refine Or.inl ⟨by rfl, ?_⟩; intro W9 hSw; (try dsimp only at hSw); go_simp; with_reducible rfl)
      simp only [Act.put, List.setIfInBounds_toArray, List.set_cons_zero, List.set_cons_succ]
      refine wpAnyH_ready (rs := [26]) (by kernel_rfl) (by simp) ?_
      refine AllReadyH.cons rfl (fun K hK => ?_) AllReadyH.nil
      go_simp
      refine hK.out _ _ HQ.out (fun hS3 => ?_)
      clear hK K
      have HZ2 := Lib.hid (HZd.out.quad (.int .u64 (g : Int)) (.int .u64 (ix : Int)) (.int .u64 (m : Int)) (.slice (some ⟨ad.block, ad.off + 17, none⟩) k (c - 17)))
      have HB2 : Hid (Below w.heap.size w ((((wd.setCell ⟨w.heap.size, 0, none⟩ (.int .u64 (g : Int))).setCell ⟨w.heap.size, 1, none⟩ (.int .u64 (ix : Int))).setCell ⟨w.heap.size, 2, none⟩ (.int .u64 (m : Int))).setCell ⟨w.heap.size, 3, none⟩ (.slice (some ⟨ad.block, ad.off + 17, none⟩) k (c - 17)))) := Lib.hid ((((HBd.out.setCell (Nat.le_refl _) _).setCell (Nat.le_refl _) _).setCell (Nat.le_refl _) _).setCell (Nat.le_refl _) _)
      generalize ((((wd.setCell ⟨w.heap.size, 0, none⟩ (.int .u64 (g : Int))).setCell ⟨w.heap.size, 1, none⟩ (.int .u64 (ix : Int))).setCell ⟨w.heap.size, 2, none⟩ (.int .u64 (m : Int))).setCell ⟨w.heap.size, 3, none⟩ (.slice (some ⟨ad.block, ad.off + 17, none⟩) k (c - 17))) = wz at hS3 HZ2 HB2 ⊢
      refine take_at 27 (some 3) ?av27 rfl rfl (by kernel_rfl) (by kernel_rfl) (by kernel_rfl) (fun _ _ _ h => h) ?ay27 hS3 ?ar27
      case ay27 => first | (refine Or.inr ⟨?_, ?_⟩; rfl; rfl) | (refine Or.inl ⟨by rfl, ?_⟩; intro W9 hSw; (try dsimp only at hSw); go_simp; done) | (refine Or.inl ⟨by rfl, ?_⟩; intro W9 hSw; (try dsimp only at hSw); go_simp; with_reducible rfl)
      simp only [Act.put, List.setIfInBounds_toArray, List.set_cons_zero, List.set_cons_succ]
      refine wpAnyH_done (by kernel_rfl) ?_ _
      have r0 : wz.cell? ⟨w.heap.size, 0, none⟩ = some (.int .u64 (g : Int)) := HZ2.out.cell 0
      have r1 : wz.cell? ⟨w.heap.size, 1, none⟩ = some (.int .u64 (ix : Int)) := HZ2.out.cell 1
      have r2 : wz.cell? ⟨w.heap.size, 2, none⟩ = some (.int .u64 (m : Int)) := HZ2.out.cell 2
      have r3 : wz.cell? ⟨w.heap.size, 3, none⟩ = some (.slice (some ⟨ad.block, ad.off + 17, none⟩) k (c - 17)) := HZ2.out.cell 3
      go_wp2
      refine bodyPost_ret (v := .tuple #[.agg #[.int .u64 (g : Int), .int .u64 (ix : Int), .int .u64 (m : Int), .slice (some ⟨ad.block, ad.off + 17, none⟩) k (c - 17)], .bool false]) (by simp [results, Try.results27, go_sem, r0, r1, r2, r3]) rfl ⟨g, ix, m, _, _, by rw [HOk.out], HSec.out, HB2.out⟩


/-- Parsing any byte string. -/
theorem parse_any (l : List Nat) (hb : Crc.Bytes l) (B n c : Nat) (A : Option Addr) (w : World) (hr : RB w B A n l) (hB : B ≤ w.heap.size) (hc : n ≤ c) (hn : n ≤ 65536) :
    Calls Try.prog 27 #[.slice A n c] w fun e w' => ∃ (g ix m k : Nat) (X : Option Addr) (d : Nat), e = .returned (.tuple #[.agg #[.int .u64 (g : Int), .int .u64 (ix : Int), .int .u64 (m : Int), .slice X k d], .bool (Crc.okB l)]) ∧ (25 ≤ n → SecV w B l g ix m X k) ∧ Below w.heap.size w w' := by
  have hl := hr.len
  by_cases h : 25 ≤ n
  · obtain ⟨ad, rfl, _⟩ := hr.2 (by omega)
    refine (parse_long l hb B n (n - 25) c ad w hr hB hc (by omega) (by omega)).mono ?_
    rintro e w' ⟨g, ix, m, X, d, h1, h2, h3⟩
    exact ⟨g, ix, m, _, X, d, h1, fun _ => h2, h3⟩
  · have hok : Crc.okB l = false := decide_eq_false (fun hh => h (by have := hh.1; omega))
    rw [hok]
    obtain ⟨w0, hw0⟩ : ∃ w0, w0 = w.alloc (.cells #[.int .u64 0, .int .u64 0, .int .u64 0, .slice none 0 0] 43) := ⟨_, rfl⟩
    have hZ : Blk w0 w.heap.size 43 #[.int .u64 0, .int .u64 0, .int .u64 0, .slice none 0 0] := by rw [hw0]; exact Blk.new _ _ _
    have hB0 : Below w.heap.size w w0 := by rw [hw0]; exact (Below.refl _ _).alloc (Nat.le_refl _) _
    have t1 : (n : Int) < 25 := by omega
    have Hw0 := Lib.hid hw0
    have HZ := Lib.hid hZ
    have HB0 := Lib.hid hB0
    clear hw0 hZ hB0 hr hb
    go_enter Try.func27, Try.ntmps27
    go_wp2_with fail
    rw [← Hw0.out]
    have r0 : w0.cell? ⟨w.heap.size, 0, none⟩ = some (.int .u64 0) := HZ.out.cell 0
    have r1 : w0.cell? ⟨w.heap.size, 1, none⟩ = some (.int .u64 0) := HZ.out.cell 1
    have r2 : w0.cell? ⟨w.heap.size, 2, none⟩ = some (.int .u64 0) := HZ.out.cell 2
    have r3 : w0.cell? ⟨w.heap.size, 3, none⟩ = some (.slice none 0 0) := HZ.out.cell 3
    refine bodyPost_ret (v := .tuple #[.agg #[.int .u64 0, .int .u64 0, .int .u64 0, .slice none 0 0], .bool false]) (by simp [results, Try.results27, go_sem, r0, r1, r2, r3]) rfl ⟨0, 0, 0, 0, none, 0, rfl, fun h' => absurd h' h, HB0.out⟩

end Go.Proofs.Ytijhmopejadpdaa

/- The walk over usable. -/
import Derived.Test.YtijhmopejadpdaaR3
namespace Go.Proofs.Ytijhmopejadpdaa
open Go.RowKit
/-- Whether element i of a copy is usable for a generation. -/
def usB (ls : List (List Nat)) (i gen : Nat) : Bool :=
  decide (i < ls.length) && (Crc.okB (ls.getD i []) && (decide (Crc.num ((ls.getD i []).take 8) = gen) && (decide (Crc.num (((ls.getD i []).drop 8).take 4) = i) && decide (Crc.num (((ls.getD i []).drop 8).take 4) < Crc.num (((ls.getD i []).drop 12).take 4)))))
/-- A list of byte strings, as an argument. -/
def RS (w : World) (B : Nat) (A : Option Addr) (n : Nat) (ls : List (List Nat)) : Prop :=
  ls.length = n ∧ (∀ j, j < n → Crc.Bytes (ls.getD j []) ∧ (ls.getD j []).length ≤ 65536) ∧
    (0 < n → ∃ ad, A = some ad ∧ ad.block < B ∧ ∀ j, j < n → ∃ Y c, w.cell? (ad.add j) = some (.slice Y (ls.getD j []).length c) ∧ RB w B Y (ls.getD j []).length (ls.getD j []) ∧ (ls.getD j []).length ≤ c)
theorem RB.up {w w' : World} {B n : Nat} {A : Option Addr} {l : List Nat} (h : RB w' B A n l) (hb : Below B w w') : RB w B A n l :=
  ⟨h.1, fun h0 => by
    obtain ⟨ad, e, hlt, hc⟩ := h.2 h0
    exact ⟨ad, e, hlt, fun j u hu => (hb.cell (by rw [block_of_add]; exact hlt)).symm.trans (hc j u hu)⟩⟩
theorem RS.below {w w' : World} {B n : Nat} {A : Option Addr} {ls : List (List Nat)} (h : RS w B A n ls) (hb : Below B w w') : RS w' B A n ls :=
  ⟨h.1, h.2.1, fun h0 => by
    obtain ⟨ad, e, hlt, hc⟩ := h.2.2 h0
    refine ⟨ad, e, hlt, fun j hj => ?_⟩
    obtain ⟨Y, c, h1, h2, h3⟩ := hc j hj
    exact ⟨Y, c, (hb.cell (by rw [block_of_add]; exact hlt)).trans h1, h2.below hb, h3⟩⟩

set_option maxHeartbeats 2000000 in
theorem usable_any (ls : List (List Nat)) (B n c i gen : Nat) (A : Option Addr) (w : World) (hr : RS w B A n ls) (hB : B ≤ w.heap.size) (hi : i ≤ 4294967296) (hn : n ≤ 1099511627776) :
    Calls Try.prog 22 #[.slice A n c, .int .i64 (i : Int), .int .u64 (gen : Int)] w fun e w' => ∃ (g ix m k : Nat) (X : Option Addr) (d : Nat), e = .returned (.tuple #[.agg #[.int .u64 (g : Int), .int .u64 (ix : Int), .int .u64 (m : Int), .slice X k d], .bool (usB ls i gen)]) ∧ (usB ls i gen = true → SecV w B (ls.getD i []) g ix m X k) ∧ Below w.heap.size w w' := by
  have hl := hr.1
  obtain ⟨w0, hw0⟩ : ∃ w0, w0 = w.alloc (.cells #[.int .u64 0, .int .u64 0, .int .u64 0, .slice none 0 0] 43) := ⟨_, rfl⟩
  have hZ : Blk w0 w.heap.size 43 #[.int .u64 0, .int .u64 0, .int .u64 0, .slice none 0 0] := by rw [hw0]; exact Blk.new _ _ _
  have hB0 : Below w.heap.size w w0 := by rw [hw0]; exact (Below.refl _ _).alloc (Nat.le_refl _) _
  have Hw0 := Lib.hid hw0
  have HZ := Lib.hid hZ
  have HB0 := Lib.hid hB0
  clear hw0 hZ hB0
  by_cases hin : i < n
  case neg =>
    have hok : usB ls i gen = false := by unfold usB; rw [decide_eq_false (by omega)]; rfl
    rw [hok]
    have t1 : (i : Int) ≥ (n : Int) := by omega
    clear hr
    go_enter Try.func22, Try.ntmps22
    go_wp2_with fail
    rw [← Hw0.out]
    have r0 : w0.cell? ⟨w.heap.size, 0, none⟩ = some (.int .u64 0) := HZ.out.cell 0
    have r1 : w0.cell? ⟨w.heap.size, 1, none⟩ = some (.int .u64 0) := HZ.out.cell 1
    have r2 : w0.cell? ⟨w.heap.size, 2, none⟩ = some (.int .u64 0) := HZ.out.cell 2
    have r3 : w0.cell? ⟨w.heap.size, 3, none⟩ = some (.slice none 0 0) := HZ.out.cell 3
    refine bodyPost_ret (v := .tuple #[.agg #[.int .u64 0, .int .u64 0, .int .u64 0, .slice none 0 0], .bool false]) (by simp [results, Try.results22, go_sem, r0, r1, r2, r3]) rfl ⟨0, 0, 0, 0, none, 0, rfl, fun h' => (by cases h'), HB0.out⟩
  obtain ⟨ad, rfl, hadb, hel⟩ := hr.2.2 (by omega)
  obtain ⟨Y, cY, hcell, hRY, hlY⟩ := hel i hin
  obtain ⟨hbY, hsz⟩ := hr.2.1 i hin
  obtain ⟨l, hL⟩ : ∃ l, l = ls.getD i [] := ⟨_, rfl⟩
  rw [← hL] at hcell hRY hlY hbY hsz
  have hcell0 : w0.cell? (ad.add i) = some (.slice Y l.length cY) := (HB0.out.cell (by rw [block_of_add]; omega)).trans hcell
  have HP : Hid (Calls Try.prog 27 #[.slice Y l.length cY] w0 fun e w' => ∃ (g ix m k : Nat) (X : Option Addr) (d : Nat), e = .returned (.tuple #[.agg #[.int .u64 (g : Int), .int .u64 (ix : Int), .int .u64 (m : Int), .slice X k d], .bool (Crc.okB l)]) ∧ (25 ≤ l.length → SecV w0 B l g ix m X k) ∧ Below w0.heap.size w0 w') := Lib.hid (parse_any l hbY B l.length cY Y w0 (hRY.below (HB0.out.mono hB)) (by have := HB0.out.size; omega) hlY hsz)
  have t1 : ¬ (i : Int) ≥ (n : Int) := by omega
  have t2 : (i : Int) < (n : Int) := by omega
  have HLd : Hid (ls.getD i [] = l) := Lib.hid hL.symm
  have HUs : Hid (usB ls i gen = (Crc.okB l && (decide (Crc.num (l.take 8) = gen) && (decide (Crc.num ((l.drop 8).take 4) = i) && decide (Crc.num ((l.drop 8).take 4) < Crc.num ((l.drop 12).take 4)))))) := Lib.hid (by unfold usB; rw [← hL, decide_eq_true (by omega)]; rfl)
  clear hel hcell hRY hbY hsz hL hr
  generalize hln : l.length = nl at hcell0 HP hlY
  go_enter Try.func22, Try.ntmps22
  rw [Hw0.out] at hcell0
  go_wp2_with fail
  rw [← Hw0.out]
  clear hcell0
  refine HP.out.mono ?_
  rintro e w1 ⟨g, ix, m, k, X, d, rfl, hSec, hb1⟩
  obtain ⟨w2, hw2⟩ : ∃ w2, w2 = w1.alloc (.cells #[.int .u64 (g : Int), .int .u64 (ix : Int), .int .u64 (m : Int), .slice X k d] 43) := ⟨_, rfl⟩
  obtain ⟨b8, hb8⟩ : ∃ b8, b8 = w1.heap.size := ⟨_, rfl⟩
  have hS2 : Blk w2 b8 43 #[.int .u64 (g : Int), .int .u64 (ix : Int), .int .u64 (m : Int), .slice X k d] := by rw [hw2, hb8]; exact Blk.new _ _ _
  have hZ1 : Blk w1 w.heap.size 43 #[.int .u64 0, .int .u64 0, .int .u64 0, .slice none 0 0] := HZ.out.below hb1 HZ.out.lt
  have hz1 := hZ1.lt
  have hZ2 : Blk w2 w.heap.size 43 #[.int .u64 0, .int .u64 0, .int .u64 0, .slice none 0 0] := by rw [hw2]; exact hZ1.alloc _
  have hB1 := HB0.out.trans (hb1.mono HB0.out.size)
  have hB2 : Below w.heap.size w w2 := by rw [hw2]; exact hB1.alloc hB1.size _
  have hok25 : Crc.okB l = true → SecV w B l g ix m X k := fun h => by
    have h1 : 25 ≤ l.length := (of_decide_eq_true h).1
    obtain ⟨s1, s2, s3, s4, s5⟩ := hSec (by omega)
    exact ⟨s1, s2, s3, s4, RB.up s5 (HB0.out.mono hB)⟩
  have z0 : w2.drew.cell? ⟨w.heap.size, 0, none⟩ = some (.int .u64 0) := hZ2.cell 0
  have z1 : w2.drew.cell? ⟨w.heap.size, 1, none⟩ = some (.int .u64 0) := hZ2.cell 1
  have z2 : w2.drew.cell? ⟨w.heap.size, 2, none⟩ = some (.int .u64 0) := hZ2.cell 2
  have z3 : w2.drew.cell? ⟨w.heap.size, 3, none⟩ = some (.slice none 0 0) := hZ2.cell 3
  have y0 : w2.drew.frozen? ⟨w.heap.size, 0, none⟩ = false := hZ2.frozen 0
  have y1 : w2.drew.frozen? ⟨w.heap.size, 1, none⟩ = false := hZ2.frozen 1
  have y2 : w2.drew.frozen? ⟨w.heap.size, 2, none⟩ = false := hZ2.frozen 2
  have y3 : w2.drew.frozen? ⟨w.heap.size, 3, none⟩ = false := hZ2.frozen 3
  have HZd : Hid (Blk w2.drew w.heap.size 43 #[.int .u64 0, .int .u64 0, .int .u64 0, .slice none 0 0]) := Lib.hid hZ2.drew
  have HBd : Hid (Below w.heap.size w w2.drew) := Lib.hid hB2.drew
  have HSc : Hid (w2.drew.cell? ⟨b8, 0, none⟩ = some (.int .u64 (g : Int)) ∧ w2.drew.cell? ⟨b8, 1, none⟩ = some (.int .u64 (ix : Int)) ∧ w2.drew.cell? ⟨b8, 2, none⟩ = some (.int .u64 (m : Int)) ∧ w2.drew.cell? ⟨b8, 3, none⟩ = some (.slice X k d)) := Lib.hid ⟨hS2.cell 0, hS2.cell 1, hS2.cell 2, hS2.cell 3⟩
  have HQ : Hid (((((w2.drew.setCell ⟨w.heap.size, 0, none⟩ (.int .u64 (g : Int))).setCell ⟨w.heap.size, 1, none⟩ (.int .u64 (ix : Int))).setCell ⟨w.heap.size, 2, none⟩ (.int .u64 (m : Int))).setCell ⟨w.heap.size, 3, none⟩ (.slice X k d)).cell? ⟨b8, 0, none⟩ = some (.int .u64 (g : Int)) ∧ ((((w2.drew.setCell ⟨w.heap.size, 0, none⟩ (.int .u64 (g : Int))).setCell ⟨w.heap.size, 1, none⟩ (.int .u64 (ix : Int))).setCell ⟨w.heap.size, 2, none⟩ (.int .u64 (m : Int))).setCell ⟨w.heap.size, 3, none⟩ (.slice X k d)).cell? ⟨b8, 1, none⟩ = some (.int .u64 (ix : Int)) ∧ ((((w2.drew.setCell ⟨w.heap.size, 0, none⟩ (.int .u64 (g : Int))).setCell ⟨w.heap.size, 1, none⟩ (.int .u64 (ix : Int))).setCell ⟨w.heap.size, 2, none⟩ (.int .u64 (m : Int))).setCell ⟨w.heap.size, 3, none⟩ (.slice X k d)).cell? ⟨b8, 2, none⟩ = some (.int .u64 (m : Int)) ∧ ((((w2.drew.setCell ⟨w.heap.size, 0, none⟩ (.int .u64 (g : Int))).setCell ⟨w.heap.size, 1, none⟩ (.int .u64 (ix : Int))).setCell ⟨w.heap.size, 2, none⟩ (.int .u64 (m : Int))).setCell ⟨w.heap.size, 3, none⟩ (.slice X k d)).cell? ⟨b8, 3, none⟩ = some (.slice X k d)) := Lib.hid (by
    have hS' := Blk.quadFar hS2.drew (g' := w.heap.size) (by omega) (.int .u64 (g : Int)) (.int .u64 (ix : Int)) (.int .u64 (m : Int)) (.slice X k d)
    exact ⟨hS'.cell 0, hS'.cell 1, hS'.cell 2, hS'.cell 3⟩)
  have tW : IntKind.u64.wrap (i : Int) = (i : Int) := by rw [IntKind.wrap_u64]; omega
  have HSec : Hid (usB ls i gen = true → SecV w B (ls.getD i []) g ix m X k) := Lib.hid (fun h => by
    rw [HUs.out] at h
    rw [HLd.out]
    exact hok25 (Bool.and_eq_true_iff.1 h).1)
  have Hw2 := Lib.hid hw2
  have Hb8 := Lib.hid hb8
  have HEx : Hid (Crc.okB l = true → g = Crc.num (l.take 8) ∧ ix = Crc.num ((l.drop 8).take 4) ∧ m = Crc.num ((l.drop 12).take 4)) := Lib.hid (fun h => ⟨(hok25 h).1, (hok25 h).2.1, (hok25 h).2.2.1⟩)
  clear hS2 hZ1 hZ2 hB1 hB2 hSec hb1 hw2 hb8 hok25 hz1 HP hln
  cases hO : Crc.okB l
  · have HOk : Hid (usB ls i gen = false) := Lib.hid (by rw [HUs.out, hO]; rfl)
    clear HUs HEx
    · go_wp2_with fail
      rw [← Hw2.out, ← Hb8.out]
      refine wp_region_held_drew (S := fun W => W.cell? ⟨b8, 0, none⟩ = some (.int .u64 (g : Int)) ∧ W.cell? ⟨b8, 1, none⟩ = some (.int .u64 (ix : Int)) ∧ W.cell? ⟨b8, 2, none⟩ = some (.int .u64 (m : Int)) ∧ W.cell? ⟨b8, 3, none⟩ = some (.slice X k d)) (by kernel_rfl) HSc.out (fun hSS => ?_)
      generalize w2.drew = wd at hSS HZd HBd HSc HQ z0 z1 z2 z3 y0 y1 y2 y3 ⊢
      refine take_at 0 (some 23) ?av0 rfl rfl (by kernel_rfl) (by kernel_rfl) (by kernel_rfl) (fun _ _ _ h => h) ?ay0 hSS ?ar0
      case ay0 => first | (refine Or.inr ⟨?_, ?_⟩; rfl; rfl) | (refine Or.inl ⟨by rfl, ?_⟩; intro W9 hSw; (try dsimp only at hSw); go_simp; done) | (refine Or.inl ⟨by rfl, ?_⟩; intro W9 hSw; (try dsimp only at hSw); go_simp; with_reducible rfl)
      simp only [Act.put, List.setIfInBounds_toArray, List.set_cons_zero, List.set_cons_succ]
      refine take_at 1 (some 24) ?av1 rfl rfl (by kernel_rfl) (by kernel_rfl) (by kernel_rfl) (fun _ _ _ h => h) ?ay1 hSS ?ar1
      case ay1 => first | (refine Or.inr ⟨?_, ?_⟩; rfl; rfl) | (refine Or.inl ⟨by rfl, ?_⟩; intro W9 hSw; (try dsimp only at hSw); go_simp; done) | (refine Or.inl ⟨by rfl, ?_⟩; intro W9 hSw; (try dsimp only at hSw); go_simp; with_reducible rfl)
      simp only [Act.put, List.setIfInBounds_toArray, List.set_cons_zero, List.set_cons_succ]
      refine take_at 2 (some 25) ?av2 rfl rfl (by kernel_rfl) (by kernel_rfl) (by kernel_rfl) (fun _ _ _ h => h) ?ay2 hSS ?ar2
      case ay2 => first | (refine Or.inr ⟨?_, ?_⟩; rfl; rfl) | (refine Or.inl ⟨by rfl, ?_⟩; intro W9 hSw; (try dsimp only at hSw); go_simp; done) | (refine Or.inl ⟨by rfl, ?_⟩; intro W9 hSw; (try dsimp only at hSw); go_simp; with_reducible rfl)
      simp only [Act.put, List.setIfInBounds_toArray, List.set_cons_zero, List.set_cons_succ]
      refine take_at 3 (some 26) ?av3 rfl rfl (by kernel_rfl) (by kernel_rfl) (by kernel_rfl) (fun _ _ _ h => h) ?ay3 hSS ?ar3
      case ay3 => first | (refine Or.inr ⟨?_, ?_⟩; rfl; rfl) | (refine Or.inl ⟨by rfl, ?_⟩; intro W9 hSw; (try dsimp only at hSw); go_simp; done) | (refine Or.inl ⟨by rfl, ?_⟩; intro W9 hSw; (try dsimp only at hSw); go_simp; with_reducible rfl)
      simp only [Act.put, List.setIfInBounds_toArray, List.set_cons_zero, List.set_cons_succ]
      refine take_at 4 (some 27) ?av4 rfl rfl (by kernel_rfl) (by kernel_rfl) (by kernel_rfl) (fun _ _ _ h => h) ?ay4 hSS ?ar4
      case ay4 => first | (refine Or.inr ⟨?_, ?_⟩; rfl; rfl) | (refine Or.inl ⟨by rfl, ?_⟩; intro W9 hSw; (try dsimp only at hSw); go_simp; done) | (refine Or.inl ⟨by rfl, ?_⟩; intro W9 hSw; (try dsimp only at hSw); go_simp; with_reducible rfl)
      simp only [Act.put, List.setIfInBounds_toArray, List.set_cons_zero, List.set_cons_succ]
      refine take_at 5 (some 28) ?av5 rfl rfl (by kernel_rfl) (by kernel_rfl) (by kernel_rfl) (fun _ _ _ h => h) ?ay5 hSS ?ar5
      case ay5 => first | (refine Or.inr ⟨?_, ?_⟩; rfl; rfl) | (refine Or.inl ⟨by rfl, ?_⟩; intro W9 hSw; (try dsimp only at hSw); go_simp; done) | (refine Or.inl ⟨by rfl, ?_⟩; intro W9 hSw; (try dsimp only at hSw); go_simp; with_reducible rfl)
      simp only [Act.put, List.setIfInBounds_toArray, List.set_cons_zero, List.set_cons_succ]
      refine take_at 6 (some 29) ?av6 rfl rfl (by kernel_rfl) (by kernel_rfl) (by kernel_rfl) (fun _ _ _ h => h) ?ay6 hSS ?ar6
      case ay6 => first | (refine Or.inr ⟨?_, ?_⟩; rfl; rfl) | (refine Or.inl ⟨by rfl, ?_⟩; intro W9 hSw; (try dsimp only at hSw); go_simp; done) | (refine Or.inl ⟨by rfl, ?_⟩; intro W9 hSw; (try dsimp only at hSw); go_simp; with_reducible rfl)
      simp only [Act.put, List.setIfInBounds_toArray, List.set_cons_zero, List.set_cons_succ]
      refine take_at 7 (some 30) ?av7 rfl rfl (by kernel_rfl) (by kernel_rfl) (by kernel_rfl) (fun _ _ _ h => h) ?ay7 hSS ?ar7
      case ay7 => first | (refine Or.inr ⟨?_, ?_⟩; rfl; rfl) | (refine Or.inl ⟨by rfl, ?_⟩; intro W9 hSw; (try dsimp only at hSw); go_simp; done) | (refine Or.inl ⟨by rfl, ?_⟩; intro W9 hSw; (try dsimp only at hSw); go_simp; with_reducible rfl)
      simp only [Act.put, List.setIfInBounds_toArray, List.set_cons_zero, List.set_cons_succ]
      refine take_at 8 (some 31) ?av8 rfl rfl (by kernel_rfl) (by kernel_rfl) (by kernel_rfl) (fun _ _ _ h => h) ?ay8 hSS ?ar8
      case ay8 => first | (refine Or.inr ⟨?_, ?_⟩; rfl; rfl) | (refine Or.inl ⟨by rfl, ?_⟩; intro W9 hSw; (try dsimp only at hSw); go_simp; done) | (refine Or.inl ⟨by rfl, ?_⟩; intro W9 hSw; (try dsimp only at hSw); go_simp; with_reducible rfl)
      simp only [Act.put, List.setIfInBounds_toArray, List.set_cons_zero, List.set_cons_succ]
      refine take_at 9 (some 32) ?av9 rfl rfl (by kernel_rfl) (by kernel_rfl) (by kernel_rfl) (fun _ _ _ h => h) ?ay9 hSS ?ar9
      case ay9 => first | (refine Or.inr ⟨?_, ?_⟩; rfl; rfl) | (refine Or.inl ⟨by rfl, ?_⟩; intro W9 hSw; (try dsimp only at hSw); go_simp; done) | (refine Or.inl ⟨by rfl, ?_⟩; intro W9 hSw; (try dsimp only at hSw); go_simp; with_reducible rfl)
      simp only [Act.put, List.setIfInBounds_toArray, List.set_cons_zero, List.set_cons_succ]
      refine take_at 10 (some 33) ?av10 rfl rfl (by kernel_rfl) (by kernel_rfl) (by kernel_rfl) (fun _ _ _ h => h) ?ay10 hSS ?ar10
      case ay10 => first | (refine Or.inr ⟨?_, ?_⟩; rfl; rfl) | (refine Or.inl ⟨by rfl, ?_⟩; intro W9 hSw; (try dsimp only at hSw); go_simp; done) | (refine Or.inl ⟨by rfl, ?_⟩; intro W9 hSw; (try dsimp only at hSw); go_simp; with_reducible rfl)
      simp only [Act.put, List.setIfInBounds_toArray, List.set_cons_zero, List.set_cons_succ]
      refine take_at 11 (some 34) ?av11 rfl rfl (by kernel_rfl) (by kernel_rfl) (by kernel_rfl) (fun _ _ _ h => h) ?ay11 hSS ?ar11
      case ay11 => first | (refine Or.inr ⟨?_, ?_⟩; rfl; rfl) | (refine Or.inl ⟨by rfl, ?_⟩; intro W9 hSw; (try dsimp only at hSw); go_simp; done) | (refine Or.inl ⟨by rfl, ?_⟩; intro W9 hSw; (try dsimp only at hSw); go_simp; with_reducible rfl)
      simp only [Act.put, List.setIfInBounds_toArray, List.set_cons_zero, List.set_cons_succ]
      refine take_at 12 (some 35) ?av12 rfl rfl (by kernel_rfl) (by kernel_rfl) (by kernel_rfl) (fun _ _ _ h => h) ?ay12 hSS ?ar12
      case ay12 => first | (refine Or.inr ⟨?_, ?_⟩; rfl; rfl) | (refine Or.inl ⟨by rfl, ?_⟩; intro W9 hSw; (try dsimp only at hSw); go_simp; done) | (refine Or.inl ⟨by rfl, ?_⟩; intro W9 hSw; (try dsimp only at hSw); go_simp; with_reducible rfl)
      simp only [Act.put, List.setIfInBounds_toArray, List.set_cons_zero, List.set_cons_succ]
      refine take_at 13 (some 36) ?av13 rfl rfl (by kernel_rfl) (by kernel_rfl) (by kernel_rfl) (fun _ _ _ h => h) ?ay13 hSS ?ar13
      case ay13 => first | (refine Or.inr ⟨?_, ?_⟩; rfl; rfl) | (refine Or.inl ⟨by rfl, ?_⟩; intro W9 hSw; (try dsimp only at hSw); go_simp; done) | (refine Or.inl ⟨by rfl, ?_⟩; intro W9 hSw; (try dsimp only at hSw); go_simp; with_reducible rfl)
      simp only [Act.put, List.setIfInBounds_toArray, List.set_cons_zero, List.set_cons_succ]
      refine take_at 14 (some 37) ?av14 rfl rfl (by kernel_rfl) (by kernel_rfl) (by kernel_rfl) (fun _ _ _ h => h) ?ay14 hSS ?ar14
      case ay14 => first | (refine Or.inr ⟨?_, ?_⟩; rfl; rfl) | (refine Or.inl ⟨by rfl, ?_⟩; intro W9 hSw; (try dsimp only at hSw); go_simp; done) | (refine Or.inl ⟨by rfl, ?_⟩; intro W9 hSw; (try dsimp only at hSw); go_simp; with_reducible rfl)
      simp only [Act.put, List.setIfInBounds_toArray, List.set_cons_zero, List.set_cons_succ]
      refine take_at 15 (some 38) ?av15 rfl rfl (by kernel_rfl) (by kernel_rfl) (by kernel_rfl) (fun _ _ _ h => h) ?ay15 hSS ?ar15
      case ay15 => first | (refine Or.inr ⟨?_, ?_⟩; rfl; rfl) | (refine Or.inl ⟨by rfl, ?_⟩; intro W9 hSw; (try dsimp only at hSw); go_simp; done) | (refine Or.inl ⟨by rfl, ?_⟩; intro W9 hSw; (try dsimp only at hSw); go_simp; with_reducible rfl)
      simp only [Act.put, List.setIfInBounds_toArray, List.set_cons_zero, List.set_cons_succ]
      refine take_at 16 (some 39) ?av16 rfl rfl (by kernel_rfl) (by kernel_rfl) (by kernel_rfl) (fun _ _ _ h => h) ?ay16 hSS ?ar16
      case ay16 => first | (refine Or.inr ⟨?_, ?_⟩; rfl; rfl) | (refine Or.inl ⟨by rfl, ?_⟩; intro W9 hSw; (try dsimp only at hSw); go_simp; done) | (refine Or.inl ⟨by rfl, ?_⟩; intro W9 hSw; (try dsimp only at hSw); go_simp; with_reducible rfl)
      simp only [Act.put, List.setIfInBounds_toArray, List.set_cons_zero, List.set_cons_succ]
      refine take_at 17 (some 40) ?av17 rfl rfl (by kernel_rfl) (by kernel_rfl) (by kernel_rfl) (fun _ _ _ h => h) ?ay17 hSS ?ar17
      case ay17 => first | (refine Or.inr ⟨?_, ?_⟩; rfl; rfl) | (refine Or.inl ⟨by rfl, ?_⟩; intro W9 hSw; (try dsimp only at hSw); go_simp; done) | (refine Or.inl ⟨by rfl, ?_⟩; intro W9 hSw; (try dsimp only at hSw); go_simp; with_reducible rfl)
      simp only [Act.put, List.setIfInBounds_toArray, List.set_cons_zero, List.set_cons_succ]
      refine take_at 18 (some 41) ?av18 rfl rfl (by kernel_rfl) (by kernel_rfl) (by kernel_rfl) (fun _ _ _ h => h) ?ay18 hSS ?ar18
      case ay18 => first | (refine Or.inr ⟨?_, ?_⟩; rfl; rfl) | (refine Or.inl ⟨by rfl, ?_⟩; intro W9 hSw; (try dsimp only at hSw); go_simp; done) | (refine Or.inl ⟨by rfl, ?_⟩; intro W9 hSw; (try dsimp only at hSw); go_simp; with_reducible rfl)
      simp only [Act.put, List.setIfInBounds_toArray, List.set_cons_zero, List.set_cons_succ]
      refine take_at 19 (some 42) ?av19 rfl rfl (by kernel_rfl) (by kernel_rfl) (by kernel_rfl) (fun _ _ _ h => h) ?ay19 hSS ?ar19
      case ay19 => first | (refine Or.inr ⟨?_, ?_⟩; rfl; rfl) | (refine Or.inl ⟨by rfl, ?_⟩; intro W9 hSw; (try dsimp only at hSw); go_simp; done) | (refine Or.inl ⟨by rfl, ?_⟩; intro W9 hSw; (try dsimp only at hSw); go_simp; with_reducible rfl)
      simp only [Act.put, List.setIfInBounds_toArray, List.set_cons_zero, List.set_cons_succ]
      refine take_at 20 (some 43) ?av20 rfl rfl (by kernel_rfl) (by kernel_rfl) (by kernel_rfl) (fun _ _ _ h => h) ?ay20 hSS ?ar20
      case ay20 => first | (refine Or.inr ⟨?_, ?_⟩; rfl; rfl) | (refine Or.inl ⟨by rfl, ?_⟩; intro W9 hSw; (try dsimp only at hSw); go_simp; done) | (refine Or.inl ⟨by rfl, ?_⟩; intro W9 hSw; (try dsimp only at hSw); go_simp; with_reducible rfl)
      simp only [Act.put, List.setIfInBounds_toArray, List.set_cons_zero, List.set_cons_succ]
      refine take_at 21 (some 44) ?av21 rfl rfl (by kernel_rfl) (by kernel_rfl) (by kernel_rfl) (fun _ _ _ h => h) ?ay21 hSS ?ar21
      case ay21 => first | (refine Or.inr ⟨?_, ?_⟩; rfl; rfl) | (refine Or.inl ⟨by rfl, ?_⟩; intro W9 hSw; (try dsimp only at hSw); go_simp; done) | (refine Or.inl ⟨by rfl, ?_⟩; intro W9 hSw; (try dsimp only at hSw); go_simp; with_reducible rfl)
      simp only [Act.put, List.setIfInBounds_toArray, List.set_cons_zero, List.set_cons_succ]
      refine wpAnyH_ready (rs := [22]) (by kernel_rfl) (by simp) ?_
      refine AllReadyH.cons rfl (fun K hK => ?_) AllReadyH.nil
      go_simp
      refine hK.out _ _ HQ.out (fun hS3 => ?_)
      clear hK K
      have HZ2 := Lib.hid (HZd.out.quad (.int .u64 (g : Int)) (.int .u64 (ix : Int)) (.int .u64 (m : Int)) (.slice X k d))
      have HB2 : Hid (Below w.heap.size w ((((wd.setCell ⟨w.heap.size, 0, none⟩ (.int .u64 (g : Int))).setCell ⟨w.heap.size, 1, none⟩ (.int .u64 (ix : Int))).setCell ⟨w.heap.size, 2, none⟩ (.int .u64 (m : Int))).setCell ⟨w.heap.size, 3, none⟩ (.slice X k d))) := Lib.hid ((((HBd.out.setCell (Nat.le_refl _) _).setCell (Nat.le_refl _) _).setCell (Nat.le_refl _) _).setCell (Nat.le_refl _) _)
      generalize ((((wd.setCell ⟨w.heap.size, 0, none⟩ (.int .u64 (g : Int))).setCell ⟨w.heap.size, 1, none⟩ (.int .u64 (ix : Int))).setCell ⟨w.heap.size, 2, none⟩ (.int .u64 (m : Int))).setCell ⟨w.heap.size, 3, none⟩ (.slice X k d)) = wz at hS3 HZ2 HB2 ⊢
      refine take_at 23 (some 7) ?av23 rfl rfl (by kernel_rfl) (by kernel_rfl) (by kernel_rfl) (fun _ _ _ h => h) ?ay23 hS3 ?ar23
      case ay23 => first | (refine Or.inr ⟨?_, ?_⟩; rfl; rfl) | (refine Or.inl ⟨by rfl, ?_⟩; intro W9 hSw; (try dsimp only at hSw); go_simp; done) | (refine Or.inl ⟨by rfl, ?_⟩; intro W9 hSw; (try dsimp only at hSw); go_simp; with_reducible rfl)
      simp only [Act.put, List.setIfInBounds_toArray, List.set_cons_zero, List.set_cons_succ]
      refine wpAnyH_done (by kernel_rfl) ?_ _
      have r0 : wz.cell? ⟨w.heap.size, 0, none⟩ = some (.int .u64 (g : Int)) := HZ2.out.cell 0
      have r1 : wz.cell? ⟨w.heap.size, 1, none⟩ = some (.int .u64 (ix : Int)) := HZ2.out.cell 1
      have r2 : wz.cell? ⟨w.heap.size, 2, none⟩ = some (.int .u64 (m : Int)) := HZ2.out.cell 2
      have r3 : wz.cell? ⟨w.heap.size, 3, none⟩ = some (.slice X k d) := HZ2.out.cell 3
      go_wp2
      refine bodyPost_ret (v := .tuple #[.agg #[.int .u64 (g : Int), .int .u64 (ix : Int), .int .u64 (m : Int), .slice X k d], .bool false]) (by simp [results, Try.results22, go_sem, r0, r1, r2, r3]) rfl ⟨g, ix, m, k, X, d, by rw [HOk.out], HSec.out, HB2.out⟩

  · have HOx := HEx.out hO
    obtain ⟨x1, x2, x3⟩ := HOx
    have HUe : Hid (usB ls i gen = (decide (g = gen) && (decide (ix = i) && decide (ix < m)))) := Lib.hid (by rw [HUs.out, hO, x1, x2, x3]; rfl)
    clear HUs HEx x1 x2 x3
    by_cases hg : g = gen
    · by_cases hx : ix = i
      · have tg : ((g : Int) == (gen : Int)) = true := beq_iff_eq.2 (by omega)
        have ti : ((ix : Int) == (i : Int)) = true := beq_iff_eq.2 (by omega)
        have HOk : Hid (usB ls i gen = decide (ix < m)) := Lib.hid (by rw [HUe.out, decide_eq_true hg, decide_eq_true hx]; simp)
        generalize htm : decide (ix < m) = bm at HOk
        clear hg hx
        · go_wp2_with fail
          rw [← Hw2.out, ← Hb8.out]
          refine wp_region_held_drew (S := fun W => W.cell? ⟨b8, 0, none⟩ = some (.int .u64 (g : Int)) ∧ W.cell? ⟨b8, 1, none⟩ = some (.int .u64 (ix : Int)) ∧ W.cell? ⟨b8, 2, none⟩ = some (.int .u64 (m : Int)) ∧ W.cell? ⟨b8, 3, none⟩ = some (.slice X k d)) (by kernel_rfl) HSc.out (fun hSS => ?_)
          generalize w2.drew = wd at hSS HZd HBd HSc HQ z0 z1 z2 z3 y0 y1 y2 y3 ⊢
          refine take_at 0 (some 23) ?bv0 rfl rfl (by kernel_rfl) (by kernel_rfl) (by kernel_rfl) (fun _ _ _ h => h) ?by0 hSS ?br0
          case by0 => first | (refine Or.inr ⟨?_, ?_⟩; rfl; rfl) | (refine Or.inl ⟨by rfl, ?_⟩; intro W9 hSw; (try dsimp only at hSw); go_simp; done) | (refine Or.inl ⟨by rfl, ?_⟩; intro W9 hSw; (try dsimp only at hSw); go_simp; with_reducible rfl)
          simp only [Act.put, List.setIfInBounds_toArray, List.set_cons_zero, List.set_cons_succ]
          refine take_at 1 (some 24) ?bv1 rfl rfl (by kernel_rfl) (by kernel_rfl) (by kernel_rfl) (fun _ _ _ h => h) ?by1 hSS ?br1
          case by1 => first | (refine Or.inr ⟨?_, ?_⟩; rfl; rfl) | (refine Or.inl ⟨by rfl, ?_⟩; intro W9 hSw; (try dsimp only at hSw); go_simp; done) | (refine Or.inl ⟨by rfl, ?_⟩; intro W9 hSw; (try dsimp only at hSw); go_simp; with_reducible rfl)
          simp only [Act.put, List.setIfInBounds_toArray, List.set_cons_zero, List.set_cons_succ]
          refine take_at 2 (some 25) ?bv2 rfl rfl (by kernel_rfl) (by kernel_rfl) (by kernel_rfl) (fun _ _ _ h => h) ?by2 hSS ?br2
          case by2 => first | (refine Or.inr ⟨?_, ?_⟩; rfl; rfl) | (refine Or.inl ⟨by rfl, ?_⟩; intro W9 hSw; (try dsimp only at hSw); go_simp; done) | (refine Or.inl ⟨by rfl, ?_⟩; intro W9 hSw; (try dsimp only at hSw); go_simp; with_reducible rfl)
          simp only [Act.put, List.setIfInBounds_toArray, List.set_cons_zero, List.set_cons_succ]
          refine take_at 3 (some 26) ?bv3 rfl rfl (by kernel_rfl) (by kernel_rfl) (by kernel_rfl) (fun _ _ _ h => h) ?by3 hSS ?br3
          case by3 => first | (refine Or.inr ⟨?_, ?_⟩; rfl; rfl) | (refine Or.inl ⟨by rfl, ?_⟩; intro W9 hSw; (try dsimp only at hSw); go_simp; done) | (refine Or.inl ⟨by rfl, ?_⟩; intro W9 hSw; (try dsimp only at hSw); go_simp; with_reducible rfl)
          simp only [Act.put, List.setIfInBounds_toArray, List.set_cons_zero, List.set_cons_succ]
          refine take_at 4 (some 27) ?bv4 rfl rfl (by kernel_rfl) (by kernel_rfl) (by kernel_rfl) (fun _ _ _ h => h) ?by4 hSS ?br4
          case by4 => first | (refine Or.inr ⟨?_, ?_⟩; rfl; rfl) | (refine Or.inl ⟨by rfl, ?_⟩; intro W9 hSw; (try dsimp only at hSw); go_simp; done) | (refine Or.inl ⟨by rfl, ?_⟩; intro W9 hSw; (try dsimp only at hSw); go_simp; with_reducible rfl)
          simp only [Act.put, List.setIfInBounds_toArray, List.set_cons_zero, List.set_cons_succ]
          refine take_at 5 (some 28) ?bv5 rfl rfl (by kernel_rfl) (by kernel_rfl) (by kernel_rfl) (fun _ _ _ h => h) ?by5 hSS ?br5
          case by5 => first | (refine Or.inr ⟨?_, ?_⟩; rfl; rfl) | (refine Or.inl ⟨by rfl, ?_⟩; intro W9 hSw; (try dsimp only at hSw); go_simp; done) | (refine Or.inl ⟨by rfl, ?_⟩; intro W9 hSw; (try dsimp only at hSw); go_simp; with_reducible rfl)
          simp only [Act.put, List.setIfInBounds_toArray, List.set_cons_zero, List.set_cons_succ]
          refine take_at 6 (some 29) ?bv6 rfl rfl (by kernel_rfl) (by kernel_rfl) (by kernel_rfl) (fun _ _ _ h => h) ?by6 hSS ?br6
          case by6 => first | (refine Or.inr ⟨?_, ?_⟩; rfl; rfl) | (refine Or.inl ⟨by rfl, ?_⟩; intro W9 hSw; (try dsimp only at hSw); go_simp; done) | (refine Or.inl ⟨by rfl, ?_⟩; intro W9 hSw; (try dsimp only at hSw); go_simp; with_reducible rfl)
          simp only [Act.put, List.setIfInBounds_toArray, List.set_cons_zero, List.set_cons_succ]
          refine take_at 7 (some 30) ?bv7 rfl rfl (by kernel_rfl) (by kernel_rfl) (by kernel_rfl) (fun _ _ _ h => h) ?by7 hSS ?br7
          case by7 => first | (refine Or.inr ⟨?_, ?_⟩; rfl; rfl) | (refine Or.inl ⟨by rfl, ?_⟩; intro W9 hSw; (try dsimp only at hSw); go_simp; done) | (refine Or.inl ⟨by rfl, ?_⟩; intro W9 hSw; (try dsimp only at hSw); go_simp; with_reducible rfl)
          simp only [Act.put, List.setIfInBounds_toArray, List.set_cons_zero, List.set_cons_succ]
          refine take_at 8 (some 31) ?bv8 rfl rfl (by kernel_rfl) (by kernel_rfl) (by kernel_rfl) (fun _ _ _ h => h) ?by8 hSS ?br8
          case by8 => first | (refine Or.inr ⟨?_, ?_⟩; rfl; rfl) | (refine Or.inl ⟨by rfl, ?_⟩; intro W9 hSw; (try dsimp only at hSw); go_simp; done) | (refine Or.inl ⟨by rfl, ?_⟩; intro W9 hSw; (try dsimp only at hSw); go_simp; with_reducible rfl)
          simp only [Act.put, List.setIfInBounds_toArray, List.set_cons_zero, List.set_cons_succ]
          refine take_at 9 (some 32) ?bv9 rfl rfl (by kernel_rfl) (by kernel_rfl) (by kernel_rfl) (fun _ _ _ h => h) ?by9 hSS ?br9
          case by9 => first | (refine Or.inr ⟨?_, ?_⟩; rfl; rfl) | (refine Or.inl ⟨by rfl, ?_⟩; intro W9 hSw; (try dsimp only at hSw); go_simp; done) | (refine Or.inl ⟨by rfl, ?_⟩; intro W9 hSw; (try dsimp only at hSw); go_simp; with_reducible rfl)
          simp only [Act.put, List.setIfInBounds_toArray, List.set_cons_zero, List.set_cons_succ]
          refine take_at 10 (some 33) ?bv10 rfl rfl (by kernel_rfl) (by kernel_rfl) (by kernel_rfl) (fun _ _ _ h => h) ?by10 hSS ?br10
          case by10 => first | (refine Or.inr ⟨?_, ?_⟩; rfl; rfl) | (refine Or.inl ⟨by rfl, ?_⟩; intro W9 hSw; (try dsimp only at hSw); go_simp; done) | (refine Or.inl ⟨by rfl, ?_⟩; intro W9 hSw; (try dsimp only at hSw); go_simp; with_reducible rfl)
          simp only [Act.put, List.setIfInBounds_toArray, List.set_cons_zero, List.set_cons_succ]
          refine take_at 11 (some 34) ?bv11 rfl rfl (by kernel_rfl) (by kernel_rfl) (by kernel_rfl) (fun _ _ _ h => h) ?by11 hSS ?br11
          case by11 => first | (refine Or.inr ⟨?_, ?_⟩; rfl; rfl) | (refine Or.inl ⟨by rfl, ?_⟩; intro W9 hSw; (try dsimp only at hSw); go_simp; done) | (refine Or.inl ⟨by rfl, ?_⟩; intro W9 hSw; (try dsimp only at hSw); go_simp; with_reducible rfl)
          simp only [Act.put, List.setIfInBounds_toArray, List.set_cons_zero, List.set_cons_succ]
          refine take_at 12 (some 35) ?bv12 rfl rfl (by kernel_rfl) (by kernel_rfl) (by kernel_rfl) (fun _ _ _ h => h) ?by12 hSS ?br12
          case by12 => first | (refine Or.inr ⟨?_, ?_⟩; rfl; rfl) | (refine Or.inl ⟨by rfl, ?_⟩; intro W9 hSw; (try dsimp only at hSw); go_simp; done) | (refine Or.inl ⟨by rfl, ?_⟩; intro W9 hSw; (try dsimp only at hSw); go_simp; with_reducible rfl)
          simp only [Act.put, List.setIfInBounds_toArray, List.set_cons_zero, List.set_cons_succ]
          refine take_at 13 (some 36) ?bv13 rfl rfl (by kernel_rfl) (by kernel_rfl) (by kernel_rfl) (fun _ _ _ h => h) ?by13 hSS ?br13
          case by13 => first | (refine Or.inr ⟨?_, ?_⟩; rfl; rfl) | (refine Or.inl ⟨by rfl, ?_⟩; intro W9 hSw; (try dsimp only at hSw); go_simp; done) | (refine Or.inl ⟨by rfl, ?_⟩; intro W9 hSw; (try dsimp only at hSw); go_simp; with_reducible rfl)
          simp only [Act.put, List.setIfInBounds_toArray, List.set_cons_zero, List.set_cons_succ]
          refine take_at 14 (some 37) ?bv14 rfl rfl (by kernel_rfl) (by kernel_rfl) (by kernel_rfl) (fun _ _ _ h => h) ?by14 hSS ?br14
          case by14 => first | (refine Or.inr ⟨?_, ?_⟩; rfl; rfl) | (refine Or.inl ⟨by rfl, ?_⟩; intro W9 hSw; (try dsimp only at hSw); go_simp; done) | (refine Or.inl ⟨by rfl, ?_⟩; intro W9 hSw; (try dsimp only at hSw); go_simp; with_reducible rfl)
          simp only [Act.put, List.setIfInBounds_toArray, List.set_cons_zero, List.set_cons_succ]
          refine take_at 15 (some 38) ?bv15 rfl rfl (by kernel_rfl) (by kernel_rfl) (by kernel_rfl) (fun _ _ _ h => h) ?by15 hSS ?br15
          case by15 => first | (refine Or.inr ⟨?_, ?_⟩; rfl; rfl) | (refine Or.inl ⟨by rfl, ?_⟩; intro W9 hSw; (try dsimp only at hSw); go_simp; done) | (refine Or.inl ⟨by rfl, ?_⟩; intro W9 hSw; (try dsimp only at hSw); go_simp; with_reducible rfl)
          simp only [Act.put, List.setIfInBounds_toArray, List.set_cons_zero, List.set_cons_succ]
          refine take_at 16 (some 39) ?bv16 rfl rfl (by kernel_rfl) (by kernel_rfl) (by kernel_rfl) (fun _ _ _ h => h) ?by16 hSS ?br16
          case by16 => first | (refine Or.inr ⟨?_, ?_⟩; rfl; rfl) | (refine Or.inl ⟨by rfl, ?_⟩; intro W9 hSw; (try dsimp only at hSw); go_simp; done) | (refine Or.inl ⟨by rfl, ?_⟩; intro W9 hSw; (try dsimp only at hSw); go_simp; with_reducible rfl)
          simp only [Act.put, List.setIfInBounds_toArray, List.set_cons_zero, List.set_cons_succ]
          refine take_at 17 (some 40) ?bv17 rfl rfl (by kernel_rfl) (by kernel_rfl) (by kernel_rfl) (fun _ _ _ h => h) ?by17 hSS ?br17
          case by17 => first | (refine Or.inr ⟨?_, ?_⟩; rfl; rfl) | (refine Or.inl ⟨by rfl, ?_⟩; intro W9 hSw; (try dsimp only at hSw); go_simp; done) | (refine Or.inl ⟨by rfl, ?_⟩; intro W9 hSw; (try dsimp only at hSw); go_simp; with_reducible rfl)
          simp only [Act.put, List.setIfInBounds_toArray, List.set_cons_zero, List.set_cons_succ]
          refine take_at 18 (some 41) ?bv18 rfl rfl (by kernel_rfl) (by kernel_rfl) (by kernel_rfl) (fun _ _ _ h => h) ?by18 hSS ?br18
          case by18 => first | (refine Or.inr ⟨?_, ?_⟩; rfl; rfl) | (refine Or.inl ⟨by rfl, ?_⟩; intro W9 hSw; (try dsimp only at hSw); go_simp; done) | (refine Or.inl ⟨by rfl, ?_⟩; intro W9 hSw; (try dsimp only at hSw); go_simp; with_reducible rfl)
          simp only [Act.put, List.setIfInBounds_toArray, List.set_cons_zero, List.set_cons_succ]
          refine take_at 19 (some 42) ?bv19 rfl rfl (by kernel_rfl) (by kernel_rfl) (by kernel_rfl) (fun _ _ _ h => h) ?by19 hSS ?br19
          case by19 => first | (refine Or.inr ⟨?_, ?_⟩; rfl; rfl) | (refine Or.inl ⟨by rfl, ?_⟩; intro W9 hSw; (try dsimp only at hSw); go_simp; done) | (refine Or.inl ⟨by rfl, ?_⟩; intro W9 hSw; (try dsimp only at hSw); go_simp; with_reducible rfl)
          simp only [Act.put, List.setIfInBounds_toArray, List.set_cons_zero, List.set_cons_succ]
          refine take_at 20 (some 43) ?bv20 rfl rfl (by kernel_rfl) (by kernel_rfl) (by kernel_rfl) (fun _ _ _ h => h) ?by20 hSS ?br20
          case by20 => first | (refine Or.inr ⟨?_, ?_⟩; rfl; rfl) | (refine Or.inl ⟨by rfl, ?_⟩; intro W9 hSw; (try dsimp only at hSw); go_simp; done) | (refine Or.inl ⟨by rfl, ?_⟩; intro W9 hSw; (try dsimp only at hSw); go_simp; with_reducible rfl)
          simp only [Act.put, List.setIfInBounds_toArray, List.set_cons_zero, List.set_cons_succ]
          refine take_at 21 (some 44) ?bv21 rfl rfl (by kernel_rfl) (by kernel_rfl) (by kernel_rfl) (fun _ _ _ h => h) ?by21 hSS ?br21
          case by21 => first | (refine Or.inr ⟨?_, ?_⟩; rfl; rfl) | (refine Or.inl ⟨by rfl, ?_⟩; intro W9 hSw; (try dsimp only at hSw); go_simp; done) | (refine Or.inl ⟨by rfl, ?_⟩; intro W9 hSw; (try dsimp only at hSw); go_simp; with_reducible rfl)
          simp only [Act.put, List.setIfInBounds_toArray, List.set_cons_zero, List.set_cons_succ]
          refine wpAnyH_ready (rs := [22]) (by kernel_rfl) (by simp) ?_
          refine AllReadyH.cons rfl (fun K hK => ?_) AllReadyH.nil
          go_simp
          refine hK.out _ _ HQ.out (fun hS3 => ?_)
          clear hK K
          have HZ2 := Lib.hid (HZd.out.quad (.int .u64 (g : Int)) (.int .u64 (ix : Int)) (.int .u64 (m : Int)) (.slice X k d))
          have HB2 : Hid (Below w.heap.size w ((((wd.setCell ⟨w.heap.size, 0, none⟩ (.int .u64 (g : Int))).setCell ⟨w.heap.size, 1, none⟩ (.int .u64 (ix : Int))).setCell ⟨w.heap.size, 2, none⟩ (.int .u64 (m : Int))).setCell ⟨w.heap.size, 3, none⟩ (.slice X k d))) := Lib.hid ((((HBd.out.setCell (Nat.le_refl _) _).setCell (Nat.le_refl _) _).setCell (Nat.le_refl _) _).setCell (Nat.le_refl _) _)
          generalize ((((wd.setCell ⟨w.heap.size, 0, none⟩ (.int .u64 (g : Int))).setCell ⟨w.heap.size, 1, none⟩ (.int .u64 (ix : Int))).setCell ⟨w.heap.size, 2, none⟩ (.int .u64 (m : Int))).setCell ⟨w.heap.size, 3, none⟩ (.slice X k d)) = wz at hS3 HZ2 HB2 ⊢
          refine take_at 23 (some 7) ?bv23 rfl rfl (by kernel_rfl) (by kernel_rfl) (by kernel_rfl) (fun _ _ _ h => h) ?by23 hS3 ?br23
          case by23 => first | (refine Or.inr ⟨?_, ?_⟩; rfl; rfl) | (refine Or.inl ⟨by rfl, ?_⟩; intro W9 hSw; (try dsimp only at hSw); go_simp; done) | (refine Or.inl ⟨by rfl, ?_⟩; intro W9 hSw; (try dsimp only at hSw); go_simp; with_reducible rfl)
          simp only [Act.put, List.setIfInBounds_toArray, List.set_cons_zero, List.set_cons_succ]
          refine wpAnyH_done (by kernel_rfl) ?_ _
          have r0 : wz.cell? ⟨w.heap.size, 0, none⟩ = some (.int .u64 (g : Int)) := HZ2.out.cell 0
          have r1 : wz.cell? ⟨w.heap.size, 1, none⟩ = some (.int .u64 (ix : Int)) := HZ2.out.cell 1
          have r2 : wz.cell? ⟨w.heap.size, 2, none⟩ = some (.int .u64 (m : Int)) := HZ2.out.cell 2
          have r3 : wz.cell? ⟨w.heap.size, 3, none⟩ = some (.slice X k d) := HZ2.out.cell 3
          go_wp2
          refine bodyPost_ret (v := .tuple #[.agg #[.int .u64 (g : Int), .int .u64 (ix : Int), .int .u64 (m : Int), .slice X k d], .bool bm]) (by simp [results, Try.results22, go_sem, r0, r1, r2, r3]) rfl ⟨g, ix, m, k, X, d, by rw [HOk.out], HSec.out, HB2.out⟩

      · have tg : ((g : Int) == (gen : Int)) = true := beq_iff_eq.2 (by omega)
        have ti : ((ix : Int) == (i : Int)) = false := beq_eq_false_iff_ne.2 (by omega)
        have HOk : Hid (usB ls i gen = false) := Lib.hid (by rw [HUe.out, decide_eq_false hx]; simp)
        clear hg hx
        · go_wp2_with fail
          rw [← Hw2.out, ← Hb8.out]
          refine wp_region_held_drew (S := fun W => W.cell? ⟨b8, 0, none⟩ = some (.int .u64 (g : Int)) ∧ W.cell? ⟨b8, 1, none⟩ = some (.int .u64 (ix : Int)) ∧ W.cell? ⟨b8, 2, none⟩ = some (.int .u64 (m : Int)) ∧ W.cell? ⟨b8, 3, none⟩ = some (.slice X k d)) (by kernel_rfl) HSc.out (fun hSS => ?_)
          generalize w2.drew = wd at hSS HZd HBd HSc HQ z0 z1 z2 z3 y0 y1 y2 y3 ⊢
          refine take_at 0 (some 23) ?cv0 rfl rfl (by kernel_rfl) (by kernel_rfl) (by kernel_rfl) (fun _ _ _ h => h) ?cy0 hSS ?cr0
          case cy0 => first | (refine Or.inr ⟨?_, ?_⟩; rfl; rfl) | (refine Or.inl ⟨by rfl, ?_⟩; intro W9 hSw; (try dsimp only at hSw); go_simp; done) | (refine Or.inl ⟨by rfl, ?_⟩; intro W9 hSw; (try dsimp only at hSw); go_simp; with_reducible rfl)
          simp only [Act.put, List.setIfInBounds_toArray, List.set_cons_zero, List.set_cons_succ]
          refine take_at 1 (some 24) ?cv1 rfl rfl (by kernel_rfl) (by kernel_rfl) (by kernel_rfl) (fun _ _ _ h => h) ?cy1 hSS ?cr1
          case cy1 => first | (refine Or.inr ⟨?_, ?_⟩; rfl; rfl) | (refine Or.inl ⟨by rfl, ?_⟩; intro W9 hSw; (try dsimp only at hSw); go_simp; done) | (refine Or.inl ⟨by rfl, ?_⟩; intro W9 hSw; (try dsimp only at hSw); go_simp; with_reducible rfl)
          simp only [Act.put, List.setIfInBounds_toArray, List.set_cons_zero, List.set_cons_succ]
          refine take_at 2 (some 25) ?cv2 rfl rfl (by kernel_rfl) (by kernel_rfl) (by kernel_rfl) (fun _ _ _ h => h) ?cy2 hSS ?cr2
          case cy2 => first | (refine Or.inr ⟨?_, ?_⟩; rfl; rfl) | (refine Or.inl ⟨by rfl, ?_⟩; intro W9 hSw; (try dsimp only at hSw); go_simp; done) | (refine Or.inl ⟨by rfl, ?_⟩; intro W9 hSw; (try dsimp only at hSw); go_simp; with_reducible rfl)
          simp only [Act.put, List.setIfInBounds_toArray, List.set_cons_zero, List.set_cons_succ]
          refine take_at 3 (some 26) ?cv3 rfl rfl (by kernel_rfl) (by kernel_rfl) (by kernel_rfl) (fun _ _ _ h => h) ?cy3 hSS ?cr3
          case cy3 => first | (refine Or.inr ⟨?_, ?_⟩; rfl; rfl) | (refine Or.inl ⟨by rfl, ?_⟩; intro W9 hSw; (try dsimp only at hSw); go_simp; done) | (refine Or.inl ⟨by rfl, ?_⟩; intro W9 hSw; (try dsimp only at hSw); go_simp; with_reducible rfl)
          simp only [Act.put, List.setIfInBounds_toArray, List.set_cons_zero, List.set_cons_succ]
          refine take_at 4 (some 27) ?cv4 rfl rfl (by kernel_rfl) (by kernel_rfl) (by kernel_rfl) (fun _ _ _ h => h) ?cy4 hSS ?cr4
          case cy4 => first | (refine Or.inr ⟨?_, ?_⟩; rfl; rfl) | (refine Or.inl ⟨by rfl, ?_⟩; intro W9 hSw; (try dsimp only at hSw); go_simp; done) | (refine Or.inl ⟨by rfl, ?_⟩; intro W9 hSw; (try dsimp only at hSw); go_simp; with_reducible rfl)
          simp only [Act.put, List.setIfInBounds_toArray, List.set_cons_zero, List.set_cons_succ]
          refine take_at 5 (some 28) ?cv5 rfl rfl (by kernel_rfl) (by kernel_rfl) (by kernel_rfl) (fun _ _ _ h => h) ?cy5 hSS ?cr5
          case cy5 => first | (refine Or.inr ⟨?_, ?_⟩; rfl; rfl) | (refine Or.inl ⟨by rfl, ?_⟩; intro W9 hSw; (try dsimp only at hSw); go_simp; done) | (refine Or.inl ⟨by rfl, ?_⟩; intro W9 hSw; (try dsimp only at hSw); go_simp; with_reducible rfl)
          simp only [Act.put, List.setIfInBounds_toArray, List.set_cons_zero, List.set_cons_succ]
          refine take_at 6 (some 29) ?cv6 rfl rfl (by kernel_rfl) (by kernel_rfl) (by kernel_rfl) (fun _ _ _ h => h) ?cy6 hSS ?cr6
          case cy6 => first | (refine Or.inr ⟨?_, ?_⟩; rfl; rfl) | (refine Or.inl ⟨by rfl, ?_⟩; intro W9 hSw; (try dsimp only at hSw); go_simp; done) | (refine Or.inl ⟨by rfl, ?_⟩; intro W9 hSw; (try dsimp only at hSw); go_simp; with_reducible rfl)
          simp only [Act.put, List.setIfInBounds_toArray, List.set_cons_zero, List.set_cons_succ]
          refine take_at 7 (some 30) ?cv7 rfl rfl (by kernel_rfl) (by kernel_rfl) (by kernel_rfl) (fun _ _ _ h => h) ?cy7 hSS ?cr7
          case cy7 => first | (refine Or.inr ⟨?_, ?_⟩; rfl; rfl) | (refine Or.inl ⟨by rfl, ?_⟩; intro W9 hSw; (try dsimp only at hSw); go_simp; done) | (refine Or.inl ⟨by rfl, ?_⟩; intro W9 hSw; (try dsimp only at hSw); go_simp; with_reducible rfl)
          simp only [Act.put, List.setIfInBounds_toArray, List.set_cons_zero, List.set_cons_succ]
          refine take_at 8 (some 31) ?cv8 rfl rfl (by kernel_rfl) (by kernel_rfl) (by kernel_rfl) (fun _ _ _ h => h) ?cy8 hSS ?cr8
          case cy8 => first | (refine Or.inr ⟨?_, ?_⟩; rfl; rfl) | (refine Or.inl ⟨by rfl, ?_⟩; intro W9 hSw; (try dsimp only at hSw); go_simp; done) | (refine Or.inl ⟨by rfl, ?_⟩; intro W9 hSw; (try dsimp only at hSw); go_simp; with_reducible rfl)
          simp only [Act.put, List.setIfInBounds_toArray, List.set_cons_zero, List.set_cons_succ]
          refine take_at 9 (some 32) ?cv9 rfl rfl (by kernel_rfl) (by kernel_rfl) (by kernel_rfl) (fun _ _ _ h => h) ?cy9 hSS ?cr9
          case cy9 => first | (refine Or.inr ⟨?_, ?_⟩; rfl; rfl) | (refine Or.inl ⟨by rfl, ?_⟩; intro W9 hSw; (try dsimp only at hSw); go_simp; done) | (refine Or.inl ⟨by rfl, ?_⟩; intro W9 hSw; (try dsimp only at hSw); go_simp; with_reducible rfl)
          simp only [Act.put, List.setIfInBounds_toArray, List.set_cons_zero, List.set_cons_succ]
          refine take_at 10 (some 33) ?cv10 rfl rfl (by kernel_rfl) (by kernel_rfl) (by kernel_rfl) (fun _ _ _ h => h) ?cy10 hSS ?cr10
          case cy10 => first | (refine Or.inr ⟨?_, ?_⟩; rfl; rfl) | (refine Or.inl ⟨by rfl, ?_⟩; intro W9 hSw; (try dsimp only at hSw); go_simp; done) | (refine Or.inl ⟨by rfl, ?_⟩; intro W9 hSw; (try dsimp only at hSw); go_simp; with_reducible rfl)
          simp only [Act.put, List.setIfInBounds_toArray, List.set_cons_zero, List.set_cons_succ]
          refine take_at 11 (some 34) ?cv11 rfl rfl (by kernel_rfl) (by kernel_rfl) (by kernel_rfl) (fun _ _ _ h => h) ?cy11 hSS ?cr11
          case cy11 => first | (refine Or.inr ⟨?_, ?_⟩; rfl; rfl) | (refine Or.inl ⟨by rfl, ?_⟩; intro W9 hSw; (try dsimp only at hSw); go_simp; done) | (refine Or.inl ⟨by rfl, ?_⟩; intro W9 hSw; (try dsimp only at hSw); go_simp; with_reducible rfl)
          simp only [Act.put, List.setIfInBounds_toArray, List.set_cons_zero, List.set_cons_succ]
          refine take_at 12 (some 35) ?cv12 rfl rfl (by kernel_rfl) (by kernel_rfl) (by kernel_rfl) (fun _ _ _ h => h) ?cy12 hSS ?cr12
          case cy12 => first | (refine Or.inr ⟨?_, ?_⟩; rfl; rfl) | (refine Or.inl ⟨by rfl, ?_⟩; intro W9 hSw; (try dsimp only at hSw); go_simp; done) | (refine Or.inl ⟨by rfl, ?_⟩; intro W9 hSw; (try dsimp only at hSw); go_simp; with_reducible rfl)
          simp only [Act.put, List.setIfInBounds_toArray, List.set_cons_zero, List.set_cons_succ]
          refine take_at 13 (some 36) ?cv13 rfl rfl (by kernel_rfl) (by kernel_rfl) (by kernel_rfl) (fun _ _ _ h => h) ?cy13 hSS ?cr13
          case cy13 => first | (refine Or.inr ⟨?_, ?_⟩; rfl; rfl) | (refine Or.inl ⟨by rfl, ?_⟩; intro W9 hSw; (try dsimp only at hSw); go_simp; done) | (refine Or.inl ⟨by rfl, ?_⟩; intro W9 hSw; (try dsimp only at hSw); go_simp; with_reducible rfl)
          simp only [Act.put, List.setIfInBounds_toArray, List.set_cons_zero, List.set_cons_succ]
          refine take_at 14 (some 37) ?cv14 rfl rfl (by kernel_rfl) (by kernel_rfl) (by kernel_rfl) (fun _ _ _ h => h) ?cy14 hSS ?cr14
          case cy14 => first | (refine Or.inr ⟨?_, ?_⟩; rfl; rfl) | (refine Or.inl ⟨by rfl, ?_⟩; intro W9 hSw; (try dsimp only at hSw); go_simp; done) | (refine Or.inl ⟨by rfl, ?_⟩; intro W9 hSw; (try dsimp only at hSw); go_simp; with_reducible rfl)
          simp only [Act.put, List.setIfInBounds_toArray, List.set_cons_zero, List.set_cons_succ]
          refine take_at 15 (some 38) ?cv15 rfl rfl (by kernel_rfl) (by kernel_rfl) (by kernel_rfl) (fun _ _ _ h => h) ?cy15 hSS ?cr15
          case cy15 => first | (refine Or.inr ⟨?_, ?_⟩; rfl; rfl) | (refine Or.inl ⟨by rfl, ?_⟩; intro W9 hSw; (try dsimp only at hSw); go_simp; done) | (refine Or.inl ⟨by rfl, ?_⟩; intro W9 hSw; (try dsimp only at hSw); go_simp; with_reducible rfl)
          simp only [Act.put, List.setIfInBounds_toArray, List.set_cons_zero, List.set_cons_succ]
          refine take_at 16 (some 39) ?cv16 rfl rfl (by kernel_rfl) (by kernel_rfl) (by kernel_rfl) (fun _ _ _ h => h) ?cy16 hSS ?cr16
          case cy16 => first | (refine Or.inr ⟨?_, ?_⟩; rfl; rfl) | (refine Or.inl ⟨by rfl, ?_⟩; intro W9 hSw; (try dsimp only at hSw); go_simp; done) | (refine Or.inl ⟨by rfl, ?_⟩; intro W9 hSw; (try dsimp only at hSw); go_simp; with_reducible rfl)
          simp only [Act.put, List.setIfInBounds_toArray, List.set_cons_zero, List.set_cons_succ]
          refine take_at 17 (some 40) ?cv17 rfl rfl (by kernel_rfl) (by kernel_rfl) (by kernel_rfl) (fun _ _ _ h => h) ?cy17 hSS ?cr17
          case cy17 => first | (refine Or.inr ⟨?_, ?_⟩; rfl; rfl) | (refine Or.inl ⟨by rfl, ?_⟩; intro W9 hSw; (try dsimp only at hSw); go_simp; done) | (refine Or.inl ⟨by rfl, ?_⟩; intro W9 hSw; (try dsimp only at hSw); go_simp; with_reducible rfl)
          simp only [Act.put, List.setIfInBounds_toArray, List.set_cons_zero, List.set_cons_succ]
          refine take_at 18 (some 41) ?cv18 rfl rfl (by kernel_rfl) (by kernel_rfl) (by kernel_rfl) (fun _ _ _ h => h) ?cy18 hSS ?cr18
          case cy18 => first | (refine Or.inr ⟨?_, ?_⟩; rfl; rfl) | (refine Or.inl ⟨by rfl, ?_⟩; intro W9 hSw; (try dsimp only at hSw); go_simp; done) | (refine Or.inl ⟨by rfl, ?_⟩; intro W9 hSw; (try dsimp only at hSw); go_simp; with_reducible rfl)
          simp only [Act.put, List.setIfInBounds_toArray, List.set_cons_zero, List.set_cons_succ]
          refine take_at 19 (some 42) ?cv19 rfl rfl (by kernel_rfl) (by kernel_rfl) (by kernel_rfl) (fun _ _ _ h => h) ?cy19 hSS ?cr19
          case cy19 => first | (refine Or.inr ⟨?_, ?_⟩; rfl; rfl) | (refine Or.inl ⟨by rfl, ?_⟩; intro W9 hSw; (try dsimp only at hSw); go_simp; done) | (refine Or.inl ⟨by rfl, ?_⟩; intro W9 hSw; (try dsimp only at hSw); go_simp; with_reducible rfl)
          simp only [Act.put, List.setIfInBounds_toArray, List.set_cons_zero, List.set_cons_succ]
          refine take_at 20 (some 43) ?cv20 rfl rfl (by kernel_rfl) (by kernel_rfl) (by kernel_rfl) (fun _ _ _ h => h) ?cy20 hSS ?cr20
          case cy20 => first | (refine Or.inr ⟨?_, ?_⟩; rfl; rfl) | (refine Or.inl ⟨by rfl, ?_⟩; intro W9 hSw; (try dsimp only at hSw); go_simp; done) | (refine Or.inl ⟨by rfl, ?_⟩; intro W9 hSw; (try dsimp only at hSw); go_simp; with_reducible rfl)
          simp only [Act.put, List.setIfInBounds_toArray, List.set_cons_zero, List.set_cons_succ]
          refine take_at 21 (some 44) ?cv21 rfl rfl (by kernel_rfl) (by kernel_rfl) (by kernel_rfl) (fun _ _ _ h => h) ?cy21 hSS ?cr21
          case cy21 => first | (refine Or.inr ⟨?_, ?_⟩; rfl; rfl) | (refine Or.inl ⟨by rfl, ?_⟩; intro W9 hSw; (try dsimp only at hSw); go_simp; done) | (refine Or.inl ⟨by rfl, ?_⟩; intro W9 hSw; (try dsimp only at hSw); go_simp; with_reducible rfl)
          simp only [Act.put, List.setIfInBounds_toArray, List.set_cons_zero, List.set_cons_succ]
          refine wpAnyH_ready (rs := [22]) (by kernel_rfl) (by simp) ?_
          refine AllReadyH.cons rfl (fun K hK => ?_) AllReadyH.nil
          go_simp
          refine hK.out _ _ HQ.out (fun hS3 => ?_)
          clear hK K
          have HZ2 := Lib.hid (HZd.out.quad (.int .u64 (g : Int)) (.int .u64 (ix : Int)) (.int .u64 (m : Int)) (.slice X k d))
          have HB2 : Hid (Below w.heap.size w ((((wd.setCell ⟨w.heap.size, 0, none⟩ (.int .u64 (g : Int))).setCell ⟨w.heap.size, 1, none⟩ (.int .u64 (ix : Int))).setCell ⟨w.heap.size, 2, none⟩ (.int .u64 (m : Int))).setCell ⟨w.heap.size, 3, none⟩ (.slice X k d))) := Lib.hid ((((HBd.out.setCell (Nat.le_refl _) _).setCell (Nat.le_refl _) _).setCell (Nat.le_refl _) _).setCell (Nat.le_refl _) _)
          generalize ((((wd.setCell ⟨w.heap.size, 0, none⟩ (.int .u64 (g : Int))).setCell ⟨w.heap.size, 1, none⟩ (.int .u64 (ix : Int))).setCell ⟨w.heap.size, 2, none⟩ (.int .u64 (m : Int))).setCell ⟨w.heap.size, 3, none⟩ (.slice X k d)) = wz at hS3 HZ2 HB2 ⊢
          refine take_at 23 (some 7) ?cv23 rfl rfl (by kernel_rfl) (by kernel_rfl) (by kernel_rfl) (fun _ _ _ h => h) ?cy23 hS3 ?cr23
          case cy23 => first | (refine Or.inr ⟨?_, ?_⟩; rfl; rfl) | (refine Or.inl ⟨by rfl, ?_⟩; intro W9 hSw; (try dsimp only at hSw); go_simp; done) | (refine Or.inl ⟨by rfl, ?_⟩; intro W9 hSw; (try dsimp only at hSw); go_simp; with_reducible rfl)
          simp only [Act.put, List.setIfInBounds_toArray, List.set_cons_zero, List.set_cons_succ]
          refine wpAnyH_done (by kernel_rfl) ?_ _
          have r0 : wz.cell? ⟨w.heap.size, 0, none⟩ = some (.int .u64 (g : Int)) := HZ2.out.cell 0
          have r1 : wz.cell? ⟨w.heap.size, 1, none⟩ = some (.int .u64 (ix : Int)) := HZ2.out.cell 1
          have r2 : wz.cell? ⟨w.heap.size, 2, none⟩ = some (.int .u64 (m : Int)) := HZ2.out.cell 2
          have r3 : wz.cell? ⟨w.heap.size, 3, none⟩ = some (.slice X k d) := HZ2.out.cell 3
          go_wp2
          refine bodyPost_ret (v := .tuple #[.agg #[.int .u64 (g : Int), .int .u64 (ix : Int), .int .u64 (m : Int), .slice X k d], .bool false]) (by simp [results, Try.results22, go_sem, r0, r1, r2, r3]) rfl ⟨g, ix, m, k, X, d, by rw [HOk.out], HSec.out, HB2.out⟩

    · have tg : ((g : Int) == (gen : Int)) = false := beq_eq_false_iff_ne.2 (by omega)
      have HOk : Hid (usB ls i gen = false) := Lib.hid (by rw [HUe.out, decide_eq_false hg]; simp)
      clear hg
      · go_wp2_with fail
        rw [← Hw2.out, ← Hb8.out]
        refine wp_region_held_drew (S := fun W => W.cell? ⟨b8, 0, none⟩ = some (.int .u64 (g : Int)) ∧ W.cell? ⟨b8, 1, none⟩ = some (.int .u64 (ix : Int)) ∧ W.cell? ⟨b8, 2, none⟩ = some (.int .u64 (m : Int)) ∧ W.cell? ⟨b8, 3, none⟩ = some (.slice X k d)) (by kernel_rfl) HSc.out (fun hSS => ?_)
        generalize w2.drew = wd at hSS HZd HBd HSc HQ z0 z1 z2 z3 y0 y1 y2 y3 ⊢
        refine take_at 0 (some 23) ?dv0 rfl rfl (by kernel_rfl) (by kernel_rfl) (by kernel_rfl) (fun _ _ _ h => h) ?dy0 hSS ?dr0
        case dy0 => first | (refine Or.inr ⟨?_, ?_⟩; rfl; rfl) | (refine Or.inl ⟨by rfl, ?_⟩; intro W9 hSw; (try dsimp only at hSw); go_simp; done) | (refine Or.inl ⟨by rfl, ?_⟩; intro W9 hSw; (try dsimp only at hSw); go_simp; with_reducible rfl)
        simp only [Act.put, List.setIfInBounds_toArray, List.set_cons_zero, List.set_cons_succ]
        refine take_at 1 (some 24) ?dv1 rfl rfl (by kernel_rfl) (by kernel_rfl) (by kernel_rfl) (fun _ _ _ h => h) ?dy1 hSS ?dr1
        case dy1 => first | (refine Or.inr ⟨?_, ?_⟩; rfl; rfl) | (refine Or.inl ⟨by rfl, ?_⟩; intro W9 hSw; (try dsimp only at hSw); go_simp; done) | (refine Or.inl ⟨by rfl, ?_⟩; intro W9 hSw; (try dsimp only at hSw); go_simp; with_reducible rfl)
        simp only [Act.put, List.setIfInBounds_toArray, List.set_cons_zero, List.set_cons_succ]
        refine take_at 2 (some 25) ?dv2 rfl rfl (by kernel_rfl) (by kernel_rfl) (by kernel_rfl) (fun _ _ _ h => h) ?dy2 hSS ?dr2
        case dy2 => first | (refine Or.inr ⟨?_, ?_⟩; rfl; rfl) | (refine Or.inl ⟨by rfl, ?_⟩; intro W9 hSw; (try dsimp only at hSw); go_simp; done) | (refine Or.inl ⟨by rfl, ?_⟩; intro W9 hSw; (try dsimp only at hSw); go_simp; with_reducible rfl)
        simp only [Act.put, List.setIfInBounds_toArray, List.set_cons_zero, List.set_cons_succ]
        refine take_at 3 (some 26) ?dv3 rfl rfl (by kernel_rfl) (by kernel_rfl) (by kernel_rfl) (fun _ _ _ h => h) ?dy3 hSS ?dr3
        case dy3 => first | (refine Or.inr ⟨?_, ?_⟩; rfl; rfl) | (refine Or.inl ⟨by rfl, ?_⟩; intro W9 hSw; (try dsimp only at hSw); go_simp; done) | (refine Or.inl ⟨by rfl, ?_⟩; intro W9 hSw; (try dsimp only at hSw); go_simp; with_reducible rfl)
        simp only [Act.put, List.setIfInBounds_toArray, List.set_cons_zero, List.set_cons_succ]
        refine take_at 4 (some 27) ?dv4 rfl rfl (by kernel_rfl) (by kernel_rfl) (by kernel_rfl) (fun _ _ _ h => h) ?dy4 hSS ?dr4
        case dy4 => first | (refine Or.inr ⟨?_, ?_⟩; rfl; rfl) | (refine Or.inl ⟨by rfl, ?_⟩; intro W9 hSw; (try dsimp only at hSw); go_simp; done) | (refine Or.inl ⟨by rfl, ?_⟩; intro W9 hSw; (try dsimp only at hSw); go_simp; with_reducible rfl)
        simp only [Act.put, List.setIfInBounds_toArray, List.set_cons_zero, List.set_cons_succ]
        refine take_at 5 (some 28) ?dv5 rfl rfl (by kernel_rfl) (by kernel_rfl) (by kernel_rfl) (fun _ _ _ h => h) ?dy5 hSS ?dr5
        case dy5 => first | (refine Or.inr ⟨?_, ?_⟩; rfl; rfl) | (refine Or.inl ⟨by rfl, ?_⟩; intro W9 hSw; (try dsimp only at hSw); go_simp; done) | (refine Or.inl ⟨by rfl, ?_⟩; intro W9 hSw; (try dsimp only at hSw); go_simp; with_reducible rfl)
        simp only [Act.put, List.setIfInBounds_toArray, List.set_cons_zero, List.set_cons_succ]
        refine take_at 6 (some 29) ?dv6 rfl rfl (by kernel_rfl) (by kernel_rfl) (by kernel_rfl) (fun _ _ _ h => h) ?dy6 hSS ?dr6
        case dy6 => first | (refine Or.inr ⟨?_, ?_⟩; rfl; rfl) | (refine Or.inl ⟨by rfl, ?_⟩; intro W9 hSw; (try dsimp only at hSw); go_simp; done) | (refine Or.inl ⟨by rfl, ?_⟩; intro W9 hSw; (try dsimp only at hSw); go_simp; with_reducible rfl)
        simp only [Act.put, List.setIfInBounds_toArray, List.set_cons_zero, List.set_cons_succ]
        refine take_at 7 (some 30) ?dv7 rfl rfl (by kernel_rfl) (by kernel_rfl) (by kernel_rfl) (fun _ _ _ h => h) ?dy7 hSS ?dr7
        case dy7 => first | (refine Or.inr ⟨?_, ?_⟩; rfl; rfl) | (refine Or.inl ⟨by rfl, ?_⟩; intro W9 hSw; (try dsimp only at hSw); go_simp; done) | (refine Or.inl ⟨by rfl, ?_⟩; intro W9 hSw; (try dsimp only at hSw); go_simp; with_reducible rfl)
        simp only [Act.put, List.setIfInBounds_toArray, List.set_cons_zero, List.set_cons_succ]
        refine take_at 8 (some 31) ?dv8 rfl rfl (by kernel_rfl) (by kernel_rfl) (by kernel_rfl) (fun _ _ _ h => h) ?dy8 hSS ?dr8
        case dy8 => first | (refine Or.inr ⟨?_, ?_⟩; rfl; rfl) | (refine Or.inl ⟨by rfl, ?_⟩; intro W9 hSw; (try dsimp only at hSw); go_simp; done) | (refine Or.inl ⟨by rfl, ?_⟩; intro W9 hSw; (try dsimp only at hSw); go_simp; with_reducible rfl)
        simp only [Act.put, List.setIfInBounds_toArray, List.set_cons_zero, List.set_cons_succ]
        refine take_at 9 (some 32) ?dv9 rfl rfl (by kernel_rfl) (by kernel_rfl) (by kernel_rfl) (fun _ _ _ h => h) ?dy9 hSS ?dr9
        case dy9 => first | (refine Or.inr ⟨?_, ?_⟩; rfl; rfl) | (refine Or.inl ⟨by rfl, ?_⟩; intro W9 hSw; (try dsimp only at hSw); go_simp; done) | (refine Or.inl ⟨by rfl, ?_⟩; intro W9 hSw; (try dsimp only at hSw); go_simp; with_reducible rfl)
        simp only [Act.put, List.setIfInBounds_toArray, List.set_cons_zero, List.set_cons_succ]
        refine take_at 10 (some 33) ?dv10 rfl rfl (by kernel_rfl) (by kernel_rfl) (by kernel_rfl) (fun _ _ _ h => h) ?dy10 hSS ?dr10
        case dy10 => first | (refine Or.inr ⟨?_, ?_⟩; rfl; rfl) | (refine Or.inl ⟨by rfl, ?_⟩; intro W9 hSw; (try dsimp only at hSw); go_simp; done) | (refine Or.inl ⟨by rfl, ?_⟩; intro W9 hSw; (try dsimp only at hSw); go_simp; with_reducible rfl)
        simp only [Act.put, List.setIfInBounds_toArray, List.set_cons_zero, List.set_cons_succ]
        refine take_at 11 (some 34) ?dv11 rfl rfl (by kernel_rfl) (by kernel_rfl) (by kernel_rfl) (fun _ _ _ h => h) ?dy11 hSS ?dr11
        case dy11 => first | (refine Or.inr ⟨?_, ?_⟩; rfl; rfl) | (refine Or.inl ⟨by rfl, ?_⟩; intro W9 hSw; (try dsimp only at hSw); go_simp; done) | (refine Or.inl ⟨by rfl, ?_⟩; intro W9 hSw; (try dsimp only at hSw); go_simp; with_reducible rfl)
        simp only [Act.put, List.setIfInBounds_toArray, List.set_cons_zero, List.set_cons_succ]
        refine take_at 12 (some 35) ?dv12 rfl rfl (by kernel_rfl) (by kernel_rfl) (by kernel_rfl) (fun _ _ _ h => h) ?dy12 hSS ?dr12
        case dy12 => first | (refine Or.inr ⟨?_, ?_⟩; rfl; rfl) | (refine Or.inl ⟨by rfl, ?_⟩; intro W9 hSw; (try dsimp only at hSw); go_simp; done) | (refine Or.inl ⟨by rfl, ?_⟩; intro W9 hSw; (try dsimp only at hSw); go_simp; with_reducible rfl)
        simp only [Act.put, List.setIfInBounds_toArray, List.set_cons_zero, List.set_cons_succ]
        refine take_at 13 (some 36) ?dv13 rfl rfl (by kernel_rfl) (by kernel_rfl) (by kernel_rfl) (fun _ _ _ h => h) ?dy13 hSS ?dr13
        case dy13 => first | (refine Or.inr ⟨?_, ?_⟩; rfl; rfl) | (refine Or.inl ⟨by rfl, ?_⟩; intro W9 hSw; (try dsimp only at hSw); go_simp; done) | (refine Or.inl ⟨by rfl, ?_⟩; intro W9 hSw; (try dsimp only at hSw); go_simp; with_reducible rfl)
        simp only [Act.put, List.setIfInBounds_toArray, List.set_cons_zero, List.set_cons_succ]
        refine take_at 14 (some 37) ?dv14 rfl rfl (by kernel_rfl) (by kernel_rfl) (by kernel_rfl) (fun _ _ _ h => h) ?dy14 hSS ?dr14
        case dy14 => first | (refine Or.inr ⟨?_, ?_⟩; rfl; rfl) | (refine Or.inl ⟨by rfl, ?_⟩; intro W9 hSw; (try dsimp only at hSw); go_simp; done) | (refine Or.inl ⟨by rfl, ?_⟩; intro W9 hSw; (try dsimp only at hSw); go_simp; with_reducible rfl)
        simp only [Act.put, List.setIfInBounds_toArray, List.set_cons_zero, List.set_cons_succ]
        refine take_at 15 (some 38) ?dv15 rfl rfl (by kernel_rfl) (by kernel_rfl) (by kernel_rfl) (fun _ _ _ h => h) ?dy15 hSS ?dr15
        case dy15 => first | (refine Or.inr ⟨?_, ?_⟩; rfl; rfl) | (refine Or.inl ⟨by rfl, ?_⟩; intro W9 hSw; (try dsimp only at hSw); go_simp; done) | (refine Or.inl ⟨by rfl, ?_⟩; intro W9 hSw; (try dsimp only at hSw); go_simp; with_reducible rfl)
        simp only [Act.put, List.setIfInBounds_toArray, List.set_cons_zero, List.set_cons_succ]
        refine take_at 16 (some 39) ?dv16 rfl rfl (by kernel_rfl) (by kernel_rfl) (by kernel_rfl) (fun _ _ _ h => h) ?dy16 hSS ?dr16
        case dy16 => first | (refine Or.inr ⟨?_, ?_⟩; rfl; rfl) | (refine Or.inl ⟨by rfl, ?_⟩; intro W9 hSw; (try dsimp only at hSw); go_simp; done) | (refine Or.inl ⟨by rfl, ?_⟩; intro W9 hSw; (try dsimp only at hSw); go_simp; with_reducible rfl)
        simp only [Act.put, List.setIfInBounds_toArray, List.set_cons_zero, List.set_cons_succ]
        refine take_at 17 (some 40) ?dv17 rfl rfl (by kernel_rfl) (by kernel_rfl) (by kernel_rfl) (fun _ _ _ h => h) ?dy17 hSS ?dr17
        case dy17 => first | (refine Or.inr ⟨?_, ?_⟩; rfl; rfl) | (refine Or.inl ⟨by rfl, ?_⟩; intro W9 hSw; (try dsimp only at hSw); go_simp; done) | (refine Or.inl ⟨by rfl, ?_⟩; intro W9 hSw; (try dsimp only at hSw); go_simp; with_reducible rfl)
        simp only [Act.put, List.setIfInBounds_toArray, List.set_cons_zero, List.set_cons_succ]
        refine take_at 18 (some 41) ?dv18 rfl rfl (by kernel_rfl) (by kernel_rfl) (by kernel_rfl) (fun _ _ _ h => h) ?dy18 hSS ?dr18
        case dy18 => first | (refine Or.inr ⟨?_, ?_⟩; rfl; rfl) | (refine Or.inl ⟨by rfl, ?_⟩; intro W9 hSw; (try dsimp only at hSw); go_simp; done) | (refine Or.inl ⟨by rfl, ?_⟩; intro W9 hSw; (try dsimp only at hSw); go_simp; with_reducible rfl)
        simp only [Act.put, List.setIfInBounds_toArray, List.set_cons_zero, List.set_cons_succ]
        refine take_at 19 (some 42) ?dv19 rfl rfl (by kernel_rfl) (by kernel_rfl) (by kernel_rfl) (fun _ _ _ h => h) ?dy19 hSS ?dr19
        case dy19 => first | (refine Or.inr ⟨?_, ?_⟩; rfl; rfl) | (refine Or.inl ⟨by rfl, ?_⟩; intro W9 hSw; (try dsimp only at hSw); go_simp; done) | (refine Or.inl ⟨by rfl, ?_⟩; intro W9 hSw; (try dsimp only at hSw); go_simp; with_reducible rfl)
        simp only [Act.put, List.setIfInBounds_toArray, List.set_cons_zero, List.set_cons_succ]
        refine take_at 20 (some 43) ?dv20 rfl rfl (by kernel_rfl) (by kernel_rfl) (by kernel_rfl) (fun _ _ _ h => h) ?dy20 hSS ?dr20
        case dy20 => first | (refine Or.inr ⟨?_, ?_⟩; rfl; rfl) | (refine Or.inl ⟨by rfl, ?_⟩; intro W9 hSw; (try dsimp only at hSw); go_simp; done) | (refine Or.inl ⟨by rfl, ?_⟩; intro W9 hSw; (try dsimp only at hSw); go_simp; with_reducible rfl)
        simp only [Act.put, List.setIfInBounds_toArray, List.set_cons_zero, List.set_cons_succ]
        refine take_at 21 (some 44) ?dv21 rfl rfl (by kernel_rfl) (by kernel_rfl) (by kernel_rfl) (fun _ _ _ h => h) ?dy21 hSS ?dr21
        case dy21 => first | (refine Or.inr ⟨?_, ?_⟩; rfl; rfl) | (refine Or.inl ⟨by rfl, ?_⟩; intro W9 hSw; (try dsimp only at hSw); go_simp; done) | (refine Or.inl ⟨by rfl, ?_⟩; intro W9 hSw; (try dsimp only at hSw); go_simp; with_reducible rfl)
        simp only [Act.put, List.setIfInBounds_toArray, List.set_cons_zero, List.set_cons_succ]
        refine wpAnyH_ready (rs := [22]) (by kernel_rfl) (by simp) ?_
        refine AllReadyH.cons rfl (fun K hK => ?_) AllReadyH.nil
        go_simp
        refine hK.out _ _ HQ.out (fun hS3 => ?_)
        clear hK K
        have HZ2 := Lib.hid (HZd.out.quad (.int .u64 (g : Int)) (.int .u64 (ix : Int)) (.int .u64 (m : Int)) (.slice X k d))
        have HB2 : Hid (Below w.heap.size w ((((wd.setCell ⟨w.heap.size, 0, none⟩ (.int .u64 (g : Int))).setCell ⟨w.heap.size, 1, none⟩ (.int .u64 (ix : Int))).setCell ⟨w.heap.size, 2, none⟩ (.int .u64 (m : Int))).setCell ⟨w.heap.size, 3, none⟩ (.slice X k d))) := Lib.hid ((((HBd.out.setCell (Nat.le_refl _) _).setCell (Nat.le_refl _) _).setCell (Nat.le_refl _) _).setCell (Nat.le_refl _) _)
        generalize ((((wd.setCell ⟨w.heap.size, 0, none⟩ (.int .u64 (g : Int))).setCell ⟨w.heap.size, 1, none⟩ (.int .u64 (ix : Int))).setCell ⟨w.heap.size, 2, none⟩ (.int .u64 (m : Int))).setCell ⟨w.heap.size, 3, none⟩ (.slice X k d)) = wz at hS3 HZ2 HB2 ⊢
        refine take_at 23 (some 7) ?dv23 rfl rfl (by kernel_rfl) (by kernel_rfl) (by kernel_rfl) (fun _ _ _ h => h) ?dy23 hS3 ?dr23
        case dy23 => first | (refine Or.inr ⟨?_, ?_⟩; rfl; rfl) | (refine Or.inl ⟨by rfl, ?_⟩; intro W9 hSw; (try dsimp only at hSw); go_simp; done) | (refine Or.inl ⟨by rfl, ?_⟩; intro W9 hSw; (try dsimp only at hSw); go_simp; with_reducible rfl)
        simp only [Act.put, List.setIfInBounds_toArray, List.set_cons_zero, List.set_cons_succ]
        refine wpAnyH_done (by kernel_rfl) ?_ _
        have r0 : wz.cell? ⟨w.heap.size, 0, none⟩ = some (.int .u64 (g : Int)) := HZ2.out.cell 0
        have r1 : wz.cell? ⟨w.heap.size, 1, none⟩ = some (.int .u64 (ix : Int)) := HZ2.out.cell 1
        have r2 : wz.cell? ⟨w.heap.size, 2, none⟩ = some (.int .u64 (m : Int)) := HZ2.out.cell 2
        have r3 : wz.cell? ⟨w.heap.size, 3, none⟩ = some (.slice X k d) := HZ2.out.cell 3
        go_wp2
        refine bodyPost_ret (v := .tuple #[.agg #[.int .u64 (g : Int), .int .u64 (ix : Int), .int .u64 (m : Int), .slice X k d], .bool false]) (by simp [results, Try.results22, go_sem, r0, r1, r2, r3]) rfl ⟨g, ix, m, k, X, d, by rw [HOk.out], HSec.out, HB2.out⟩

end Go.Proofs.Ytijhmopejadpdaa

/- The walk over first. -/
import Derived.Test.YtijhmopejadpdaaR4
namespace Go.Proofs.Ytijhmopejadpdaa
open Go.RowKit
/-- The number of chunks that element i of a copy tells; whether a copy serves; the first that does. -/
def mOf (ls : List (List Nat)) (i : Nat) : Nat := Crc.num (((ls.getD i []).drop 12).take 4)
def serves (i gen m : Nat) (ls : List (List Nat)) : Bool := usB ls i gen && (decide (m = 0) || decide (mOf ls i = m))
def fstC (cs : List (List (List Nat))) (i gen m : Nat) : Option (List (List Nat)) := cs.find? (serves i gen m)
theorem find_next {α : Type} (p : α → Bool) (cs : List α) (d : α) (j : Nat) (hj : j < cs.length) (h : (cs.take j).find? p = none) (hp : p (cs.getD j d) = false) : (cs.take (j + 1)).find? p = none := by
  rw [List.take_succ_eq_append_getElem hj, List.find?_append, h]
  rw [List.getD_eq_getElem?_getD, List.getElem?_eq_getElem hj] at hp
  simp at hp ⊢
  exact hp
theorem find_at {α : Type} (p : α → Bool) (cs : List α) (d : α) (j : Nat) (hj : j < cs.length) (h : (cs.take j).find? p = none) (hp : p (cs.getD j d) = true) : cs.find? p = some (cs.getD j d) := by
  conv => lhs; rw [← List.take_append_drop j cs]
  rw [List.find?_append, h, List.drop_eq_getElem_cons hj]
  rw [List.getD_eq_getElem?_getD, List.getElem?_eq_getElem hj] at hp ⊢
  simp only [Option.getD_some] at hp ⊢
  rw [List.find?_cons_of_pos hp]
  rfl
/-- A list of copies, as an argument. -/
def RC (w : World) (B : Nat) (A : Option Addr) (nc : Nat) (cs : List (List (List Nat))) : Prop :=
  cs.length = nc ∧ (0 < nc → ∃ ad, A = some ad ∧ ad.block < B ∧ ∀ j, j < nc → ∃ Y n c, w.cell? (ad.add j) = some (.slice Y n c) ∧ RS w B Y n (cs.getD j []) ∧ n ≤ 1099511627776)
theorem RC.below {w w' : World} {B nc : Nat} {A : Option Addr} {cs : List (List (List Nat))} (h : RC w B A nc cs) (hb : Below B w w') : RC w' B A nc cs :=
  ⟨h.1, fun h0 => by
    obtain ⟨ad, e, hlt, hc⟩ := h.2 h0
    refine ⟨ad, e, hlt, fun j hj => ?_⟩
    obtain ⟨Y, n, c, h1, h2, h3⟩ := hc j hj
    exact ⟨Y, n, c, (hb.cell (by rw [block_of_add]; exact hlt)).trans h1, h2.below hb, h3⟩⟩
/-- What first returns. -/
def FstIs (w : World) (B : Nat) (o : Option (List (List Nat))) (i g ix m : Nat) (X : Option Addr) (k : Nat) (ok : Bool) : Prop :=
  match o with
  | none => ok = false
  | some ls => ok = true ∧ SecV w B (ls.getD i []) g ix m X k
theorem SecV.up {w w' : World} {B g ix m k : Nat} {X : Option Addr} {l : List Nat} (h : SecV w' B l g ix m X k) (hb : Below B w w') : SecV w B l g ix m X k := ⟨h.1, h.2.1, h.2.2.1, h.2.2.2.1, RB.up h.2.2.2.2 hb⟩

set_option maxHeartbeats 2000000 in
theorem first_any (cs : List (List (List Nat))) (B nc c i gen m : Nat) (A : Option Addr) (w : World) (hr : RC w B A nc cs) (hB : B ≤ w.heap.size) (hi : i ≤ 4294967296) (hnc : nc ≤ 1099511627776) :
    Calls Try.prog 17 #[.slice A nc c, .int .i64 (i : Int), .int .u64 (gen : Int), .int .u64 (m : Int)] w fun e w' => ∃ (g ix m' k : Nat) (X : Option Addr) (d : Nat) (ok : Bool), e = .returned (.tuple #[.agg #[.int .u64 (g : Int), .int .u64 (ix : Int), .int .u64 (m' : Int), .slice X k d], .bool ok]) ∧ FstIs w B (fstC cs i gen m) i g ix m' X k ok ∧ Below w.heap.size w w' := by
  have hl := hr.1
  obtain ⟨w0, hw0⟩ : ∃ w0, w0 = w.alloc (.cells #[.int .u64 0, .int .u64 0, .int .u64 0, .slice none 0 0] 43) := ⟨_, rfl⟩
  have hZ : Blk w0 w.heap.size 43 #[.int .u64 0, .int .u64 0, .int .u64 0, .slice none 0 0] := by rw [hw0]; exact Blk.new _ _ _
  have hB0 : Below w.heap.size w w0 := by rw [hw0]; exact (Below.refl _ _).alloc (Nat.le_refl _) _
  have Hw0 := Lib.hid hw0
  have HZ := Lib.hid hZ
  have HB0 := Lib.hid hB0
  have HR := Lib.hid hr
  have Hl := Lib.hid hl
  clear hw0 hZ hB0 hr hl
  go_enter Try.func17, Try.ntmps17
  go_wp2_with fail
  rw [← Hw0.out]
  go_loopw [16] (fun s16 wr => ∃ j : Nat, j ≤ nc ∧ s16 = .int .i64 (j : Int) ∧ (cs.take j).find? (serves i gen m) = none ∧ Blk wr w.heap.size 43 #[.int .u64 0, .int .u64 0, .int .u64 0, .slice none 0 0] ∧ Below w.heap.size w wr) (fun s16 _ => nc - (intOf s16).toNat)
  case atStart => exact ⟨0, by omega, rfl, rfl, HZ.out, HB0.out⟩
  case round =>
    obtain ⟨j, hj, rfl, hf, hZ, hB'⟩ := hrel
    by_cases hlt : j < nc
    · obtain ⟨ad, rfl, hadb, hel⟩ := HR.out.2 (by omega)
      obtain ⟨Y, n, cY, hcell, hRS, hn⟩ := hel j hlt
      have hcr := (hB'.cell (p := ad.add j) (by rw [block_of_add]; omega)).trans hcell
      have hzr := hB'.size
      have HU : Hid (Calls Try.prog 22 #[.slice Y n cY, .int .i64 (i : Int), .int .u64 (gen : Int)] wr fun e w' => ∃ (g ix m' k : Nat) (X : Option Addr) (d : Nat), e = .returned (.tuple #[.agg #[.int .u64 (g : Int), .int .u64 (ix : Int), .int .u64 (m' : Int), .slice X k d], .bool (usB (cs.getD j []) i gen)]) ∧ (usB (cs.getD j []) i gen = true → SecV wr B ((cs.getD j []).getD i []) g ix m' X k) ∧ Below wr.heap.size wr w') :=
        Lib.hid (usable_any (cs.getD j []) B n cY i gen Y wr (hRS.below (hB'.mono hB)) (by omega) hi hn)
      have HF := Lib.hid hf
      have HZr := Lib.hid hZ
      have HBr := Lib.hid hB'
      have t2 : (j : Int) < (nc : Int) := by omega
      have HSv : Hid (serves i gen m (cs.getD j []) = (usB (cs.getD j []) i gen && (decide (m = 0) || decide (mOf (cs.getD j []) i = m)))) := Lib.hid rfl
      clear hf hZ hB' hel hcell hRS
      go_wp2_with fail
      refine HU.out.mono ?_
      rintro e w1 ⟨g, ix, m', k, X, d, rfl, hSec, hb1⟩
      obtain ⟨w2, hw2⟩ : ∃ w2, w2 = w1.alloc (.cells #[.int .u64 (g : Int), .int .u64 (ix : Int), .int .u64 (m' : Int), .slice X k d] 43) := ⟨_, rfl⟩
      have hS2 : Blk w2 w1.heap.size 43 #[.int .u64 (g : Int), .int .u64 (ix : Int), .int .u64 (m' : Int), .slice X k d] := by rw [hw2]; exact Blk.new _ _ _
      have hZ1 := HZr.out.below hb1 HZr.out.lt
      have hZ2 : Blk w2 w.heap.size 43 #[.int .u64 0, .int .u64 0, .int .u64 0, .slice none 0 0] := by rw [hw2]; exact hZ1.alloc _
      have hB1 := HBr.out.trans (hb1.mono HBr.out.size)
      have hB2 : Below w.heap.size w w2 := by rw [hw2]; exact hB1.alloc hB1.size _
      have HSec : Hid (usB (cs.getD j []) i gen = true → SecV w B ((cs.getD j []).getD i []) g ix m' X k) := Lib.hid (fun h => (hSec h).up (HBr.out.mono hB))
      have HZ2 := Lib.hid hZ2
      have HB2 := Lib.hid hB2
      have v0 : w2.cell? ⟨w1.heap.size, 0, none⟩ = some (.int .u64 (g : Int)) := hS2.cell 0
      have v1 : w2.cell? ⟨w1.heap.size, 1, none⟩ = some (.int .u64 (ix : Int)) := hS2.cell 1
      have v2 : w2.cell? ⟨w1.heap.size, 2, none⟩ = some (.int .u64 (m' : Int)) := hS2.cell 2
      have v3 : w2.cell? ⟨w1.heap.size, 3, none⟩ = some (.slice X k d) := hS2.cell 3
      have z0 : w2.cell? ⟨w.heap.size, 0, none⟩ = some (.int .u64 0) := hZ2.cell 0
      have z1 : w2.cell? ⟨w.heap.size, 1, none⟩ = some (.int .u64 0) := hZ2.cell 1
      have z2 : w2.cell? ⟨w.heap.size, 2, none⟩ = some (.int .u64 0) := hZ2.cell 2
      have z3 : w2.cell? ⟨w.heap.size, 3, none⟩ = some (.slice none 0 0) := hZ2.cell 3
      have y0 : w2.frozen? ⟨w.heap.size, 0, none⟩ = false := hZ2.frozen 0
      have y1 : w2.frozen? ⟨w.heap.size, 1, none⟩ = false := hZ2.frozen 1
      have y2 : w2.frozen? ⟨w.heap.size, 2, none⟩ = false := hZ2.frozen 2
      have y3 : w2.frozen? ⟨w.heap.size, 3, none⟩ = false := hZ2.frozen 3
      have Hw2 := Lib.hid hw2
      have hmOf : usB (cs.getD j []) i gen = true → m' = mOf (cs.getD j []) i := fun h => (HSec.out h).2.2.1
      have HmOf := Lib.hid hmOf
      clear hw2 hS2 hZ1 hZ2 hB1 hB2 hSec hb1 HU hmOf
      by_cases hs : serves i gen m (cs.getD j []) = true
      · have hus : usB (cs.getD j []) i gen = true := by rw [HSv.out] at hs; exact (Bool.and_eq_true_iff.1 hs).1
        have HFin : Hid (fstC cs i gen m = some (cs.getD j [])) := Lib.hid (find_at _ cs [] j (by rw [Hl.out]; exact hlt) HF.out hs)
        have hq := HZ2.out.quad (.int .u64 (g : Int)) (.int .u64 (ix : Int)) (.int .u64 (m' : Int)) (.slice X k d)
        have hbq : Below w.heap.size w ((((w2.setCell ⟨w.heap.size, 0, none⟩ (.int .u64 (g : Int))).setCell ⟨w.heap.size, 1, none⟩ (.int .u64 (ix : Int))).setCell ⟨w.heap.size, 2, none⟩ (.int .u64 (m' : Int))).setCell ⟨w.heap.size, 3, none⟩ (.slice X k d)) := (((HB2.out.setCell (Nat.le_refl _) _).setCell (Nat.le_refl _) _).setCell (Nat.le_refl _) _).setCell (Nat.le_refl _) _
        rw [hus]
        obtain ⟨wq, hwq⟩ : ∃ wq, wq = ((((w2.setCell ⟨w.heap.size, 0, none⟩ (.int .u64 (g : Int))).setCell ⟨w.heap.size, 1, none⟩ (.int .u64 (ix : Int))).setCell ⟨w.heap.size, 2, none⟩ (.int .u64 (m' : Int))).setCell ⟨w.heap.size, 3, none⟩ (.slice X k d)) := ⟨_, rfl⟩
        rw [← hwq] at hq hbq
        have r0 : wq.cell? ⟨w.heap.size, 0, none⟩ = some (.int .u64 (g : Int)) := hq.cell 0
        have r1 : wq.cell? ⟨w.heap.size, 1, none⟩ = some (.int .u64 (ix : Int)) := hq.cell 1
        have r2 : wq.cell? ⟨w.heap.size, 2, none⟩ = some (.int .u64 (m' : Int)) := hq.cell 2
        have r3 : wq.cell? ⟨w.heap.size, 3, none⟩ = some (.slice X k d) := hq.cell 3
        have Hwq := Lib.hid hwq
        have HBq := Lib.hid hbq
        have HUs := Lib.hid hus
        by_cases hm0 : m = 0
        · have tm : ((m : Int) == 0) = true := beq_iff_eq.2 (by omega)
          clear hs hq hbq hwq hus
          rw [Hw2.out] at v0 v1 v2 v3 z0 z1 z2 z3 y0 y1 y2 y3
          have Hm0 := Lib.hid hm0
          clear hm0
          go_wp2_with fail
          rw [← Hw2.out, ← Hwq.out]
          refine bodyPost_ret (v := .tuple #[.agg #[.int .u64 (g : Int), .int .u64 (ix : Int), .int .u64 (m' : Int), .slice X k d], .bool true]) (by simp [results, Try.results17, go_sem, r0, r1, r2, r3]) rfl ⟨g, ix, m', k, X, d, true, rfl, ?_, HBq.out⟩
          rw [HFin.out]
          exact ⟨rfl, HSec.out HUs.out⟩

        · have tm : ((m : Int) == 0) = false := beq_eq_false_iff_ne.2 (by omega)
          have hmm : m' = m := by
            rw [HSv.out, decide_eq_false hm0, Bool.false_or] at hs
            rw [HmOf.out hus]
            exact of_decide_eq_true (Bool.and_eq_true_iff.1 hs).2
          have teq : ((m' : Int) == (m : Int)) = true := beq_iff_eq.2 (by omega)
          clear hs hq hbq hwq hus
          rw [Hw2.out] at v0 v1 v2 v3 z0 z1 z2 z3 y0 y1 y2 y3
          have Hm0 := Lib.hid hm0
          have Hmm := Lib.hid hmm
          clear hm0 hmm
          go_wp2_with fail
          rw [← Hw2.out, ← Hwq.out]
          refine bodyPost_ret (v := .tuple #[.agg #[.int .u64 (g : Int), .int .u64 (ix : Int), .int .u64 (m' : Int), .slice X k d], .bool true]) (by simp [results, Try.results17, go_sem, r0, r1, r2, r3]) rfl ⟨g, ix, m', k, X, d, true, rfl, ?_, HBq.out⟩
          rw [HFin.out]
          exact ⟨rfl, HSec.out HUs.out⟩

      · have hs' : serves i gen m (cs.getD j []) = false := by cases h : serves i gen m (cs.getD j []) with
          | true => exact absurd h hs
          | false => rfl
        have HNx : Hid ((cs.take (j + 1)).find? (serves i gen m) = none) := Lib.hid (find_next _ cs [] j (by rw [Hl.out]; exact hlt) HF.out hs')
        cases hus : usB (cs.getD j []) i gen
        · clear hs hs'
          have Hus := Lib.hid hus
          clear hus
          rw [Hw2.out] at v0 v1 v2 v3 z0 z1 z2 z3 y0 y1 y2 y3
          go_wp2_with fail
          rw [← Hw2.out]
          go_roundw
          case rel => exact ⟨j + 1, by omega, by go_num, HNx.out, HZ2.out, HB2.out⟩
          case measure => simp [intOf]; omega

        · have hm0 : ¬ m = 0 := fun h0 => by rw [HSv.out, hus, decide_eq_true h0] at hs'; cases hs'
          have hmm : ¬ m' = m := fun h1 => by rw [HSv.out, hus, ← HmOf.out hus, decide_eq_true h1] at hs'; simp at hs'
          have tm : ((m : Int) == 0) = false := beq_eq_false_iff_ne.2 (by omega)
          have teq : ((m' : Int) == (m : Int)) = false := beq_eq_false_iff_ne.2 (by omega)
          have Hus := Lib.hid hus
          have Hmm := Lib.hid hmm
          have Hm0 := Lib.hid hm0
          clear hs hs' hus hmm hm0
          rw [Hw2.out] at v0 v1 v2 v3 z0 z1 z2 z3 y0 y1 y2 y3
          go_wp2_with fail
          rw [← Hw2.out]
          go_roundw
          case rel => exact ⟨j + 1, by omega, by go_num, HNx.out, HZ2.out, HB2.out⟩
          case measure => simp [intOf]; omega

    · have e : j = nc := by omega
      subst e
      have z0 : wr.cell? ⟨w.heap.size, 0, none⟩ = some (.int .u64 0) := hZ.cell 0
      have z1 : wr.cell? ⟨w.heap.size, 1, none⟩ = some (.int .u64 0) := hZ.cell 1
      have z2 : wr.cell? ⟨w.heap.size, 2, none⟩ = some (.int .u64 0) := hZ.cell 2
      have z3 : wr.cell? ⟨w.heap.size, 3, none⟩ = some (.slice none 0 0) := hZ.cell 3
      have y0 : wr.frozen? ⟨w.heap.size, 0, none⟩ = false := hZ.frozen 0
      have y1 : wr.frozen? ⟨w.heap.size, 1, none⟩ = false := hZ.frozen 1
      have y2 : wr.frozen? ⟨w.heap.size, 2, none⟩ = false := hZ.frozen 2
      have y3 : wr.frozen? ⟨w.heap.size, 3, none⟩ = false := hZ.frozen 3
      have hq := hZ.quad (.int .u64 0) (.int .u64 0) (.int .u64 0) (.slice none 0 0)
      have hbq : Below w.heap.size w ((((wr.setCell ⟨w.heap.size, 0, none⟩ (.int .u64 0)).setCell ⟨w.heap.size, 1, none⟩ (.int .u64 0)).setCell ⟨w.heap.size, 2, none⟩ (.int .u64 0)).setCell ⟨w.heap.size, 3, none⟩ (.slice none 0 0)) := (((hB'.setCell (Nat.le_refl _) _).setCell (Nat.le_refl _) _).setCell (Nat.le_refl _) _).setCell (Nat.le_refl _) _
      obtain ⟨wq, hwq⟩ : ∃ wq, wq = ((((wr.setCell ⟨w.heap.size, 0, none⟩ (.int .u64 0)).setCell ⟨w.heap.size, 1, none⟩ (.int .u64 0)).setCell ⟨w.heap.size, 2, none⟩ (.int .u64 0)).setCell ⟨w.heap.size, 3, none⟩ (.slice none 0 0)) := ⟨_, rfl⟩
      rw [← hwq] at hq hbq
      have r0 : wq.cell? ⟨w.heap.size, 0, none⟩ = some (.int .u64 0) := hq.cell 0
      have r1 : wq.cell? ⟨w.heap.size, 1, none⟩ = some (.int .u64 0) := hq.cell 1
      have r2 : wq.cell? ⟨w.heap.size, 2, none⟩ = some (.int .u64 0) := hq.cell 2
      have r3 : wq.cell? ⟨w.heap.size, 3, none⟩ = some (.slice none 0 0) := hq.cell 3
      have Hwq := Lib.hid hwq
      have HBq := Lib.hid hbq
      have HFin : Hid (fstC cs i gen m = none) := Lib.hid (by
        have h := hf
        rw [List.take_of_length_le (by rw [Hl.out]; exact Nat.le_refl _)] at h
        exact h)
      clear hwq hbq hq hf hZ hB'
      go_wp2_with fail
      rw [← Hwq.out]
      refine bodyPost_ret (v := .tuple #[.agg #[.int .u64 0, .int .u64 0, .int .u64 0, .slice none 0 0], .bool false]) (by simp [results, Try.results17, go_sem, r0, r1, r2, r3]) rfl ⟨0, 0, 0, 0, none, 0, false, rfl, ?_, HBq.out⟩
      rw [HFin.out]
      rfl

end Go.Proofs.Ytijhmopejadpdaa

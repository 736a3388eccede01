/- The walk over the leaves' equality. -/
import Derived.Test.YtejhfollfmdmpaaP1
import Derived.BigQuiet
namespace Go.Proofs.Ytejhfollfmdmpaa
open Go.RowKit

set_option maxHeartbeats 800000 in
theorem same_any (l1 l2 k1 k2 : List Nat) (B n1 c1 n2 c2 m1 d1 m2 d2 : Nat) (A1 A2 E1 E2 : Option Addr) (w : World) (hl1 : RU w B A1 n1 l1) (hl2 : RU w B A2 n2 l2) (hk1 : RU w B E1 m1 k1) (hk2 : RU w B E2 m2 k2) (hBw : B ≤ w.heap.size) (hb1 : n1 ≤ 65536) (hb2 : n2 ≤ 65536) :
    Calls Try.prog 13 #[.agg #[.slice A1 n1 c1, .slice A2 n2 c2], .agg #[.slice E1 m1 d1, .slice E2 m2 d2]] w fun e w' => e = .returned (.bool (decide (l1 = k1 ∧ l2 = k2))) ∧ Below w.heap.size w w' := by
  have e1 := hl1.len
  have e2 := hl2.len
  have f1 := hk1.len
  have f2 := hk2.len
  have HL1 := Lib.hid hl1
  have HL2 := Lib.hid hl2
  have HK1 := Lib.hid hk1
  have HK2 := Lib.hid hk2
  clear hl1 hl2 hk1 hk2
  obtain ⟨w0, hw0⟩ : ∃ w0, w0 = (w.alloc (.cells #[.slice A1 n1 c1, .slice A2 n2 c2] 32)).alloc (.cells #[.slice E1 m1 d1, .slice E2 m2 d2] 32) := ⟨_, rfl⟩
  have hE0 : Blk w0 w.heap.size 32 #[.slice A1 n1 c1, .slice A2 n2 c2] := by rw [hw0]; exact (Blk.new _ _ _).alloc _
  have hD0 : Blk w0 (w.heap.size + 1) 32 #[.slice E1 m1 d1, .slice E2 m2 d2] := by
    rw [hw0]
    have h := Blk.new (w.alloc (.cells #[.slice A1 n1 c1, .slice A2 n2 c2] 32)) 32 #[.slice E1 m1 d1, .slice E2 m2 d2]
    have e : (w.alloc (.cells #[.slice A1 n1 c1, .slice A2 n2 c2] 32)).heap.size = w.heap.size + 1 := by simp
    rw [e] at h
    exact h
  have hB0 : Below w.heap.size w w0 := by rw [hw0]; exact ((Below.refl _ _).alloc (Nat.le_refl _) _).alloc (by simp) _
  have Hw0 := Lib.hid hw0
  by_cases h : n1 = m1 ∧ n2 = m2
  · obtain ⟨rfl, rfl⟩ := h
    have t1 : ((n1 : Int) != n1) = false := bne_self_eq_false _
    have t2 : ((n2 : Int) != n2) = false := bne_self_eq_false _
    have HE0 := Lib.hid hE0
    have HD0 := Lib.hid hD0
    have HB0 := Lib.hid hB0
    have Hw0' := Lib.hid hw0
    clear hE0 hD0 hB0 hw0
    go_enter Try.func13, Try.ntmps13
    go_wp2_with fail
    rw [← Hw0.out]
    go_loopw [5] (fun c wr => ∃ i : Nat, i ≤ n1 ∧ c = .int .i64 (i : Int) ∧ l1.take i = k1.take i ∧ Blk wr w.heap.size 32 #[.slice A1 n1 c1, .slice A2 n2 c2] ∧ Blk wr (w.heap.size + 1) 32 #[.slice E1 n1 d1, .slice E2 n2 d2] ∧ Below w.heap.size w wr) (fun c _ => n1 - (intOf c).toNat)
    case atStart => exact ⟨0, Nat.zero_le _, rfl, rfl, HE0.out, HD0.out, HB0.out⟩
    case round =>
      obtain ⟨i, hi, rfl, ht, hE, hD, hB⟩ := hrel
      have g0 : wr.cell? ⟨w.heap.size, 0, none⟩ = some (.slice A1 n1 c1) := hE.cell 0
      have g1 : wr.cell? ⟨w.heap.size, 1, none⟩ = some (.slice A2 n2 c2) := hE.cell 1
      have g2 : wr.cell? ⟨w.heap.size + 1, 0, none⟩ = some (.slice E1 n1 d1) := hD.cell 0
      have g3 : wr.cell? ⟨w.heap.size + 1, 1, none⟩ = some (.slice E2 n2 d2) := hD.cell 1
      have HE := Lib.hid hE
      have HD := Lib.hid hD
      by_cases hlt : i < n1
      · obtain ⟨ad, rfl, _, hc⟩ := (RU.below HL1.out (hB.mono hBw)).at_ hlt
        obtain ⟨ad', rfl, _, hc'⟩ := (RU.below HK1.out (hB.mono hBw)).at_ hlt
        have HT := Lib.hid ht
        have HBr := Lib.hid hB
        have Hs1 := Lib.hid (show l1.take (i + 1) = l1.take i ++ [l1.getD i 0] by rw [List.take_add_one, List.getD_eq_getElem?_getD, List.getElem?_eq_getElem (by omega)]; rfl)
        have Hs2 := Lib.hid (show k1.take (i + 1) = k1.take i ++ [k1.getD i 0] by rw [List.take_add_one, List.getD_eq_getElem?_getD, List.getElem?_eq_getElem (by omega)]; rfl)
        obtain ⟨x, hx⟩ : ∃ x, x = l1.getD i 0 := ⟨_, rfl⟩
        obtain ⟨y, hy⟩ : ∃ y, y = k1.getD i 0 := ⟨_, rfl⟩
        rw [← hx] at hc
        rw [← hy] at hc'
        have Hx := Lib.hid hx
        have Hy := Lib.hid hy
        clear ht hB hE hD hx hy
        by_cases hxy : x = y
        · subst hxy
          have t3 : ((x : Int) != (x : Int)) = false := bne_self_eq_false _
          go_wp2_with fail
          go_quiet (fail)
          go_wp2_with fail
          go_roundw
          case rel => exact ⟨i + 1, by omega, by go_num, by rw [Hs1.out, Hs2.out, HT.out, ← Hx.out, ← Hy.out], HE.out.drewN _, HD.out.drewN _, below_drewN HBr.out _⟩
          case measure => simp [intOf]; omega
        · have t3 : ((x : Int) != (y : Int)) = true := bne_iff_ne.2 (by omega)
          have t4 : ((x : Int) == (y : Int)) = false := beq_eq_false_iff_ne.2 (by omega)
          have hno : decide (l1 = k1 ∧ l2 = k2) = false := decide_eq_false (fun h => hxy (by rw [Hx.out, Hy.out, h.1]))
          have Hno := Lib.hid (ret_b hno.symm)
          clear hno
          go_wp2_with fail
          go_quiet (fail)
          go_wp2_with fail
          go_ret
          exact ⟨Hno.out, below_drewN HBr.out _⟩
      · have ex : l1 = k1 := by
          have h1 := List.take_of_length_le (show l1.length ≤ i by omega)
          have h2 := List.take_of_length_le (show k1.length ≤ i by omega)
          rw [← h1, ← h2, ht]
        have Hex := Lib.hid ex
        have HBr := Lib.hid hB
        clear ex ht hB hE hD
        go_wp2_with fail
        go_loopw [6] (fun c wx => ∃ j : Nat, j ≤ n2 ∧ c = .int .i64 (j : Int) ∧ l2.take j = k2.take j ∧ Blk wx w.heap.size 32 #[.slice A1 n1 c1, .slice A2 n2 c2] ∧ Blk wx (w.heap.size + 1) 32 #[.slice E1 n1 d1, .slice E2 n2 d2] ∧ Below w.heap.size w wx) (fun c _ => n2 - (intOf c).toNat)
        case atStart => exact ⟨0, Nat.zero_le _, rfl, rfl, HE.out, HD.out, HBr.out⟩
        case round =>
          obtain ⟨j, hj, rfl, ht, hE, hD, hB⟩ := hrel
          have g0 : wr.cell? ⟨w.heap.size, 0, none⟩ = some (.slice A1 n1 c1) := hE.cell 0
          have g1 : wr.cell? ⟨w.heap.size, 1, none⟩ = some (.slice A2 n2 c2) := hE.cell 1
          have g2 : wr.cell? ⟨w.heap.size + 1, 0, none⟩ = some (.slice E1 n1 d1) := hD.cell 0
          have g3 : wr.cell? ⟨w.heap.size + 1, 1, none⟩ = some (.slice E2 n2 d2) := hD.cell 1
          have HE := Lib.hid hE
          have HD := Lib.hid hD
          by_cases hlt : j < n2
          · obtain ⟨ad, rfl, _, hc⟩ := (RU.below HL2.out (hB.mono hBw)).at_ hlt
            obtain ⟨ad', rfl, _, hc'⟩ := (RU.below HK2.out (hB.mono hBw)).at_ hlt
            have HT := Lib.hid ht
            have HBr := Lib.hid hB
            have Hs1 := Lib.hid (show l2.take (j + 1) = l2.take j ++ [l2.getD j 0] by rw [List.take_add_one, List.getD_eq_getElem?_getD, List.getElem?_eq_getElem (by omega)]; rfl)
            have Hs2 := Lib.hid (show k2.take (j + 1) = k2.take j ++ [k2.getD j 0] by rw [List.take_add_one, List.getD_eq_getElem?_getD, List.getElem?_eq_getElem (by omega)]; rfl)
            obtain ⟨x, hx⟩ : ∃ x, x = l2.getD j 0 := ⟨_, rfl⟩
            obtain ⟨y, hy⟩ : ∃ y, y = k2.getD j 0 := ⟨_, rfl⟩
            rw [← hx] at hc
            rw [← hy] at hc'
            have Hx := Lib.hid hx
            have Hy := Lib.hid hy
            clear ht hB hE hD hx hy
            by_cases hxy : x = y
            · subst hxy
              have t3 : ((x : Int) != (x : Int)) = false := bne_self_eq_false _
              go_wp2_with fail
              go_quiet (fail)
              go_wp2_with fail
              go_roundw
              case rel => exact ⟨j + 1, by omega, by go_num, by rw [Hs1.out, Hs2.out, HT.out, ← Hx.out, ← Hy.out], HE.out.drewN _, HD.out.drewN _, below_drewN HBr.out _⟩
              case measure => simp [intOf]; omega
            · have t3 : ((x : Int) != (y : Int)) = true := bne_iff_ne.2 (by omega)
              have t4 : ((x : Int) == (y : Int)) = false := beq_eq_false_iff_ne.2 (by omega)
              have hno : decide (l1 = k1 ∧ l2 = k2) = false := decide_eq_false (fun h => hxy (by rw [Hx.out, Hy.out, h.2]))
              have Hno := Lib.hid (ret_b hno.symm)
              clear hno
              go_wp2_with fail
              go_quiet (fail)
              go_wp2_with fail
              go_ret
              exact ⟨Hno.out, below_drewN HBr.out _⟩
          · have ex2 : l1 = k1 ∧ l2 = k2 := by
              have h1 := List.take_of_length_le (show l2.length ≤ j by omega)
              have h2 := List.take_of_length_le (show k2.length ≤ j by omega)
              exact ⟨Hex.out, by rw [← h1, ← h2, ht]⟩
            have Hyes := Lib.hid (ret_b (decide_eq_true ex2).symm)
            have HBx := Lib.hid hB
            clear ex2 ht hB hE hD
            go_wp2_with fail
            go_ret
            exact ⟨Hyes.out, HBx.out⟩
  · have hno : decide (l1 = k1 ∧ l2 = k2) = false := decide_eq_false (fun hh => h ⟨by rw [← e1, ← f1, hh.1], by rw [← e2, ← f2, hh.2]⟩)
    have Hno := Lib.hid hno
    rw [Hno.out]
    have HB0 := Lib.hid hB0
    clear hno hE0 hD0 hB0 hw0
    by_cases h1 : n1 = m1
    · subst h1
      have t1 : ((n1 : Int) != n1) = false := bne_self_eq_false _
      have t2 : ((n2 : Int) != m2) = true := bne_iff_ne.2 (by omega)
      have t4 : ((n2 : Int) == m2) = false := beq_eq_false_iff_ne.2 (by omega)
      go_enter Try.func13, Try.ntmps13
      go_wp2_with fail
      rw [← Hw0.out]
      go_ret
      exact ⟨rfl, HB0.out⟩
    · have t2 : ((n1 : Int) != m1) = true := bne_iff_ne.2 (by omega)
      have t4 : ((n1 : Int) == m1) = false := beq_eq_false_iff_ne.2 (by omega)
      go_enter Try.func13, Try.ntmps13
      go_wp2_with fail
      rw [← Hw0.out]
      go_ret
      exact ⟨rfl, HB0.out⟩

end Go.Proofs.Ytejhfollfmdmpaa

/- The walk over the statement Crc64Short. -/
import Derived.Test.YtdhgkbblhlnhhaaL6
namespace Go.Proofs.Ytdhgkbblhlnhhaa
open Go.RowKit

set_option maxHeartbeats 400000 in
theorem Crc64Short_walk (x0 x1 x2 x3 x4 x5 x6 x7 y0 y1 y2 y3 y4 y5 y6 y7 n : Nat) (hx : Crc.Bytes [x0, x1, x2, x3, x4, x5, x6, x7]) (hy : Crc.Bytes [y0, y1, y2, y3, y4, y5, y6, y7]) (hn : n < 256) (w : World) :
    Calls Try.prog 9 #[.agg #[bv x0, bv x1, bv x2, bv x3, bv x4, bv x5, bv x6, bv x7], .agg #[bv y0, bv y1, bv y2, bv y3, bv y4, bv y5, bv y6, bv y7], .int .u8 (n : Int)] w (True1 w) := by
  go_enter Try.func9, Try.ntmps9
  go_wp2_with (go_at_call 11; refine (awake_any _).mono ?_; rintro e w1 ⟨rfl, hB⟩)
  have t1 : 0 ≤ (n : Int).tmod 9 := Int.tmod_nonneg _ (by omega)
  have t2 : (n : Int).tmod 9 ≤ 8 := by rw [Int.tmod_eq_emod_of_nonneg (by omega)]; omega
  go_quiet (fail)
  have hN : ((n : Int).tmod 9).toNat ≤ 8 := by omega
  clear t1 t2
  have hX : RB w1 (w.heap.size + 1 + 1) (some ⟨w.heap.size, 0, none⟩) 8 [x0, x1, x2, x3, x4, x5, x6, x7] :=
    RB.below (Reads.more (Reads.alloc (rb_alloc w _ _ _ _ rfl) (by simp) _) (by simp)) (hB.mono (by simp))
  have hY : RB w1 (w.heap.size + 1 + 1) (some ⟨w.heap.size + 1, 0, none⟩) 8 [y0, y1, y2, y3, y4, y5, y6, y7] := by
    have h := rb_alloc (w.alloc (.cells #[bv x0, bv x1, bv x2, bv x3, bv x4, bv x5, bv x6, bv x7] 34)) #[bv y0, bv y1, bv y2, bv y3, bv y4, bv y5, bv y6, bv y7] 34 (0, 0) [y0, y1, y2, y3, y4, y5, y6, y7] rfl
    rw [show (w.alloc (.cells #[bv x0, bv x1, bv x2, bv x3, bv x4, bv x5, bv x6, bv x7] 34)).heap.size = w.heap.size + 1 by simp] at h
    exact RB.below h (hB.mono (by simp))
  have hBl : Below w.heap.size w (w1.drewN nq) := below_drewN ((((Below.refl _ w).alloc (Nat.le_refl _) _).alloc (by simp) _).trans (hB.mono (by simp; omega))) _
  have hX2 := RB.drewN (hX.take _ hN) nq
  have hY2 := RB.drewN (hY.take _ hN) nq
  generalize ((n : Int).tmod 9).toNat = N at hN hX2 hY2 ⊢
  generalize w1.drewN nq = w2 at hX2 hY2 hBl ⊢
  have hbx := bytes_take hx N
  have hby := bytes_take hy N
  have hle : (List.take N [x0, x1, x2, x3, x4, x5, x6, x7]).length = (List.take N [y0, y1, y2, y3, y4, y5, y6, y7]).length := by simp
  have hle8 : (List.take N [y0, y1, y2, y3, y4, y5, y6, y7]).length ≤ 8 := by simp; omega
  have HS := Lib.hid (Crc.sumS_short hbx hby hle hle8)
  clear hle hle8
  generalize List.take N [x0, x1, x2, x3, x4, x5, x6, x7] = a at hX2 hbx HS
  generalize List.take N [y0, y1, y2, y3, y4, y5, y6, y7] = b at hY2 hby HS
  have HX := Lib.hid hX2
  have HY := Lib.hid hY2
  have hNm : N ≤ maxLen := by unfold maxLen; omega
  clear hX2 hY2 hX hY hB hx hy
  have c1 := fun k : Nat => run_convert_rb (P := Try.prog) (w := w2.drewN k) 22 5 9 8 Try.underlying22 Try.underlying5 Try.underlying9 (RB.drewN HX.out k)
  have c2 := fun k : Nat => run_convert_rb (P := Try.prog) (w := w2.drewN k) 22 5 9 8 Try.underlying22 Try.underlying5 Try.underlying9 (RB.drewN HY.out k)
  go_wp2_with fail
  go_quiet (first
    | (go_at_call_of 12 (Value.slice (some ⟨w.heap.size, 0, none⟩) N 8); exact quiet_left (sum_any _ hbx _ _ _ _ _ (RB.drewN HX.out _) hNm))
    | (go_at_call 12; exact quiet_left (sum_any _ hby _ _ _ _ _ (RB.drewN HY.out _) hNm)))
  go_wp2_with fail
  go_ret
  refine ⟨ret_bool ?_, below_drewN hBl _⟩
  rw [bstr_beq hbx hby]
  by_cases hab : a = b
  · subst hab; simp
  · have hne : ¬ ((Crc.sumS a : Nat) : Int) = ((Crc.sumS b : Nat) : Int) := fun h => hab (HS.out.1 (Int.ofNat.inj h))
    simp [hab, hne]

end Go.Proofs.Ytdhgkbblhlnhhaa

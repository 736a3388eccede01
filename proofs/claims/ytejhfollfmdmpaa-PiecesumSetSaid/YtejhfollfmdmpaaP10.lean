/- The walk over 'awake'. -/
import Derived.Test.YtejhfollfmdmpaaP6
import Derived.Test.YtejhfollfmdmpaaP7
import Derived.Test.YtejhfollfmdmpaaP9
namespace Go.Proofs.Ytejhfollfmdmpaa
open Go.RowKit

theorem awake_list : badL (((zL 5).take 5).set 1 7) (((zS 2 5).take 5).set 1 (Crc.psum 2 1 7 [0, 0, 0, 0, 0, 0, 0, 0])) 2 [] [] [] 5 = [false, true, false, false, false] := by
  have e1 : ((zL 5).take 5).set 1 7 = [0, 7, 0, 0, 0] := rfl
  have e2 : ((zS 2 5).take 5).set 1 (Crc.psum 2 1 7 [0, 0, 0, 0, 0, 0, 0, 0]) = [Crc.psum 2 0 0 [0, 0, 0, 0, 0, 0, 0, 0], Crc.psum 2 1 7 [0, 0, 0, 0, 0, 0, 0, 0], Crc.psum 2 2 0 [0, 0, 0, 0, 0, 0, 0, 0], Crc.psum 2 3 0 [0, 0, 0, 0, 0, 0, 0, 0], Crc.psum 2 4 0 [0, 0, 0, 0, 0, 0, 0, 0]] := rfl
  rw [e1, e2]
  simp [badL, badB, goodB, verAt, blkAt, List.range_succ]

set_option maxHeartbeats 800000 in
theorem awake_any (w : World) : Calls Try.prog 10 #[] w fun e w' => e = .returned (.bool true) ∧ Below w.heap.size w w' := by
  have hzn : zN 5 = 5 := by simp [zN]
  go_enter Try.func10, Try.ntmps10
  go_wp2_with fail
  refine (zero_any 2 5 w).mono ?_
  rintro e w1 ⟨A1, c1, A2, c2, rfl, hr1, hr2, hB, hc1, hc2⟩
  rw [hzn] at hr1 hr2 hc1 hc2 ⊢
  have HR1 := Lib.hid hr1
  have HR2 := Lib.hid hr2
  have HB1 := Lib.hid hB
  clear hr1 hr2 hB
  go_wp2_with fail
  obtain ⟨ad1, rfl, _, _⟩ := HR1.out.at_ (k := 0) (by omega)
  obtain ⟨ad2, rfl, _, _⟩ := HR2.out.at_ (k := 0) (by omega)
  have HSet : Hid (Calls Try.prog 20 #[.agg #[.slice (some ad1) 5 c1, .slice (some ad2) 5 c2], .agg #[.int .i64 2, .int .i64 1, .int .u64 7, .int .u8 0, .int .u8 0, .int .u8 0, .int .u8 0, .int .u8 0, .int .u8 0, .int .u8 0, .int .u8 0]] w1 fun e w' => SetIs w1 w' e 5 (((zL 5).take 5).set 1 7) (((zS 2 5).take 5).set 1 (Crc.psum 2 1 7 [0, 0, 0, 0, 0, 0, 0, 0]))) :=
    Lib.hid (set_yes (zL 5) (zS 2 5) _ 5 c1 5 c2 ad1 ad2 2 1 7 0 0 0 0 0 0 0 0 5 z_bytes w1 HR1.out HR2.out (Nat.le_refl _) hc1 hc2 rfl (by omega) (by omega))
  refine HSet.out.mono ?_
  rintro e w2 ⟨g1, d1, g2, d2, rfl, _, _, _, _, _, hR1, hR2, hB⟩
  have HRa := Lib.hid hR1.reads
  have HRb := Lib.hid hR2.reads
  have HB2 := Lib.hid (HB1.out.trans (hB.mono HB1.out.size))
  clear hR1 hR2 hB
  go_wp2_with fail
  refine (bad_any _ _ [] [] [] _ 5 d1 5 d2 0 0 0 0 0 0 _ _ none none none 2 _ (Reads.alloc HRa.out (by simp) _) (Reads.alloc HRb.out (by simp) _) (ru_nil _ _ _) ⟨rfl, fun i hi => by omega, fun h => by omega⟩ (rl_nil _ _ _) (by simp) (by omega)).mono ?_
  rintro e w3 ⟨v, rfl, hO, hB⟩
  rw [show min 5 5 = 5 from rfl, awake_list] at hO
  obtain ⟨A, c, rfl, hr, _, _⟩ := hO.form' (n := 5) rfl
  have HR := Lib.hid hr
  have HB3 := Lib.hid ((HB2.out.alloc HB2.out.size _).trans (hB.mono (by have := HB2.out.size; simp; omega)))
  clear hO hr hB
  go_wp2_with fail
  have hz3 : w.heap.size ≤ w3.heap.size := HB3.out.size
  have hb2 : RL (w3.alloc (.cells #[.bool false, .bool true, .bool false, .bool false, .bool false] 4)) (w3.heap.size + 1) (some ⟨w3.heap.size, 0, none⟩) 5 [false, true, false, false, false] := reads_alloc w3 _ _ (0, 0) [.bool false, .bool true, .bool false, .bool false, .bool false] rfl
  have hb1 : RL (w3.alloc (.cells #[.bool false, .bool true, .bool false, .bool false, .bool false] 4)) (w3.heap.size + 1) A 5 [false, true, false, false, false] := Reads.more (Reads.alloc HR.out (Nat.le_refl _) _) (by omega)
  refine (bools_any _ _ _ 5 c 5 5 A _ _ hb1 hb2 (by simp) (by omega)).mono ?_
  rintro e w4 ⟨rfl, hB⟩
  have HB4 := Lib.hid ((HB3.out.alloc hz3 _).trans (hB.mono (by simp; omega)))
  rw [decide_eq_true rfl]
  clear hB hb1 hb2
  go_wp2
  go_ret
  exact ⟨rfl, HB4.out⟩

end Go.Proofs.Ytejhfollfmdmpaa

/- The walk over the statement PiecesumZero. -/
import Derived.Test.YtejhfollfmdmpaaP12
import Derived.Laws.MakeOwn
namespace Go.Proofs.Ytejhfollfmdmpaa
open Go.RowKit

theorem zero_bad (group : Int) (n i : Nat) (hi : i < n) : badB (zL n) (zS group n) group [] [] [] i = false := by
  have e1 : (zL n).getD i 0 = 0 := by rw [zL, List.getD_eq_getElem?_getD, List.getElem?_replicate]; split <;> rfl
  have e2 : (zS group n).getD i 0 = Crc.psum group (i : Int) 0 [0, 0, 0, 0, 0, 0, 0, 0] := by simp [zS, List.getD_eq_getElem?_getD, hi]
  have e3 : verAt [] [] i = 0 := by simp [verAt]
  have e4 : blkAt [] [] i = [0, 0, 0, 0, 0, 0, 0, 0] := by simp [blkAt]
  unfold badB goodB
  rw [e3, e4, Int.toNat_natCast, e1, e2, zL_length, zS_length]
  simp [hi]
theorem zero_list (group : Int) (n : Nat) : badL (zL n) (zS group n) group [] [] [] n = List.replicate n false := by
  unfold badL
  refine List.ext_getElem (by simp) fun i h1 h2 => ?_
  rw [List.getElem_map, List.getElem_range, List.getElem_replicate]
  exact zero_bad group n i (by simpa using h1)
theorem zero_good (group pg : Int) (n ver : Nat) (D : List Nat) (hv : ver ≠ 0) (pp : Int) : goodB (zL n) (zS group n) pg pp ver D = false := by
  unfold goodB
  refine decide_eq_false fun h => hv ?_
  have e1 : (zL n).getD pp.toNat 0 = 0 := by
    rw [List.getD_eq_getElem?_getD, zL, List.getElem?_replicate]
    split <;> rfl
  rw [← h.2.2.1, e1]
theorem made_false (n : Nat) : (madeCells (Value.bool false).cells (n * 1)).toList = List.replicate n (Value.bool false) := by
  rw [Nat.mul_one]
  refine List.ext_getElem (by simp [madeCells]) fun i h1 h2 => ?_
  simp [madeCells, Value.cells, Nat.mod_one]
theorem run_made {w : World} (n : Nat) (hn : n ≤ 65536) : (Instr.makeSlice 36 (.int .i64 (n : Int)) (.int .i64 (n : Int))).run Try.prog w = .ok (.slice (some ⟨w.heap.size, 0, none⟩) n n) (w.alloc (.cells (madeCells (Value.bool false).cells (n * 1)) 4)) := by
  obtain ⟨i0, hi0, hz0, hz1, hz2⟩ := info_parts boolInfo
  have h := run_make (P := Try.prog) w 36 4 i0 (.bool false) Try.underlying36 hi0 hz0 .i64 .i64 (n : Int) (n : Int) (by omega) (Int.le_refl _) (by rw [hz2]; omega) (by omega)
  rw [Int.toNat_natCast, hz1] at h
  exact h
theorem made_rl (w : World) (n : Nat) : RL (w.alloc (.cells (madeCells (Value.bool false).cells (n * 1)) 4)) (w.heap.size + 1) (some ⟨w.heap.size, 0, none⟩) n (List.replicate n false) := by
  have h := reads_alloc w (madeCells (Value.bool false).cells (n * 1)) 4 (0, 0) (List.replicate n (Value.bool false)) (made_false n)
  rw [List.length_replicate] at h
  unfold RL
  rw [List.map_replicate]
  exact h

set_option maxHeartbeats 1000000 in
theorem PiecesumZero_walk (group : Int) (width : Nat) (hw : width < 256) (pg pp : Int) (ver x0 x1 x2 x3 x4 x5 x6 x7 : Nat) (hx : Crc.Bytes [x0, x1, x2, x3, x4, x5, x6, x7]) (w : World) :
    Calls Try.prog 7 #[.int .i64 group, .int .u8 (width : Int), .agg #[.int .i64 pg, .int .i64 pp, .int .u64 (ver : Int), bv x0, bv x1, bv x2, bv x3, bv x4, bv x5, bv x6, bv x7]] w (True1 w) := by
  unfold True1
  obtain ⟨n, hn⟩ : ∃ n : Nat, (width : Int) % 16 + 1 = (n : Int) := ⟨((width : Int) % 16 + 1).toNat, by omega⟩
  obtain ⟨MC, hMC⟩ : ∃ MC, MC = madeCells (Value.bool false).cells (n * 1) := ⟨_, rfl⟩
  have hn1 : 1 ≤ n := by omega
  have hn2 : n ≤ 16 := by omega
  have hzn : zN (n : Int) = n := zN_yes hn1 hn2
  obtain ⟨w0, hw0⟩ : ∃ w0, w0 = w.alloc (.cells #[.int .i64 pg, .int .i64 pp, .int .u64 (ver : Int), bv x0, bv x1, bv x2, bv x3, bv x4, bv x5, bv x6, bv x7] 26) := ⟨_, rfl⟩
  have hE0 : Blk w0 w.heap.size 26 #[.int .i64 pg, .int .i64 pp, .int .u64 (ver : Int), bv x0, bv x1, bv x2, bv x3, bv x4, bv x5, bv x6, bv x7] := by rw [hw0]; exact Blk.new _ _ _
  have hB0 : Below w.heap.size w w0 := by rw [hw0]; exact (Below.refl _ _).alloc (Nat.le_refl _) _
  have HE0 := Lib.hid hE0
  have HB0 := Lib.hid hB0
  have Hw0 := Lib.hid hw0
  clear hw0 hE0 hB0
  go_enter Try.func7, Try.ntmps7
  go_wp2_with fail
  rw [← Hw0.out]
  refine (zero_any group n w0).mono ?_
  rintro e w1 ⟨A1, c1, A2, c2, rfl, hr1, hr2, hB, _⟩
  rw [hzn] at hr1 hr2 ⊢
  have hE1 := HE0.out.below hB HE0.out.lt
  have hB1 := HB0.out.trans (hB.mono HB0.out.size)
  obtain ⟨w2, hw2⟩ : ∃ w2, w2 = w1.alloc (.cells #[.slice A1 n c1, .slice A2 n c2] 32) := ⟨_, rfl⟩
  have hF2 : Blk w2 w1.heap.size 32 #[.slice A1 n c1, .slice A2 n c2] := by rw [hw2]; exact Blk.new _ _ _
  have hb2 : Below w1.heap.size w1 w2 := by rw [hw2]; exact (Below.refl _ _).alloc (Nat.le_refl _) _
  have hE2 := hE1.below hb2 hE1.lt
  have hR1 : RU w2 w1.heap.size A1 n (zL n) := Reads.below hr1 hb2
  have hR2 : RU w2 w1.heap.size A2 n (zS group n) := Reads.below hr2 hb2
  have hB2 : Below w.heap.size w w2 := hB1.trans (hb2.mono hB1.size)
  obtain ⟨St, HSt⟩ : ∃ St : World → Prop, ∀ W, St W ↔ (Blk W w.heap.size 26 #[.int .i64 pg, .int .i64 pp, .int .u64 (ver : Int), bv x0, bv x1, bv x2, bv x3, bv x4, bv x5, bv x6, bv x7] ∧ Blk W w1.heap.size 32 #[.slice A1 n c1, .slice A2 n c2] ∧ RU W w1.heap.size A1 n (zL n) ∧ RU W w1.heap.size A2 n (zS group n) ∧ w1.heap.size ≤ W.heap.size ∧ Below w.heap.size w W) := ⟨_, fun _ => Iff.rfl⟩
  have HT : Hid (∀ W W', St W → Below W.heap.size W W' → St W') := Lib.hid (fun W W' h hb => by
    obtain ⟨h1, h2, h3, h4, h5, h6⟩ := (HSt W).1 h
    exact (HSt W').2 ⟨h1.below hb h1.lt, h2.below hb h2.lt, h3.below (hb.mono h5), h4.below (hb.mono h5), by have := hb.size; omega, h6.trans (hb.mono h6.size)⟩)
  have HA : Hid (∀ W, St W → Calls Try.prog 10 #[] W fun e w' => e = .returned (.bool true) ∧ St w') := Lib.hid (fun W h => (awake_any W).mono fun e w' ⟨h1, h2⟩ => ⟨h1, HT.out W w' h h2⟩)
  have HP1 : Hid (∀ W, St W → Calls Try.prog 18 #[.agg #[.slice A1 n c1, .slice A2 n c2], .int .i64 group, .slice none 0 0, .slice none 0 0, .slice none 0 0] W fun e w' => ∃ A c, e = .returned (.slice A n c) ∧ St w' ∧ RL w' w'.heap.size A n (List.replicate n false) ∧ Below W.heap.size W w') := Lib.hid (fun W h => by
    obtain ⟨_, _, h3, h4, h5, _⟩ := (HSt W).1 h
    refine (bad_any (zL n) (zS group n) [] [] [] w1.heap.size n c1 n c2 0 0 0 0 0 0 A1 A2 none none none group W h3 h4 (ru_nil _ _ _) ⟨rfl, fun i hi => (by omega), fun h => (by omega)⟩ (rl_nil _ _ _) h5 (by omega)).mono ?_
    rintro e w' ⟨v, h1, h2, h3⟩
    rw [Nat.min_self, zero_list] at h2
    obtain ⟨A, c, rfl, h4, _⟩ := h2.form' (n := n) (by simp)
    exact ⟨A, c, h1, HT.out W w' h h3, h4, h3⟩)
  have HG : Hid (ver ≠ 0 → ∀ W, St W → Calls Try.prog 22 #[.agg #[.slice A1 n c1, .slice A2 n c2], .int .i64 group, .int .i64 pp, .int .u64 (ver : Int), .agg #[bv x0, bv x1, bv x2, bv x3, bv x4, bv x5, bv x6, bv x7]] W fun e w' => e = .returned (.bool false) ∧ St w') := Lib.hid (fun hv W h => by
    obtain ⟨_, _, h3, h4, h5, _⟩ := (HSt W).1 h
    refine (good_any (zL n) (zS group n) w1.heap.size n c1 n c2 A1 A2 group pp ver x0 x1 x2 x3 x4 x5 x6 x7 hx W h3 h4 h5).mono ?_
    rintro e w' ⟨h1, h2⟩
    rw [zero_good group group n ver _ hv pp] at h1
    exact ⟨h1, HT.out W w' h h2⟩)
  have HM : Hid (∀ W, St W → Below W.heap.size W (W.alloc (.cells (MC) 4)) ∧ St (W.alloc (.cells (MC) 4))) := Lib.hid (fun W h => by
    have hb : Below W.heap.size W (W.alloc (.cells (MC) 4)) := (Below.refl _ _).alloc (Nat.le_refl _) _
    exact ⟨hb, HT.out _ _ h hb⟩)
  have HL : Hid (∀ W, St W → W.cell? ⟨w1.heap.size, 0, none⟩ = some (.slice A1 n c1) ∧ W.cell? ⟨w1.heap.size, 1, none⟩ = some (.slice A2 n c2) ∧ St W) := Lib.hid (fun W h => ⟨((HSt W).1 h).2.1.cell 0, ((HSt W).1 h).2.1.cell 1, h⟩)
  have HS0 : Hid (St w2.drew) := Lib.hid ((HSt _).2 ⟨hE2, hF2, hR1, hR2, hb2.size, hB2.drew⟩)
  have HSB : Hid (∀ W, St W → Below w.heap.size w W) := Lib.hid (fun W h => ((HSt W).1 h).2.2.2.2.2)
  have HLw : Hid (∀ W, St W → W.cell? ⟨w.heap.size, 1, none⟩ = some (.int .i64 pp) ∧ W.cell? ⟨w.heap.size, 2, none⟩ = some (.int .u64 (ver : Int)) ∧ W.cell? ⟨w.heap.size, 3, none⟩ = some (bv x0) ∧ W.cell? ⟨w.heap.size, 4, none⟩ = some (bv x1) ∧ W.cell? ⟨w.heap.size, 5, none⟩ = some (bv x2) ∧ W.cell? ⟨w.heap.size, 6, none⟩ = some (bv x3) ∧ W.cell? ⟨w.heap.size, 7, none⟩ = some (bv x4) ∧ W.cell? ⟨w.heap.size, 8, none⟩ = some (bv x5) ∧ W.cell? ⟨w.heap.size, 9, none⟩ = some (bv x6) ∧ W.cell? ⟨w.heap.size, 10, none⟩ = some (bv x7)) := Lib.hid (fun W h => ⟨((HSt W).1 h).1.cell 1, ((HSt W).1 h).1.cell 2, ((HSt W).1 h).1.cell 3, ((HSt W).1 h).1.cell 4, ((HSt W).1 h).1.cell 5, ((HSt W).1 h).1.cell 6, ((HSt W).1 h).1.cell 7, ((HSt W).1 h).1.cell 8, ((HSt W).1 h).1.cell 9, ((HSt W).1 h).1.cell 10⟩)
  have Hw2 := Lib.hid hw2
  have qM : ∀ W : World, (Instr.makeSlice 36 (.int .i64 (n : Int)) (.int .i64 (n : Int))).run Try.prog W = .ok (.slice (some ⟨W.heap.size, 0, none⟩) n n) (W.alloc (.cells (MC) 4)) := fun W => by rw [hMC]; exact run_made n (by omega)
  have HMR : Hid (∀ W : World, RL (W.alloc (.cells MC 4)) (W.heap.size + 1) (some ⟨W.heap.size, 0, none⟩) n (List.replicate n false)) := Lib.hid (fun W => by rw [hMC]; exact made_rl W n)
  have HBo1 : Hid (∀ (W : World) (E : Option Addr) (d : Nat), St W → RL W W.heap.size E n (List.replicate n false) → Calls Try.prog 17 #[.slice E n d, .slice (some ⟨W.heap.size, 0, none⟩) n n] (W.alloc (.cells MC 4)) fun e w' => e = .returned (.bool true) ∧ St w') := Lib.hid (fun W E d hS hr => by
    have g1 : RL (W.alloc (.cells MC 4)) (W.heap.size + 1) E n (List.replicate n false) := Reads.more (Reads.alloc hr (Nat.le_refl _) _) (by omega)
    refine (bools_any _ _ (W.heap.size + 1) n d n n E _ _ g1 (HMR.out W) (by simp) (by omega)).mono ?_
    rintro e w' ⟨h1, h2⟩
    rw [decide_eq_true rfl] at h1
    exact ⟨h1, HT.out _ _ (HM.out _ hS).2 h2⟩)
  have HBo2 : Hid (∀ (W3 W : World) (E : Option Addr) (d : Nat), St W → Below (W3.alloc (.cells MC 4)).heap.size (W3.alloc (.cells MC 4)) W → RL W W.heap.size E n (List.replicate n false) → Calls Try.prog 17 #[.slice E n d, .slice (some ⟨W3.heap.size, 0, none⟩) n n] W fun e w' => e = .returned (.bool true) ∧ St w') := Lib.hid (fun W3 W E d hS hb hr => by
    have hz := hb.size
    have ez : (W3.alloc (.cells MC 4)).heap.size = W3.heap.size + 1 := by simp
    have g2 : RL W W.heap.size (some ⟨W3.heap.size, 0, none⟩) n (List.replicate n false) := Reads.more (Reads.below (HMR.out W3) (hb.mono (by omega))) (by omega)
    refine (bools_any _ _ W.heap.size n d n n E _ _ hr g2 (Nat.le_refl _) (by omega)).mono ?_
    rintro e w' ⟨h1, h2⟩
    rw [decide_eq_true rfl] at h1
    exact ⟨h1, HT.out _ _ hS h2⟩)
  clear hw2 HSt hE1 hF2 hE2 hB1 hB2 hb2 hR1 hR2 hr1 hr2 hB hx hn hzn hMC
  go_wp2_with fail
  rw [← Hw2.out]
  go_region_held3 (fun W => W.cell? ⟨w1.heap.size, 0, none⟩ = some (.slice A1 n c1) ∧ W.cell? ⟨w1.heap.size, 1, none⟩ = some (.slice A2 n c2) ∧ St W) (with_reducible first | exact HL.out _ HS0.out | exact HL.out _ (by assumption) | exact HL.out _ (HM.out _ (by assumption)).2)
    (first
      | (go_at_call 10; (with_reducible refine (HA.out _ HS0.out).mono ?_); rintro e w3 ⟨rfl, hS3⟩)
      | (go_at_call 18; (with_reducible refine (HP1.out _ (by first | assumption | exact (HM.out _ (by assumption)).2)).mono ?_); rintro e w4 ⟨E1, d1, rfl, hS4, r1, hb4⟩)
      | (go_at_call 17; (with_reducible first | refine (HBo1.out _ _ _ hS4 r1).mono ?_ | refine (HBo2.out _ _ _ _ hS4 hb4 r1).mono ?_); rintro e w6 ⟨rfl, hS6⟩))
  all_goals obtain ⟨k0, k1, _⟩ := HL.out _ hS6
  all_goals obtain ⟨g1, g2, g3, g4, g5, g6, g7, g8, g9, g10⟩ := HLw.out _ hS6
  all_goals have HS6 := Lib.hid hS6
  all_goals clear hS6
  all_goals by_cases hv : ver = 0
  all_goals try subst hv
  all_goals go_wp2_with fail
  all_goals try (refine (HG.out hv _ HS6.out).mono ?_; rintro e w7 ⟨rfl, hS7⟩; have HS7 := Lib.hid hS7; clear hS7)
  all_goals go_wp2
  all_goals go_ret
  all_goals first
    | exact ⟨rfl, HSB.out _ HS7.out⟩
    | exact ⟨rfl, HSB.out _ HS6.out⟩

end Go.Proofs.Ytejhfollfmdmpaa

/- The walk over the statement EntrySealed. -/
import Derived.Test.YtibmigeikkmofaaE12
namespace Go.Proofs.Ytibmigeikkmofaa
open Go.RowKit

theorem seal_good {r : List Nat} (hr : Crc.Bytes r) (h29 : r.length = 29) : Crc.num (((Crc.sealB r).drop 29).take 8) = Crc.sumS ((Crc.sealB r).take 29) := by
  have h : (Crc.sealB r).take 29 = r := by
    unfold Crc.sealB
    rw [List.take_append_of_le_length (by omega), List.take_of_length_le (by omega)]
  exact (seal_iff (Crc.sealB_bytes hr) (by rw [Crc.sealB_length, h29])).1 (by rw [h])

set_option maxHeartbeats 800000 in
theorem EntrySealed_walk (r : List Nat) (cs : Array Value) (hcs : cs = (r.map bv).toArray) (hrb : Crc.Bytes r) (h29 : r.length = 29) (w : World) :
    Calls Try.prog 5 #[.agg cs] w (True1 w) := by
  obtain ⟨w0, hw0⟩ : ∃ w0, w0 = w.alloc (.cells cs 36) := ⟨_, rfl⟩
  have hB0 : Below w.heap.size w w0 := by rw [hw0]; exact (Below.refl _ _).alloc (Nat.le_refl _) _
  have hA0 : RB w0 w0.heap.size (some ⟨w.heap.size, 0, none⟩) 29 r := by
    have h := rb_of_blk (w := w0) (g := w.heap.size) (t := 36) (off := 0) (cs := cs) (l := r) (by rw [hw0]; exact Blk.new _ _ _) (fun j hj => by
      rw [hcs, Nat.zero_add, List.getElem?_toArray, List.getElem?_map, List.getElem?_eq_getElem hj, List.getD_eq_getElem?_getD, List.getElem?_eq_getElem hj]
      rfl)
    rwa [h29] at h
  have hz0 : w.heap.size ≤ w0.heap.size := by rw [hw0]; simp
  have hsz : cs.size = 29 := by rw [hcs]; simp [h29]
  have hgood := seal_good hrb h29
  have hSB := Crc.sealB_bytes hrb
  have hSl : (Crc.sealB r).length = 37 := by rw [Crc.sealB_length, h29]
  have HS := Lib.hid (rseal_any r hrb w0.heap.size 29 29 (some ⟨w.heap.size, 0, none⟩) w0 hA0 (Nat.le_refl _) (by omega))
  have HB0 := Lib.hid hB0
  have Hw0 := Lib.hid hw0
  have heq8 := eq_same8
  have hcv : ∀ W B A c, RB W B A 37 (Crc.sealB r) → (convert 27 9 (.slice A 37 c)).run Try.prog W = .ok (.string (bstr (Crc.sealB r))) W := fun W B A c h => run_convert_rb 27 5 9 c Try.underlying27 Try.underlying5 Try.underlying9 h
  have HCV := Lib.hid hcv
  have tt : ((bstr (Crc.sealB r)).toList == (bstr (Crc.sealB r)).toList) = true := beq_self_eq_true _
  have HG := Lib.hid (dec_good _ hSB hSl hgood)
  have HSl := Lib.hid hSl
  clear hB0 hA0 hw0 hcv hcs hrb hgood hSB hSl
  go_enter Try.func5, Try.ntmps5
  go_wp2_with fail
  rw [← Hw0.out]
  refine HS.out.mono ?_
  rintro e w1 ⟨v, rfl, hO, hB⟩
  obtain ⟨A, c, rfl, hr, hc, _⟩ := hO.form' (n := 37) HSl.out
  have HR1 : Hid (RB w1 w1.heap.size A 37 (Crc.sealB r)) := Lib.hid hr
  have HB1 := Lib.hid (HB0.out.trans (hB.mono hz0))
  have hz1 : w.heap.size ≤ w1.heap.size := Nat.le_trans hz0 hB.size
  clear hO hB hr
  go_wp2_with fail
  rcases HG.out with ⟨k, b, ver, x0, x1, x2, x3, x4, x5, x6, x7, time, hd, hk, hb, hv, hx, henc⟩ | hd
  · unfold DecIs at hd
    rw [HSl.out] at hd
    have HDEC := Lib.hid hd
    have HV := Lib.hid hv
    have HX := Lib.hid hx
    have HENC := Lib.hid henc
    clear hd hv hx henc HG
    refine (HDEC.out.1 _ c A w1 HR1.out (Nat.le_refl _) hc).mono ?_
    rintro e w2 ⟨rfl, hB⟩
    have HR2 := Lib.hid (HR1.out.below hB)
    have HB2 := Lib.hid (HB1.out.trans (hB.mono hz1))
    have hz2 := hB.size
    clear hB
    have hbv : ∀ b : Nat, bv b = Value.int .u8 (b : Int) := fun _ => rfl
    go_wp2_with fail
    clear hbv
    refine (HDEC.out.2 _ c A _ (Reads.alloc HR2.out hz2 (.cells #[.int .i64 (k : Int), .int .i64 (b : Int), .int .u64 (ver : Int), bv x0, bv x1, bv x2, bv x3, bv x4, bv x5, bv x6, bv x7] 26)) (by simp; omega) hc).mono ?_
    rintro e w3 ⟨rfl, hB⟩
    have HE3 := Lib.hid ((Blk.new w2 26 #[.int .i64 (k : Int), .int .i64 (b : Int), .int .u64 (ver : Int), bv x0, bv x1, bv x2, bv x3, bv x4, bv x5, bv x6, bv x7]).below hB (by simp))
    have HR3 := Lib.hid (RB.below (Reads.alloc HR2.out hz2 (.cells #[.int .i64 (k : Int), .int .i64 (b : Int), .int .u64 (ver : Int), bv x0, bv x1, bv x2, bv x3, bv x4, bv x5, bv x6, bv x7] 26)) (hB.mono (by simp; omega)))
    have HB3 := Lib.hid ((HB2.out.alloc (by omega) (.cells #[.int .i64 (k : Int), .int .i64 (b : Int), .int .u64 (ver : Int), bv x0, bv x1, bv x2, bv x3, bv x4, bv x5, bv x6, bv x7] 26)).trans (hB.mono (by simp; omega)))
    have hz3 : w2.heap.size < w3.heap.size := HE3.out.lt
    clear hB
    have hbv : ∀ b : Nat, bv b = Value.int .u8 (b : Int) := fun _ => rfl
    go_wp2_with fail
    clear hbv
    refine (awake_any _).mono ?_
    rintro e w4 ⟨rfl, hB⟩
    have hE4 := (HE3.out.alloc (.cells #[.int .i64 (k : Int), .int .i64 (b : Int), .int .u64 (ver : Int), bv x0, bv x1, bv x2, bv x3, bv x4, bv x5, bv x6, bv x7] 26)).below hB (by simp; omega)
    have hS4 := (Blk.new w3 26 #[.int .i64 (k : Int), .int .i64 (b : Int), .int .u64 (ver : Int), bv x0, bv x1, bv x2, bv x3, bv x4, bv x5, bv x6, bv x7]).below hB (by simp)
    have HR4 := Lib.hid (RB.below (Reads.alloc HR3.out (by omega) (.cells #[.int .i64 (k : Int), .int .i64 (b : Int), .int .u64 (ver : Int), bv x0, bv x1, bv x2, bv x3, bv x4, bv x5, bv x6, bv x7] 26)) (hB.mono (by simp; omega)))
    have HB4 := Lib.hid ((HB3.out.alloc (by omega) (.cells #[.int .i64 (k : Int), .int .i64 (b : Int), .int .u64 (ver : Int), bv x0, bv x1, bv x2, bv x3, bv x4, bv x5, bv x6, bv x7] 26)).trans (hB.mono (by simp; omega)))
    have hz4 : w3.heap.size < w4.heap.size := hS4.lt
    have g0 : w4.cell? ⟨w2.heap.size, 0, none⟩ = some (.int .i64 (k : Int)) := hE4.cell 0
    have s0 : w4.cell? ⟨w3.heap.size, 0, none⟩ = some (.int .i64 (k : Int)) := hS4.cell 0
    have g1 : w4.cell? ⟨w2.heap.size, 1, none⟩ = some (.int .i64 (b : Int)) := hE4.cell 1
    have s1 : w4.cell? ⟨w3.heap.size, 1, none⟩ = some (.int .i64 (b : Int)) := hS4.cell 1
    have g2 : w4.cell? ⟨w2.heap.size, 2, none⟩ = some (.int .u64 (ver : Int)) := hE4.cell 2
    have s2 : w4.cell? ⟨w3.heap.size, 2, none⟩ = some (.int .u64 (ver : Int)) := hS4.cell 2
    have g3 : w4.cell? ⟨w2.heap.size, 3, none⟩ = some (bv x0) := hE4.cell 3
    have s3 : w4.cell? ⟨w3.heap.size, 3, none⟩ = some (bv x0) := hS4.cell 3
    have g4 : w4.cell? ⟨w2.heap.size, 4, none⟩ = some (bv x1) := hE4.cell 4
    have s4 : w4.cell? ⟨w3.heap.size, 4, none⟩ = some (bv x1) := hS4.cell 4
    have g5 : w4.cell? ⟨w2.heap.size, 5, none⟩ = some (bv x2) := hE4.cell 5
    have s5 : w4.cell? ⟨w3.heap.size, 5, none⟩ = some (bv x2) := hS4.cell 5
    have g6 : w4.cell? ⟨w2.heap.size, 6, none⟩ = some (bv x3) := hE4.cell 6
    have s6 : w4.cell? ⟨w3.heap.size, 6, none⟩ = some (bv x3) := hS4.cell 6
    have g7 : w4.cell? ⟨w2.heap.size, 7, none⟩ = some (bv x4) := hE4.cell 7
    have s7 : w4.cell? ⟨w3.heap.size, 7, none⟩ = some (bv x4) := hS4.cell 7
    have g8 : w4.cell? ⟨w2.heap.size, 8, none⟩ = some (bv x5) := hE4.cell 8
    have s8 : w4.cell? ⟨w3.heap.size, 8, none⟩ = some (bv x5) := hS4.cell 8
    have g9 : w4.cell? ⟨w2.heap.size, 9, none⟩ = some (bv x6) := hE4.cell 9
    have s9 : w4.cell? ⟨w3.heap.size, 9, none⟩ = some (bv x6) := hS4.cell 9
    have g10 : w4.cell? ⟨w2.heap.size, 10, none⟩ = some (bv x7) := hE4.cell 10
    have s10 : w4.cell? ⟨w3.heap.size, 10, none⟩ = some (bv x7) := hS4.cell 10
    clear hB hE4 hS4
    have heq8 := heq8 x0 x1 x2 x3 x4 x5 x6 x7
    go_wp2_with fail
    refine (encode_sl k b ver x0 x1 x2 x3 x4 x5 x6 x7 time hk hb HX.out HV.out w4).mono ?_
    rintro e w5 ⟨A5, c5, rfl, hr5, hc5, hB⟩
    rw [HENC.out] at hr5
    have hcv5 := HCV.out w5 _ _ c5 hr5
    have hcvb := HCV.out w5 _ _ c (HR4.out.below (hB.mono (by omega)))
    have HB5 := Lib.hid (HB4.out.trans (hB.mono (by omega)))
    clear hB hr5 g0 g1 g2 g3 g4 g5 g6 g7 g8 g9 g10 s0 s1 s2 s3 s4 s5 s6 s7 s8 s9 s10 heq8
    go_wp2
    go_ret
    exact ⟨rfl, HB5.out⟩
  · unfold DecIs at hd
    rw [HSl.out] at hd
    have HDEC := Lib.hid hd
    clear hd HG
    refine (HDEC.out.1 _ c A w1 HR1.out (Nat.le_refl _) hc).mono ?_
    rintro e w2 ⟨rfl, hB⟩
    have HR2 := Lib.hid (HR1.out.below hB)
    have HB2 := Lib.hid (HB1.out.trans (hB.mono hz1))
    have hz2 := hB.size
    clear hB
    have hbv : ∀ b : Nat, bv b = Value.int .u8 (b : Int) := fun _ => rfl
    go_wp2_with fail
    clear hbv
    refine (HDEC.out.2 _ c A _ (Reads.alloc HR2.out hz2 (.cells #[.int .i64 0, .int .i64 0, .int .u64 ((0 : Nat) : Int), bv 0, bv 0, bv 0, bv 0, bv 0, bv 0, bv 0, bv 0] 26)) (by simp; omega) hc).mono ?_
    rintro e w3 ⟨rfl, hB⟩
    have HE3 := Lib.hid ((Blk.new w2 26 #[.int .i64 0, .int .i64 0, .int .u64 ((0 : Nat) : Int), bv 0, bv 0, bv 0, bv 0, bv 0, bv 0, bv 0, bv 0]).below hB (by simp))
    have HR3 := Lib.hid (RB.below (Reads.alloc HR2.out hz2 (.cells #[.int .i64 0, .int .i64 0, .int .u64 ((0 : Nat) : Int), bv 0, bv 0, bv 0, bv 0, bv 0, bv 0, bv 0, bv 0] 26)) (hB.mono (by simp; omega)))
    have HB3 := Lib.hid ((HB2.out.alloc (by omega) (.cells #[.int .i64 0, .int .i64 0, .int .u64 ((0 : Nat) : Int), bv 0, bv 0, bv 0, bv 0, bv 0, bv 0, bv 0, bv 0] 26)).trans (hB.mono (by simp; omega)))
    have hz3 : w2.heap.size < w3.heap.size := HE3.out.lt
    clear hB
    have hbv : ∀ b : Nat, bv b = Value.int .u8 (b : Int) := fun _ => rfl
    go_wp2_with fail
    clear hbv
    refine (awake_any _).mono ?_
    rintro e w4 ⟨rfl, hB⟩
    have hE4 := (HE3.out.alloc (.cells #[.int .i64 0, .int .i64 0, .int .u64 ((0 : Nat) : Int), bv 0, bv 0, bv 0, bv 0, bv 0, bv 0, bv 0, bv 0] 26)).below hB (by simp; omega)
    have hS4 := (Blk.new w3 26 #[.int .i64 0, .int .i64 0, .int .u64 ((0 : Nat) : Int), bv 0, bv 0, bv 0, bv 0, bv 0, bv 0, bv 0, bv 0]).below hB (by simp)
    have HR4 := Lib.hid (RB.below (Reads.alloc HR3.out (by omega) (.cells #[.int .i64 0, .int .i64 0, .int .u64 ((0 : Nat) : Int), bv 0, bv 0, bv 0, bv 0, bv 0, bv 0, bv 0, bv 0] 26)) (hB.mono (by simp; omega)))
    have HB4 := Lib.hid ((HB3.out.alloc (by omega) (.cells #[.int .i64 0, .int .i64 0, .int .u64 ((0 : Nat) : Int), bv 0, bv 0, bv 0, bv 0, bv 0, bv 0, bv 0, bv 0] 26)).trans (hB.mono (by simp; omega)))
    have hz4 : w3.heap.size < w4.heap.size := hS4.lt
    have g0 : w4.cell? ⟨w2.heap.size, 0, none⟩ = some (.int .i64 0) := hE4.cell 0
    have s0 : w4.cell? ⟨w3.heap.size, 0, none⟩ = some (.int .i64 0) := hS4.cell 0
    have g1 : w4.cell? ⟨w2.heap.size, 1, none⟩ = some (.int .i64 0) := hE4.cell 1
    have s1 : w4.cell? ⟨w3.heap.size, 1, none⟩ = some (.int .i64 0) := hS4.cell 1
    have g2 : w4.cell? ⟨w2.heap.size, 2, none⟩ = some (.int .u64 ((0 : Nat) : Int)) := hE4.cell 2
    have s2 : w4.cell? ⟨w3.heap.size, 2, none⟩ = some (.int .u64 ((0 : Nat) : Int)) := hS4.cell 2
    have g3 : w4.cell? ⟨w2.heap.size, 3, none⟩ = some (bv 0) := hE4.cell 3
    have s3 : w4.cell? ⟨w3.heap.size, 3, none⟩ = some (bv 0) := hS4.cell 3
    have g4 : w4.cell? ⟨w2.heap.size, 4, none⟩ = some (bv 0) := hE4.cell 4
    have s4 : w4.cell? ⟨w3.heap.size, 4, none⟩ = some (bv 0) := hS4.cell 4
    have g5 : w4.cell? ⟨w2.heap.size, 5, none⟩ = some (bv 0) := hE4.cell 5
    have s5 : w4.cell? ⟨w3.heap.size, 5, none⟩ = some (bv 0) := hS4.cell 5
    have g6 : w4.cell? ⟨w2.heap.size, 6, none⟩ = some (bv 0) := hE4.cell 6
    have s6 : w4.cell? ⟨w3.heap.size, 6, none⟩ = some (bv 0) := hS4.cell 6
    have g7 : w4.cell? ⟨w2.heap.size, 7, none⟩ = some (bv 0) := hE4.cell 7
    have s7 : w4.cell? ⟨w3.heap.size, 7, none⟩ = some (bv 0) := hS4.cell 7
    have g8 : w4.cell? ⟨w2.heap.size, 8, none⟩ = some (bv 0) := hE4.cell 8
    have s8 : w4.cell? ⟨w3.heap.size, 8, none⟩ = some (bv 0) := hS4.cell 8
    have g9 : w4.cell? ⟨w2.heap.size, 9, none⟩ = some (bv 0) := hE4.cell 9
    have s9 : w4.cell? ⟨w3.heap.size, 9, none⟩ = some (bv 0) := hS4.cell 9
    have g10 : w4.cell? ⟨w2.heap.size, 10, none⟩ = some (bv 0) := hE4.cell 10
    have s10 : w4.cell? ⟨w3.heap.size, 10, none⟩ = some (bv 0) := hS4.cell 10
    clear hB hE4 hS4
    have heq8 := heq8 0 0 0 0 0 0 0 0
    go_wp2
    go_ret
    exact ⟨rfl, HB4.out⟩

end Go.Proofs.Ytibmigeikkmofaa

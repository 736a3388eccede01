/- Walks over the statements EntryInverse, EntryTorn, EntryChanged. -/
import Derived.Test.YtibmigeikkmofaaE7
namespace Go.Proofs.Ytibmigeikkmofaa
open Go.RowKit

theorem dec_enc (k b ver x0 x1 x2 x3 x4 x5 x6 x7 time : Nat) (hk : k < 256) (hb : b < 65536) (hver : ver < 18446744073709551616) (htime : time < 18446744073709551616) (hx : Crc.Bytes [x0, x1, x2, x3, x4, x5, x6, x7])
    (hv : validB (k : Int) (b : Int) ver [x0, x1, x2, x3, x4, x5, x6, x7] = true) (B c : Nat) (A : Option Addr) (w : World) (hr : RB w B A 37 (Crc.encB k b ver [x0, x1, x2, x3, x4, x5, x6, x7] time)) (hB : B ≤ w.heap.size) (hc : 37 ≤ c) :
    Calls Try.prog 12 #[.slice A 37 c] w fun e w' => e = .returned (.tuple #[.agg #[.int .i64 (k : Int), .int .i64 (b : Int), .int .u64 (ver : Int), bv x0, bv x1, bv x2, bv x3, bv x4, bv x5, bv x6, bv x7], .int .u64 (time : Int), .int .i64 0]) ∧ Below w.heap.size w w' :=
  decode_rest (Crc.encB k b ver [x0, x1, x2, x3, x4, x5, x6, x7] time) (Crc.sealB_bytes (Crc.bodyB_bytes hx)) B c A w hr hB hc (Crc.enc_sum_num rfl hx) k b ver time x0 x1 x2 x3 x4 x5 x6 x7 (by rw [Crc.enc_kd]; exact Nat.mod_eq_of_lt hk) (by rw [Crc.enc_bl]; exact Crc.num_leb4 (by omega)) (by rw [Crc.enc_ver]; exact Crc.num_leb8 hver) (by rw [Crc.enc_time rfl]; exact Crc.num_leb8 htime) (Crc.enc_D rfl) true hv
theorem eq_same8 (x0 x1 x2 x3 x4 x5 x6 x7 : Nat) (w : World) :
    (Op.equalIn 9999 24 (.agg #[bv x0, bv x1, bv x2, bv x3, bv x4, bv x5, bv x6, bv x7]) (.agg #[bv x0, bv x1, bv x2, bv x3, bv x4, bv x5, bv x6, bv x7])).run Try.prog w = .ok true w := by
  obtain ⟨i0, hi0, hz0, hz1, hz2⟩ := info_parts byteInfo
  rw [run_equalIn_bytes8 w 9997 24 5 i0 Try.underlying24 Try.underlying5 hi0 hz1 x0 x1 x2 x3 x4 x5 x6 x7 x0 x1 x2 x3 x4 x5 x6 x7, decide_eq_true rfl]

section
variable (kd bl : Int) (ver x0 x1 x2 x3 x4 x5 x6 x7 time : Nat) (w : World)

set_option maxHeartbeats 800000 in
theorem EntryInverse_walk (hver : ver < 18446744073709551616) (htime : time < 18446744073709551616) (hx : Crc.Bytes [x0, x1, x2, x3, x4, x5, x6, x7]) :
    Calls Try.prog 6 #[.agg #[.int .i64 kd, .int .i64 bl, .int .u64 (ver : Int), bv x0, bv x1, bv x2, bv x3, bv x4, bv x5, bv x6, bv x7], .int .u64 (time : Int)] w (True1 w) := by
  have heq8 := eq_same8 x0 x1 x2 x3 x4 x5 x6 x7
  obtain ⟨w0, hw0⟩ : ∃ w0, w0 = w.alloc (.cells #[.int .i64 kd, .int .i64 bl, .int .u64 (ver : Int), bv x0, bv x1, bv x2, bv x3, bv x4, bv x5, bv x6, bv x7] 26) := ⟨_, rfl⟩
  have hE0 : Blk w0 w.heap.size 26 (entCells kd bl ver x0 x1 x2 x3 x4 x5 x6 x7) := by rw [hw0]; exact Blk.new _ _ _
  have hB0 : Below w.heap.size w w0 := by rw [hw0]; exact (Below.refl _ _).alloc (Nat.le_refl _) _
  have hz0 : w.heap.size < w0.heap.size := hE0.lt
  have HE0 := Lib.hid hE0
  have HB0 := Lib.hid hB0
  have Hw0 := Lib.hid hw0
  clear hE0 hB0
  by_cases hv : validB kd bl ver [x0, x1, x2, x3, x4, x5, x6, x7] = true
  · obtain ⟨k, b, rfl, rfl, hk, hb⟩ := valid_nat hv
    have HV := Lib.hid hv
    have HX := Lib.hid hx
    clear hv hx hw0
    go_enter Try.func6, Try.ntmps6
    go_wp2_with fail
    rw [← Hw0.out]
    refine (encode_sl k b ver x0 x1 x2 x3 x4 x5 x6 x7 time hk hb HX.out HV.out w0).mono ?_
    rintro e w1 ⟨A, c, rfl, hr, hc, hB⟩
    have HE1 := Lib.hid (HE0.out.below hB hz0)
    have HR1 := Lib.hid hr
    have HB1 := Lib.hid (HB0.out.trans (hB.mono (Nat.le_of_lt hz0)))
    have hz1 : w.heap.size < w1.heap.size := by have := hB.size; omega
    clear hr hB
    go_wp2_with fail
    refine (dec_enc k b ver x0 x1 x2 x3 x4 x5 x6 x7 time hk hb hver htime HX.out HV.out _ c A w1 HR1.out (Nat.le_refl _) hc).mono ?_
    rintro e w2 ⟨rfl, hB⟩
    have HE2 := Lib.hid (HE1.out.below hB hz1)
    have HB2 := Lib.hid (HB1.out.trans (hB.mono (Nat.le_of_lt hz1)))
    have hz2 : w.heap.size < w2.heap.size := by have := hB.size; omega
    clear hB
    have hbv : ∀ b : Nat, bv b = Value.int .u8 (b : Int) := fun _ => rfl
    go_wp2_with fail
    clear hbv
    refine (awake_any _).mono ?_
    rintro e w3 ⟨rfl, hB⟩
    have hE3 := (HE2.out.alloc (.cells (entCells k b ver x0 x1 x2 x3 x4 x5 x6 x7) 26)).below hB (by simp; omega)
    have HS3 := Lib.hid ((Blk.new w2 26 (entCells k b ver x0 x1 x2 x3 x4 x5 x6 x7)).below hB (by simp))
    have HB3 := Lib.hid ((HB2.out.alloc (Nat.le_of_lt hz2) (.cells (entCells k b ver x0 x1 x2 x3 x4 x5 x6 x7) 26)).trans (hB.mono (by simp; omega)))
    have hz3 : w2.heap.size < w3.heap.size := HS3.out.lt
    have g0 : w3.cell? ⟨w.heap.size, 0, none⟩ = some (.int .i64 (k : Int)) := hE3.cell 0
    have g1 : w3.cell? ⟨w.heap.size, 1, none⟩ = some (.int .i64 (b : Int)) := hE3.cell 1
    have g2 : w3.cell? ⟨w.heap.size, 2, none⟩ = some (.int .u64 (ver : Int)) := hE3.cell 2
    have g3 : w3.cell? ⟨w.heap.size, 3, none⟩ = some (bv x0) := hE3.cell 3
    have g4 : w3.cell? ⟨w.heap.size, 4, none⟩ = some (bv x1) := hE3.cell 4
    have g5 : w3.cell? ⟨w.heap.size, 5, none⟩ = some (bv x2) := hE3.cell 5
    have g6 : w3.cell? ⟨w.heap.size, 6, none⟩ = some (bv x3) := hE3.cell 6
    have g7 : w3.cell? ⟨w.heap.size, 7, none⟩ = some (bv x4) := hE3.cell 7
    have g8 : w3.cell? ⟨w.heap.size, 8, none⟩ = some (bv x5) := hE3.cell 8
    have g9 : w3.cell? ⟨w.heap.size, 9, none⟩ = some (bv x6) := hE3.cell 9
    have g10 : w3.cell? ⟨w.heap.size, 10, none⟩ = some (bv x7) := hE3.cell 10
    have HE3 := Lib.hid hE3
    clear hB hE3
    go_wp2_with fail
    refine (rvalid_any (k : Int) (b : Int) ver x0 x1 x2 x3 x4 x5 x6 x7 w3).mono ?_
    rintro e w4 ⟨rfl, hB⟩
    rw [HV.out]
    clear g0 g1 g2 g3 g4 g5 g6 g7 g8 g9 g10
    have hE4 := HE3.out.below hB (by omega)
    have hS4 := HS3.out.below hB hz3
    have HB4 := Lib.hid (HB3.out.trans (hB.mono (by omega)))
    have g0 : w4.cell? ⟨w.heap.size, 0, none⟩ = some (.int .i64 (k : Int)) := hE4.cell 0
    have g1 : w4.cell? ⟨w.heap.size, 1, none⟩ = some (.int .i64 (b : Int)) := hE4.cell 1
    have g2 : w4.cell? ⟨w.heap.size, 2, none⟩ = some (.int .u64 (ver : Int)) := hE4.cell 2
    have g3 : w4.cell? ⟨w.heap.size, 3, none⟩ = some (bv x0) := hE4.cell 3
    have g4 : w4.cell? ⟨w.heap.size, 4, none⟩ = some (bv x1) := hE4.cell 4
    have g5 : w4.cell? ⟨w.heap.size, 5, none⟩ = some (bv x2) := hE4.cell 5
    have g6 : w4.cell? ⟨w.heap.size, 6, none⟩ = some (bv x3) := hE4.cell 6
    have g7 : w4.cell? ⟨w.heap.size, 7, none⟩ = some (bv x4) := hE4.cell 7
    have g8 : w4.cell? ⟨w.heap.size, 8, none⟩ = some (bv x5) := hE4.cell 8
    have g9 : w4.cell? ⟨w.heap.size, 9, none⟩ = some (bv x6) := hE4.cell 9
    have g10 : w4.cell? ⟨w.heap.size, 10, none⟩ = some (bv x7) := hE4.cell 10
    have s0 : w4.cell? ⟨w2.heap.size, 0, none⟩ = some (.int .i64 (k : Int)) := hS4.cell 0
    have s1 : w4.cell? ⟨w2.heap.size, 1, none⟩ = some (.int .i64 (b : Int)) := hS4.cell 1
    have s2 : w4.cell? ⟨w2.heap.size, 2, none⟩ = some (.int .u64 (ver : Int)) := hS4.cell 2
    have s3 : w4.cell? ⟨w2.heap.size, 3, none⟩ = some (bv x0) := hS4.cell 3
    have s4 : w4.cell? ⟨w2.heap.size, 4, none⟩ = some (bv x1) := hS4.cell 4
    have s5 : w4.cell? ⟨w2.heap.size, 5, none⟩ = some (bv x2) := hS4.cell 5
    have s6 : w4.cell? ⟨w2.heap.size, 6, none⟩ = some (bv x3) := hS4.cell 6
    have s7 : w4.cell? ⟨w2.heap.size, 7, none⟩ = some (bv x4) := hS4.cell 7
    have s8 : w4.cell? ⟨w2.heap.size, 8, none⟩ = some (bv x5) := hS4.cell 8
    have s9 : w4.cell? ⟨w2.heap.size, 9, none⟩ = some (bv x6) := hS4.cell 9
    have s10 : w4.cell? ⟨w2.heap.size, 10, none⟩ = some (bv x7) := hS4.cell 10
    clear hB hE4 hS4
    go_wp2
    go_ret
    exact ⟨rfl, HB4.out⟩
  · have HV := Lib.hid (Bool.eq_false_iff.2 hv)
    clear hv hx hw0
    go_enter Try.func6, Try.ntmps6
    go_wp2_with fail
    rw [← Hw0.out]
    refine (encode_no kd bl ver x0 x1 x2 x3 x4 x5 x6 x7 time HV.out w0).mono ?_
    rintro e w1 ⟨rfl, hB⟩
    have HE1 := Lib.hid (HE0.out.below hB hz0)
    have HB1 := Lib.hid (HB0.out.trans (hB.mono (Nat.le_of_lt hz0)))
    have hz1 : w.heap.size < w1.heap.size := by have := hB.size; omega
    clear hB
    go_wp2_with fail
    refine (decode_len 0 0 none w1 (by omega)).mono ?_
    rintro e w2 ⟨rfl, hB⟩
    have HE2 := Lib.hid (HE1.out.below hB hz1)
    have HB2 := Lib.hid (HB1.out.trans (hB.mono (Nat.le_of_lt hz1)))
    have hz2 : w.heap.size < w2.heap.size := by have := hB.size; omega
    clear hB
    unfold noEnt
    go_wp2_with fail
    refine (awake_any _).mono ?_
    rintro e w3 ⟨rfl, hB⟩
    have hE3 := (HE2.out.alloc (.cells #[.int .i64 0, .int .i64 0, .int .u64 0, .int .u8 0, .int .u8 0, .int .u8 0, .int .u8 0, .int .u8 0, .int .u8 0, .int .u8 0, .int .u8 0] 26)).below hB (by simp; omega)
    have HB3 := Lib.hid ((HB2.out.alloc (Nat.le_of_lt hz2) (.cells #[.int .i64 0, .int .i64 0, .int .u64 0, .int .u8 0, .int .u8 0, .int .u8 0, .int .u8 0, .int .u8 0, .int .u8 0, .int .u8 0, .int .u8 0] 26)).trans (hB.mono (by simp; omega)))
    have hz3 : w.heap.size < w3.heap.size := hE3.lt
    have g0 : w3.cell? ⟨w.heap.size, 0, none⟩ = some (.int .i64 kd) := hE3.cell 0
    have g1 : w3.cell? ⟨w.heap.size, 1, none⟩ = some (.int .i64 bl) := hE3.cell 1
    have g2 : w3.cell? ⟨w.heap.size, 2, none⟩ = some (.int .u64 (ver : Int)) := hE3.cell 2
    have g3 : w3.cell? ⟨w.heap.size, 3, none⟩ = some (bv x0) := hE3.cell 3
    have g4 : w3.cell? ⟨w.heap.size, 4, none⟩ = some (bv x1) := hE3.cell 4
    have g5 : w3.cell? ⟨w.heap.size, 5, none⟩ = some (bv x2) := hE3.cell 5
    have g6 : w3.cell? ⟨w.heap.size, 6, none⟩ = some (bv x3) := hE3.cell 6
    have g7 : w3.cell? ⟨w.heap.size, 7, none⟩ = some (bv x4) := hE3.cell 7
    have g8 : w3.cell? ⟨w.heap.size, 8, none⟩ = some (bv x5) := hE3.cell 8
    have g9 : w3.cell? ⟨w.heap.size, 9, none⟩ = some (bv x6) := hE3.cell 9
    have g10 : w3.cell? ⟨w.heap.size, 10, none⟩ = some (bv x7) := hE3.cell 10
    clear hB hE3
    go_wp2_with fail
    refine (rvalid_any kd bl ver x0 x1 x2 x3 x4 x5 x6 x7 w3).mono ?_
    rintro e w4 ⟨rfl, hB⟩
    rw [HV.out]
    have HB4 := Lib.hid (HB3.out.trans (hB.mono (by omega)))
    have hz4 := hB.size
    clear hB g0 g1 g2 g3 g4 g5 g6 g7 g8 g9 g10
    go_wp2_with fail
    refine (awake_any w4).mono ?_
    rintro e w5 ⟨rfl, hB⟩
    have HB5 := Lib.hid (HB4.out.trans (hB.mono (by omega)))
    clear hB
    go_wp2
    go_ret
    exact ⟨rfl, HB5.out⟩

end

end Go.Proofs.Ytibmigeikkmofaa

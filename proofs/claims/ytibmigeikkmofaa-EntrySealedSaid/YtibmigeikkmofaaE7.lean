/- Walks over 'awake' and the statements EntryEncode, EntryInverse, EntryChanged, EntryTorn. -/
import Derived.Test.YtibmigeikkmofaaE4
import Derived.Test.YtibmigeikkmofaaE6
import Derived.Test.YtibmigeikkmofaaEnt2
namespace Go.Proofs.Ytibmigeikkmofaa
open Go.RowKit

/-- A law's end: it returns true, and what was there is as it was. -/
def True1 (w : World) (e : Ending) (w' : World) : Prop := e = .returned (.bool true) ∧ Below w.heap.size w w'
theorem ret_bool {b : Bool} (h : b = true) : Ending.returned (.bool b) = .returned (.bool true) := by rw [h]

theorem encode_sl (k b ver x0 x1 x2 x3 x4 x5 x6 x7 time : Nat) (hk : k < 256) (hb : b < 65536) (hx : Crc.Bytes [x0, x1, x2, x3, x4, x5, x6, x7])
    (hv : validB (k : Int) (b : Int) ver [x0, x1, x2, x3, x4, x5, x6, x7] = true) (w : World) :
    Calls Try.prog 9 #[.agg #[.int .i64 (k : Int), .int .i64 (b : Int), .int .u64 (ver : Int), bv x0, bv x1, bv x2, bv x3, bv x4, bv x5, bv x6, bv x7], .int .u64 (time : Int)] w fun e w' =>
      ∃ A c, e = .returned (.tuple #[.slice A 37 c, .int .i64 0]) ∧ RB w' w'.heap.size A 37 (Crc.encB k b ver [x0, x1, x2, x3, x4, x5, x6, x7] time) ∧ 37 ≤ c ∧ Below w.heap.size w w' := by
  refine (encode_yes k b ver x0 x1 x2 x3 x4 x5 x6 x7 time hk hb hx hv w).mono ?_
  rintro e w' ⟨v, rfl, hO, hB⟩
  obtain ⟨A, c, rfl, hr, hc, _⟩ := hO.form' (Crc.encB_length rfl)
  exact ⟨A, c, rfl, hr, hc, hB⟩
theorem rencode_sl (k b ver x0 x1 x2 x3 x4 x5 x6 x7 time : Nat) (hk : k < 256) (hb : b < 65536) (hx : Crc.Bytes [x0, x1, x2, x3, x4, x5, x6, x7])
    (hv : validB (k : Int) (b : Int) ver [x0, x1, x2, x3, x4, x5, x6, x7] = true) (w : World) :
    Calls Try.prog 10 #[.agg #[.int .i64 (k : Int), .int .i64 (b : Int), .int .u64 (ver : Int), bv x0, bv x1, bv x2, bv x3, bv x4, bv x5, bv x6, bv x7], .int .u64 (time : Int)] w fun e w' =>
      ∃ g c, e = .returned (.tuple #[.slice (some ⟨g, 0, none⟩) 37 c, .int .i64 0]) ∧ RowIs w' g 5 c (Crc.encB k b ver [x0, x1, x2, x3, x4, x5, x6, x7] time) ∧ w.heap.size ≤ g ∧ g < w'.heap.size ∧ 37 ≤ c ∧ Below w.heap.size w w' := by
  refine (rencode_yes k b ver x0 x1 x2 x3 x4 x5 x6 x7 time hk hb hx hv w).mono ?_
  rintro e w' ⟨v, rfl, hO, hB⟩
  have hl : (Crc.encB k b ver [x0, x1, x2, x3, x4, x5, x6, x7] time).length = 37 := Crc.encB_length rfl
  obtain ⟨g, c, rfl, hg, hg2, hc, _, hrow⟩ := hO.row (by omega)
  rw [hl] at hc ⊢
  exact ⟨g, c, rfl, hrow, hg, hg2, hc, hB⟩

theorem zeros_bytes : Crc.Bytes [0, 0, 0, 0, 0, 0, 0, 0] := by unfold Crc.Bytes; decide
def awakeL : List Nat := Crc.encB 2 258 1 [0, 0, 0, 0, 0, 0, 0, 0] 3
theorem awake_enc (w : World) : Calls Try.prog 9 #[.agg #[.int .i64 2, .int .i64 258, .int .u64 1, .int .u8 0, .int .u8 0, .int .u8 0, .int .u8 0, .int .u8 0, .int .u8 0, .int .u8 0, .int .u8 0], .int .u64 3] w fun e w' =>
      ∃ A c, e = .returned (.tuple #[.slice A 37 c, .int .i64 0]) ∧ RB w' w'.heap.size A 37 awakeL ∧ 37 ≤ c ∧ Below w.heap.size w w' :=
  encode_sl 2 258 1 0 0 0 0 0 0 0 0 3 (by omega) (by omega) zeros_bytes (by decide) w
theorem awake_dec (B c : Nat) (A : Option Addr) (w : World) (hr : RB w B A 37 awakeL) (hB : B ≤ w.heap.size) (hc : 37 ≤ c) :
    Calls Try.prog 12 #[.slice A 37 c] w fun e w' => e = .returned (.tuple #[.agg #[.int .i64 2, .int .i64 258, .int .u64 1, .int .u8 0, .int .u8 0, .int .u8 0, .int .u8 0, .int .u8 0, .int .u8 0, .int .u8 0, .int .u8 0], .int .u64 3, .int .i64 0]) ∧ Below w.heap.size w w' :=
  decode_rest awakeL (Crc.sealB_bytes (Crc.bodyB_bytes zeros_bytes)) B c A w hr hB hc (Crc.enc_sum_num rfl zeros_bytes) 2 258 1 3 0 0 0 0 0 0 0 0 Crc.enc_kd (by unfold awakeL; rw [Crc.enc_bl]; exact Crc.num_leb4 (by omega)) (by unfold awakeL; rw [Crc.enc_ver]; exact Crc.num_leb8 (by omega)) (by unfold awakeL; rw [Crc.enc_time rfl]; exact Crc.num_leb8 (by omega)) (Crc.enc_D rfl) true (by decide)

set_option maxHeartbeats 400000 in
theorem awake_any (w : World) : Calls Try.prog 11 #[] w fun e w' => e = .returned (.bool true) ∧ Below w.heap.size w w' := by
  go_enter Try.func11, Try.ntmps11
  go_wp2_with fail
  refine (awake_enc w).mono ?_
  rintro e w1 ⟨A, c, rfl, hr, hc, hB⟩
  have HR := Lib.hid hr
  have HB := Lib.hid hB
  clear hr hB
  go_wp2_with fail
  refine (awake_dec _ c A w1 HR.out (Nat.le_refl _) hc).mono ?_
  rintro e w2 ⟨rfl, hB2⟩
  have HR2 := Lib.hid (RB.take (HR.out.below hB2) 6 (by omega))
  have HB2 := Lib.hid (HB.out.trans (hB2.mono HB.out.size))
  have hB2' := hB2.size
  clear hB2
  have hc6 : (6 : Int) ≤ (c : Int) := by omega
  have hcv := fun o : Obj => run_convert_rb (P := Try.prog) (w := w2.alloc o) 27 5 9 c Try.underlying27 Try.underlying5 Try.underlying9 (RB.below HR2.out ((Below.refl _ w2).alloc (by have := hB2'; omega) o))
  have hq : (bstr (awakeL.take 6)).toList = [2, 2, 1, 0, 0, 1] := by rw [bstr_toList]; decide +kernel
  go_wp2
  go_ret
  exact ⟨rfl, HB2.out.alloc (by have := HB.out.size; omega) _⟩

/-- What a valid entry's numbers are. -/
theorem valid_nat {kd bl : Int} {ver : Nat} {D : List Nat} (h : validB kd bl ver D = true) : ∃ k b : Nat, kd = k ∧ bl = b ∧ k < 256 ∧ b < 65536 := by
  unfold validB at h
  have := of_decide_eq_true h
  exact ⟨kd.toNat, bl.toNat, by omega, by omega, by omega, by omega⟩

section
variable (kd bl : Int) (ver x0 x1 x2 x3 x4 x5 x6 x7 time : Nat) (w : World)

set_option maxHeartbeats 800000 in
theorem EntryEncode_walk (hx : Crc.Bytes [x0, x1, x2, x3, x4, x5, x6, x7]) :
    Calls Try.prog 3 #[.agg #[.int .i64 kd, .int .i64 bl, .int .u64 (ver : Int), bv x0, bv x1, bv x2, bv x3, bv x4, bv x5, bv x6, bv x7], .int .u64 (time : Int)] w (True1 w) := by
  obtain ⟨w0, hw0⟩ : ∃ w0, w0 = w.alloc (.cells #[.int .i64 kd, .int .i64 bl, .int .u64 (ver : Int), bv x0, bv x1, bv x2, bv x3, bv x4, bv x5, bv x6, bv x7] 26) := ⟨_, rfl⟩
  have hE0 : Blk w0 w.heap.size 26 (entCells kd bl ver x0 x1 x2 x3 x4 x5 x6 x7) := by rw [hw0]; exact Blk.new _ _ _
  have hB0 : Below w.heap.size w w0 := by rw [hw0]; exact (Below.refl _ _).alloc (Nat.le_refl _) _
  have hz0 : w.heap.size < w0.heap.size := hE0.lt
  by_cases hv : validB kd bl ver [x0, x1, x2, x3, x4, x5, x6, x7] = true
  · obtain ⟨k, b, rfl, rfl, hk, hb⟩ := valid_nat hv
    have HV := Lib.hid hv
    have HX := Lib.hid hx
    have HE0 := Lib.hid hE0
    have HB0 := Lib.hid hB0
    have Hw0 := Lib.hid hw0
    clear hv hx hE0 hB0 hw0
    go_enter Try.func3, Try.ntmps3
    go_wp2_with fail
    rw [← Hw0.out]
    refine (encode_sl k b ver x0 x1 x2 x3 x4 x5 x6 x7 time hk hb HX.out HV.out w0).mono ?_
    rintro e w1 ⟨A, c, rfl, hr, hc, hB⟩
    have hE1 := HE0.out.below hB hz0
    have g0 : w1.cell? ⟨w.heap.size, 0, none⟩ = some (.int .i64 (k : Int)) := hE1.cell 0
    have g1 : w1.cell? ⟨w.heap.size, 1, none⟩ = some (.int .i64 (b : Int)) := hE1.cell 1
    have g2 : w1.cell? ⟨w.heap.size, 2, none⟩ = some (.int .u64 (ver : Int)) := hE1.cell 2
    have g3 : w1.cell? ⟨w.heap.size, 3, none⟩ = some (bv x0) := hE1.cell 3
    have g4 : w1.cell? ⟨w.heap.size, 4, none⟩ = some (bv x1) := hE1.cell 4
    have g5 : w1.cell? ⟨w.heap.size, 5, none⟩ = some (bv x2) := hE1.cell 5
    have g6 : w1.cell? ⟨w.heap.size, 6, none⟩ = some (bv x3) := hE1.cell 6
    have g7 : w1.cell? ⟨w.heap.size, 7, none⟩ = some (bv x4) := hE1.cell 7
    have g8 : w1.cell? ⟨w.heap.size, 8, none⟩ = some (bv x5) := hE1.cell 8
    have g9 : w1.cell? ⟨w.heap.size, 9, none⟩ = some (bv x6) := hE1.cell 9
    have g10 : w1.cell? ⟨w.heap.size, 10, none⟩ = some (bv x7) := hE1.cell 10
    have HE1 := Lib.hid hE1
    have HR1 := Lib.hid hr
    have HB1 := Lib.hid (HB0.out.trans (hB.mono (Nat.le_of_lt hz0)))
    have hz1 : w.heap.size < w1.heap.size := by have := hB.size; omega
    clear hE1 hr hB
    go_wp2_with fail
    refine (rencode_sl k b ver x0 x1 x2 x3 x4 x5 x6 x7 time hk hb HX.out HV.out w1).mono ?_
    rintro e w2 ⟨g, c', rfl, hrow, hg, hg2, hc', hB⟩
    have hr2 := hrow.rb
    rw [Crc.encB_length rfl] at hr2
    have HR2 := Lib.hid hr2
    have HR1' := Lib.hid (HR1.out.below hB)
    have HB2 := Lib.hid (HB1.out.trans (hB.mono (Nat.le_of_lt hz1)))
    have hz12 := hB.size
    clear hrow hr2 hB
    go_wp2_with fail
    refine (awake_any w2).mono ?_
    rintro e w3 ⟨rfl, hB⟩
    have c1 := run_convert_rb (P := Try.prog) (w := w3) 27 5 9 c Try.underlying27 Try.underlying5 Try.underlying9 ((HR1'.out.more hz12).below hB)
    have c2 := run_convert_rb (P := Try.prog) (w := w3) 27 5 9 c' Try.underlying27 Try.underlying5 Try.underlying9 (HR2.out.below hB)
    have HB3 := Lib.hid (HB2.out.trans (hB.mono (by omega)))
    clear hB
    go_wp2
    go_ret
    exact ⟨rfl, HB3.out⟩
  · have HV := Lib.hid (Bool.eq_false_iff.2 hv)
    have HE0 := Lib.hid hE0
    have HB0 := Lib.hid hB0
    have Hw0 := Lib.hid hw0
    clear hv hx hE0 hB0 hw0
    go_enter Try.func3, Try.ntmps3
    go_wp2_with fail
    rw [← Hw0.out]
    refine (encode_no kd bl ver x0 x1 x2 x3 x4 x5 x6 x7 time HV.out w0).mono ?_
    rintro e w1 ⟨rfl, hB⟩
    have hE1 := HE0.out.below hB hz0
    have g0 : w1.cell? ⟨w.heap.size, 0, none⟩ = some (.int .i64 kd) := hE1.cell 0
    have g1 : w1.cell? ⟨w.heap.size, 1, none⟩ = some (.int .i64 bl) := hE1.cell 1
    have g2 : w1.cell? ⟨w.heap.size, 2, none⟩ = some (.int .u64 (ver : Int)) := hE1.cell 2
    have g3 : w1.cell? ⟨w.heap.size, 3, none⟩ = some (bv x0) := hE1.cell 3
    have g4 : w1.cell? ⟨w.heap.size, 4, none⟩ = some (bv x1) := hE1.cell 4
    have g5 : w1.cell? ⟨w.heap.size, 5, none⟩ = some (bv x2) := hE1.cell 5
    have g6 : w1.cell? ⟨w.heap.size, 6, none⟩ = some (bv x3) := hE1.cell 6
    have g7 : w1.cell? ⟨w.heap.size, 7, none⟩ = some (bv x4) := hE1.cell 7
    have g8 : w1.cell? ⟨w.heap.size, 8, none⟩ = some (bv x5) := hE1.cell 8
    have g9 : w1.cell? ⟨w.heap.size, 9, none⟩ = some (bv x6) := hE1.cell 9
    have g10 : w1.cell? ⟨w.heap.size, 10, none⟩ = some (bv x7) := hE1.cell 10
    have HE1 := Lib.hid hE1
    have HB1 := Lib.hid (HB0.out.trans (hB.mono (Nat.le_of_lt hz0)))
    have hz1 : w.heap.size < w1.heap.size := by have := hB.size; omega
    clear hE1 hB
    go_wp2_with fail
    refine (rencode_no kd bl ver x0 x1 x2 x3 x4 x5 x6 x7 time HV.out w1).mono ?_
    rintro e w2 ⟨rfl, hB⟩
    have HB2 := Lib.hid (HB1.out.trans (hB.mono (Nat.le_of_lt hz1)))
    have hz12 := hB.size
    clear hB
    go_wp2_with fail
    refine (awake_any w2).mono ?_
    rintro e w3 ⟨rfl, hB⟩
    have c1 := run_convert_rb (P := Try.prog) (w := w3) 27 5 9 0 Try.underlying27 Try.underlying5 Try.underlying9 (rb_nil w3 0 none)
    have HB3 := Lib.hid (HB2.out.trans (hB.mono (by omega)))
    clear hB
    go_wp2
    go_ret
    exact ⟨rfl, HB3.out⟩

end

end Go.Proofs.Ytibmigeikkmofaa

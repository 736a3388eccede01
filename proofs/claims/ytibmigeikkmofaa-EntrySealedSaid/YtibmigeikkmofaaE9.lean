/- Walks over the statements EntryTorn and EntryChanged. -/
import Derived.Test.YtibmigeikkmofaaE8
namespace Go.Proofs.Ytibmigeikkmofaa
open Go.RowKit

section
variable (kd bl : Int) (ver x0 x1 x2 x3 x4 x5 x6 x7 time : Nat) (w : World)

set_option maxHeartbeats 800000 in
theorem EntryTorn_walk (n : Nat) (hn : n < 256) (hx : Crc.Bytes [x0, x1, x2, x3, x4, x5, x6, x7]) :
    Calls Try.prog 8 #[.agg #[.int .i64 kd, .int .i64 bl, .int .u64 (ver : Int), bv x0, bv x1, bv x2, bv x3, bv x4, bv x5, bv x6, bv x7], .int .u64 (time : Int), .int .u8 (n : Int)] w (True1 w) := by
  obtain ⟨w0, hw0⟩ : ∃ w0, w0 = w.alloc (.cells #[.int .i64 kd, .int .i64 bl, .int .u64 (ver : Int), bv x0, bv x1, bv x2, bv x3, bv x4, bv x5, bv x6, bv x7] 26) := ⟨_, rfl⟩
  have hB0 : Below w.heap.size w w0 := by rw [hw0]; exact (Below.refl _ _).alloc (Nat.le_refl _) _
  have hz0 : w.heap.size < w0.heap.size := by rw [hw0]; simp
  have HB0 := Lib.hid hB0
  have Hw0 := Lib.hid hw0
  clear hB0
  by_cases hv : validB kd bl ver [x0, x1, x2, x3, x4, x5, x6, x7] = true
  · obtain ⟨k, b, rfl, rfl, hk, hb⟩ := valid_nat hv
    have HV := Lib.hid hv
    have HX := Lib.hid hx
    clear hv hx hw0
    go_enter Try.func8, Try.ntmps8
    go_wp2_with fail
    rw [← Hw0.out]
    refine (rencode_sl k b ver x0 x1 x2 x3 x4 x5 x6 x7 time hk hb HX.out HV.out w0).mono ?_
    rintro e w1 ⟨g, c, rfl, _, hg, _, hc, hB⟩
    have HB1 := Lib.hid (HB0.out.trans (hB.mono (Nat.le_of_lt hz0)))
    have hz1 : w.heap.size < w1.heap.size := by have := hB.size; omega
    clear hB
    go_wp2_with fail
    refine (awake_any w1).mono ?_
    rintro e w2 ⟨rfl, hB⟩
    have HB2 := Lib.hid (HB1.out.trans (hB.mono (Nat.le_of_lt hz1)))
    have hz2 : w.heap.size < w2.heap.size := by have := hB.size; omega
    clear hB
    have t1 : (0 : Int) ≤ (n : Int) % 37 := by omega
    have t2 : ((n : Int) % 37) ≤ (c : Int) := by omega
    go_wp2_with fail
    refine (decode_len (n % 37) c (some ⟨g, 0, none⟩) w2 (by omega)).mono ?_
    rintro e w3 ⟨rfl, hB⟩
    have HB3 := Lib.hid (HB2.out.trans (hB.mono (Nat.le_of_lt hz2)))
    have hz3 : w.heap.size < w3.heap.size := by have := hB.size; omega
    clear hB
    unfold noEnt
    go_wp2
    go_ret
    exact ⟨rfl, HB3.out.alloc (Nat.le_of_lt hz3) _⟩
  · have HV := Lib.hid (Bool.eq_false_iff.2 hv)
    clear hv hx hw0
    go_enter Try.func8, Try.ntmps8
    go_wp2_with fail
    rw [← Hw0.out]
    refine (rencode_no kd bl ver x0 x1 x2 x3 x4 x5 x6 x7 time HV.out w0).mono ?_
    rintro e w1 ⟨rfl, hB⟩
    have HB1 := Lib.hid (HB0.out.trans (hB.mono (Nat.le_of_lt hz0)))
    have hz1 : w.heap.size < w1.heap.size := by have := hB.size; omega
    clear hB
    go_wp2_with fail
    refine (awake_any w1).mono ?_
    rintro e w2 ⟨rfl, hB⟩
    have HB2 := Lib.hid (HB1.out.trans (hB.mono (Nat.le_of_lt hz1)))
    have hz2 : w.heap.size < w2.heap.size := by have := hB.size; omega
    clear hB
    go_wp2_with fail
    refine (awake_any w2).mono ?_
    rintro e w3 ⟨rfl, hB⟩
    have HB3 := Lib.hid (HB2.out.trans (hB.mono (Nat.le_of_lt hz2)))
    clear hB
    go_wp2
    go_ret
    exact ⟨rfl, HB3.out⟩

set_option maxHeartbeats 800000 in
theorem EntryChanged_walk (p d : Nat) (hp : p < 256) (hd : d < 256) (hx : Crc.Bytes [x0, x1, x2, x3, x4, x5, x6, x7]) :
    Calls Try.prog 7 #[.agg #[.int .i64 kd, .int .i64 bl, .int .u64 (ver : Int), bv x0, bv x1, bv x2, bv x3, bv x4, bv x5, bv x6, bv x7], .int .u64 (time : Int), .agg #[bv p, bv d]] w (True1 w) := by
  obtain ⟨w0, hw0⟩ : ∃ w0, w0 = (w.alloc (.cells #[.int .i64 kd, .int .i64 bl, .int .u64 (ver : Int), bv x0, bv x1, bv x2, bv x3, bv x4, bv x5, bv x6, bv x7] 26)).alloc (.cells #[bv p, bv d] 40) := ⟨_, rfl⟩
  have hB0 : Below w.heap.size w w0 := by rw [hw0]; exact ((Below.refl _ _).alloc (Nat.le_refl _) _).alloc (by simp) _
  have hA0 : Blk w0 (w.heap.size + 1) 40 #[bv p, bv d] := by
    rw [hw0]
    have h := Blk.new (w.alloc (.cells #[.int .i64 kd, .int .i64 bl, .int .u64 (ver : Int), bv x0, bv x1, bv x2, bv x3, bv x4, bv x5, bv x6, bv x7] 26)) 40 #[bv p, bv d]
    simpa using h
  have hz0 : w.heap.size + 1 < w0.heap.size := hA0.lt
  have HB0 := Lib.hid hB0
  have HA0 := Lib.hid hA0
  have Hw0 := Lib.hid hw0
  clear hB0 hA0
  by_cases hv : validB kd bl ver [x0, x1, x2, x3, x4, x5, x6, x7] = true
  · obtain ⟨k, b, rfl, rfl, hk, hb⟩ := valid_nat hv
    have HV := Lib.hid hv
    have HX := Lib.hid hx
    clear hv hx hw0
    go_enter Try.func7, Try.ntmps7
    go_wp2_with fail
    rw [← Hw0.out]
    refine (rencode_sl k b ver x0 x1 x2 x3 x4 x5 x6 x7 time hk hb HX.out HV.out w0).mono ?_
    rintro e w1 ⟨g, c, rfl, hrow, hg, hg2, hc, hB⟩
    have HR1 := Lib.hid hrow
    have HA1 := Lib.hid (HA0.out.below hB hz0)
    have HB1 := Lib.hid (HB0.out.trans (hB.mono (by omega)))
    have hz1 : w.heap.size + 1 < w1.heap.size := HA1.out.lt
    clear hB hrow
    go_wp2_with fail
    refine (awake_any w1).mono ?_
    rintro e w2 ⟨rfl, hB⟩
    have HR2 := Lib.hid (HR1.out.below hB hg2)
    have hA2 := HA1.out.below hB hz1
    have a0 : w2.cell? ⟨w.heap.size + 1, 0, none⟩ = some (.int .u8 (p : Int)) := hA2.cell 0
    have a1 : w2.cell? ⟨w.heap.size + 1, 1, none⟩ = some (.int .u8 (d : Int)) := hA2.cell 1
    have HB2 := Lib.hid (HB1.out.trans (hB.mono (by omega)))
    have hz2 : w.heap.size + 1 < w2.heap.size := hA2.lt
    have hg3 := hB.size
    clear hB hA2
    by_cases h0 : d = 0
    · have t0 : ((d : Int) == 0) = true := beq_iff_eq.2 (by omega)
      clear h0
      go_wp2_with fail
      refine (awake_any w2).mono ?_
      rintro e w3 ⟨rfl, hB⟩
      have HB3 := Lib.hid (HB2.out.trans (hB.mono (by omega)))
      clear hB
      go_wp2
      go_ret
      exact ⟨rfl, HB3.out⟩
    · have t0 : ((d : Int) == 0) = false := beq_eq_false_iff_ne.2 (by omega)
      have hL : (Crc.encB k b ver [x0, x1, x2, x3, x4, x5, x6, x7] time).length = 37 := Crc.encB_length rfl
      have hLb : Crc.Bytes (Crc.encB k b ver [x0, x1, x2, x3, x4, x5, x6, x7] time) := Crc.sealB_bytes (Crc.bodyB_bytes HX.out)
      have hLs := Crc.enc_sum_num (kd := k) (bl := b) (ver := ver) (time := time) (D := [x0, x1, x2, x3, x4, x5, x6, x7]) rfl HX.out
      generalize Crc.encB k b ver [x0, x1, x2, x3, x4, x5, x6, x7] time = L at HR2 hL hLb hLs
      have hq : p % 37 < L.length := by omega
      have hcell := HR2.out.got (p % 37) hq
      have hfree := HR2.out.free (p % 37)
      have hxb := bytes_getD hLb (p % 37)
      obtain ⟨x, Hx⟩ : ∃ x, x = L.getD (p % 37) 0 := ⟨_, rfl⟩
      rw [← Hx] at hcell hxb
      have hbad := Crc.changed_sum hLb hL hLs (p % 37) ((x + d) % 256) (by omega) (by omega) (by rw [← Hx]; omega)
      have HBad := Lib.hid hbad
      have HLb := Lib.hid (Crc.bytes_set hLb (p % 37) ((x + d) % 256) (by omega))
      have HLl := Lib.hid (show (L.set (p % 37) ((x + d) % 256)).length = 37 by rw [List.length_set]; exact hL)
      have HSet := fun (v : Value) (hv : v = bv ((x + d) % 256)) => HR2.out.set (p % 37) hq ((x + d) % 256) v hv
      have HSet' := Lib.hid HSet
      clear HSet hbad hLb hL hLs hq Hx
      go_wp2_with fail
      go_region
      go_wp2_with fail
      have hv8 : Value.int IntKind.u8 (((x : Int) + (d : Int)) % 256) = bv ((x + d) % 256) := by
        unfold bv
        rw [show (((x : Int) + (d : Int)) % 256) = (((x + d) % 256 : Nat) : Int) by omega]
      have hS := (HSet'.out _ hv8).drew.rb
      rw [HLl.out] at hS
      have hB3 : Below w.heap.size w ((w2.setCell ⟨g, p % 37, none⟩ (Value.int IntKind.u8 (((x : Int) + (d : Int)) % 256))).drew) := (HB2.out.setCell (by simp; omega) _).drew
      have hz3 : w2.heap.size ≤ ((w2.setCell ⟨g, p % 37, none⟩ (Value.int IntKind.u8 (((x : Int) + (d : Int)) % 256))).drew).heap.size := by simp
      generalize (w2.setCell ⟨g, p % 37, none⟩ (Value.int IntKind.u8 (((x : Int) + (d : Int)) % 256))).drew = w3 at hS hB3 hz3 ⊢
      have HS := Lib.hid hS
      have HB3 := Lib.hid hB3
      clear hS hB3 hv8 hcell hfree a0 a1
      refine (decode_sum _ HLb.out _ c _ w3 HS.out (Nat.le_refl _) hc HBad.out).mono ?_
      rintro e w4 ⟨rfl, hB⟩
      have HB4 := Lib.hid (HB3.out.trans (hB.mono (by omega)))
      have hz4 : w.heap.size ≤ w4.heap.size := by have := hB.size; omega
      clear hB
      unfold noEnt
      go_wp2
      go_ret
      exact ⟨rfl, HB4.out.alloc hz4 _⟩
  · have HV := Lib.hid (Bool.eq_false_iff.2 hv)
    clear hv hx hw0
    go_enter Try.func7, Try.ntmps7
    go_wp2_with fail
    rw [← Hw0.out]
    refine (rencode_no kd bl ver x0 x1 x2 x3 x4 x5 x6 x7 time HV.out w0).mono ?_
    rintro e w1 ⟨rfl, hB⟩
    have HB1 := Lib.hid (HB0.out.trans (hB.mono (by omega)))
    have hz1 : w.heap.size + 1 < w1.heap.size := by have := hB.size; omega
    clear hB
    go_wp2_with fail
    refine (awake_any w1).mono ?_
    rintro e w2 ⟨rfl, hB⟩
    have HB2 := Lib.hid (HB1.out.trans (hB.mono (by omega)))
    have hz2 : w.heap.size + 1 < w2.heap.size := by have := hB.size; omega
    clear hB
    go_wp2_with fail
    refine (awake_any w2).mono ?_
    rintro e w3 ⟨rfl, hB⟩
    have HB3 := Lib.hid (HB2.out.trans (hB.mono (by omega)))
    clear hB
    go_wp2
    go_ret
    exact ⟨rfl, HB3.out⟩
end

end Go.Proofs.Ytibmigeikkmofaa

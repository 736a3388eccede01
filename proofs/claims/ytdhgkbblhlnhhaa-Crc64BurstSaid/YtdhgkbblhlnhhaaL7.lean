/- The walk over the statement Crc64Burst. -/
import Derived.Test.YtdhgkbblhlnhhaaL6
namespace Go.Proofs.Ytdhgkbblhlnhhaa
open Go.RowKit

theorem burst_val (p i s x : Nat) (hp : p < 18446744073709551616) (hx : x < 256) (hs : s < 8) :
    bits BinOp.xor IntKind.u8 (x : Int) (bits BinOp.and IntKind.u64 ((p : Int) / 2 ^ i) 1 % 256 * 2 ^ s % 256) = ((x ^^^ (p / 2 ^ i % 2 * 2 ^ s) : Nat) : Int) := by
  have e1 : ((p : Int) / 2 ^ i) = ((p / 2 ^ i : Nat) : Int) := by simp
  have hlt : p / 2 ^ i < 18446744073709551616 := Nat.lt_of_le_of_lt (Nat.div_le_self _ _) hp
  rw [e1]
  generalize p / 2 ^ i = r at hlt
  rw [and_one_u64 _ (by omega) (by omega)]
  have hb : r % 2 < 2 := Nat.mod_lt _ (by omega)
  have h8 : 2 ^ s ≤ 2 ^ 7 := Nat.pow_le_pow_right (by omega) (by omega)
  have ht : r % 2 * 2 ^ s < 256 := by
    have : r % 2 * 2 ^ s ≤ 1 * 2 ^ 7 := Nat.mul_le_mul (by omega) h8
    omega
  have e2 : ((r : Int) % 2 % 256 * 2 ^ s % 256) = ((r % 2 * 2 ^ s : Nat) : Int) := by
    have e3 : ((r : Int) % 2 % 256) = ((r % 2 : Nat) : Int) := by omega
    have e4 : (((r % 2 : Nat) : Int) * 2 ^ s) = ((r % 2 * 2 ^ s : Nat) : Int) := by simp
    rw [e3, e4]
    generalize r % 2 * 2 ^ s = t at ht
    omega
  rw [e2, u8_xor_nat _ _ hx ht]

set_option maxHeartbeats 400000 in
theorem Crc64Burst_walk (b : List Nat) (hl : Crc.Bytes b) (A : Option Addr) (n c at_ p : Nat) (hat : at_ < 65536) (hp : p < 18446744073709551616) (w : World) (hr : RB w w.heap.size A n b) (hn : n ≤ maxLen) :
    Calls Try.prog 10 #[.slice A n c, .int .u16 (at_ : Int), .int .u64 (p : Int)] w (True1 w) := by
  obtain ⟨i0, hi0, hz0, hz1, hz2⟩ := info_parts byteInfo
  have HR := Lib.hid hr
  have Hlen := Lib.hid hr.len
  have HN := Lib.hid hn
  unfold maxLen at hn
  clear hr
  go_enter Try.func10, Try.ntmps10
  by_cases h9 : 9 ≤ n
  · by_cases h200 : n ≤ 200
    · by_cases h0 : p = 0
      · have t0 : ((p : Int) == 0) = true := beq_iff_eq.2 (by omega)
        clear h0
        go_wp2_with (go_at_call 11; refine (awake_any _).mono ?_; rintro e w1 ⟨rfl, hB⟩)
        go_ret
        exact ⟨rfl, hB⟩
      · have t0 : ((p : Int) == 0) = false := beq_eq_false_iff_ne.2 (by omega)
        obtain ⟨F, HF⟩ : ∃ F : Nat, F = at_ % (8 * n - 63) := ⟨_, rfl⟩
        have hF : F + 63 < 8 * n := by
          have := Nat.mod_lt at_ (show 0 < 8 * n - 63 by omega)
          omega
        have EF := Lib.hid (show ((at_ : Int) % (8 * (n : Int) - 63)) = (F : Int) by
          rw [show (8 * (n : Int) - 63) = ((8 * n - 63 : Nat) : Int) by omega, HF]
          exact (Int.natCast_emod _ _).symm)
        clear HF
        have Hlb := Lib.hid hl
        clear hl
        go_wp2_with (first
          | (go_at_call 11; refine (awake_any _).mono ?_; rintro e w1 ⟨rfl, hB⟩; have HR1 := Lib.hid ((RB.below HR.out hB).more hB.size); have HBl := Lib.hid hB; clear hB)
          | (at_builtin; refine wpList_append_rb _ rfl (.tmp 32) (.tmp 33) _ rfl w1.heap.size 5 i0 Try.underlying22 hi0 hz0 hz1 hz2 (.slice (some ⟨w1.heap.size, 0, none⟩) 0 0) [] rfl (ob_empty w1 _) w1.heap.size A n c b rfl (Reads.alloc HR1.out (Nat.le_refl _) _) (by simp; omega) (by simp) ?_; intro v1 w2 hown1 hg1 hat1; have hb1 : Below w1.heap.size w1 w2 := ((Below.refl _ w1).alloc (Nat.le_refl _) _).trans (below_grown (ob_empty w1 _) hg1 (Nat.le_refl _) (by simp)); clear hg1 hat1; rw [List.nil_append] at hown1; obtain ⟨g, cap, rfl, hg0, hg1, hc1, hc2, hrow⟩ := hown1.row (by have := Hlen.out; omega); rw [Hlen.out] at hc1 ⊢; have HB1 := Lib.hid hb1; have HRow := Lib.hid hrow; clear hb1 hrow hown1))
        rw [EF.out]
        go_loopw [9] (fun x wr => ∃ (i : Nat) (l : List Nat), i ≤ 64 ∧ x = .int .i64 (i : Int) ∧ RowIs wr g 5 cap l ∧ Hid (l.length = n) ∧ Crc.Bytes l ∧ Hid (Crc.num l = Crc.num b ^^^ 2 ^ F * (p % 2 ^ i)) ∧ Below w1.heap.size w1 wr) (fun x _ => 64 - (intOf x).toNat)
        case atStart => exact ⟨0, b, by omega, rfl, HRow.out, Hlen, Hlb.out, Lib.hid (by rw [Nat.pow_zero, Nat.mod_one, Nat.mul_zero, Nat.xor_zero]), HB1.out⟩
        case round =>
          obtain ⟨i, l, hi, rfl, hrow, Hll, hbl, Hnum, hbw⟩ := hrel
          by_cases hlt : i < 64
          · have hq : (F + i) / 8 < l.length := by have := Hll.out; omega
            have hcell := hrow.got _ hq
            have hfree := hrow.free ((F + i) / 8)
            have hx := bytes_getD hbl ((F + i) / 8)
            have Hstep := Lib.hid (Crc.burst_step l hbl F i p _ hq Hnum.out)
            have HRw := Lib.hid hrow
            have HBw := Lib.hid hbw
            have Hbl := Lib.hid hbl
            have Hq := Lib.hid hq
            clear hrow hbw hbl hq Hnum
            have hk1 : (F + i) / 8 < n := by have := Hll.out; have := Hq.out; omega
            obtain ⟨x, Hx⟩ : ∃ x, x = l.getD ((F + i) / 8) 0 := ⟨_, rfl⟩
            rw [← Hx] at hcell hx
            have Hx' := Lib.hid Hx
            clear Hx
            go_wp2
            go_region
            go_wp2
            go_roundw
            case rel =>
              refine ⟨i + 1, l.set ((F + i) / 8) (x ^^^ (p / 2 ^ i % 2 * 2 ^ ((F + i) % 8))), by omega, by go_num, ?_, Lib.hid ?_, ?_, Lib.hid ?_, (HBw.out.setCell hg0 _).drew⟩
              · exact (HRw.out.set _ Hq.out _ _ (by rw [burst_val p i _ x hp hx (by omega)]; rfl)).drew
              · rw [List.length_set]; exact Hll.out
              · exact Crc.bytes_set Hbl.out _ _ (Crc.burst_lt hx)
              · rw [Hx'.out]; exact Hstep.out
            case measure => simp [intOf]; omega
          · have hdiff : Crc.num b ^^^ Crc.num l = 2 ^ F * p := by
              have e : i = 64 := by omega
              have h := Hnum.out
              rw [e, lt64, Nat.mod_eq_of_lt hp] at h
              rw [h, ← Nat.xor_assoc, Nat.xor_self, Nat.zero_xor]
            have hne := Crc.updS_ne Hlb.out hbl (by rw [Hlen.out, Hll.out]) 0 F p h0 (by rw [lt64]; exact hp) hdiff (by rw [Hll.out]; omega)
            have HNE := Lib.hid hne
            have hrb := hrow.rb
            rw [Hll.out] at hrb
            have HRB := Lib.hid hrb
            have HR2 := Lib.hid (RB.below HR1.out hbw)
            have HBf := Lib.hid (HBl.out.trans (hbw.mono HBl.out.size))
            have Hbl := Lib.hid hbl
            clear hrow hbw hbl hne hrb hdiff Hnum
            go_wp2_with fail
            refine (sum_any b Hlb.out _ _ _ _ _ HR2.out HN.out).mono ?_
            rintro e w' ⟨rfl, rfl⟩
            go_wp2_with fail
            refine (sum_any l Hbl.out _ _ _ _ _ HRB.out HN.out).mono ?_
            rintro e w' ⟨rfl, rfl⟩
            go_wp2_with fail
            go_ret
            refine ⟨ret_bool ?_, HBf.out⟩
            have hne : ¬ ((Crc.sumS b : Nat) : Int) = ((Crc.sumS l : Nat) : Int) := fun h => HNE.out (Int.ofNat.inj h)
            simp [hne]
    · go_wp2_with (go_at_call 11; refine (awake_any _).mono ?_; rintro e w1 ⟨rfl, hB⟩)
      go_ret
      exact ⟨rfl, hB⟩
  · go_wp2_with (go_at_call 11; refine (awake_any _).mono ?_; rintro e w1 ⟨rfl, hB⟩)
    go_ret
    exact ⟨rfl, hB⟩

end Go.Proofs.Ytdhgkbblhlnhhaa

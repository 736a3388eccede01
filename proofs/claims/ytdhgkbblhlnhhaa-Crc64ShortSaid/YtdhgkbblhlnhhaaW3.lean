/- Walks over the checksum's combination, and over the reference's functions. -/
import Derived.Test.YtdhgkbblhlnhhaaW2
namespace Go.Proofs.Ytdhgkbblhlnhhaa
open Go.RowKit

theorem wrap_pow {i : Nat} (hi : i < 64) : IntKind.u64.wrap ((2 : Int) ^ i) = ((2 ^ i : Nat) : Int) := by
  have h := pow_lt' i hi
  have e : ((2 : Int) ^ i) = ((2 ^ i : Nat) : Int) := by simp
  rw [e, IntKind.wrap_u64]
  generalize (2 : Nat) ^ i = p at h ⊢
  omega

set_option maxHeartbeats 400000 in
theorem combine_any (a b : Nat) (ha : a < 18446744073709551616) (hb : b < 18446744073709551616) (n : Int) (hn : n ≤ 9223372036854775807) (w : World) :
    Calls Try.prog 17 #[.int .u64 (a : Int), .int .u64 (b : Int), .int .i64 n] w fun e w' => e = .returned (.int .u64 ((Crc.stps (8 * n.toNat) a ^^^ b : Nat) : Int)) ∧ Below w.heap.size w w' := by
  go_enter Try.func17, Try.ntmps17
  go_wp2
  go_loopw [11] (fun c wr => ∃ i : Nat, i ≤ 64 ∧ c = .int .i64 (i : Int) ∧ MatTo wr w.heap.size 1 i ∧ Below w.heap.size w wr) (fun c _ => 64 - (intOf c).toNat)
  case atStart => exact ⟨0, by omega, rfl, ⟨_, Blk.new _ _ _, rfl, fun j hj => by omega⟩, (Below.refl _ _).alloc (Nat.le_refl _) _⟩
  case round =>
    obtain ⟨i, hi, rfl, hT, hB⟩ := hrel
    by_cases hlt : i < 64
    · obtain ⟨old, hold⟩ := hT.cell i hlt
      have hfree := hT.free i
      have HT := Lib.hid hT
      have HB := Lib.hid hB
      clear hT hB
      go_wp2
      have HP := Lib.hid (wrap_pow hlt)
      go_region_with (go_at_call 19; rw [HP.out]; refine (step_any _ (pow_lt' i hlt) _).mono ?_; rintro e w' ⟨rfl, rfl⟩)
      go_wp2
      go_roundw
      case rel => exact ⟨i + 1, by omega, by go_num, HT.out.drew.set hlt _ (by rw [Crc.stps_succ, Crc.stps_0]), HB.out.drew.setCell (Nat.le_refl _) _⟩
      case measure => simp [intOf]; omega
    · have hT2 : Mat wr w.heap.size (2 ^ 0) := by
        have e : i = 64 := by omega
        rw [e] at hT
        exact hT.mat
      clear hT
      go_wp2
      go_loopw [7, 22] (fun p c wr => ∃ j g : Nat, j ≤ 3 ∧ c = .int .i64 (j : Int) ∧ p = .pointer (some ⟨g, 0, none⟩) ∧ Mat wr g (2 ^ j) ∧ Below w.heap.size w wr) (fun _ c _ => 3 - (intOf c).toNat)
      case atStart => exact ⟨0, _, by omega, rfl, rfl, hT2, hB⟩
      case round =>
        obtain ⟨j, g, hj, rfl, rfl, hT, hB⟩ := hrel
        by_cases hlt : j < 3
        · have HT := Lib.hid hT
          have HB := Lib.hid hB
          clear hT hB hT2
          go_wp2_with (go_at_call 21; refine (square_any _ _ _ HT.out).mono ?_; rintro e w' ⟨g', rfl, hT', hg', hB'⟩)
          go_roundw
          case rel => exact ⟨j + 1, g', by omega, by go_num, rfl, by rw [Nat.pow_succ, Nat.mul_comm]; exact hT', HB.out.trans (hB'.mono HB.out.size)⟩
          case measure => simp [intOf]; omega
        · have hT3 : Mat wr g 8 := by
            have e : j = 3 := by omega
            rw [e] at hT
            exact hT
          clear hT hT2
          go_wp2
          go_loopw [0, 2, 7] (fun x y p wr => ∃ (a' k g : Nat) (m : Int), x = .int .u64 (a' : Int) ∧ y = .int .i64 m ∧ p = .pointer (some ⟨g, 0, none⟩) ∧ a' < 18446744073709551616 ∧ m ≤ 9223372036854775807 ∧
            Hid (Crc.stps (k * m.toNat) a' = Crc.stps (8 * n.toNat) a) ∧ Mat wr g k ∧ Below w.heap.size w wr) (fun _ y _ _ => (intOf y).toNat)
          case atStart => exact ⟨a, 8, g, n, rfl, rfl, rfl, ha, hn, Lib.hid rfl, hT3, hB⟩
          case round =>
            obtain ⟨a', k, g, m, rfl, rfl, rfl, ha', hm, HE, hT, hB⟩ := hrel
            have HT := Lib.hid hT
            have HB := Lib.hid hB
            clear hT hB hT3
            by_cases hpos : 0 < m
            · obtain ⟨N, rfl⟩ := Int.eq_ofNat_of_zero_le (show 0 ≤ m by omega)
              have hP := Crc.power_round k N a' _ HE.out
              have ha2 := stps_lt' k ha'
              have HP := Lib.hid hP
              clear hP
              by_cases hodd : N % 2 = 1
              · have ht := iodd_of hodd
                go_wp2_with (go_at_call 22; refine (apply_any _ _ _ ha' _ HT.out).mono ?_; rintro e w' ⟨rfl, rfl⟩)
                go_wp2_with (go_at_call 21; refine (square_any _ _ _ HT.out).mono ?_; rintro e w' ⟨g', rfl, hT', hg', hB'⟩)
                go_roundw
                case rel =>
                  refine ⟨Crc.stps k a', 2 * k, g', ((N / 2 : Nat) : Int), rfl, by rw [half], rfl, ha2, by omega, Lib.hid ?_, hT', HB.out.trans (hB'.mono HB.out.size)⟩
                  have := HP.out
                  rwa [if_pos hodd] at this
                case measure => simp [intOf]; omega
              · have ht := iodd_of_not hodd
                go_wp2_with (go_at_call 21; refine (square_any _ _ _ HT.out).mono ?_; rintro e w' ⟨g', rfl, hT', hg', hB'⟩)
                go_roundw
                case rel =>
                  refine ⟨a', 2 * k, g', ((N / 2 : Nat) : Int), rfl, by rw [half], rfl, ha', by omega, Lib.hid ?_, hT', HB.out.trans (hB'.mono HB.out.size)⟩
                  have := HP.out
                  rwa [if_neg hodd] at this
                case measure => simp [intOf]; omega
            · have HF := Lib.hid (show Crc.stps (8 * n.toNat) a = a' by rw [← HE.out, show m.toNat = 0 by omega, Nat.mul_zero, Crc.stps_0])
              go_wp2
              go_ret
              exact ⟨ret_u64 (by rw [bits_xor_u64_nat _ _ ha' hb, HF.out]), HB.out⟩

end Go.Proofs.Ytdhgkbblhlnhhaa

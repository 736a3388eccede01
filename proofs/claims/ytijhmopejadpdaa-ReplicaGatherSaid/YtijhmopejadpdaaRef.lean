/- Walks over the reference's checksum. -/
import Derived.Test.YtijhmopejadpdaaW1
namespace Go.Proofs.Ytijhmopejadpdaa
open Go.RowKit

set_option maxHeartbeats 400000 in
theorem rsteps_any (x : Nat) (hx : x < 18446744073709551616) (n : Int) (h0 : 0 ≤ n) (hn : n ≤ 9223372036854775807) (w : World) :
    Calls Try.prog 32 #[.int .u64 (x : Int), .int .i64 n] w fun e w' => e = .returned (.int .u64 ((Crc.stps n.toNat x : Nat) : Int)) ∧ w = w' := by
  obtain ⟨N, rfl⟩ := Int.eq_ofNat_of_zero_le h0
  rw [Int.toNat_natCast]
  go_enter Try.func32, Try.ntmps32
  go_wp2
  go_loop [0, 5] (fun u c => ∃ i : Nat, i ≤ N ∧ c = .int .i64 (i : Int) ∧ u = .int .u64 ((Crc.stps i x : Nat) : Int)) (fun _ c => N - (intOf c).toNat)
  case atStart => exact ⟨0, by omega, rfl, by rw [Crc.stps_0]⟩
  case round =>
    obtain ⟨i, hi, rfl, rfl⟩ := hrel
    have hy := stps_lt' i hx
    have HS := Lib.hid (Crc.stps_succ' i x)
    by_cases hlt : i < N
    · generalize Crc.stps i x = y at hy HS ⊢
      by_cases hodd : y % 2 = 1
      · have ht := odd_of hy hodd
        go_wp2
        go_round
        case rel => exact ⟨i + 1, by omega, by go_num, by rw [HS.out, ← step_odd hy hodd]⟩
        case measure => simp [intOf]; omega
      · have ht := odd_of_not hy hodd
        go_wp2
        go_round
        case rel => exact ⟨i + 1, by omega, by go_num, by rw [HS.out, ← step_even hodd]⟩
        case measure => simp [intOf]; omega
    · obtain rfl : i = N := by omega
      go_wp2
      go_ret
      exact ⟨rfl, rfl⟩

set_option maxHeartbeats 400000 in
theorem rupdate_any (s : Nat) (hs : s < 18446744073709551616) (l : List Nat) (hl : Crc.Bytes l) (B n c : Nat) (A : Option Addr) (w : World) (hr : RB w B A n l) (hn : n ≤ maxLen) :
    Calls Try.prog 31 #[.int .u64 (s : Int), .slice A n c] w fun e w' => e = .returned (.int .u64 (Crc.updS s l : Nat)) ∧ w = w' := by
  unfold maxLen at hn
  have HL := Lib.hid hr.len
  have HR := Lib.hid hr
  have HB := Lib.hid hl
  clear hr hl
  go_enter Try.func31, Try.ntmps31
  go_wp2
  go_loop [5, 6] (fun x i => ∃ k : Nat, k ≤ n ∧ i = .int .i64 k ∧ x = .int .u64 ((Crc.upd (s ^^^ Crc.ones) (l.take k) : Nat) : Int)) (fun _ i => n - (intOf i).toNat)
  case atStart => exact ⟨0, Nat.zero_le _, rfl, by rw [not_eq hs, List.take_zero, Crc.upd_nil]⟩
  case round =>
    obtain ⟨k, hk, rfl, rfl⟩ := hrel
    have hX := upd_lt' (bytes_take HB.out k) (xor_lt' hs ones_lt)
    by_cases hlt : k < n
    · obtain ⟨X, HX⟩ : ∃ X, X = Crc.upd (s ^^^ Crc.ones) (l.take k) := ⟨_, rfl⟩
      rw [← HX] at hX ⊢
      have HX' := Lib.hid HX
      clear HX
      obtain ⟨ad, rfl, _, hc⟩ := HR.out.at_ hlt
      obtain ⟨b, Hb⟩ : ∃ b, b = l.getD k 0 := ⟨_, rfl⟩
      have hb := bytes_getD HB.out k
      rw [← Hb] at hb hc
      have Hb' := Lib.hid Hb
      clear Hb
      have hb64 : b < 18446744073709551616 := by omega
      go_wp2_with (go_at_call 32; rw [bits_xor_u64_nat _ _ hX hb64]; refine (rsteps_any _ (xor_lt' hX hb64) _ (by omega) (by omega) _).mono ?_; rintro e w' ⟨rfl, rfl⟩)
      go_round
      case rel => exact ⟨k + 1, by omega, by go_num, by rw [Crc.upd_take _ _ (by rw [HL.out]; exact hlt), HX'.out, Hb'.out]⟩
      case measure => simp [intOf]; omega
    · obtain rfl : k = n := by omega
      go_wp2
      go_ret
      refine ⟨ret_u64 ?_, rfl⟩
      rw [not_eq hX, List.take_of_length_le (by rw [HL.out]; exact Nat.le_refl _)]
      rfl

theorem rsum_any (l : List Nat) (hl : Crc.Bytes l) (B n c : Nat) (A : Option Addr) (w : World) (hr : RB w B A n l) (hn : n ≤ maxLen) :
    Calls Try.prog 28 #[.slice A n c] w fun e w' => e = .returned (.int .u64 (Crc.sumS l : Nat)) ∧ w = w' := by
  have H := Lib.hid (rupdate_any 0 (by omega) l hl B n c A w hr hn)
  clear hr
  go_enter Try.func28, Try.ntmps28
  go_wp2_with (go_at_call 31; refine H.out.mono ?_; rintro e w' ⟨rfl, rfl⟩)
  go_ret
  exact ⟨rfl, rfl⟩

end Go.Proofs.Ytijhmopejadpdaa

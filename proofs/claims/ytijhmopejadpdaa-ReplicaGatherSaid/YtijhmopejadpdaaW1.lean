/- Walks over the checksum's small functions: one step, sums of byte strings, and the register's product with a matrix. -/
import Derived.Test.YtijhmopejadpdaaRows
import Derived.Test.YtijhmopejadpdaaBase
namespace Go.Proofs.Ytijhmopejadpdaa
open Go.RowKit

theorem byteInfo : (Try.prog.info? 5).map (fun i => (i.zero, i.size, i.bytes)) = some (some (.int .u8 0), 1, 1) := by kernel_rfl

set_option maxHeartbeats 400000 in
theorem step_any (x : Nat) (hx : x < 18446744073709551616) (w : World) :
    Calls Try.prog 26 #[.int .u64 (x : Int)] w fun e w' => e = .returned (.int .u64 (Crc.stp x : Nat)) ∧ w = w' := by
  go_enter Try.func26, Try.ntmps26
  go_wp2
  · go_ret
    have h := odd_yes hx (by assumption)
    exact ⟨ret_u64 (step_odd hx h), rfl⟩
  · go_ret
    have h := odd_no hx (by assumption)
    exact ⟨ret_u64 (step_even h), rfl⟩

theorem not_eq {x : Nat} (hx : x < 18446744073709551616) : bits BinOp.xor IntKind.u64 IntKind.u64.max (x : Int) = ((x ^^^ Crc.ones : Nat) : Int) := by
  rw [show IntKind.u64.max = ((Crc.ones : Nat) : Int) from by decide, bits_xor_u64_nat _ _ ones_lt hx, Nat.xor_comm]

set_option maxHeartbeats 400000 in
theorem update_any (s : Nat) (hs : s < 18446744073709551616) (l : List Nat) (hl : Crc.Bytes l) (B n c : Nat) (A : Option Addr) (w : World) (hr : RB w B A n l) (hn : n ≤ maxLen) :
    Calls Try.prog 21 #[.int .u64 (s : Int), .slice A n c] w fun e w' => e = .returned (.int .u64 (Crc.updS s l : Nat)) ∧ w = w' := by
  unfold maxLen at hn
  have HL := Lib.hid hr.len
  have HR := Lib.hid hr
  have HB := Lib.hid hl
  clear hr hl
  go_enter Try.func21, Try.ntmps21
  go_wp2
  go_loop [5, 12] (fun x i => ∃ k : Nat, k ≤ n ∧ i = .int .i64 k ∧ x = .int .u64 ((Crc.upd (s ^^^ Crc.ones) (l.take k) : Nat) : Int)) (fun _ i => n - (intOf i).toNat)
  case atStart => exact ⟨0, Nat.zero_le _, rfl, by rw [not_eq hs, List.take_zero, Crc.upd_nil]⟩
  case round =>
    obtain ⟨k, hk, rfl, rfl⟩ := hrel
    have hX := upd_lt' (bytes_take HB.out k) (xor_lt' hs ones_lt)
    by_cases hlt : k < n
    · obtain ⟨X, HX⟩ : ∃ X, X = Crc.upd (s ^^^ Crc.ones) (l.take k) := ⟨_, rfl⟩
      rw [← HX] at hX ⊢
      have HX' := Lib.hid HX
      clear HX
      obtain ⟨ad, rfl, _, hc⟩ := HR.out.at_ hlt
      obtain ⟨b, Hb⟩ : ∃ b, b = l.getD k 0 := ⟨_, rfl⟩
      have hb := bytes_getD HB.out k
      rw [← Hb] at hb hc
      have Hb' := Lib.hid Hb
      clear Hb
      go_wp2
      have hXb := xor_lt' hX (show b < 18446744073709551616 by omega)
      go_loop [5, 20] (fun x j => ∃ i : Nat, i ≤ 8 ∧ j = .int .i64 i ∧ x = .int .u64 ((Crc.stps i (X ^^^ b) : Nat) : Int)) (fun _ j => 8 - (intOf j).toNat)
      case atStart => exact ⟨0, by omega, rfl, by rw [bits_xor_u64_nat _ _ hX (by omega), Crc.stps_0]⟩
      case round =>
        obtain ⟨i, hi, rfl, rfl⟩ := hrel
        have hY := stps_lt' i hXb
        obtain ⟨Y, HY⟩ : ∃ Y, Y = Crc.stps i (X ^^^ b) := ⟨_, rfl⟩
        rw [← HY] at hY ⊢
        have HY' := Lib.hid HY
        clear HY
        by_cases hi8 : i < 8
        · go_wp2_with (go_at_call 26; refine (step_any _ hY _).mono ?_; rintro e w' ⟨rfl, rfl⟩)
          go_round
          case rel => exact ⟨i + 1, by omega, by go_num, by rw [Crc.stps_succ', HY'.out]⟩
          case measure => simp [intOf]; omega
        · go_wp2
          go_round
          case rel =>
            obtain rfl : i = 8 := by omega
            exact ⟨k + 1, by omega, by go_num, by rw [HY'.out, Crc.upd_take _ _ (by rw [HL.out]; exact hlt), HX'.out, Hb'.out]⟩
          case measure => simp [intOf]; omega
    · obtain rfl : k = n := by omega
      go_wp2
      go_ret
      refine ⟨ret_u64 ?_, rfl⟩
      rw [not_eq hX, List.take_of_length_le (by rw [HL.out]; exact Nat.le_refl _)]
      rfl

theorem sum_any (l : List Nat) (hl : Crc.Bytes l) (B n c : Nat) (A : Option Addr) (w : World) (hr : RB w B A n l) (hn : n ≤ maxLen) :
    Calls Try.prog 16 #[.slice A n c] w fun e w' => e = .returned (.int .u64 (Crc.sumS l : Nat)) ∧ w = w' := by
  have H := Lib.hid (update_any 0 (by omega) l hl B n c A w hr hn)
  clear hr
  go_enter Try.func16, Try.ntmps16
  go_wp2_with (go_at_call 21; refine H.out.mono ?_; rintro e w' ⟨rfl, rfl⟩)
  go_ret
  exact ⟨rfl, rfl⟩

end Go.Proofs.Ytijhmopejadpdaa

/- The walks over the reference's reading of numbers and sealing of bytes. -/
import Derived.Test.YtijhmopejadpdaaPut
import Derived.Test.YtijhmopejadpdaaRef
namespace Go.Proofs.Ytijhmopejadpdaa
open Go.RowKit

theorem num_take_lt {l : List Nat} (h : Crc.Bytes l) (k : Nat) : Crc.num (l.take k) < 2 ^ (8 * k) := by
  refine Nat.lt_of_lt_of_le (Crc.num_lt2 _ (bytes_take h k)) (Nat.pow_le_pow_right (by omega) ?_)
  rw [List.length_take]; omega
theorem or_byte (X b k : Nat) (hX : X < 2 ^ (8 * k)) (hb : b < 256) (hk : k < 8) :
    bits BinOp.or IntKind.u64 (X : Int) (IntKind.u64.wrap ((b : Int) * 2 ^ (8 * k))) = ((X + 2 ^ (8 * k) * b : Nat) : Int) := by
  have hp : 2 ^ (8 * k) * 256 ≤ 18446744073709551616 := by
    have : 2 ^ (8 * k) * 2 ^ 8 ≤ 2 ^ 64 := by rw [← Nat.pow_add]; exact Nat.pow_le_pow_right (by omega) (by omega)
    rwa [lt64] at this
  have hm : b * 2 ^ (8 * k) < 18446744073709551616 := by
    have h1 : b * 2 ^ (8 * k) ≤ 255 * 2 ^ (8 * k) := Nat.mul_le_mul_right _ (by omega)
    have h2 : 0 < 2 ^ (8 * k) := Nat.two_pow_pos _
    generalize 2 ^ (8 * k) = q at *
    omega
  have e1 : IntKind.u64.wrap ((b : Int) * 2 ^ (8 * k)) = ((b * 2 ^ (8 * k) : Nat) : Int) := by
    rw [IntKind.wrap_u64, show ((b : Int) * 2 ^ (8 * k)) = ((b * 2 ^ (8 * k) : Nat) : Int) by simp]
    generalize b * 2 ^ (8 * k) = m at hm
    omega
  have hX2 : X < 18446744073709551616 := by
    generalize 2 ^ (8 * k) = q at *
    omega
  rw [e1, u64_or_nat _ _ hX2 hm, Nat.mul_comm b, Crc.or_add _ _ _ hX]

set_option maxHeartbeats 400000 in
theorem rget_any (l : List Nat) (hl : Crc.Bytes l) (B n c : Nat) (A : Option Addr) (w : World) (hr : RB w B A n l) (hn : n ≤ 8) :
    Calls Try.prog 29 #[.slice A n c] w fun e w' => e = .returned (.int .u64 ((Crc.num l : Nat) : Int)) ∧ w = w' := by
  have HL := Lib.hid hr.len
  have HR := Lib.hid hr
  have HB := Lib.hid hl
  clear hr hl
  go_enter Try.func29, Try.ntmps29
  go_wp2
  go_loop [3, 4] (fun x c => ∃ k : Nat, k ≤ n ∧ c = .int .i64 (k : Int) ∧ x = .int .u64 ((Crc.num (l.take k) : Nat) : Int)) (fun _ c => n - (intOf c).toNat)
  case atStart => exact ⟨0, Nat.zero_le _, rfl, rfl⟩
  case round =>
    obtain ⟨k, hk, rfl, rfl⟩ := hrel
    by_cases hlt : k < n
    · have HS := Lib.hid (Crc.num_take_succ l k (by rw [HL.out]; exact hlt))
      have hX := num_take_lt HB.out k
      obtain ⟨ad, rfl, _, hc⟩ := HR.out.at_ hlt
      have hb := bytes_getD HB.out k
      generalize l.getD k 0 = b at hb hc HS
      generalize Crc.num (l.take k) = X at hX HS ⊢
      go_wp2
      go_round
      case rel => exact ⟨k + 1, by omega, by go_num, by rw [HS.out, or_byte X b k hX hb (by omega)]⟩
      case measure => simp [intOf]; omega
    · obtain rfl : k = n := by omega
      go_wp2
      go_ret
      refine ⟨ret_u64 ?_, rfl⟩
      rw [List.take_of_length_le (by rw [HL.out]; exact Nat.le_refl _)]

set_option maxHeartbeats 400000 in
theorem rseal_any (l : List Nat) (hl : Crc.Bytes l) (B m c : Nat) (A : Option Addr) (w : World) (hr : RB w B A m l) (hB : B ≤ w.heap.size) (hm : m ≤ 65536) :
    Calls Try.prog 24 #[.slice A m c] w fun e w' => ∃ v', e = .returned v' ∧ OB w' w.heap.size 5 v' (l ++ Crc.leb 8 (Crc.sumS l)) ∧ Below w.heap.size w w' := by
  have HR := Lib.hid hr
  have HL := Lib.hid hl
  clear hr hl
  go_enter Try.func24, Try.ntmps24
  go_wp2_with fail
  refine (rsum_any l HL.out _ _ _ _ _ HR.out (by unfold maxLen; omega)).mono ?_
  rintro e w' ⟨rfl, rfl⟩
  go_wp2_with fail
  refine (rput_any l _ _ _ _ _ _ (by omega) (by omega) _ HR.out hB hm).mono ?_
  rintro e w' ⟨v', rfl, hown, hb⟩
  have HO := Lib.hid hown
  have HBl := Lib.hid hb
  clear hown hb
  go_wp2
  go_ret
  exact ⟨v', rfl, HO.out, HBl.out⟩


end Go.Proofs.Ytijhmopejadpdaa

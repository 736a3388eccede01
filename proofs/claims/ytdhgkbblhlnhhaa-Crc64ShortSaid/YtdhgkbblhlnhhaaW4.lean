/- Walks over the reference's checksum, and over the statements' common part 'awake'. -/
import Derived.Test.YtdhgkbblhlnhhaaW3
namespace Go.Proofs.Ytdhgkbblhlnhhaa
open Go.RowKit

theorem xor_const {x : Nat} (hx : x < 18446744073709551616) : bits BinOp.xor IntKind.u64 (x : Int) 14514072000185962306 = ((x ^^^ Crc.poly : Nat) : Int) := by
  rw [show (14514072000185962306 : Int) = ((Crc.poly : Nat) : Int) from rfl, bits_xor_u64_nat _ _ hx (by unfold Crc.poly; omega)]

set_option maxHeartbeats 400000 in
theorem rsteps_any (x : Nat) (hx : x < 18446744073709551616) (n : Int) (h0 : 0 ≤ n) (hn : n ≤ 9223372036854775807) (w : World) :
    Calls Try.prog 20 #[.int .u64 (x : Int), .int .i64 n] w fun e w' => e = .returned (.int .u64 ((Crc.stps n.toNat x : Nat) : Int)) ∧ w = w' := by
  obtain ⟨N, rfl⟩ := Int.eq_ofNat_of_zero_le h0
  rw [Int.toNat_natCast]
  go_enter Try.func20, Try.ntmps20
  go_wp2
  go_loop [0, 5] (fun u c => ∃ i : Nat, i ≤ N ∧ c = .int .i64 (i : Int) ∧ u = .int .u64 ((Crc.stps i x : Nat) : Int)) (fun _ c => N - (intOf c).toNat)
  case atStart => exact ⟨0, by omega, rfl, by rw [Crc.stps_0]⟩
  case round =>
    obtain ⟨i, hi, rfl, rfl⟩ := hrel
    have hy := stps_lt' i hx
    have HS := Lib.hid (Crc.stps_succ' i x)
    by_cases hlt : i < N
    · generalize Crc.stps i x = y at hy HS ⊢
      by_cases hodd : y % 2 = 1
      · have ht := odd_of hy hodd
        go_wp2
        go_round
        case rel => exact ⟨i + 1, by omega, by go_num, by rw [HS.out, ← step_odd hy hodd]⟩
        case measure => simp [intOf]; omega
      · have ht := odd_of_not hy hodd
        go_wp2
        go_round
        case rel => exact ⟨i + 1, by omega, by go_num, by rw [HS.out, ← step_even hodd]⟩
        case measure => simp [intOf]; omega
    · obtain rfl : i = N := by omega
      go_wp2
      go_ret
      exact ⟨rfl, rfl⟩

set_option maxHeartbeats 400000 in
theorem rupdate_any (s : Nat) (hs : s < 18446744073709551616) (l : List Nat) (hl : Crc.Bytes l) (B n c : Nat) (A : Option Addr) (w : World) (hr : RB w B A n l) (hn : n ≤ maxLen) :
    Calls Try.prog 15 #[.int .u64 (s : Int), .slice A n c] w fun e w' => e = .returned (.int .u64 (Crc.updS s l : Nat)) ∧ w = w' := by
  unfold maxLen at hn
  have HL := Lib.hid hr.len
  have HR := Lib.hid hr
  have HB := Lib.hid hl
  clear hr hl
  go_enter Try.func15, Try.ntmps15
  go_wp2
  go_loop [5, 6] (fun x i => ∃ k : Nat, k ≤ n ∧ i = .int .i64 k ∧ x = .int .u64 ((Crc.upd (s ^^^ Crc.ones) (l.take k) : Nat) : Int)) (fun _ i => n - (intOf i).toNat)
  case atStart => exact ⟨0, Nat.zero_le _, rfl, by rw [not_eq hs, List.take_zero, Crc.upd_nil]⟩
  case round =>
    obtain ⟨k, hk, rfl, rfl⟩ := hrel
    have hX := upd_lt' (bytes_take HB.out k) (xor_lt' hs ones_lt)
    by_cases hlt : k < n
    · obtain ⟨X, HX⟩ : ∃ X, X = Crc.upd (s ^^^ Crc.ones) (l.take k) := ⟨_, rfl⟩
      rw [← HX] at hX ⊢
      have HX' := Lib.hid HX
      clear HX
      obtain ⟨ad, rfl, _, hc⟩ := HR.out.at_ hlt
      obtain ⟨b, Hb⟩ : ∃ b, b = l.getD k 0 := ⟨_, rfl⟩
      have hb := bytes_getD HB.out k
      rw [← Hb] at hb hc
      have Hb' := Lib.hid Hb
      clear Hb
      have hb64 : b < 18446744073709551616 := by omega
      go_wp2_with (go_at_call 20; rw [bits_xor_u64_nat _ _ hX hb64]; refine (rsteps_any _ (xor_lt' hX hb64) _ (by omega) (by omega) _).mono ?_; rintro e w' ⟨rfl, rfl⟩)
      go_round
      case rel => exact ⟨k + 1, by omega, by go_num, by rw [Crc.upd_take _ _ (by rw [HL.out]; exact hlt), HX'.out, Hb'.out]⟩
      case measure => simp [intOf]; omega
    · obtain rfl : k = n := by omega
      go_wp2
      go_ret
      refine ⟨ret_u64 ?_, rfl⟩
      rw [not_eq hX, List.take_of_length_le (by rw [HL.out]; exact Nat.le_refl _)]
      rfl

theorem rsum_any (l : List Nat) (hl : Crc.Bytes l) (B n c : Nat) (A : Option Addr) (w : World) (hr : RB w B A n l) (hn : n ≤ maxLen) :
    Calls Try.prog 13 #[.slice A n c] w fun e w' => e = .returned (.int .u64 (Crc.sumS l : Nat)) ∧ w = w' := by
  have H := Lib.hid (rupdate_any 0 (by omega) l hl B n c A w hr hn)
  clear hr
  go_enter Try.func13, Try.ntmps13
  go_wp2_with (go_at_call 15; refine H.out.mono ?_; rintro e w' ⟨rfl, rfl⟩)
  go_ret
  exact ⟨rfl, rfl⟩

set_option maxHeartbeats 400000 in
theorem rcombine_any (a b : Nat) (ha : a < 18446744073709551616) (hb : b < 18446744073709551616) (n : Int) (h0 : 0 ≤ n) (hn : n ≤ 1000000) (w : World) :
    Calls Try.prog 18 #[.int .u64 (a : Int), .int .u64 (b : Int), .int .i64 n] w fun e w' => e = .returned (.int .u64 ((Crc.stps (8 * n.toNat) a ^^^ b : Nat) : Int)) ∧ w = w' := by
  have t1 : decide (n < 0) = false := decide_eq_false (by omega)
  have t2 : decide (1000000 < n) = false := decide_eq_false (by omega)
  have hs := stps_lt' (8 * n.toNat) ha
  have e8 := Lib.hid (show (8 * n).toNat = 8 * n.toNat by omega)
  go_enter Try.func18, Try.ntmps18
  go_wp2_with (go_at_call 20; refine (rsteps_any _ ha _ (by omega) (by omega) _).mono ?_; rintro e w' ⟨rfl, rfl⟩)
  go_ret
  exact ⟨ret_u64 (by rw [e8.out, bits_xor_u64_nat _ _ hs hb]), rfl⟩

theorem sum9 : Crc.sumS [49, 50, 51, 52, 53, 54, 55, 56, 57] = 11051210869376104954 := by decide +kernel
theorem sum0 : Crc.sumS [] = 0 := by decide +kernel
theorem comb5 : Crc.stps (8 * (0 : Int).toNat) 5 ^^^ 0 = 5 := by decide +kernel
theorem bytes9 : Crc.Bytes [49, 50, 51, 52, 53, 54, 55, 56, 57] := by unfold Crc.Bytes; decide
theorem bytes0 : Crc.Bytes [] := fun _ h => by cases h

theorem rb_nil (w : World) (B : Nat) (A : Option Addr) : RB w B A 0 [] := ⟨rfl, fun h => absurd h (by omega)⟩
theorem rb_alloc (w : World) (C : Array Value) (t : TypeId) (fr : Nat × Nat) (l : List Nat) (hl : C.toList = l.map bv) : RB (w.alloc (.cells C t fr)) (w.heap.size + 1) (some ⟨w.heap.size, 0, none⟩) l.length l := by
  refine ⟨by simp, fun _ => ⟨_, rfl, Nat.lt_succ_self _, fun j u hu => ?_⟩⟩
  have e : (⟨w.heap.size, 0, none⟩ : Addr).add j = ⟨w.heap.size, j, none⟩ := by
    unfold Addr.add
    split
    · rename_i h0; rw [h0]
    · simp
  rw [e, World.cell?_alloc_mark, ← hu, ← hl]
  simp

set_option maxHeartbeats 400000 in
theorem awake_any (w : World) :
    Calls Try.prog 11 #[] w fun e w' => e = .returned (.bool true) ∧ Below w.heap.size w w' := by
  have kc := fun (w : World) (C : Array Value) (n c : Nat) => Lib.run_convert_bytes_const (P := Try.prog) w 22 5 C n c Try.underlying22 Try.underlying5
  go_enter Try.func11, Try.ntmps11
  go_wp2_with fail
  clear kc
  refine (sum_any [49, 50, 51, 52, 53, 54, 55, 56, 57] bytes9 _ 9 9 _ _ (rb_alloc w _ _ _ _ rfl) (by unfold maxLen; omega)).mono ?_
  rintro e w' ⟨rfl, rfl⟩
  rw [sum9]
  go_wp2_with fail
  refine (sum_any [] bytes0 0 0 0 none _ (rb_nil _ _ _) (by unfold maxLen; omega)).mono ?_
  rintro e w' ⟨rfl, rfl⟩
  rw [sum0]
  go_wp2_with fail
  refine (combine_any 5 0 (by omega) (by omega) 0 (by omega) _).mono ?_
  rintro e w' ⟨rfl, hB⟩
  rw [comb5]
  have hB' : Below w.heap.size w w' := ((Below.refl _ w).alloc (Nat.le_refl _) _).trans (hB.mono (by simp))
  clear hB
  go_wp2
  go_ret
  exact ⟨rfl, hB'⟩

end Go.Proofs.Ytdhgkbblhlnhhaa

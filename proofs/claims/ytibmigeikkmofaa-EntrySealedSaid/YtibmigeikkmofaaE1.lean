/- Walks over the writing and reading of numbers as bytes: entry's own functions, and the reference's. -/
import Derived.Test.YtibmigeikkmofaaW1
import Derived.Test.YtibmigeikkmofaaApp
import Derived.Test.YtibmigeikkmofaaLe
namespace Go.Proofs.Ytibmigeikkmofaa
open Go.RowKit

theorem num_take_lt {l : List Nat} (h : Crc.Bytes l) (k : Nat) : Crc.num (l.take k) < 2 ^ (8 * k) := by
  refine Nat.lt_of_lt_of_le (Crc.num_lt2 _ (bytes_take h k)) (Nat.pow_le_pow_right (by omega) ?_)
  rw [List.length_take]; omega
theorem or_byte (X b k : Nat) (hX : X < 2 ^ (8 * k)) (hb : b < 256) (hk : k < 8) :
    bits BinOp.or IntKind.u64 (X : Int) (IntKind.u64.wrap ((b : Int) * 2 ^ (8 * k))) = ((X + 2 ^ (8 * k) * b : Nat) : Int) := by
  have hp : 2 ^ (8 * k) * 256 ≤ 18446744073709551616 := by
    have : 2 ^ (8 * k) * 2 ^ 8 ≤ 2 ^ 64 := by rw [← Nat.pow_add]; exact Nat.pow_le_pow_right (by omega) (by omega)
    rwa [lt64] at this
  have hm : b * 2 ^ (8 * k) < 18446744073709551616 := by
    have h1 : b * 2 ^ (8 * k) ≤ 255 * 2 ^ (8 * k) := Nat.mul_le_mul_right _ (by omega)
    have h2 : 0 < 2 ^ (8 * k) := Nat.two_pow_pos _
    generalize 2 ^ (8 * k) = q at *
    omega
  have e1 : IntKind.u64.wrap ((b : Int) * 2 ^ (8 * k)) = ((b * 2 ^ (8 * k) : Nat) : Int) := by
    rw [IntKind.wrap_u64, show ((b : Int) * 2 ^ (8 * k)) = ((b * 2 ^ (8 * k) : Nat) : Int) by simp]
    generalize b * 2 ^ (8 * k) = m at hm
    omega
  have hX2 : X < 18446744073709551616 := by
    generalize 2 ^ (8 * k) = q at *
    omega
  rw [e1, u64_or_nat _ _ hX2 hm, Nat.mul_comm b, Crc.or_add _ _ _ hX]
theorem byte_of (n s : Nat) : ((n : Int) / 2 ^ s % 256) = ((n / 2 ^ s % 256 : Nat) : Int) := by simp

set_option maxHeartbeats 400000 in
theorem put_any (base : Nat) (v : Value) (l : List Nat) (n : Nat) (k : Int) (h0 : 0 ≤ k) (hk : k ≤ 8) (w : World) (hown : OB w base 5 v l) (hl : l.length ≤ 65536) (hbase : base ≤ w.heap.size) :
    Calls Try.prog 17 #[v, .int .u64 (n : Int), .int .i64 k] w fun e w' => ∃ v', e = .returned v' ∧ OB w' base 5 v' (l ++ Crc.leb k.toNat n) ∧ Below base w w' := by
  obtain ⟨K, rfl⟩ := Int.eq_ofNat_of_zero_le h0
  rw [Int.toNat_natCast]
  obtain ⟨i0, hi0, hz0, hz1, hz2⟩ := info_parts byteInfo
  have HO := Lib.hid hown
  clear hown
  go_enter Try.func17, Try.ntmps17
  go_wp2
  go_loopw [0, 9] (fun x c wr => ∃ (i : Nat) (v' : Value), i ≤ K ∧ c = .int .i64 (i : Int) ∧ v' = x ∧ OB wr base 5 v' (l ++ Crc.leb i n) ∧ Below base w wr) (fun _ c _ => K - (intOf c).toNat)
  case atStart => exact ⟨0, v, by omega, rfl, rfl, by rw [show Crc.leb 0 n = [] from rfl, List.append_nil]; exact HO.out, Below.refl _ _⟩
  case round =>
    obtain ⟨i, v', hi, rfl, rfl, hO, hB⟩ := hrel
    by_cases hlt : i < K
    · have hlen : (l ++ Crc.leb i n).length ≤ 65536 + 8 := by rw [List.length_append, Crc.leb_length]; omega
      have HO1 := Lib.hid hO
      have HB := Lib.hid hB
      have hbr : base ≤ wr.heap.size := by have := hB.size; omega
      have HX := Lib.hid (rb_alloc wr #[.int .u8 ((n : Int) / 2 ^ (8 * i) % 256)] 5 (0, 0) [n / 2 ^ (8 * i) % 256] (by rw [byte_of n (8 * i)]; rfl))
      clear hO hB
      go_wp2_with (at_builtin; refine wpList_append_rb _ rfl (.tmp 12) (.tmp 18) _ rfl base 5 i0 Try.underlying27 hi0 hz0 hz1 hz2 v' (l ++ Crc.leb i n) rfl (HO1.out.alloc _) _ _ 1 1 [n / 2 ^ (8 * i) % 256] rfl HX.out (by omega) (by simp; omega) ?_; intro v2 w2 hown2 hg2 hat2; have hb2 : Below base w w2 := ((HB.out.alloc hbr _).trans (below_grown (HO1.out.alloc _) hg2 (Nat.le_refl _) (by simp; omega))); clear hg2 hat2; have HO2 := Lib.hid hown2; have HB2 := Lib.hid hb2; clear hown2 hb2)
      go_roundw
      case rel => exact ⟨i + 1, v2, by omega, by go_num, rfl, by have := HO2.out; rwa [List.append_assoc] at this, HB2.out⟩
      case measure => simp [intOf]; omega
    · go_wp2
      go_ret
      have e : i = K := by omega
      subst e
      exact ⟨_, rfl, hO, hB⟩

set_option maxHeartbeats 400000 in
theorem rput_any (l : List Nat) (B m c : Nat) (A : Option Addr) (n : Nat) (k : Int) (h0 : 0 ≤ k) (hk : k ≤ 8) (w : World) (hr : RB w B A m l) (hB : B ≤ w.heap.size) (hm : m ≤ 65536) :
    Calls Try.prog 19 #[.slice A m c, .int .u64 (n : Int), .int .i64 k] w fun e w' => ∃ v', e = .returned v' ∧ OB w' w.heap.size 5 v' (l ++ Crc.leb k.toNat n) ∧ Below w.heap.size w w' := by
  obtain ⟨K, rfl⟩ := Int.eq_ofNat_of_zero_le h0
  rw [Int.toNat_natCast]
  obtain ⟨i0, hi0, hz0, hz1, hz2⟩ := info_parts byteInfo
  have hl := hr.len
  have hl' : l.length ≤ 65536 := by omega
  have HR := Lib.hid hr
  clear hr hl
  go_enter Try.func19, Try.ntmps19
  go_wp2_with (at_builtin; refine wpList_append_rb _ rfl (.tmp 8) (.tmp 9) _ rfl w.heap.size 5 i0 Try.underlying27 hi0 hz0 hz1 hz2 (.slice (some ⟨w.heap.size, 0, none⟩) 0 0) [] rfl (ob_empty w _) B A m c l rfl (Reads.alloc HR.out hB _) (by simp; omega) (by simp) ?_; intro v1 w1 hown1 hg1 hat1; have hb1 : Below w.heap.size w w1 := ((Below.refl _ w).alloc (Nat.le_refl _) _).trans (below_grown (ob_empty w _) hg1 (Nat.le_refl _) (by simp)); clear hg1 hat1; rw [List.nil_append] at hown1; have HO := Lib.hid hown1; have HB0 := Lib.hid hb1; clear hown1 hb1)
  go_loopw [0, 7] (fun x c wr => ∃ (i : Nat) (v' : Value), i ≤ K ∧ c = .int .i64 (i : Int) ∧ v' = x ∧ OB wr w.heap.size 5 v' (l ++ Crc.leb i n) ∧ Below w.heap.size w wr) (fun _ c _ => K - (intOf c).toNat)
  case atStart => exact ⟨0, v1, by omega, rfl, rfl, by rw [show Crc.leb 0 n = [] from rfl, List.append_nil]; exact HO.out, HB0.out⟩
  case round =>
    obtain ⟨i, v', hi, rfl, rfl, hO, hB⟩ := hrel
    by_cases hlt : i < K
    · have hlen : (l ++ Crc.leb i n).length ≤ 65536 + 8 := by rw [List.length_append, Crc.leb_length]; omega
      have HO1 := Lib.hid hO
      have HB := Lib.hid hB
      have hbr : w.heap.size ≤ wr.heap.size := hB.size
      have HX := Lib.hid (rb_alloc wr #[.int .u8 ((n : Int) / 2 ^ (8 * i) % 256)] 5 (0, 0) [n / 2 ^ (8 * i) % 256] (by rw [byte_of n (8 * i)]; rfl))
      clear hO hB
      go_wp2_with (at_builtin; refine wpList_append_rb _ rfl (.tmp 16) (.tmp 23) _ rfl w.heap.size 5 i0 Try.underlying27 hi0 hz0 hz1 hz2 v' (l ++ Crc.leb i n) rfl (HO1.out.alloc _) _ _ 1 1 [n / 2 ^ (8 * i) % 256] rfl HX.out (by omega) (by simp; omega) ?_; intro v2 w2 hown2 hg2 hat2; have hb2 : Below w.heap.size w w2 := ((HB.out.alloc hbr _).trans (below_grown (HO1.out.alloc _) hg2 (Nat.le_refl _) (by simp; omega))); clear hg2 hat2; have HO2 := Lib.hid hown2; have HB2 := Lib.hid hb2; clear hown2 hb2)
      go_roundw
      case rel => exact ⟨i + 1, v2, by omega, by go_num, rfl, by have := HO2.out; rwa [List.append_assoc] at this, HB2.out⟩
      case measure => simp [intOf]; omega
    · go_wp2
      go_ret
      have e : i = K := by omega
      subst e
      exact ⟨_, rfl, hO, hB⟩

set_option maxHeartbeats 400000 in
theorem get_any (l : List Nat) (hl : Crc.Bytes l) (B n c : Nat) (A : Option Addr) (w : World) (hr : RB w B A n l) (hn : n ≤ 8) :
    Calls Try.prog 20 #[.slice A n c] w fun e w' => e = .returned (.int .u64 ((Crc.num l : Nat) : Int)) ∧ w = w' := by
  have HL := Lib.hid hr.len
  have HR := Lib.hid hr
  have HB := Lib.hid hl
  clear hr hl
  go_enter Try.func20, Try.ntmps20
  go_wp2
  go_loop [3, 7] (fun x c => ∃ k : Nat, k ≤ n ∧ c = .int .i64 (k : Int) ∧ x = .int .u64 ((Crc.num (l.take k) : Nat) : Int)) (fun _ c => n - (intOf c).toNat)
  case atStart => exact ⟨0, Nat.zero_le _, rfl, rfl⟩
  case round =>
    obtain ⟨k, hk, rfl, rfl⟩ := hrel
    by_cases hlt : k < n
    · have HS := Lib.hid (Crc.num_take_succ l k (by rw [HL.out]; exact hlt))
      have hX := num_take_lt HB.out k
      obtain ⟨ad, rfl, _, hc⟩ := HR.out.at_ hlt
      have hb := bytes_getD HB.out k
      generalize l.getD k 0 = b at hb hc HS
      generalize Crc.num (l.take k) = X at hX HS ⊢
      go_wp2
      go_round
      case rel => exact ⟨k + 1, by omega, by go_num, by rw [HS.out, or_byte X b k hX hb (by omega)]⟩
      case measure => simp [intOf]; omega
    · obtain rfl : k = n := by omega
      go_wp2
      go_ret
      refine ⟨ret_u64 ?_, rfl⟩
      rw [List.take_of_length_le (by rw [HL.out]; exact Nat.le_refl _)]

set_option maxHeartbeats 400000 in
theorem rget_any (l : List Nat) (hl : Crc.Bytes l) (B n c : Nat) (A : Option Addr) (w : World) (hr : RB w B A n l) (hn : n ≤ 8) :
    Calls Try.prog 21 #[.slice A n c] w fun e w' => e = .returned (.int .u64 ((Crc.num l : Nat) : Int)) ∧ w = w' := by
  have HL := Lib.hid hr.len
  have HR := Lib.hid hr
  have HB := Lib.hid hl
  clear hr hl
  go_enter Try.func21, Try.ntmps21
  go_wp2
  go_loop [3, 4] (fun x c => ∃ k : Nat, k ≤ n ∧ c = .int .i64 (k : Int) ∧ x = .int .u64 ((Crc.num (l.take k) : Nat) : Int)) (fun _ c => n - (intOf c).toNat)
  case atStart => exact ⟨0, Nat.zero_le _, rfl, rfl⟩
  case round =>
    obtain ⟨k, hk, rfl, rfl⟩ := hrel
    by_cases hlt : k < n
    · have HS := Lib.hid (Crc.num_take_succ l k (by rw [HL.out]; exact hlt))
      have hX := num_take_lt HB.out k
      obtain ⟨ad, rfl, _, hc⟩ := HR.out.at_ hlt
      have hb := bytes_getD HB.out k
      generalize l.getD k 0 = b at hb hc HS
      generalize Crc.num (l.take k) = X at hX HS ⊢
      go_wp2
      go_round
      case rel => exact ⟨k + 1, by omega, by go_num, by rw [HS.out, or_byte X b k hX hb (by omega)]⟩
      case measure => simp [intOf]; omega
    · obtain rfl : k = n := by omega
      go_wp2
      go_ret
      refine ⟨ret_u64 ?_, rfl⟩
      rw [List.take_of_length_le (by rw [HL.out]; exact Nat.le_refl _)]

end Go.Proofs.Ytibmigeikkmofaa

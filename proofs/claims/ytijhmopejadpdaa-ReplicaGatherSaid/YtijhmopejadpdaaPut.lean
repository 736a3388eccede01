/- The walk over the reference's writing of numbers as bytes. -/
import Derived.Test.YtijhmopejadpdaaW1
import Derived.Test.YtijhmopejadpdaaApp
import Derived.Test.YtijhmopejadpdaaLe
namespace Go.Proofs.Ytijhmopejadpdaa
open Go.RowKit

theorem byte_of (n s : Nat) : ((n : Int) / 2 ^ s % 256) = ((n / 2 ^ s % 256 : Nat) : Int) := by simp


set_option maxHeartbeats 400000 in
theorem rput_any (l : List Nat) (B m c : Nat) (A : Option Addr) (n : Nat) (k : Int) (h0 : 0 ≤ k) (hk : k ≤ 8) (w : World) (hr : RB w B A m l) (hB : B ≤ w.heap.size) (hm : m ≤ 65536) :
    Calls Try.prog 23 #[.slice A m c, .int .u64 (n : Int), .int .i64 k] w fun e w' => ∃ v', e = .returned v' ∧ OB w' w.heap.size 5 v' (l ++ Crc.leb k.toNat n) ∧ Below w.heap.size w w' := by
  obtain ⟨K, rfl⟩ := Int.eq_ofNat_of_zero_le h0
  rw [Int.toNat_natCast]
  obtain ⟨i0, hi0, hz0, hz1, hz2⟩ := info_parts byteInfo
  have hl := hr.len
  have hl' : l.length ≤ 65536 := by omega
  have HR := Lib.hid hr
  clear hr hl
  go_enter Try.func23, Try.ntmps23
  go_wp2_with (at_builtin; refine wpList_append_rb _ rfl (.tmp 8) (.tmp 9) _ rfl w.heap.size 5 i0 Try.underlying22 hi0 hz0 hz1 hz2 (.slice (some ⟨w.heap.size, 0, none⟩) 0 0) [] rfl (ob_empty w _) B A m c l rfl (Reads.alloc HR.out hB _) (by simp; omega) (by simp) ?_; intro v1 w1 hown1 hg1 hat1; have hb1 : Below w.heap.size w w1 := ((Below.refl _ w).alloc (Nat.le_refl _) _).trans (below_grown (ob_empty w _) hg1 (Nat.le_refl _) (by simp)); clear hg1 hat1; rw [List.nil_append] at hown1; have HO := Lib.hid hown1; have HB0 := Lib.hid hb1; clear hown1 hb1)
  go_loopw [0, 7] (fun x c wr => ∃ (i : Nat) (v' : Value), i ≤ K ∧ c = .int .i64 (i : Int) ∧ v' = x ∧ OB wr w.heap.size 5 v' (l ++ Crc.leb i n) ∧ Below w.heap.size w wr) (fun _ c _ => K - (intOf c).toNat)
  case atStart => exact ⟨0, v1, by omega, rfl, rfl, by rw [show Crc.leb 0 n = [] from rfl, List.append_nil]; exact HO.out, HB0.out⟩
  case round =>
    obtain ⟨i, v', hi, rfl, rfl, hO, hB⟩ := hrel
    by_cases hlt : i < K
    · have hlen : (l ++ Crc.leb i n).length ≤ 65536 + 8 := by rw [List.length_append, Crc.leb_length]; omega
      have HO1 := Lib.hid hO
      have HB := Lib.hid hB
      have hbr : w.heap.size ≤ wr.heap.size := hB.size
      have HX := Lib.hid (rb_alloc wr #[.int .u8 ((n : Int) / 2 ^ (8 * i) % 256)] 5 (0, 0) [n / 2 ^ (8 * i) % 256] (by rw [byte_of n (8 * i)]; rfl))
      clear hO hB
      go_wp2_with (at_builtin; refine wpList_append_rb _ rfl (.tmp 16) (.tmp 23) _ rfl w.heap.size 5 i0 Try.underlying22 hi0 hz0 hz1 hz2 v' (l ++ Crc.leb i n) rfl (HO1.out.alloc _) _ _ 1 1 [n / 2 ^ (8 * i) % 256] rfl HX.out (by omega) (by simp; omega) ?_; intro v2 w2 hown2 hg2 hat2; have hb2 : Below w.heap.size w w2 := ((HB.out.alloc hbr _).trans (below_grown (HO1.out.alloc _) hg2 (Nat.le_refl _) (by simp; omega))); clear hg2 hat2; have HO2 := Lib.hid hown2; have HB2 := Lib.hid hb2; clear hown2 hb2)
      go_roundw
      case rel => exact ⟨i + 1, v2, by omega, by go_num, rfl, by have := HO2.out; rwa [List.append_assoc] at this, HB2.out⟩
      case measure => simp [intOf]; omega
    · go_wp2
      go_ret
      have e : i = K := by omega
      subst e
      exact ⟨_, rfl, hO, hB⟩


end Go.Proofs.Ytijhmopejadpdaa

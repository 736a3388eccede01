/- The walk over the statement Crc64Linear. -/
import Derived.Test.YtdhgkbblhlnhhaaL5
namespace Go.Proofs.Ytdhgkbblhlnhhaa
open Go.RowKit

theorem ret_bool {b : Bool} (h : b = true) : Ending.returned (.bool b) = .returned (.bool true) := by rw [h]
/-- The exclusive or of three byte strings, byte by byte. -/
def zip3 (a b d : List Nat) (N : Nat) : List Nat := List.zipWith (· ^^^ ·) (List.zipWith (· ^^^ ·) (a.take N) (b.take N)) (d.take N)
theorem zip3_length {a b d : List Nat} {N : Nat} (ha : N ≤ a.length) (hb : N ≤ b.length) (hd : N ≤ d.length) : (zip3 a b d N).length = N := by
  simp [zip3]; omega
theorem zip3_get {a b d : List Nat} {N : Nat} (ha : N ≤ a.length) (hb : N ≤ b.length) (hd : N ≤ d.length) (j : Nat) (hj : j < N) :
    (zip3 a b d N).getD j 0 = (a.getD j 0 ^^^ b.getD j 0) ^^^ d.getD j 0 := by
  have hl := zip3_length ha hb hd
  rw [List.getD_eq_getElem?_getD, List.getElem?_eq_getElem (show j < (zip3 a b d N).length by omega)]
  simp [zip3, List.getD_eq_getElem?_getD, List.getElem?_eq_getElem (show j < a.length by omega), List.getElem?_eq_getElem (show j < b.length by omega), List.getElem?_eq_getElem (show j < d.length by omega)]

set_option maxHeartbeats 400000 in
theorem Crc64Linear_walk (a b d : List Nat) (hla : Crc.Bytes a) (hlb : Crc.Bytes b) (hld : Crc.Bytes d) (A B D : Option Addr) (n m k ca cb cd : Nat) (w : World)
    (ha : RB w w.heap.size A n a) (hb : RB w w.heap.size B m b) (hd : RB w w.heap.size D k d) (hn : n ≤ ca) (hm : m ≤ cb) (hk : k ≤ cd) (hn' : ca ≤ maxLen) (hm' : cb ≤ maxLen) (hk' : cd ≤ maxLen) :
    Calls Try.prog 8 #[.slice A n ca, .slice B m cb, .slice D k cd] w (True1 w) := by
  have HA := Lib.hid ha
  have HB := Lib.hid hb
  have HD := Lib.hid hd
  unfold maxLen at hn' hm' hk'
  have hmin := fun (ts : Array TypeId) (t : TypeId) (w : World) => run_min4 (P := Try.prog) ts t n m k w
  have hN : min (min (min n m) k) 100 ≤ 100 ∧ min (min (min n m) k) 100 ≤ n ∧ min (min (min n m) k) 100 ≤ m ∧ min (min (min n m) k) 100 ≤ k := by omega
  generalize min (min (min n m) k) 100 = N at hmin hN
  obtain ⟨hN1, hN2, hN3, hN4⟩ := hN
  have hmk := fun (w : World) => run_make_row' (P := Try.prog) 22 5 (.int .u8 0) 1 Try.underlying22 byteInfo rfl .i64 .i64 N (by omega) (by omega) w
  obtain ⟨f, Hf⟩ : ∃ f : Nat → Nat, ∀ j, f j = (a.getD j 0 ^^^ b.getD j 0) ^^^ d.getD j 0 := ⟨_, fun _ => rfl⟩
  have Hf' := Lib.hid Hf
  clear ha hb hd Hf
  go_enter Try.func8, Try.ntmps8
  go_wp2_with (go_at_call 11; refine (awake_any _).mono ?_; rintro e w1 ⟨rfl, hB⟩)
  clear hmin hmk
  have HA1 := Lib.hid ((RB.below HA.out hB).more hB.size)
  have HB1 := Lib.hid ((RB.below HB.out hB).more hB.size)
  have HD1 := Lib.hid ((RB.below HD.out hB).more hB.size)
  have HBl := Lib.hid hB
  clear hB
  go_loopw [9] (fun c wr => ∃ i : Nat, i ≤ N ∧ c = .int .i64 (i : Int) ∧ Fill wr w1.heap.size 5 N i (fun j => bv (f j)) ∧ Below w1.heap.size w1 wr) (fun c _ => N - (intOf c).toNat)
  case atStart => exact ⟨0, by omega, rfl, Fill.start _ _ _ _ _ (size_madeCells _ _), (Below.refl _ _).alloc (Nat.le_refl _) _⟩
  case round =>
    obtain ⟨i, hi, rfl, hF, hB⟩ := hrel
    by_cases hlt : i < N
    · obtain ⟨aa, rfl, _, hca⟩ := RB.at_ (RB.below HA1.out hB) (show i < n by omega)
      obtain ⟨ab, rfl, _, hcb⟩ := RB.at_ (RB.below HB1.out hB) (show i < m by omega)
      obtain ⟨ad, rfl, _, hcd⟩ := RB.at_ (RB.below HD1.out hB) (show i < k by omega)
      have hx := bytes_getD hla i
      have hy := bytes_getD hlb i
      have hz := bytes_getD hld i
      have Hfi := Lib.hid (Hf'.out i)
      generalize a.getD i 0 = x at hca hx Hfi
      generalize b.getD i 0 = y at hcb hy Hfi
      generalize d.getD i 0 = z at hcd hz Hfi
      obtain ⟨old, hold⟩ := hF.cell i hlt
      have hfree := hF.free i
      have HF := Lib.hid hF
      have HBr := Lib.hid hB
      clear hF hB
      go_wp2
      go_region
      go_wp2
      go_roundw
      case rel => exact ⟨i + 1, by omega, by go_num, (HF.out.set hlt _ (by rw [u8_xor_nat _ _ hx hy, u8_xor_nat _ _ (Nat.xor_lt_two_pow (n := 8) hx hy) hz, Hfi.out]; rfl)).drew, (HBr.out.setCell (Nat.le_refl _) _).drew⟩
      case measure => simp [intOf]; omega
    · have hla' := HA.out.len
      have hlb' := HB.out.len
      have hld' := HD.out.len
      have hX := zip3_length (a := a) (b := b) (d := d) (N := N) (by omega) (by omega) (by omega)
      have HX := Lib.hid (Fill.rb (l := zip3 a b d N) (by
        have e : i = N := by omega
        rw [e] at hF
        exact hF.congr fun j hj => by rw [zip3_get (by omega) (by omega) (by omega) j hj, Hf'.out]) hX)
      have HAr := Lib.hid ((RB.below HA1.out hB).take N (by omega))
      have HBr := Lib.hid ((RB.below HB1.out hB).take N (by omega))
      have HDr := Lib.hid ((RB.below HD1.out hB).take N (by omega))
      have HBl2 := Lib.hid (HBl.out.trans (hB.mono HBl.out.size))
      have hbz : Crc.Bytes (zip3 a b d N) := Crc.bytes_zip (Crc.bytes_zip (bytes_take hla _) (bytes_take hlb _)) (bytes_take hld _)
      have HS := Lib.hid (Crc.sumS_linear (bytes_take hla N) (bytes_take hlb N) (bytes_take hld N) (by simp; omega) (by simp; omega))
      have hNm : N ≤ maxLen := by unfold maxLen; omega
      clear hF hB hX hla' hlb' hld'
      go_wp2
      go_quiet (first
        | (go_at_call_of 12 (Value.slice A N ca); exact quiet_left (sum_any _ (bytes_take hla N) _ _ _ _ _ (RB.drewN HAr.out _) hNm))
        | (go_at_call_of 12 (Value.slice B N cb); exact quiet_left (sum_any _ (bytes_take hlb N) _ _ _ _ _ (RB.drewN HBr.out _) hNm))
        | (go_at_call_of 12 (Value.slice D N cd); exact quiet_left (sum_any _ (bytes_take hld N) _ _ _ _ _ (RB.drewN HDr.out _) hNm))
        | (go_at_call 12; exact quiet_left (sum_any _ hbz _ _ _ _ _ (RB.drewN HX.out _) hNm)))
      go_wp2
      go_ret
      refine ⟨ret_bool ?_, below_drewN HBl2.out _⟩
      have s1 := sumS_lt' (bytes_take hla N)
      have s2 := sumS_lt' (bytes_take hlb N)
      have s3 := sumS_lt' (bytes_take hld N)
      rw [bits_xor_u64_nat _ _ s1 s2, bits_xor_u64_nat _ _ (xor_lt' s1 s2) s3, HS.out]
      exact beq_self_eq_true _

end Go.Proofs.Ytdhgkbblhlnhhaa

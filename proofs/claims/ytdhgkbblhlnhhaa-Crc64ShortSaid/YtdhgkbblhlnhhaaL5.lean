/- Walks over the statements Crc64Sum, Crc64Update, Crc64Combine, Crc64Steps, Crc64Far. -/
import Derived.Test.YtdhgkbblhlnhhaaW4
import Derived.Test.YtdhgkbblhlnhhaaApp
namespace Go.Proofs.Ytdhgkbblhlnhhaa
open Go.RowKit

theorem byteInfo : (Try.prog.info? 5).map (fun i => (i.zero, i.size, i.bytes)) = some (some (.int .u8 0), 1, 1) := by kernel_rfl

set_option maxHeartbeats 400000 in
theorem joined_any (a b : List Nat) (na nb ca cb : Nat) (A B : Option Addr) (w : World) (ha : RB w w.heap.size A na a) (hb : RB w w.heap.size B nb b) (hna : na ≤ 300) (hnb : nb ≤ 300) :
    Calls Try.prog 16 #[.slice A na ca, .slice B nb cb] w fun e w' => ∃ J cJ, e = .returned (.slice J (na + nb : Nat) cJ) ∧ RB w' w'.heap.size J (na + nb) (a ++ b) ∧ na + nb ≤ maxLen ∧ Below w.heap.size w w' := by
  obtain ⟨i0, hi0, hz0, hz1, hz2⟩ := info_parts byteInfo
  have hla := ha.len
  have hlb := hb.len
  have HA := Lib.hid ha
  have HB := Lib.hid hb
  have Hla := Lib.hid hla
  have Hlb := Lib.hid hlb
  have hla' : a.length ≤ 300 := by omega
  clear ha hb hla hlb
  go_enter Try.func16, Try.ntmps16
  go_wp2_with (first
    | (at_builtin; refine wpList_append_rb _ rfl (.tmp 5) (.tmp 6) _ rfl w.heap.size 5 i0 Try.underlying22 hi0 hz0 hz1 hz2 (.slice (some ⟨w.heap.size, 0, none⟩) 0 0) [] rfl (ob_empty w _) w.heap.size A na ca a rfl (Reads.alloc HA.out (Nat.le_refl _) _) (by simp; omega) (by simp) ?_; intro v1 w1 hown1 hg1 hat1; have hb1 : Below w.heap.size w w1 := ((Below.refl _ w).alloc (Nat.le_refl _) _).trans (below_grown (ob_empty w _) hg1 (Nat.le_refl _) (by simp)); clear hg1 hat1; have Hown1 := Lib.hid hown1; clear hown1)
    | (at_builtin; refine wpList_append_rb _ rfl (.tmp 7) (.tmp 8) _ rfl w.heap.size 5 i0 Try.underlying22 hi0 hz0 hz1 hz2 v1 ([] ++ a) rfl Hown1.out w.heap.size B nb cb b rfl (Reads.below HB.out hb1) (by simp; omega) hb1.size ?_; intro v2 w2 hown2 hg2 hat2; have hb2 : Below w.heap.size w w2 := hb1.trans (below_grown Hown1.out hg2 (Nat.le_refl _) hb1.size); clear hg2 hat2; have Hown2 := Lib.hid hown2; clear hown2))
  go_ret
  have ho := Hown2.out
  rw [List.nil_append] at ho
  obtain ⟨J, cJ, rfl, hJ, hJ1, hJ2⟩ := ho.form
  rw [List.length_append, Hla.out, Hlb.out] at hJ hJ1 ⊢
  exact ⟨J, cJ, rfl, hJ, Nat.le_trans hJ1 hJ2, hb2⟩

/-- A law's end: it returns true, and what was there is as it was. -/
def True1 (w : World) (e : Ending) (w' : World) : Prop := e = .returned (.bool true) ∧ Below w.heap.size w w'

set_option maxHeartbeats 400000 in
theorem Crc64Sum_walk (l : List Nat) (hl : Crc.Bytes l) (A : Option Addr) (n c s : Nat) (hs : s < 18446744073709551616) (w : World) (hr : RB w w.heap.size A n l) (hn : n ≤ maxLen) :
    Calls Try.prog 3 #[.slice A n c, .int .u64 (s : Int)] w (True1 w) := by
  have HR := Lib.hid hr
  have HL := Lib.hid hl
  have HN := Lib.hid hn
  unfold maxLen at hn
  clear hr hl
  go_enter Try.func3, Try.ntmps3
  by_cases h300 : n ≤ 300
  · go_wp2_with (go_at_call 11; refine (awake_any _).mono ?_; rintro e w1 ⟨rfl, hB⟩)
    have HR1 := Lib.hid (Reads.below HR.out hB)
    go_wp2_with fail
    refine (sum_any l HL.out _ _ _ _ _ HR1.out HN.out).mono ?_
    rintro e w' ⟨rfl, rfl⟩
    go_wp2_with fail
    refine (rsum_any l HL.out _ _ _ _ _ HR1.out HN.out).mono ?_
    rintro e w' ⟨rfl, rfl⟩
    go_wp2_with fail
    refine (update_any s hs l HL.out _ _ _ _ _ HR1.out HN.out).mono ?_
    rintro e w' ⟨rfl, rfl⟩
    go_wp2_with fail
    refine (rupdate_any s hs l HL.out _ _ _ _ _ HR1.out HN.out).mono ?_
    rintro e w' ⟨rfl, rfl⟩
    go_wp2
    go_ret
    exact ⟨rfl, hB⟩
  · go_wp2_with (go_at_call 11; refine (awake_any _).mono ?_; rintro e w1 ⟨rfl, hB⟩)
    go_wp2
    go_ret
    exact ⟨rfl, hB⟩

set_option maxHeartbeats 400000 in
theorem Crc64Update_walk (a b : List Nat) (hla : Crc.Bytes a) (hlb : Crc.Bytes b) (A B : Option Addr) (n m c d : Nat) (w : World) (ha : RB w w.heap.size A n a) (hb : RB w w.heap.size B m b) (hn : n ≤ maxLen) (hm : m ≤ maxLen) :
    Calls Try.prog 4 #[.slice A n c, .slice B m d] w (True1 w) := by
  have HA := Lib.hid ha
  have HB := Lib.hid hb
  have HLA := Lib.hid hla
  have HLB := Lib.hid hlb
  have HN := Lib.hid hn
  have HM := Lib.hid hm
  unfold maxLen at hn hm
  clear ha hb hla hlb
  go_enter Try.func4, Try.ntmps4
  by_cases h300 : n ≤ 300
  · by_cases h301 : m ≤ 300
    · go_wp2_with (go_at_call 11; refine (awake_any _).mono ?_; rintro e w1 ⟨rfl, hB⟩)
      have HA1 := Lib.hid ((Reads.below HA.out hB).more hB.size)
      have HB1 := Lib.hid ((Reads.below HB.out hB).more hB.size)
      have HBl := Lib.hid hB
      clear hB
      go_wp2_with fail
      refine (sum_any a HLA.out _ _ _ _ _ HA1.out HN.out).mono ?_
      rintro e w' ⟨rfl, rfl⟩
      go_wp2_with fail
      refine (update_any _ (sumS_lt' HLA.out) b HLB.out _ _ _ _ _ HB1.out HM.out).mono ?_
      rintro e w' ⟨rfl, rfl⟩
      go_wp2_with fail
      refine (joined_any a b _ _ _ _ _ _ _ HA1.out HB1.out h300 h301).mono ?_
      rintro e w2 ⟨J, cJ, rfl, hJ, hJ1, hb2⟩
      have HJ := Lib.hid hJ
      have HJ1 := Lib.hid hJ1
      have Hb2 := Lib.hid hb2
      clear hJ hJ1 hb2
      go_wp2_with fail
      refine (sum_any (a ++ b) (Crc.bytes_append HLA.out HLB.out) _ _ _ _ _ HJ.out HJ1.out).mono ?_
      rintro e w' ⟨rfl, rfl⟩
      have he := Crc.updS_append a b 0
      rw [show Crc.sumS a = Crc.updS 0 a from rfl, he, show Crc.sumS (a ++ b) = Crc.updS 0 (a ++ b) from rfl]
      clear he
      go_wp2
      go_ret
      exact ⟨rfl, HBl.out.trans (Hb2.out.mono HBl.out.size)⟩
    · go_wp2_with (go_at_call 11; refine (awake_any _).mono ?_; rintro e w1 ⟨rfl, hB⟩)
      go_wp2
      go_ret
      exact ⟨rfl, hB⟩
  · go_wp2_with (go_at_call 11; refine (awake_any _).mono ?_; rintro e w1 ⟨rfl, hB⟩)
    go_wp2
    go_ret
    exact ⟨rfl, hB⟩

set_option maxHeartbeats 400000 in
theorem Crc64Combine_walk (a b : List Nat) (hla : Crc.Bytes a) (hlb : Crc.Bytes b) (A B : Option Addr) (n m c d : Nat) (w : World) (ha : RB w w.heap.size A n a) (hb : RB w w.heap.size B m b) (hn : n ≤ maxLen) (hm : m ≤ maxLen) :
    Calls Try.prog 5 #[.slice A n c, .slice B m d] w (True1 w) := by
  have HA := Lib.hid ha
  have HB := Lib.hid hb
  have HLA := Lib.hid hla
  have HLB := Lib.hid hlb
  have HN := Lib.hid hn
  have HM := Lib.hid hm
  unfold maxLen at hn hm
  clear ha hb hla hlb
  go_enter Try.func5, Try.ntmps5
  by_cases h300 : n ≤ 300
  · by_cases h301 : m ≤ 300
    · go_wp2_with (go_at_call 11; refine (awake_any _).mono ?_; rintro e w1 ⟨rfl, hB⟩)
      have HA1 := Lib.hid ((Reads.below HA.out hB).more hB.size)
      have HB1 := Lib.hid ((Reads.below HB.out hB).more hB.size)
      have HBl := Lib.hid hB
      clear hB
      go_wp2_with fail
      refine (sum_any a HLA.out _ _ _ _ _ HA1.out HN.out).mono ?_
      rintro e w' ⟨rfl, rfl⟩
      go_wp2_with fail
      refine (sum_any b HLB.out _ _ _ _ _ HB1.out HM.out).mono ?_
      rintro e w' ⟨rfl, rfl⟩
      go_wp2_with fail
      refine (combine_any _ _ (sumS_lt' HLA.out) (sumS_lt' HLB.out) _ (by omega) _).mono ?_
      rintro e w2 ⟨rfl, hc2⟩
      have HA2 := Lib.hid ((Reads.below HA1.out hc2).more hc2.size)
      have HB2 := Lib.hid ((Reads.below HB1.out hc2).more hc2.size)
      have HBl2 := Lib.hid (HBl.out.trans (hc2.mono HBl.out.size))
      clear hc2
      go_wp2_with fail
      refine (joined_any a b _ _ _ _ _ _ _ HA2.out HB2.out h300 h301).mono ?_
      rintro e w3 ⟨J, cJ, rfl, hJ, hJ1, hb2⟩
      have HJ := Lib.hid hJ
      have HJ1 := Lib.hid hJ1
      have Hb2 := Lib.hid hb2
      clear hJ hJ1 hb2
      go_wp2_with fail
      refine (sum_any (a ++ b) (Crc.bytes_append HLA.out HLB.out) _ _ _ _ _ HJ.out HJ1.out).mono ?_
      rintro e w' ⟨rfl, rfl⟩
      have he := Crc.combine_sum (a := a) HLB.out
      rw [← he, RB.len HB.out]
      clear he
      go_wp2
      go_ret
      exact ⟨rfl, HBl2.out.trans (Hb2.out.mono HBl2.out.size)⟩
    · go_wp2_with (go_at_call 11; refine (awake_any _).mono ?_; rintro e w1 ⟨rfl, hB⟩)
      go_wp2
      go_ret
      exact ⟨rfl, hB⟩
  · go_wp2_with (go_at_call 11; refine (awake_any _).mono ?_; rintro e w1 ⟨rfl, hB⟩)
    go_wp2
    go_ret
    exact ⟨rfl, hB⟩

set_option maxHeartbeats 400000 in
theorem Crc64Steps_walk (a b : Nat) (ha : a < 18446744073709551616) (hb : b < 18446744073709551616) (n : Int) (w : World) :
    Calls Try.prog 6 #[.int .u64 (a : Int), .int .u64 (b : Int), .int .i64 n] w (True1 w) := by
  go_enter Try.func6, Try.ntmps6
  by_cases h1 : n ≤ 1000
  · go_wp2_with (go_at_call 11; refine (awake_any _).mono ?_; rintro e w1 ⟨rfl, hB⟩)
    go_wp2_with fail
    refine (combine_any _ _ ha hb _ (by omega) _).mono ?_
    rintro e w2 ⟨rfl, hc2⟩
    have HBl2 := Lib.hid (hB.trans (hc2.mono hB.size))
    clear hc2 hB
    go_wp2_with fail
    · refine (rcombine_any _ _ ha hb _ (by omega) (by omega) _).mono ?_
      rintro e w' ⟨rfl, rfl⟩
      rw [show n.toNat = (0 : Int).toNat by omega]
      go_wp2
      go_ret
      exact ⟨rfl, HBl2.out⟩
    · refine (rcombine_any _ _ ha hb _ (by omega) (by omega) _).mono ?_
      rintro e w' ⟨rfl, rfl⟩
      go_wp2
      go_ret
      exact ⟨rfl, HBl2.out⟩
  · go_wp2_with (go_at_call 11; refine (awake_any _).mono ?_; rintro e w1 ⟨rfl, hB⟩)
    go_wp2
    go_ret
    exact ⟨rfl, hB⟩

set_option maxHeartbeats 400000 in
theorem Crc64Far_walk (a m n : Nat) (ha : a < 18446744073709551616) (w : World) :
    Calls Try.prog 7 #[.int .u64 (a : Int), .int .u64 (m : Int), .int .u64 (n : Int)] w (True1 w) := by
  obtain ⟨x, Hx⟩ : ∃ x : Nat, x = m % 1099511627776 := ⟨_, rfl⟩
  obtain ⟨y, Hy⟩ : ∃ y : Nat, y = n % 1099511627776 := ⟨_, rfl⟩
  have hx : x < 1099511627776 := by omega
  have hy : y < 1099511627776 := by omega
  have Ex := Lib.hid (show ((m : Int) % 1099511627776) = (x : Int) by omega)
  have Ey := Lib.hid (show ((n : Int) % 1099511627776) = (y : Int) by omega)
  clear Hx Hy
  have hz := stps_lt' (8 * (x : Int).toNat) ha
  go_enter Try.func7, Try.ntmps7
  go_wp2_with (go_at_call 11; refine (awake_any _).mono ?_; rintro e w1 ⟨rfl, hB⟩)
  go_wp2_with fail
  rw [Ex.out, Ey.out]
  refine (combine_any _ 0 ha (by omega) _ (by omega) _).mono ?_
  rintro e w2 ⟨rfl, hc2⟩
  have HBl2 := Lib.hid (hB.trans (hc2.mono hB.size))
  clear hc2 hB
  rw [Nat.xor_zero]
  go_wp2_with fail
  refine (combine_any _ 0 hz (by omega) _ (by omega) _).mono ?_
  rintro e w3 ⟨rfl, hc3⟩
  have HBl3 := Lib.hid (HBl2.out.trans (hc3.mono HBl2.out.size))
  clear hc3
  rw [Nat.xor_zero, ← Crc.stps_add]
  go_wp2_with fail
  refine (combine_any _ 0 ha (by omega) _ (by omega) _).mono ?_
  rintro e w4 ⟨rfl, hc4⟩
  have HBl4 := Lib.hid (HBl3.out.trans (hc4.mono HBl3.out.size))
  clear hc4
  rw [Nat.xor_zero, show 8 * ((x : Int) + (y : Int)).toNat = 8 * (x : Int).toNat + 8 * (y : Int).toNat by omega]
  go_wp2
  go_ret
  exact ⟨rfl, HBl4.out⟩

end Go.Proofs.Ytdhgkbblhlnhhaa

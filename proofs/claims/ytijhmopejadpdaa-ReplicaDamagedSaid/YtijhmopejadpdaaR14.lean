/- The walk over the statement ReplicaDamaged. -/
import Derived.Test.YtijhmopejadpdaaR13
namespace Go.Proofs.Ytijhmopejadpdaa
open Go.RowKit

set_option maxRecDepth 4000 in
set_option maxHeartbeats 2000000 in
theorem ReplicaDamaged_walk (blob : List Nat) (hbl : Crc.Bytes blob) (A : Option Addr) (n c gen : Nat) (hgen : gen < 18446744073709551616) (x0 x1 x2 : Nat) (hxb : Crc.Bytes [x0, x1, x2]) (w : World)
    (hr : RB w w.heap.size A n blob) (hnc : n ≤ c) :
    Calls Try.prog 4 #[.slice A n c, .int .u64 (gen : Int), .agg #[bv x0, bv x1, bv x2]] w (True1 w) := by
  obtain ⟨i0, hi0, hz0, hz1, hz2⟩ := info_parts byteInfo
  obtain ⟨j0, hj0, hy0, hy1, hy2⟩ := info_parts sliceInfo
  have a0 : x0 < 256 := hxb x0 (by simp)
  have a1 : x1 < 256 := hxb x1 (by simp)
  have a2 : x2 < 256 := hxb x2 (by simp)
  have HR := Lib.hid hr
  have HBl := Lib.hid hbl
  have hl := hr.len
  clear hr hbl hxb
  unfold True1 bv
  go_enter Try.func4, Try.ntmps4
  go_wp2_with fail
  obtain ⟨w0, hw0⟩ : ∃ w0, w0 = w.alloc (.cells #[.int .u8 (x0 : Int), .int .u8 (x1 : Int), .int .u8 (x2 : Int)] 33) := ⟨_, rfl⟩
  have hX0 : Blk w0 w.heap.size 33 #[.int .u8 (x0 : Int), .int .u8 (x1 : Int), .int .u8 (x2 : Int)] := by rw [hw0]; exact Blk.new _ _ _
  have hB0 : Below w.heap.size w w0 := by rw [hw0]; exact (Below.refl _ _).alloc (Nat.le_refl _) _
  have hz0' : w.heap.size < w0.heap.size := hX0.lt
  rw [← hw0]
  refine (awake_any w0).mono ?_
  rintro e w1 ⟨rfl, hb1⟩
  have HX1 := Lib.hid (hX0.below hb1 hz0')
  have HB1 := Lib.hid (hB0.trans (hb1.mono hB0.size))
  have hz1' : w.heap.size < w1.heap.size := by have := hb1.size; omega
  clear hw0 hX0 hB0 hb1 hz0'
  have v2 : w1.cell? ⟨w.heap.size, 2, none⟩ = some (.int .u8 (x2 : Int)) := HX1.out.cell 2
  have HAw : Hid (Calls Try.prog 8 #[] w1 fun e w' => e = .returned (.bool true) ∧ Below w.heap.size w w') := Lib.hid ((awake_any w1).mono (by
    rintro e w2 ⟨rfl, hb2⟩
    exact ⟨rfl, HB1.out.trans (hb2.mono HB1.out.size)⟩))
  by_cases h1 : (n : Int) > 600
  · go_wp2_with fail
    refine HAw.out.mono ?_
    rintro e w2 ⟨rfl, hb2⟩
    have HB2 := Lib.hid hb2
    clear hb2
    go_wp2
    go_ret
    exact ⟨rfl, HB2.out⟩
  by_cases h2 : x2 = 0
  · subst h2
    go_wp2_with fail
    refine HAw.out.mono ?_
    rintro e w2 ⟨rfl, hb2⟩
    have HB2 := Lib.hid hb2
    clear hb2
    go_wp2
    go_ret
    exact ⟨rfl, HB2.out⟩
  have h2' : x2 ≠ 0 := h2
  obtain ⟨m, hm⟩ : ∃ m, m = Crc.chunkM n := ⟨_, rfl⟩
  have hm1 : 1 ≤ m := by rw [hm]; unfold Crc.chunkM; omega
  have hm2 : m ≤ 19 := by rw [hm]; unfold Crc.chunkM; omega
  have hmb : m = Crc.chunkM blob.length := by rw [hm, hl]
  have Hl := Lib.hid hl
  have Hmb := Lib.hid hmb
  clear hm hmb hl HAw
  have HR1 := Lib.hid (HR.out.below HB1.out)
  have t2 : ((x2 : Int) == 0) = false := beq_eq_false_iff_ne.2 (by omega)
  have HC : Hid (Calls Try.prog 9 #[.slice A n c, .int .u64 (gen : Int)] w1 fun e w' => ∃ v vs, e = .returned (.tuple #[v, .int .i64 0]) ∧ SL w' w1.heap.size v vs (Crc.secs blob gen) ∧ Below w1.heap.size w1 w') := Lib.hid (chunks_any blob HBl.out w.heap.size n c gen A w1 HR1.out (by omega) (by omega) hnc)
  go_wp2_with fail
  refine HC.out.mono ?_
  rintro e w3 ⟨v, vs, rfl, hSL, hb3⟩
  have hvl : vs.length = m := by rw [hSL.2.1, Crc.secs_length, Hmb.out]
  obtain ⟨gl, cl, rfl, hgl1, hgl2, hcl, _, hrow⟩ := hSL.1.row (by omega)
  rw [hvl] at hcl hSL ⊢
  have HSL := Lib.hid hSL
  have HRow := Lib.hid hrow
  have HX3 := Lib.hid (HX1.out.below hb3 hz1')
  have hz3 : w1.heap.size ≤ w3.heap.size := hb3.size
  have HB3x := Lib.hid hb3
  clear hSL hrow HC v2
  have HR3 := Lib.hid (HR1.out.below (HB3x.out.mono (by omega)))
  have HEm := Lib.hid (ob_empty w3 5)
  have HR3' : Hid (RB (w3.alloc (.cells #[] 5)) w.heap.size A n blob) := Lib.hid (HR3.out.alloc (by omega) _)
  have HLn : Hid ((0 : Nat) + n ≤ 1099511627776) := Lib.hid (by omega)
  have HSz : Hid (w3.heap.size ≤ (w3.alloc (.cells #[] 5)).heap.size) := Lib.hid (by simp)
  have HLs : Hid (n + (⟨#[111, 108, 100]⟩ : ByteArray).size ≤ maxLen ∧ n + (⟨#[111, 108, 100]⟩ : ByteArray).size ≤ 140737488355328) := Lib.hid (by
    have : (⟨#[111, 108, 100]⟩ : ByteArray).size = 3 := rfl
    rw [this]; unfold maxLen; omega)
  have HStr : Hid (∀ W v, W.ownsRow w3.heap.size 5 1 v (n + (⟨#[111, 108, 100]⟩ : ByteArray).size) (blob.map bv ++ Go.Lib.strCells ⟨#[111, 108, 100]⟩) → OB W w3.heap.size 5 v (blob ++ [111, 108, 100])) := Lib.hid (fun W v h => by
    unfold OB
    rw [List.length_append, Hl.out, List.map_append]
    exact h)
  go_wp2_with (at_builtin; first
    | (refine wpList_append_rb _ rfl (.tmp 38) (.tmp 39) _ rfl w3.heap.size 5 i0 Try.underlying22 hi0 hz0 hz1 hz2 (.slice (some ⟨w3.heap.size, 0, none⟩) 0 0) [] rfl HEm.out w.heap.size A n c blob rfl HR3'.out HLn.out HSz.out ?_; intro v4 w4 hown hg _; have hb4 : Below w3.heap.size w3 w4 := ((Below.refl _ w3).alloc (Nat.le_refl _) _).trans (below_grown HEm.out hg (Nat.le_refl _) HSz.out); rw [List.nil_append] at hown; have HO4 : Hid (w4.ownsRow w3.heap.size 5 1 v4 n (blob.map bv)) := Lib.hid (by have h := hown; unfold OB at h; rw [Hl.out] at h; exact h); have HB4 := Lib.hid hb4; have hz4 : w3.heap.size ≤ w4.heap.size := hb4.size; clear hown hg hb4)
    | (refine Go.Lib.wpList_append_own_string _ rfl (.tmp 40) (.const (.string ⟨#[111, 108, 100]⟩)) _ _ rfl w3.heap.size 5 i0 Try.underlying22 Try.underlying9 hi0 hz0 hz1 hz2 v4 n (blob.map bv) rfl HO4.out ⟨#[111, 108, 100]⟩ rfl HLs.out.1 HLs.out.2 hz4 ?_; intro v5 w5 hown hg _; have hb5 : Below w3.heap.size w3 w5 := HB4.out.trans ((Below.refl _ w4).grown hg hz4 (fun k hk => (OV.lt (xs := blob.map bv) (by have h := HO4.out; unfold OV; rw [List.length_map, Hl.out]; exact h) hk).1)); obtain ⟨A5, c5, rfl, hr5, hc5, _⟩ := (HStr.out w5 v5 hown).form' (n := n + 3) (by rw [List.length_append, Hl.out]; rfl); have HR5 := Lib.hid hr5; have HB5 := Lib.hid hb5; clear hown hg hb5 hr5))
  obtain ⟨m', hm'⟩ : ∃ m', m' = Crc.chunkM (n + 3) := ⟨_, rfl⟩
  have hmm : m ≤ m' := by have := Hmb.out; rw [Hl.out] at this; rw [hm', this]; unfold Crc.chunkM; omega
  have hlo : (blob ++ [111, 108, 100]).length = n + 3 := by rw [List.length_append, Hl.out]; rfl
  have hmb' : m' = Crc.chunkM (blob ++ [111, 108, 100]).length := by rw [hlo, hm']
  have hz5 : w3.heap.size ≤ w5.heap.size := HB5.out.size
  have HC2 : Hid (Calls Try.prog 9 #[.slice A5 ((n + 3 : Nat)) c5, .int .u64 (IntKind.u64.wrap ((gen : Int) + 1))] w5 fun e w' => ∃ v vs, e = .returned (.tuple #[v, .int .i64 0]) ∧ SL w' w5.heap.size v vs (Crc.secs (blob ++ [111, 108, 100]) ((gen + 1) % 18446744073709551616)) ∧ Below w5.heap.size w5 w') := Lib.hid (by
    have e : IntKind.u64.wrap ((gen : Int) + 1) = (((gen + 1) % 18446744073709551616 : Nat) : Int) := by rw [IntKind.wrap_u64]; omega
    rw [e]
    exact chunks_any (blob ++ [111, 108, 100]) (Crc.old_bytes HBl.out) w5.heap.size (n + 3) c5 _ A5 w5 HR5.out (Nat.le_refl _) (by omega) hc5)
  have Hmb' := Lib.hid hmb'
  clear hm' hlo hmb'
  refine HC2.out.mono ?_
  rintro e w6 ⟨v6, os, rfl, hSO, hb6⟩
  have hol : os.length = m' := by rw [hSO.2.1, Crc.secs_length, Hmb'.out]
  obtain ⟨go, co, rfl, hgo1, hgo2, hco, _, horow⟩ := hSO.1.row (by omega)
  rw [hol] at hco hSO ⊢
  have hz6 : w5.heap.size ≤ w6.heap.size := hb6.size
  have hb36 : Below w3.heap.size w3 w6 := HB5.out.trans (hb6.mono hz5)
  have HSO := Lib.hid hSO
  have HSL6 := Lib.hid (HSL.out.below hb36)
  have HRow6 := Lib.hid (HRow.out.below hb36 hgl2)
  have HORow := Lib.hid horow
  have HX6 := Lib.hid (HX3.out.below hb36 (by omega))
  have HB6 := Lib.hid (HB1.out.trans ((HB3x.out.trans (hb36.mono hz3)).mono (by omega)))
  have HR6 := Lib.hid (HR3.out.below (hb36.mono (by omega)))
  have t3 : ((m : Int) == 0) = false := beq_eq_false_iff_ne.2 (by omega)
  have t4 : ¬ (m' : Int) < (m : Int) := by omega
  have t6 : ¬ m' < m := by omega
  clear hSO horow hb6 hb36 HC2 HSL HRow HX1 HX3 HB3x HR1 HR3 HR3' HEm HLn HSz HLs HStr HO4 HB4 HR5 HB5
  go_wp2_with fail
  obtain ⟨b, hb⟩ : ∃ b, b = w6.heap.size := ⟨_, rfl⟩
  have Hb := Lib.hid hb
  have hglb : gl < b := by omega
  have hgob : go < b := by omega
  have hpb : w.heap.size < b := by omega
  clear hb
  go_loopw [11, 12] (fun s11 s12 wr => ∃ (i : Nat) (v : Value) (us : List Value), i ≤ m ∧ s12 = .int .i64 (i : Int) ∧ v = s11 ∧ BL wr b w1.heap.size v us (badL blob gen x0 x1 x2 i) ∧ Below b w6 wr) (fun _ s12 _ => m - (intOf s12).toNat)
  case atStart => exact ⟨0, _, [], by omega, rfl, rfl, BL.nil _ _ _, Below.refl _ _⟩
  case round =>
    obtain ⟨i, v, us, hi, rfl, rfl, hBL, hB⟩ := hrel
    by_cases hlt : i < m
    · have hbz : b ≤ wr.heap.size := by rw [Hb.out]; exact hB.size
      have HBr := Lib.hid hB
      have HBL := Lib.hid hBL
      have HSr := Lib.hid (HSL6.out.below (by rw [← Hb.out]; exact hB))
      have HOr := Lib.hid (HSO.out.below (by rw [← Hb.out]; exact hB))
      have HRr := Lib.hid (HRow6.out.below hB hglb)
      have HORr := Lib.hid (HORow.out.below hB hgob)
      have HXr := Lib.hid (HX6.out.below hB hpb)
      clear hB hBL
      obtain ⟨hsb, hs1, hs2⟩ := Crc.secs_each (gen := gen) HBl.out (show i < Crc.chunkM blob.length by rw [← Hmb.out]; exact hlt)
      have hob := HSr.out.2.2 i (by rw [Crc.secs_length, ← Hmb.out]; exact hlt)
      obtain ⟨Y, d, hui, hrY, hYd, _⟩ := hob.form
      have hq1 := HRr.out.got i (vs.getD i undef) (by rw [List.getD_eq_getElem?_getD, List.getElem?_eq_getElem (show i < vs.length by omega)]; rfl)
      have q1 : (wr.alloc (.cells #[] 5)).cell? ⟨gl, i, none⟩ = some (vs.getD i undef) := (((Below.refl wr.heap.size wr).alloc (Nat.le_refl _) (.cells #[] 5)).cell (p := ⟨gl, i, none⟩) (by show gl < _; omega)).trans hq1
      rw [hui] at q1
      obtain ⟨S, hS⟩ : ∃ S, S = (Crc.secs blob gen).getD i [] := ⟨_, rfl⟩
      rw [← hS] at hsb hs1 hs2 hrY hYd q1
      generalize hk : S.length = k at hs1 hs2 hrY hYd q1
      have HSd := Lib.hid hS
      have Hk := Lib.hid hk
      have Hsb := Lib.hid hsb
      have HrY : Hid (RB (wr.alloc (.cells #[] 5)) wr.heap.size Y k S) := Lib.hid (hrY.alloc (Nat.le_refl _) _)
      have HEm := Lib.hid (ob_empty wr 5)
      have HL1 : Hid ((0 : Nat) + k ≤ 1099511627776) := Lib.hid (by omega)
      have HL2 : Hid (wr.heap.size ≤ (wr.alloc (.cells #[] 5)).heap.size) := Lib.hid (by simp)
      clear hS hk hsb hob hui hrY hq1
      go_wp2_with (at_builtin; refine wpList_append_rb _ rfl (.tmp 63) (.tmp 67) _ rfl wr.heap.size 5 i0 Try.underlying22 hi0 hz0 hz1 hz2 (.slice (some ⟨wr.heap.size, 0, none⟩) 0 0) [] rfl HEm.out wr.heap.size Y k d S rfl HrY.out HL1.out HL2.out ?_; intro v7 w7 hown hg _; have hb7 : Below wr.heap.size wr w7 := ((Below.refl _ wr).alloc (Nat.le_refl _) _).trans (below_grown HEm.out hg (Nat.le_refl _) HL2.out); rw [List.nil_append] at hown; have HO7 := Lib.hid hown; have HB7 := Lib.hid hb7; clear hown hg hb7)
      obtain ⟨g, cap, rfl, hg1, hg2, hcap, _, hrw⟩ := HO7.out.row (by rw [Hk.out]; omega)
      rw [Hk.out] at hcap ⊢
      obtain ⟨q, hq⟩ : ∃ q, q = x1 % k := ⟨_, rfl⟩
      have hqk : q < k := by rw [hq]; exact Nat.mod_lt _ (by omega)
      have tq : (x1 : Int) % (k : Int) = (q : Int) := by rw [hq]; exact (Int.natCast_emod _ _).symm
      have Hq := Lib.hid hq
      have hc7 := hrw.got q (by rw [Hk.out]; exact hqk)
      have f7 := hrw.free q
      have HX7 := Lib.hid (HXr.out.below HB7.out (by omega))
      have e0 : w7.cell? ⟨w.heap.size, 0, none⟩ = some (.int .u8 (x0 : Int)) := HX7.out.cell 0
      have e1 : w7.cell? ⟨w.heap.size, 1, none⟩ = some (.int .u8 (x1 : Int)) := HX7.out.cell 1
      have e2 : w7.cell? ⟨w.heap.size, 2, none⟩ = some (.int .u8 (x2 : Int)) := HX7.out.cell 2
      generalize hy : S.getD q 0 = y at hc7
      have Hy := Lib.hid hy
      have t5 : ((k : Int) == 0) = false := beq_eq_false_iff_ne.2 (by omega)
      clear hq hy hrw q1
      go_region
      obtain ⟨w8, hw8⟩ : ∃ w8, w8 = (w7.setCell ⟨g, q, none⟩ (.int .u8 (((y : Int) + (x2 : Int)) % 256))).drew := ⟨_, rfl⟩
      have HO8 : Hid (OB w8 wr.heap.size 5 (.slice (some ⟨g, 0, none⟩) k cap) (S.set q ((y + x2) % 256))) := Lib.hid (by
        rw [hw8]
        have h7 := HO7.out
        rw [Hk.out] at h7
        exact (h7.set_ q ((y + x2) % 256) _ (by unfold bv; rw [show (((y : Int) + (x2 : Int)) % 256) = (((y + x2) % 256 : Nat) : Int) by omega])).drew)
      have HB8 : Hid (Below wr.heap.size wr w8) := Lib.hid (by rw [hw8]; exact (HB7.out.setCell (by show wr.heap.size ≤ g; exact hg1) _).drew)
      rw [← hw8]
      clear hw8 e0 e1 e2 hc7 f7 HX7 HrY HEm HL1 HL2
      have HX8 := Lib.hid (HXr.out.below HB8.out (by omega))
      have HR8 := Lib.hid (HRr.out.below HB8.out (by omega))
      have HOR8 := Lib.hid (HORr.out.below HB8.out (by omega))
      have HSL8 := Lib.hid (HSr.out.below HB8.out)
      have HSO8 := Lib.hid (HOr.out.below HB8.out)
      have e0 : w8.cell? ⟨w.heap.size, 0, none⟩ = some (.int .u8 (x0 : Int)) := HX8.out.cell 0
      obtain ⟨r, hr⟩ : ∃ r, r = x0 % 3 := ⟨_, rfl⟩
      have tr : (x0 : Int) % 3 = (r : Int) := by rw [hr]; exact (Int.natCast_emod _ _).symm
      have hr3 : r < 3 := by omega
      have Hr := Lib.hid hr
      have Htr := Lib.hid tr
      clear hr tr
      go_upto_region 13 with fail
      go_cut [85] from 57 to 108 (fun s85 wy => s85 = .int .i64 ((x0 : Int) % 3) ∧ w8 = wy)
      case first =>
        go_wp2_with fail
        go_meet
        exact ⟨rfl, rfl⟩
      obtain ⟨rfl, rfl⟩ := hcut
      rw [Htr.out]
      go_step
      go_cut [13] from 57 to 108 (fun s13 wy => ∃ Y nn d, s13 = .slice Y nn d ∧ OB w8 w1.heap.size 5 (.slice Y nn d) (Crc.badOf blob gen x0 x1 x2 i) ∧ w8 = wy)
      case first =>
        match r, hr3 with
        | 0, _ =>
          have hoo := HSO8.out.2.2 i (by rw [Crc.secs_length, ← Hmb'.out]; omega)
          obtain ⟨Y9, d9, hu9, _⟩ := hoo.form
          have q1 := HOR8.out.got i (os.getD i undef) (by rw [List.getD_eq_getElem?_getD, List.getElem?_eq_getElem (show i < os.length by omega)]; rfl)
          have hbd : Crc.badOf blob gen x0 x1 x2 i = (Crc.secs (blob ++ [111, 108, 100]) ((gen + 1) % 18446744073709551616)).getD i [] := by unfold Crc.badOf; rw [if_pos Hr.out.symm]
          rw [hu9] at q1 hoo
          rw [← hbd] at q1 hoo
          have HOo := Lib.hid (hoo.le (base' := w1.heap.size) (by omega))
          have tlt : (i : Int) < (m' : Int) := by omega
          clear hoo hu9 hbd
          go_wp2_with fail
          go_meet
          exact ⟨_, _, _, rfl, HOo.out, rfl⟩
        | 1, _ =>
          have hn0 : ¬ x0 % 3 = 0 := by rw [← Hr.out]; omega
          by_cases hm1' : m = 1
          · have hbd : Crc.badOf blob gen x0 x1 x2 i = [] := by
              unfold Crc.badOf
              rw [if_neg hn0, if_pos Hr.out.symm, if_pos (by rw [← Hmb.out]; exact hm1')]
            have HOo : Hid (OB w8 w1.heap.size 5 (.slice none 0 0) (Crc.badOf blob gen x0 x1 x2 i)) := Lib.hid (by rw [hbd]; exact ob_nil _ _ _)
            have hi0' : i = 0 := by omega
            have q1 := HR8.out.got 0 (vs.getD 0 undef) (by rw [List.getD_eq_getElem?_getD, List.getElem?_eq_getElem (show 0 < vs.length by omega)]; rfl)
            have tm : ((i : Int) + 1) % (m : Int) = 0 := by rw [hi0', hm1']; rfl
            have tm1 : ((m : Int) == 1) = true := beq_iff_eq.2 (by omega)
            have tlt : (0 : Int) < (m : Int) := by omega
            clear hbd hm1' hi0'
            go_wp2_with fail
            go_meet
            exact ⟨_, _, _, rfl, HOo.out, rfl⟩
          · obtain ⟨r2, hr2⟩ : ∃ r2, r2 = (i + 1) % m := ⟨_, rfl⟩
            have hr2m : r2 < m := by rw [hr2]; exact Nat.mod_lt _ (by omega)
            have tm : ((i : Int) + 1) % (m : Int) = (r2 : Int) := by rw [hr2]; exact (Int.natCast_emod _ _).symm
            have hbd : Crc.badOf blob gen x0 x1 x2 i = (Crc.secs blob gen).getD r2 [] := by
              unfold Crc.badOf
              rw [if_neg hn0, if_pos Hr.out.symm, if_neg (by rw [← Hmb.out]; exact hm1'), hr2, Hmb.out]
            have hoo := HSL8.out.2.2 r2 (by rw [Crc.secs_length, ← Hmb.out]; exact hr2m)
            obtain ⟨Y9, d9, hu9, _⟩ := hoo.form
            have q1 := HR8.out.got r2 (vs.getD r2 undef) (by rw [List.getD_eq_getElem?_getD, List.getElem?_eq_getElem (show r2 < vs.length by omega)]; rfl)
            rw [hu9] at q1 hoo
            rw [← hbd] at q1 hoo
            have HOo := Lib.hid hoo
            have tm1 : ((m : Int) == 1) = false := beq_eq_false_iff_ne.2 (by omega)
            clear hoo hu9 hbd hr2
            go_wp2_with fail
            go_meet
            exact ⟨_, _, _, rfl, HOo.out, rfl⟩
        | 2, _ =>
          have hbd : Crc.badOf blob gen x0 x1 x2 i = S.set q ((y + x2) % 256) := by
            unfold Crc.badOf
            rw [if_neg (by rw [← Hr.out]; omega), if_neg (by rw [← Hr.out]; omega), ← HSd.out, Hk.out, ← Hq.out, Hy.out]
          have HOo := Lib.hid (HO8.out.le (base' := w1.heap.size) (by omega))
          rw [← hbd] at HOo
          go_wp2_with fail
          go_meet
          exact ⟨_, _, _, rfl, HOo.out, rfl⟩
      case rest =>
        obtain ⟨Y9, n9, d9, rfl, hO9, rfl⟩ := hcut
        have HBL8 := Lib.hid (HBL.out.below HB8.out)
        have HO9 := Lib.hid (hO9.alloc (.cells #[.slice Y9 n9 d9] 22))
        have HOut := Lib.hid (HBL8.out.1.alloc (.cells #[.slice Y9 n9 d9] 22))
        have HBL9 := Lib.hid (HBL8.out.below ((Below.refl _ _).alloc (Nat.le_refl _) (.cells #[.slice Y9 n9 d9] 22)))
        have hz8 := HB8.out.size
        have HB9 : Hid (Below b w6 (w8.alloc (.cells #[.slice Y9 n9 d9] 22))) := Lib.hid ((HBr.out.trans (HB8.out.mono hbz)).alloc (by omega) _)
        have hul : us.length = i := by rw [HBL.out.2.1, badL_len]
        have HX9 : Hid (Reads (w8.alloc (.cells #[.slice Y9 n9 d9] 22)) (w8.heap.size + 1) 1 (some ⟨w8.heap.size, 0, none⟩) 1 [.slice Y9 n9 d9]) := Lib.hid (reads_alloc w8 #[.slice Y9 n9 d9] 22 (0, 0) [.slice Y9 n9 d9] rfl)
        have HOne : Hid (∀ u ∈ [Value.slice Y9 n9 d9], u.oneCell' = true) := Lib.hid (by intro u hu; rw [List.mem_singleton.1 hu]; rfl)
        have HLn1 : Hid (us.length + 1 ≤ maxLen) := Lib.hid (by unfold maxLen; omega)
        have HLn2 : Hid ((us.length + 1) * 24 ≤ 140737488355328) := Lib.hid (by omega)
        have HLn3 : Hid (b ≤ (w8.alloc (.cells #[.slice Y9 n9 d9] 22)).heap.size) := Lib.hid (by simp; omega)
        clear hO9
        go_wp2_with (at_builtin; refine wpList_append_ov _ rfl (.tmp 105) (.tmp 107) _ rfl b 22 j0 _ 24 Try.underlying25 hj0 hy0 hy1 hy2 rfl v us rfl HOut.out _ _ 1 1 [.slice Y9 n9 d9] rfl HX9.out HOne.out HLn1.out HLn2.out HLn3.out ?_; intro v9 w9 hown hg _; have HS9 := Lib.hid (HBL9.out.push hown hg HO9.out); have HBf := Lib.hid (HB9.out.trans (below_grown_ov HOut.out hg (Nat.le_refl _) HLn3.out)); clear hown hg)
        go_roundw
        case rel =>
          have h9 : BL w9 b w1.heap.size v9 (us ++ [.slice Y9 n9 d9]) (badL blob gen x0 x1 x2 (i + 1)) := by rw [badL_succ]; exact HS9.out
          exact ⟨i + 1, v9, us ++ [.slice Y9 n9 d9], by omega, by go_num, rfl, h9, HBf.out⟩
        case measure => simp [intOf]; omega
    · have e : i = m := by omega
      rw [e] at hBL
      have hul : us.length = m := by rw [hBL.2.1, badL_len]
      obtain ⟨Xb, cb, rfl, _⟩ := hBL.1.form' hul
      have hbz : b ≤ wr.heap.size := by rw [Hb.out]; exact hB.size
      have hSr := HSL6.out.below (by rw [← Hb.out]; exact hB)
      have hM4 : Crc.chunkM blob.length < 4294967296 := by rw [← Hmb.out]; omega
      have hrs0 : RS wr wr.heap.size Xb m (badL blob gen x0 x1 x2 m) := hBL.rs (fun j hj => by
        rw [badL_len] at hj
        rw [badL_get hj]
        have h := Crc.bad_each (gen := gen) (x0 := x0) (x1 := x1) (x2 := x2) HBl.out (show j < Crc.chunkM blob.length by rw [← Hmb.out]; exact hj)
        exact ⟨h.1, by omega⟩)
      have hrs1 : RS wr wr.heap.size (some ⟨gl, 0, none⟩) m (Crc.secs blob gen) := BL.rs (b := w1.heap.size) (base := w1.heap.size) hSr (fun j hj => by
        rw [Crc.secs_length] at hj
        have h := Crc.secs_each (gen := gen) HBl.out hj
        exact ⟨h.1, by omega⟩)
      have hrc := rc_two wr Xb (some ⟨gl, 0, none⟩) m cb m cl _ _ hrs0 hrs1 (by omega) (by omega)
      have HBw := Lib.hid (HB6.out.trans (hB.mono (by omega)))
      have HG1 : Hid (Calls Try.prog 10 #[.slice (some ⟨wr.heap.size, 0, none⟩) 2 2, .int .u64 (gen : Int)] (wr.alloc (.cells #[.slice Xb m cb, .slice (some ⟨gl, 0, none⟩) m cl] 25)) fun e w' => ∃ X cc, e = .returned (.tuple #[.slice X n cc, .int .i64 0]) ∧ RB w' w'.heap.size X n blob ∧ Below wr.heap.size wr w') := Lib.hid (by
        refine (gather_any _ (wr.heap.size + 1) 2 2 gen _ _ hrc (by simp) (by omega) (fun j hj => ?_)).mono ?_
        · match j, hj with
          | 0, _ => show (badL blob gen x0 x1 x2 m).length ≤ 65536; rw [badL_len]; omega
          | 1, _ => show (Crc.secs blob gen).length ≤ 65536; rw [Crc.secs_length, ← Hmb.out]; omega
        · rintro e w' ⟨h1, h2⟩
          rw [Hmb.out, holds_gath (bad_holds HBl.out hM4 h2' a2) hgen HBl.out hM4] at h1
          obtain ⟨X, cc, h4, h5, _⟩ := h1
          rw [Hl.out] at h4 h5
          exact ⟨X, cc, h4, h5, ((Below.refl _ wr).alloc (Nat.le_refl _) _).trans (h2.mono (by simp))⟩)
      have HRb := Lib.hid hrs0
      have HRw := Lib.hid (HR6.out.below (hB.mono (by omega)))
      clear hBL hB hul e hSr hrs0 hrs1 hrc
      go_wp2_with fail
      refine HG1.out.mono ?_
      rintro e w9 ⟨X, cc, rfl, hX, hB9⟩
      have hz9 : wr.heap.size ≤ w9.heap.size := hB9.size
      have hrs2 : RS w9 w9.heap.size Xb m (badL blob gen x0 x1 x2 m) := (HRb.out.below hB9).more hz9
      have hrc2 := rc_one w9 Xb m cb _ hrs2 (by omega)
      have HG2 : Hid (Calls Try.prog 10 #[.slice (some ⟨w9.heap.size, 0, none⟩) 1 1, .int .u64 (gen : Int)] (w9.alloc (.cells #[.slice Xb m cb] 25)) fun e w' => e = .returned (.tuple #[.slice none 0 0, .int .i64 12]) ∧ Below w9.heap.size w9 w') := Lib.hid (by
        refine (gather_any _ (w9.heap.size + 1) 1 1 gen _ _ hrc2 (by simp) (by omega) (fun j hj => ?_)).mono ?_
        · match j, hj with
          | 0, _ => show (badL blob gen x0 x1 x2 m).length ≤ 65536; rw [badL_len]; omega
        · rintro e w' ⟨h1, h2⟩
          rw [Hmb.out, bad_lost HBl.out hM4 h2' a2] at h1
          exact ⟨h1, ((Below.refl _ w9).alloc (Nat.le_refl _) _).trans (h2.mono (by simp))⟩)
      have HX9 := Lib.hid hX
      have HB9 := Lib.hid (HBw.out.trans (hB9.mono (by omega)))
      have HR9 := Lib.hid (HRw.out.below (hB9.mono (by omega)))
      clear hX hB9 hrs2 hrc2
      go_wp2_with fail
      refine HG2.out.mono ?_
      rintro e w10 ⟨rfl, hB10⟩
      have hXf := HX9.out.below hB10
      have hRf := HR9.out.below (hB10.mono (by omega))
      have qc1 := run_convert_rb (P := Try.prog) 22 5 9 cc Try.underlying22 Try.underlying5 Try.underlying9 hXf
      have qc2 := run_convert_rb (P := Try.prog) 22 5 9 c Try.underlying22 Try.underlying5 Try.underlying9 hRf
      have HBf := Lib.hid (HB9.out.trans (hB10.mono (by omega)))
      clear hXf hRf hB10
      go_wp2
      go_ret
      exact ⟨rfl, HBf.out⟩

end Go.Proofs.Ytijhmopejadpdaa

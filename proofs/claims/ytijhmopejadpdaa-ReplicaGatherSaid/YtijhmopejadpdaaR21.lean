/- The walk over the reference's Gather. -/
import Derived.Test.YtijhmopejadpdaaR20
namespace Go.Proofs.Ytijhmopejadpdaa
open Go.RowKit

set_option maxHeartbeats 2000000 in
theorem rgather_any (cs : List (List (List Nat))) (B nc c gen : Nat) (hg : gen < 18446744073709551616) (A : Option Addr) (w : World) (hr : RC w B A nc cs) (hB : B ≤ w.heap.size) (hnc : nc ≤ 65536) (hlen : ∀ j, j < nc → (cs.getD j []).length ≤ 65536) :
    Calls Try.prog 14 #[.slice A nc c, .int .u64 (gen : Int)] w fun e w' => GathIs w' e (gathG cs gen) ∧ Below w.heap.size w w' := by
  obtain ⟨i0, hi0, hz0, hz1, hz2⟩ := info_parts byteInfo
  have HR := Lib.hid hr
  have Hl := Lib.hid hr.1
  have HLen := Lib.hid hlen
  have HGn := Lib.hid (gath_num cs gen)
  have HNum : Hid (Calls Try.prog 19 #[.slice A nc c, .int .u64 (gen : Int)] w fun e w' => NumRet e (rNum cs gen) ∧ Below w.heap.size w w') := Lib.hid (rnumber_any cs B nc c gen hg A w hr hB hnc hlen)
  clear hr hlen
  go_enter Try.func14, Try.ntmps14
  go_wp2_with fail
  refine HNum.out.mono ?_
  rintro e w1 ⟨hret, hb1⟩
  have HB1 := Lib.hid hb1
  have hz1' := hb1.size
  clear hb1
  cases hnum : rNum cs gen with
  | none =>
    rw [hnum] at hret
    have he : e = .returned (.tuple #[.int .i64 0, .bool false]) := hret
    subst he
    have HGt : Hid (gathG cs gen = none) := Lib.hid (by rw [HGn.out, hnum])
    clear hnum hret HNum
    go_wp2_with fail
    refine bodyPost_ret (v := .tuple #[.slice none 0 0, .int .i64 12]) (by simp [results, Try.results14, go_sem]) rfl ⟨?_, HB1.out⟩
    rw [HGt.out]
    exact rfl
  | some m =>
    rw [hnum] at hret
    obtain ⟨he, hm32⟩ := hret
    subst he
    have HGt : Hid (gathG cs gen = coll cs gen m m) := Lib.hid (by rw [HGn.out, hnum])
    clear hnum HNum
    have HO1 : Hid (OB (w1.alloc (.cells #[] 5)) w.heap.size 5 (.slice (some ⟨w1.heap.size, 0, none⟩) 0 0) []) := Lib.hid ((ob_empty w1 _).le hz1')
    have HBa : Hid (Below w.heap.size w (w1.alloc (.cells #[] 5))) := Lib.hid (HB1.out.alloc hz1' _)
    have HCk : Hid (∀ W (q : Nat), q < m → q ≤ 65536 → Below w.heap.size w W → Calls Try.prog 20 #[.slice A nc c, .int .u64 (gen : Int), .int .i64 (q : Int), .int .i64 (m : Int)] W fun e w' => ChkRet W B e (fstC cs q gen m) q ∧ Below W.heap.size W w') := Lib.hid (fun W q hqm hq hb =>
      rchunk_any cs B nc c gen q m hg A W (HR.out.below (hb.mono hB)) (by have := hb.size; omega) hnc hq (by omega))
    go_wp2_with fail
    go_loopw [8, 9] (fun s8 s9 wr => ∃ (q : Nat) (v : Value) (out : List Nat), q ≤ m ∧ q ≤ 65536 ∧ s9 = .int .i64 (q : Int) ∧ v = s8 ∧ OB wr w.heap.size 5 v out ∧ coll cs gen m q = some out ∧ out.length ≤ 32 * q ∧ Below w.heap.size w wr) (fun _ s9 _ => m - (intOf s9).toNat)
    case atStart => exact ⟨0, _, [], by omega, by omega, rfl, rfl, HO1.out, rfl, by simp, HBa.out⟩
    case round =>
      obtain ⟨q, v, out, hq, hq6, rfl, rfl, hO, hco, hol, hB'⟩ := hrel
      have HO := Lib.hid hO
      have HCo := Lib.hid hco
      have HBq := Lib.hid hB'
      clear hO hco hB'
      by_cases hlt : q < m
      · have t1 : (q : Int) < (m : Int) := by omega
        go_wp2_with fail
        refine (HCk.out _ q hlt hq6 HBq.out).mono ?_
        rintro e w3 ⟨hret, hb3⟩
        have hB3 := HBq.out.trans (hb3.mono HBq.out.size)
        cases hfc : fstC cs q gen m with
        | none =>
          rw [hfc] at hret
          have he : e = .returned (.tuple #[.slice none 0 0, .bool false]) := hret
          subst he
          have HNone : Hid (gathG cs gen = none) := Lib.hid (by
            rw [HGt.out]
            refine coll_none (k := q + 1) ?_ m hlt
            rw [coll, HCo.out]
            simp only [hfc])
          have HB3 := Lib.hid hB3
          clear hret hb3 hB3 hfc
          go_wp2_with fail
          refine bodyPost_ret (v := .tuple #[.slice none 0 0, .int .i64 12]) (by simp [results, Try.results14, go_sem]) rfl ⟨?_, HB3.out⟩
          rw [HNone.out]
          exact rfl
        | some ls =>
          rw [hfc] at hret
          obtain ⟨X, k, d, he, hrc, hk⟩ := hret
          subst he
          have hus := (Bool.and_eq_true_iff.1 (fst_serves hfc)).1
          have hq65 : q < 65536 := by
            obtain ⟨j', hj', he⟩ := List.mem_iff_getElem.1 (fst_mem hfc)
            have h := HLen.out j' (by rw [← Hl.out]; exact hj')
            rw [List.getD_eq_getElem?_getD, List.getElem?_eq_getElem hj', he] at h
            exact Nat.lt_of_lt_of_le (us_lt hus) h
          have HCo1 : Hid (coll cs gen m (q + 1) = some (out ++ chkOf (ls.getD q []))) := Lib.hid (by rw [coll, HCo.out]; simp only [hfc])
          generalize chkOf (ls.getD q []) = ck at hrc HCo1
          have hkl : ck.length = k := hrc.len
          have HO3 := Lib.hid (HO.out.below hb3)
          have HR3 := Lib.hid (hrc.below (hb3.mono (by have := HBq.out.size; omega)))
          have HB3 := Lib.hid hB3
          have Hl1 : Hid (out.length + k ≤ 1099511627776) := Lib.hid (by omega)
          have hz3 := hB3.size
          clear hrc hb3 hB3 hus hfc
          go_wp2_with (at_builtin; refine wpList_append_rb _ rfl (.tmp 36) (.tmp 37) _ rfl w.heap.size 5 i0 Try.underlying22 hi0 hz0 hz1 hz2 v out rfl HO3.out B X k d ck rfl HR3.out Hl1.out hz3 ?_; intro v5 w5 hown hg _; have HB5 := Lib.hid (HB3.out.trans (below_grown HO3.out hg (Nat.le_refl _) hz3)); have HO5 := Lib.hid hown; clear hown hg)
          go_roundw
          case rel => exact ⟨q + 1, v5, _, by omega, by omega, by go_num, rfl, HO5.out, HCo1.out, by rw [List.length_append]; omega, HB5.out⟩
          case measure => simp [intOf]; omega
      · have e : q = m := by omega
        obtain ⟨X5, c5, rfl, hr5, hc5, _⟩ := HO.out.form
        have HR5 := Lib.hid hr5
        have HGb : Hid (gathG cs gen = some out) := Lib.hid (by rw [HGt.out, ← e]; rw [e]; rw [← HCo.out, e])
        have t1 : ¬ (q : Int) < (m : Int) := by omega
        clear e hr5
        go_wp2_with fail
        refine bodyPost_ret (v := .tuple #[.slice X5 out.length c5, .int .i64 0]) (by simp [results, Try.results14, go_sem]) rfl ⟨?_, HBq.out⟩
        rw [HGb.out]
        exact ⟨X5, c5, rfl, HR5.out, hc5⟩

end Go.Proofs.Ytijhmopejadpdaa

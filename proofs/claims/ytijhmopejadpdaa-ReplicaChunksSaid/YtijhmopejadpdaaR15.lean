/- The walk over the reference's Chunks. -/
import Derived.Test.YtijhmopejadpdaaR10
namespace Go.Proofs.Ytijhmopejadpdaa
open Go.RowKit

set_option maxHeartbeats 2000000 in
theorem rchunks_any (blob : List Nat) (hbl : Crc.Bytes blob) (B n c gen : Nat) (A : Option Addr) (w : World) (hr : RB w B A n blob) (hB : B ≤ w.heap.size) (hn : n ≤ 1048576) (hnc : n ≤ c) :
    Calls Try.prog 11 #[.slice A n c, .int .u64 (gen : Int)] w fun e w' => ∃ v vs, e = .returned (.tuple #[v, .int .i64 0]) ∧ SL w' w.heap.size v vs (Crc.secs blob gen) ∧ Below w.heap.size w w' := by
  obtain ⟨j0, hj0, hy0, hy1, hy2⟩ := info_parts sliceInfo
  have hl := hr.len
  obtain ⟨m, hm⟩ : ∃ m, m = Crc.chunkM n := ⟨_, rfl⟩
  have hm1 : 1 ≤ m := by rw [hm]; unfold Crc.chunkM; omega
  have hm2 : m ≤ 32768 := by rw [hm]; unfold Crc.chunkM; omega
  have hmi : ∀ i, i < m → 32 * i ≤ n := fun i hi => by rw [hm] at hi; unfold Crc.chunkM at hi; omega
  have hmax : ∀ (ts : Array TypeId) (t : TypeId) (W : World), (Builtin.max_ ts t #[.int .i64 1, .int .i64 (((n : Int) + 31) / 32)]).run Try.prog W = .ok (.int .i64 (m : Int)) W := fun ts t W => by
    rw [run_max_int2]
    congr 2
    rw [hm]; unfold Crc.chunkM
    split <;> omega
  have t0 : ¬ (n : Int) > 1048576 := by omega
  have HR := Lib.hid hr
  have Hm := Lib.hid hm
  have HMI := Lib.hid hmi
  have HBl := Lib.hid hbl
  have Hl := Lib.hid hl
  clear hr hm hmi hbl hl
  go_enter Try.func11, Try.ntmps11
  go_wp2_with fail
  go_loopw [7, 8] (fun s7 s8 wr => ∃ (i : Nat) (v : Value) (vs : List Value), i ≤ m ∧ s8 = .int .i64 (i : Int) ∧ v = s7 ∧ SL wr w.heap.size v vs ((Crc.secs blob gen).take i) ∧ Below w.heap.size w wr) (fun _ s8 _ => m - (intOf s8).toNat)
  case atStart => exact ⟨0, _, [], by omega, rfl, rfl, by rw [List.take_zero]; exact SL.nil _ _, Below.refl _ _⟩
  case round =>
    obtain ⟨i, v, vs, hi, rfl, rfl, hS, hB'⟩ := hrel
    by_cases hlt : i < m
    · obtain ⟨s, hs⟩ : ∃ s, s = 32 * i := ⟨_, rfl⟩
      have hsn : s ≤ n := by rw [hs]; exact HMI.out i hlt
      have e1 : 32 * (i : Int) = (s : Int) := by rw [hs]; omega
      obtain ⟨hi', hhi⟩ : ∃ h : Nat, h = min (s + 32) n := ⟨_, rfl⟩
      have hmin2 : ∀ (ts : Array TypeId) (t : TypeId) (W : World), (Builtin.min_ ts t #[.int .i64 ((s : Int) + 32), .int .i64 (n : Int)]).run Try.prog W = .ok (.int .i64 (hi' : Int)) W := fun ts t W => by
        rw [run_min_int2]
        congr 2
        split <;> omega
      obtain ⟨k, hk⟩ : ∃ k, hi' - s = k := ⟨_, rfl⟩
      have hk32 : k ≤ 32 := by omega
      have hch : (Crc.chunkOf blob i).length = k := by rw [Crc.chunkOf_length, Hl.out]; omega
      have hrk : ∀ A' : Option Addr, (0 < k → A' = Option.map (fun x => x.add s) A) → RB w B A' k (Crc.chunkOf blob i) := fun A' hA' => by
        rcases Nat.eq_zero_or_pos k with h0 | h0
        · rw [List.eq_nil_of_length_eq_zero (hch.trans h0), h0]; exact rb_nil _ _ _
        · obtain ⟨ad, rfl, _⟩ := HR.out.2 (by omega)
          have h := HR.out.cut s k (by omega)
          have e : ((blob.drop s).take k) = Crc.chunkOf blob i := by
            unfold Crc.chunkOf
            rw [← hch, Crc.chunkOf_length, hs]
            rcases Nat.le_total 32 (blob.length - 32 * i) with h1 | h1
            · rw [Nat.min_eq_left h1]
            · rw [Nat.min_eq_right h1, List.take_of_length_le (by simp), List.take_of_length_le (by simp; omega)]
          rw [e] at h
          rw [hA' h0]
          exact h
      have HSr := Lib.hid hS
      have HBr := Lib.hid hB'
      have HSct : Hid (∀ (A' : Option Addr) (k' c' : Nat), k' = k → (0 < k → A' = Option.map (fun x => x.add s) A) → Calls Try.prog 18 #[.int .u64 (gen : Int), .int .i64 (i : Int), .int .i64 (m : Int), .slice A' k' c'] wr fun e w' => ∃ v, e = .returned v ∧ OB w' wr.heap.size 5 v (Crc.secB gen i m (Crc.chunkOf blob i)) ∧ Below wr.heap.size wr w') := Lib.hid (fun A' k' c' hk' hA' => by
        subst hk'
        exact rsector_any (Crc.chunkOf blob i) (Crc.chunkOf_bytes HBl.out i) B k' c' gen i m A' wr ((hrk A' hA').below (HBr.out.mono hB)) (by have := HBr.out.size; omega) (by omega) (by omega) (by omega))
      have Hk := Lib.hid hk
      have Hhi := Lib.hid hhi
      have h01 : s ≤ hi' := by omega
      have h02 : hi' ≤ n := by omega
      have hkz : ¬ c = s ∨ (c = s ∧ ¬ 0 < k) := by omega
      clear hs hk hhi hch hrk hS hB'
      have HTake : Hid ((Crc.secs blob gen).take (i + 1) = (Crc.secs blob gen).take i ++ [Crc.secB gen i m (Crc.chunkOf blob i)]) := Lib.hid (by
        have hil : i < (Crc.secs blob gen).length := by rw [Crc.secs_length, Hl.out, ← Hm.out]; exact hlt
        rw [List.take_succ_eq_append_getElem hil]
        congr 2
        have h2 := Crc.secs_get blob gen i (by rw [Hl.out, ← Hm.out]; exact hlt)
        rw [List.getD_eq_getElem?_getD, List.getElem?_eq_getElem hil, Hl.out, ← Hm.out] at h2
        exact h2)
      rcases hkz with hcz | ⟨hcz, hk0⟩
      · go_wp2_with fail
        refine (HSct.out _ _ _ Hk.out (fun _ => rfl)).mono ?_
        rintro e w8 ⟨u, rfl, hO8, hB8⟩
        obtain ⟨X8, d8, rfl, _⟩ := hO8.form
        generalize (Crc.secB gen i m (Crc.chunkOf blob i)).length = l8 at hO8 ⊢
        have HO8 := Lib.hid ((hO8.le (base' := w.heap.size) (by exact HBr.out.size)).alloc (.cells #[.slice X8 l8 d8] 22))
        have HOut := Lib.hid ((HSr.out.below hB8).1.alloc (.cells #[.slice X8 l8 d8] 22))
        have HSL8 : Hid (SL (w8.alloc (.cells #[.slice X8 l8 d8] 22)) w.heap.size v vs ((Crc.secs blob gen).take i)) := Lib.hid ((HSr.out.below hB8).below ((Below.refl _ _).alloc (Nat.le_refl _) _))
        have hz8 := hB8.size
        have hzr := HBr.out.size
        have HB8 : Hid (Below w.heap.size w (w8.alloc (.cells #[.slice X8 l8 d8] 22))) := Lib.hid ((HBr.out.trans (hB8.mono hzr)).alloc (by omega) _)
        have hvl : vs.length = i := by
          have h := HSr.out.2.1
          rw [h, List.length_take, Crc.secs_length, Hl.out, ← Hm.out]; omega
        have HX8 : Hid (Reads (w8.alloc (.cells #[.slice X8 l8 d8] 22)) (w8.heap.size + 1) 1 (some ⟨w8.heap.size, 0, none⟩) 1 [.slice X8 l8 d8]) := Lib.hid (reads_alloc w8 #[.slice X8 l8 d8] 22 (0, 0) [.slice X8 l8 d8] rfl)
        have HOne : Hid (∀ u ∈ [Value.slice X8 l8 d8], u.oneCell' = true) := Lib.hid (by intro u hu; rw [List.mem_singleton.1 hu]; rfl)
        have HLn1 : Hid (vs.length + 1 ≤ maxLen) := Lib.hid (by unfold maxLen; omega)
        have HLn2 : Hid ((vs.length + 1) * 24 ≤ 140737488355328) := Lib.hid (by omega)
        have HLn3 : Hid (w.heap.size ≤ (w8.alloc (.cells #[.slice X8 l8 d8] 22)).heap.size) := Lib.hid (by simp; omega)
        clear hO8 hB8 hvl
        go_wp2_with (at_builtin; refine wpList_append_ov _ rfl (.tmp 22) (.tmp 37) _ rfl w.heap.size 22 j0 _ 24 Try.underlying25 hj0 hy0 hy1 hy2 rfl v vs rfl HOut.out _ _ 1 1 [.slice X8 l8 d8] rfl HX8.out HOne.out HLn1.out HLn2.out HLn3.out ?_; intro v9 w9 hown hg _; have HS9 := Lib.hid (HSL8.out.push hown hg HO8.out); have HB9 := Lib.hid (HB8.out.trans (below_grown_ov HOut.out hg (Nat.le_refl _) HLn3.out)); clear hown hg)
        go_roundw
        case rel => exact ⟨i + 1, v9, vs ++ [.slice X8 l8 d8], by omega, by go_num, rfl, by rw [HTake.out]; exact HS9.out, HB9.out⟩
        case measure => simp [intOf]; omega
      · subst hcz
        go_wp2_with fail
        refine (HSct.out _ _ _ Hk.out (fun h => absurd h hk0)).mono ?_
        rintro e w8 ⟨u, rfl, hO8, hB8⟩
        obtain ⟨X8, d8, rfl, _⟩ := hO8.form
        generalize (Crc.secB gen i m (Crc.chunkOf blob i)).length = l8 at hO8 ⊢
        have HO8 := Lib.hid ((hO8.le (base' := w.heap.size) (by exact HBr.out.size)).alloc (.cells #[.slice X8 l8 d8] 22))
        have HOut := Lib.hid ((HSr.out.below hB8).1.alloc (.cells #[.slice X8 l8 d8] 22))
        have HSL8 : Hid (SL (w8.alloc (.cells #[.slice X8 l8 d8] 22)) w.heap.size v vs ((Crc.secs blob gen).take i)) := Lib.hid ((HSr.out.below hB8).below ((Below.refl _ _).alloc (Nat.le_refl _) _))
        have hz8 := hB8.size
        have hzr := HBr.out.size
        have HB8 : Hid (Below w.heap.size w (w8.alloc (.cells #[.slice X8 l8 d8] 22))) := Lib.hid ((HBr.out.trans (hB8.mono hzr)).alloc (by omega) _)
        have hvl : vs.length = i := by
          have h := HSr.out.2.1
          rw [h, List.length_take, Crc.secs_length, Hl.out, ← Hm.out]; omega
        have HX8 : Hid (Reads (w8.alloc (.cells #[.slice X8 l8 d8] 22)) (w8.heap.size + 1) 1 (some ⟨w8.heap.size, 0, none⟩) 1 [.slice X8 l8 d8]) := Lib.hid (reads_alloc w8 #[.slice X8 l8 d8] 22 (0, 0) [.slice X8 l8 d8] rfl)
        have HOne : Hid (∀ u ∈ [Value.slice X8 l8 d8], u.oneCell' = true) := Lib.hid (by intro u hu; rw [List.mem_singleton.1 hu]; rfl)
        have HLn1 : Hid (vs.length + 1 ≤ maxLen) := Lib.hid (by unfold maxLen; omega)
        have HLn2 : Hid ((vs.length + 1) * 24 ≤ 140737488355328) := Lib.hid (by omega)
        have HLn3 : Hid (w.heap.size ≤ (w8.alloc (.cells #[.slice X8 l8 d8] 22)).heap.size) := Lib.hid (by simp; omega)
        clear hO8 hB8 hvl
        go_wp2_with (at_builtin; refine wpList_append_ov _ rfl (.tmp 22) (.tmp 37) _ rfl w.heap.size 22 j0 _ 24 Try.underlying25 hj0 hy0 hy1 hy2 rfl v vs rfl HOut.out _ _ 1 1 [.slice X8 l8 d8] rfl HX8.out HOne.out HLn1.out HLn2.out HLn3.out ?_; intro v9 w9 hown hg _; have HS9 := Lib.hid (HSL8.out.push hown hg HO8.out); have HB9 := Lib.hid (HB8.out.trans (below_grown_ov HOut.out hg (Nat.le_refl _) HLn3.out)); clear hown hg)
        go_roundw
        case rel => exact ⟨i + 1, v9, vs ++ [.slice X8 l8 d8], by omega, by go_num, rfl, by rw [HTake.out]; exact HS9.out, HB9.out⟩
        case measure => simp [intOf]; omega
    · have e : i = m := by omega
      rw [e, List.take_of_length_le (by rw [Crc.secs_length, Hl.out, ← Hm.out]; exact Nat.le_refl _)] at hS
      have HSf := Lib.hid hS
      have HBf := Lib.hid hB'
      clear hS hB' e
      go_wp2
      refine bodyPost_ret (v := .tuple #[v, .int .i64 0]) (by simp [results, Try.results11, go_sem]) rfl ⟨v, vs, rfl, HSf.out, HBf.out⟩

end Go.Proofs.Ytijhmopejadpdaa

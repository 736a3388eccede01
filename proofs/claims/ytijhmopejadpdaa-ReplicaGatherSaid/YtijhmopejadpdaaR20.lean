/- The walks over the reference's number and chunk. -/
import Derived.Test.YtijhmopejadpdaaR19
namespace Go.Proofs.Ytijhmopejadpdaa
open Go.RowKit

/-- The number of chunks that the first usable element tells. -/
def rNum (cs : List (List (List Nat))) (gen : Nat) : Option Nat :=
  match (List.range (longT cs cs.length)).find? (fun i => (fstC cs i gen 0).isSome) with
  | none => none
  | some i => match fstC cs i gen 0 with
    | none => none
    | some ls => some (mOf ls i)
theorem gath_num (cs : List (List (List Nat))) (gen : Nat) : gathG cs gen = match rNum cs gen with | none => none | some m => coll cs gen m m := by
  unfold gathG rNum
  cases (List.range (longT cs cs.length)).find? (fun i => (fstC cs i gen 0).isSome) with
  | none => rfl
  | some i =>
    simp only
    cases fstC cs i gen 0 with
    | none => rfl
    | some ls => rfl
theorem num_at {cs : List (List (List Nat))} {gen i : Nat} {ls : List (List Nat)} (hi : i < longT cs cs.length) (hno : ∀ j, j < i → fstC cs j gen 0 = none) (h : fstC cs i gen 0 = some ls) : rNum cs gen = some (mOf ls i) := by
  have e : (List.range (longT cs cs.length)).find? (fun i => (fstC cs i gen 0).isSome) = some i := by
    have h2 := find_at (fun i => (fstC cs i gen 0).isSome) (List.range (longT cs cs.length)) 0 i (by rw [List.length_range]; exact hi) (by
      rw [List.find?_eq_none]
      intro x hx
      rw [List.take_range] at hx
      have hx' := List.mem_range.1 hx
      rw [hno x (by omega)]
      simp) (by
      rw [List.getD_eq_getElem?_getD, List.getElem?_range hi]
      show (fstC cs i gen 0).isSome = true
      rw [h]; rfl)
    rw [h2, List.getD_eq_getElem?_getD, List.getElem?_range hi]
    rfl
  unfold rNum
  rw [e]
  simp only [h]
theorem num_none {cs : List (List (List Nat))} {gen : Nat} (hno : ∀ j, j < longT cs cs.length → fstC cs j gen 0 = none) : rNum cs gen = none := by
  have e : (List.range (longT cs cs.length)).find? (fun i => (fstC cs i gen 0).isSome) = none := by
    rw [List.find?_eq_none]
    intro x hx
    rw [hno x (List.mem_range.1 hx)]
    simp
  unfold rNum
  rw [e]
/-- What number and chunk return. -/
def NumRet (e : Ending) (o : Option Nat) : Prop :=
  match o with
  | none => e = .returned (.tuple #[.int .i64 0, .bool false])
  | some m => e = .returned (.tuple #[.int .i64 (m : Int), .bool true]) ∧ m < 4294967296
def ChkRet (w : World) (B : Nat) (e : Ending) (o : Option (List (List Nat))) (i : Nat) : Prop :=
  match o with
  | none => e = .returned (.tuple #[.slice none 0 0, .bool false])
  | some ls => ∃ X k d, e = .returned (.tuple #[.slice X k d, .bool true]) ∧ RB w B X k (chkOf (ls.getD i [])) ∧ k ≤ 32

set_option maxHeartbeats 2000000 in
theorem rnumber_any (cs : List (List (List Nat))) (B nc c gen : Nat) (hg : gen < 18446744073709551616) (A : Option Addr) (w : World) (hr : RC w B A nc cs) (hB : B ≤ w.heap.size) (hnc : nc ≤ 65536) (hlen : ∀ j, j < nc → (cs.getD j []).length ≤ 65536) :
    Calls Try.prog 19 #[.slice A nc c, .int .u64 (gen : Int)] w fun e w' => NumRet e (rNum cs gen) ∧ Below w.heap.size w w' := by
  have hl := hr.1
  have hLj : ∀ j, j ≤ nc → longT cs j ≤ 65536 := fun j => by
    induction j with
    | zero => intro _; exact Nat.zero_le _
    | succ j ih => intro h; have := ih (by omega); have := hlen j (by omega); rw [longT]; omega
  have HR := Lib.hid hr
  have Hl := Lib.hid hl
  have HLj := Lib.hid hLj
  have HLen := Lib.hid hlen
  clear hr hl hLj hlen
  go_enter Try.func19, Try.ntmps19
  go_wp2_with fail
  go_loopw [6, 7] (fun s6 s7 wr => ∃ j : Nat, j ≤ nc ∧ s7 = .int .i64 (j : Int) ∧ s6 = .int .i64 ((longT cs j : Nat) : Int) ∧ w = wr) (fun _ s7 _ => nc - (intOf s7).toNat)
  case atStart => exact ⟨0, by omega, rfl, rfl, rfl⟩
  case round =>
    obtain ⟨j, hj, rfl, rfl, rfl⟩ := hrel
    by_cases hlt : j < nc
    · obtain ⟨ad, rfl, hadb, hel⟩ := HR.out.2 (by omega)
      obtain ⟨Y, n, cY, hcell, hRS, hn⟩ := hel j hlt
      have t2 : (j : Int) < (nc : Int) := by omega
      have hM : Hid (max (longT cs j) n = longT cs (j + 1)) := Lib.hid (by rw [longT, hRS.1])
      generalize longT cs j = L at hM ⊢
      obtain ⟨M, hMd⟩ : ∃ M, M = max L n := ⟨_, rfl⟩
      have hmax : ∀ (ts : Array TypeId) (t : TypeId) (W : World), (Builtin.max_ ts t #[.int .i64 (L : Int), .int .i64 (n : Int)]).run Try.prog W = .ok (.int .i64 (M : Int)) W := fun ts t W => by
        rw [run_max_int2, hMd]
        congr 2
        split <;> omega
      have HMd := Lib.hid hMd
      clear hMd hel hRS
      go_wp2_with fail
      go_roundw
      case rel => exact ⟨j + 1, by omega, by go_num, by rw [← hM.out, HMd.out], by simp⟩
      case measure => simp [intOf]; omega
    · have e : j = nc := by omega
      have hLl : longT cs j ≤ 65536 := HLj.out j hj
      have HLd : Hid (longT cs j = longT cs cs.length) := Lib.hid (by rw [Hl.out, e])
      generalize longT cs j = L at hLl HLd ⊢
      have t3 : ¬ (j : Int) < (nc : Int) := by omega
      clear e
      go_wp2_with fail
      go_loopw [8] (fun s8 wr => ∃ i : Nat, i ≤ L ∧ s8 = .int .i64 (i : Int) ∧ (∀ i', i' < i → fstC cs i' gen 0 = none) ∧ Below w.heap.size w wr) (fun s8 _ => L - (intOf s8).toNat)
      case atStart => exact ⟨0, by omega, rfl, fun i' h => absurd h (Nat.not_lt_zero _), Below.refl _ _⟩
      case round =>
        obtain ⟨i, hi, rfl, hno, hB'⟩ := hrel
        by_cases hlt2 : i < L
        · have HNo := Lib.hid hno
          have HBr := Lib.hid hB'
          have h16 : i ≤ 65536 := by omega
          clear hno hB'
          go_wp2_with fail
          go_loopw [9] (fun s9 wr => ∃ j : Nat, j ≤ nc ∧ s9 = .int .i64 (j : Int) ∧ (cs.take j).find? (serves i gen 0) = none ∧ Below w.heap.size w wr) (fun s9 _ => nc - (intOf s9).toNat)
          case atStart => exact ⟨0, by omega, rfl, rfl, HBr.out⟩
          case round =>
            obtain ⟨j, hj2, rfl, hf, hB'⟩ := hrel
            by_cases hlt3 : j < nc
            · obtain ⟨ad, rfl, hadb, hel⟩ := HR.out.2 (by omega)
              obtain ⟨Y, n, cY, hcell, hRS, hn⟩ := hel j hlt3
              have hcell' := (hB'.cell (p := ad.add j) (by rw [block_of_add]; omega)).trans hcell
              have HF := Lib.hid hf
              have HBq := Lib.hid hB'
              have t4 : (j : Int) < (nc : Int) := by omega
              by_cases hin : i < n
              · obtain ⟨a2, rfl, ha2, hel2⟩ := hRS.2.2 (by omega)
                obtain ⟨Z, d, hc2, hrZ, hZd⟩ := hel2 i hin
                obtain ⟨hbZ, hlZ⟩ := hRS.2.1 i hin
                have hc2' := (hB'.cell (p := a2.add i) (by rw [block_of_add]; omega)).trans hc2
                have hus := rOk_us (gen := gen) hbZ (by rw [hRS.1]; exact hin) hg (by omega)
                have hmo : mOf (cs.getD j []) i = Crc.num ((((cs.getD j []).getD i []).drop 12).take 4) := rfl
                generalize (cs.getD j []).getD i [] = bz at hc2' hrZ hZd hbZ hlZ hus hmo hc2
                have HUz : Hid (Calls Try.prog 25 #[.slice Z bz.length d, .int .u64 (gen : Int), .int .i64 (i : Int)] wr fun e w' => UsRet wr w' B bz (Crc.rOk bz gen i) e) := Lib.hid (rusable_any bz hbZ B bz.length d gen i Z wr (hrZ.below (hB'.mono hB)) (by have := hB'.size; omega) hZd h16)
                generalize hln : bz.length = nz at hc2' HUz hc2
                have t5 : ¬ (i : Int) ≥ (n : Int) := by omega
                have t6 : (i : Int) < (n : Int) := by omega
                have Hus := Lib.hid hus
                have Hmo := Lib.hid hmo
                have HbZ := Lib.hid hbZ
                clear hel hel2 hcell hRS hrZ hus hmo hbZ hf hB' hlZ hZd hln hc2
                go_wp2_with fail
                refine HUz.out.mono ?_
                rintro _ w1 ⟨m, k, X, dd, rfl, hU, hb1⟩
                cases hok : Crc.rOk bz gen i with
                | true =>
                  rw [hok] at hU
                  obtain ⟨hm, _⟩ := hU rfl
                  have hm32 : m < 4294967296 := by rw [hm]; exact num_take_lt (bytes_drop HbZ.out 12) 4
                  have HN : Hid (rNum cs gen = some m) := Lib.hid (by
                    have hs : serves i gen 0 (cs.getD j []) = true := by unfold serves; rw [Hus.out, hok]; rfl
                    have h := num_at (by rw [← HLd.out]; exact hlt2) HNo.out (find_at (serves i gen 0) cs [] j (by rw [Hl.out]; exact hlt3) HF.out hs)
                    rw [h, Hmo.out, hm])
                  have HB1 := Lib.hid (HBq.out.trans (hb1.mono HBq.out.size))
                  clear hm hU hb1 HUz hok
                  go_wp2_with fail
                  refine bodyPost_ret (v := .tuple #[.int .i64 (m : Int), .bool true]) (by simp [results, Try.results19, go_sem]) rfl ⟨?_, HB1.out⟩
                  rw [HN.out]
                  exact ⟨rfl, hm32⟩
                | false =>
                  have HNx : Hid ((cs.take (j + 1)).find? (serves i gen 0) = none) := Lib.hid (find_next _ cs [] j (by rw [Hl.out]; exact hlt3) HF.out (by unfold serves; rw [Hus.out, hok]; rfl))
                  have HB1 := Lib.hid (HBq.out.trans (hb1.mono HBq.out.size))
                  clear hU hb1 HUz hok
                  go_wp2_with fail
                  go_roundw
                  case rel => exact ⟨j + 1, by omega, by go_num, HNx.out, HB1.out⟩
                  case measure => simp [intOf]; omega
              · have HNx : Hid ((cs.take (j + 1)).find? (serves i gen 0) = none) := Lib.hid (find_next _ cs [] j (by rw [Hl.out]; exact hlt3) hf (by unfold serves usB; rw [decide_eq_false (by rw [hRS.1]; exact hin)]; rfl))
                have t5 : (i : Int) ≥ (n : Int) := by omega
                clear hel hcell hRS hf hB'
                go_wp2_with fail
                go_roundw
                case rel => exact ⟨j + 1, by omega, by go_num, HNx.out, HBq.out⟩
                case measure => simp [intOf]; omega
            · have HNi : Hid (fstC cs i gen 0 = none) := Lib.hid (by
                unfold fstC
                rw [← List.take_of_length_le (l := cs) (i := j) (by rw [Hl.out]; omega)]
                exact hf)
              have HBq := Lib.hid hB'
              have t4 : ¬ (j : Int) < (nc : Int) := by omega
              clear hf hB'
              go_wp2_with fail
              go_roundw
              case rel => exact ⟨i + 1, by omega, by go_num, fun i' h => (by by_cases e : i' = i; rw [e]; exact HNi.out; exact HNo.out i' (by omega)), HBq.out⟩
              case measure => simp [intOf]; omega
        · have HNone : Hid (rNum cs gen = none) := Lib.hid (num_none (fun j' hj' => hno j' (by rw [← HLd.out] at hj'; omega)))
          have HBr := Lib.hid hB'
          clear hno hB'
          go_wp2_with fail
          refine bodyPost_ret (v := .tuple #[.int .i64 0, .bool false]) (by simp [results, Try.results19, go_sem]) rfl ⟨?_, HBr.out⟩
          rw [HNone.out]
          exact rfl

set_option maxHeartbeats 2000000 in
theorem rchunk_any (cs : List (List (List Nat))) (B nc c gen i m : Nat) (hg : gen < 18446744073709551616) (A : Option Addr) (w : World) (hr : RC w B A nc cs) (hB : B ≤ w.heap.size) (hnc : nc ≤ 65536) (hi : i ≤ 65536) (hm : m ≠ 0) :
    Calls Try.prog 20 #[.slice A nc c, .int .u64 (gen : Int), .int .i64 (i : Int), .int .i64 (m : Int)] w fun e w' => ChkRet w B e (fstC cs i gen m) i ∧ Below w.heap.size w w' := by
  have hl := hr.1
  have HR := Lib.hid hr
  have Hl := Lib.hid hl
  clear hr hl
  go_enter Try.func20, Try.ntmps20
  go_wp2_with fail
  go_loopw [10] (fun s10 wr => ∃ j : Nat, j ≤ nc ∧ s10 = .int .i64 (j : Int) ∧ (cs.take j).find? (serves i gen m) = none ∧ Below w.heap.size w wr) (fun s10 _ => nc - (intOf s10).toNat)
  case atStart => exact ⟨0, by omega, rfl, rfl, Below.refl _ _⟩
  case round =>
    obtain ⟨j, hj2, rfl, hf, hB'⟩ := hrel
    by_cases hlt3 : j < nc
    · obtain ⟨ad, rfl, hadb, hel⟩ := HR.out.2 (by omega)
      obtain ⟨Y, n, cY, hcell, hRS, hn⟩ := hel j hlt3
      have hcell' := (hB'.cell (p := ad.add j) (by rw [block_of_add]; omega)).trans hcell
      have HF := Lib.hid hf
      have HBq := Lib.hid hB'
      have t4 : (j : Int) < (nc : Int) := by omega
      by_cases hin : i < n
      · obtain ⟨a2, rfl, ha2, hel2⟩ := hRS.2.2 (by omega)
        obtain ⟨Z, d, hc2, hrZ, hZd⟩ := hel2 i hin
        obtain ⟨hbZ, hlZ⟩ := hRS.2.1 i hin
        have hc2' := (hB'.cell (p := a2.add i) (by rw [block_of_add]; omega)).trans hc2
        have hus := rOk_us (gen := gen) hbZ (by rw [hRS.1]; exact hin) hg (by omega)
        have hmo : mOf (cs.getD j []) i = Crc.num ((((cs.getD j []).getD i []).drop 12).take 4) := rfl
        obtain ⟨bz, hbz⟩ : ∃ bz, bz = (cs.getD j []).getD i [] := ⟨_, rfl⟩
        rw [← hbz] at hc2' hrZ hZd hbZ hlZ hus hmo hc2
        have Hbz := Lib.hid hbz
        have HUz : Hid (Calls Try.prog 25 #[.slice Z bz.length d, .int .u64 (gen : Int), .int .i64 (i : Int)] wr fun e w' => UsRet wr w' B bz (Crc.rOk bz gen i) e) := Lib.hid (rusable_any bz hbZ B bz.length d gen i Z wr (hrZ.below (hB'.mono hB)) (by have := hB'.size; omega) hZd hi)
        generalize hln : bz.length = nz at hc2' HUz hc2
        have t5 : ¬ (i : Int) ≥ (n : Int) := by omega
        have t6 : (i : Int) < (n : Int) := by omega
        have Hus := Lib.hid hus
        have Hmo := Lib.hid hmo
        have HbZ := Lib.hid hbZ
        have Hln := Lib.hid hln
        clear hel hel2 hcell hRS hrZ hus hmo hbZ hf hB' hlZ hZd hln hc2 hbz
        go_wp2_with fail
        refine HUz.out.mono ?_
        rintro _ w1 ⟨m1, k, X, dd, rfl, hU, hb1⟩
        have HB1 := Lib.hid (HBq.out.trans (hb1.mono HBq.out.size))
        cases hok : Crc.rOk bz gen i with
        | true =>
          rw [hok] at hU
          obtain ⟨hm1, hk1, hrc⟩ := hU rfl
          by_cases hmm : m1 = m
          · have tm : ((m1 : Int) == (m : Int)) = true := beq_iff_eq.2 (by omega)
            have HN : Hid (fstC cs i gen m = some (cs.getD j [])) := Lib.hid (by
              have hs : serves i gen m (cs.getD j []) = true := by unfold serves; rw [Hus.out, hok, Hmo.out, ← hm1, decide_eq_true hmm]; simp
              exact find_at (serves i gen m) cs [] j (by rw [Hl.out]; exact hlt3) HF.out hs)
            have HRc : Hid (RB w B X k (chkOf ((cs.getD j []).getD i [])) ∧ k ≤ 32) := Lib.hid (by
              rw [← Hbz.out]
              have h57 := (of_decide_eq_true hok).2.1
              exact ⟨RB.up hrc (HBq.out.mono hB), by omega⟩)
            clear hm1 hk1 hrc hU hb1 HUz hok hmm
            go_wp2_with fail
            refine bodyPost_ret (v := .tuple #[.slice X k dd, .bool true]) (by simp [results, Try.results20, go_sem]) rfl ⟨?_, HB1.out⟩
            rw [HN.out]
            exact ⟨X, k, dd, rfl, HRc.out⟩
          · have tm : ((m1 : Int) == (m : Int)) = false := beq_eq_false_iff_ne.2 (by omega)
            have HNx : Hid ((cs.take (j + 1)).find? (serves i gen m) = none) := Lib.hid (find_next _ cs [] j (by rw [Hl.out]; exact hlt3) HF.out (by unfold serves; rw [Hus.out, hok, Hmo.out, ← hm1, decide_eq_false hmm, decide_eq_false hm]; rfl))
            clear hm1 hk1 hrc hU hb1 HUz hok hmm
            go_wp2_with fail
            go_roundw
            case rel => exact ⟨j + 1, by omega, by go_num, HNx.out, HB1.out⟩
            case measure => simp [intOf]; omega
        | false =>
          have HNx : Hid ((cs.take (j + 1)).find? (serves i gen m) = none) := Lib.hid (find_next _ cs [] j (by rw [Hl.out]; exact hlt3) HF.out (by unfold serves; rw [Hus.out, hok]; rfl))
          clear hU hb1 HUz hok
          go_wp2_with fail
          go_roundw
          case rel => exact ⟨j + 1, by omega, by go_num, HNx.out, HB1.out⟩
          case measure => simp [intOf]; omega
      · have HNx : Hid ((cs.take (j + 1)).find? (serves i gen m) = none) := Lib.hid (find_next _ cs [] j (by rw [Hl.out]; exact hlt3) hf (by unfold serves usB; rw [decide_eq_false (by rw [hRS.1]; exact hin)]; rfl))
        have t5 : (i : Int) ≥ (n : Int) := by omega
        clear hel hcell hRS hf hB'
        go_wp2_with fail
        go_roundw
        case rel => exact ⟨j + 1, by omega, by go_num, HNx.out, HBq.out⟩
        case measure => simp [intOf]; omega
    · have HNi : Hid (fstC cs i gen m = none) := Lib.hid (by
        unfold fstC
        rw [← List.take_of_length_le (l := cs) (i := j) (by rw [Hl.out]; omega)]
        exact hf)
      have HBq := Lib.hid hB'
      have t4 : ¬ (j : Int) < (nc : Int) := by omega
      clear hf hB'
      go_wp2_with fail
      refine bodyPost_ret (v := .tuple #[.slice none 0 0, .bool false]) (by simp [results, Try.results20, go_sem]) rfl ⟨?_, HBq.out⟩
      rw [HNi.out]
      exact rfl

end Go.Proofs.Ytijhmopejadpdaa

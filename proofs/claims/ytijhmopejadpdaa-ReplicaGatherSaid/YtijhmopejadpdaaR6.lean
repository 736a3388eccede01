/- What Gather puts together, and its walk. -/
import Derived.Test.YtijhmopejadpdaaR5
namespace Go.Proofs.Ytijhmopejadpdaa
open Go.RowKit
/-- The chunk of a sector; the first chunks put together; the longest copy; the whole. -/
def chkOf (l : List Nat) : List Nat := (l.drop 17).take (l.length - 25)
def coll (cs : List (List (List Nat))) (gen m : Nat) : Nat → Option (List Nat)
  | 0 => some []
  | k + 1 => match coll cs gen m k with
    | none => none
    | some out => match fstC cs k gen m with
      | none => none
      | some ls => some (out ++ chkOf (ls.getD k []))
def longT (cs : List (List (List Nat))) : Nat → Nat
  | 0 => 0
  | j + 1 => max (longT cs j) (cs.getD j []).length
def gathG (cs : List (List (List Nat))) (gen : Nat) : Option (List Nat) :=
  match (List.range (longT cs cs.length)).find? (fun i => (fstC cs i gen 0).isSome) with
  | none => none
  | some i => match fstC cs i gen 0 with
    | none => none
    | some ls => coll cs gen (mOf ls i) (mOf ls i)
theorem coll_none {cs : List (List (List Nat))} {gen m k : Nat} (h : coll cs gen m k = none) (j : Nat) (hj : k ≤ j) : coll cs gen m j = none := by
  induction j with
  | zero => rw [show k = 0 by omega] at h; exact h
  | succ j ih =>
    by_cases e : k = j + 1
    · rw [← e]; exact h
    · rw [coll, ih (by omega)]
theorem fst_serves {cs : List (List (List Nat))} {i gen m : Nat} {ls : List (List Nat)} (h : fstC cs i gen m = some ls) : serves i gen m ls = true := List.find?_some h
theorem fst_mem {cs : List (List (List Nat))} {i gen m : Nat} {ls : List (List Nat)} (h : fstC cs i gen m = some ls) : ls ∈ cs := List.mem_of_find?_eq_some h
theorem us_lt {ls : List (List Nat)} {i gen : Nat} (h : usB ls i gen = true) : i < ls.length := by
  unfold usB at h
  exact of_decide_eq_true (Bool.and_eq_true_iff.1 h).1
theorem us_ok {ls : List (List Nat)} {i gen : Nat} (h : usB ls i gen = true) : Crc.okB (ls.getD i []) = true := by
  unfold usB at h
  exact (Bool.and_eq_true_iff.1 (Bool.and_eq_true_iff.1 h).2).1
theorem us_chunk {ls : List (List Nat)} {i gen : Nat} (h : usB ls i gen = true) : (chkOf (ls.getD i [])).length ≤ 32 := by
  have h1 := of_decide_eq_true (us_ok h)
  unfold chkOf
  rw [List.length_take]
  omega
theorem gath_at {cs : List (List (List Nat))} {gen i : Nat} {ls : List (List Nat)} (hi : i < longT cs cs.length) (hno : ∀ j, j < i → fstC cs j gen 0 = none) (h : fstC cs i gen 0 = some ls) : gathG cs gen = coll cs gen (mOf ls i) (mOf ls i) := by
  have e : (List.range (longT cs cs.length)).find? (fun i => (fstC cs i gen 0).isSome) = some i := by
    have h2 := find_at (fun i => (fstC cs i gen 0).isSome) (List.range (longT cs cs.length)) 0 i (by rw [List.length_range]; exact hi) (by
      rw [List.find?_eq_none]
      intro x hx
      rw [List.take_range] at hx
      have hx' := List.mem_range.1 hx
      rw [hno x (by omega)]
      simp) (by
      rw [List.getD_eq_getElem?_getD, List.getElem?_range hi]
      show (fstC cs i gen 0).isSome = true
      rw [h]; rfl)
    rw [h2, List.getD_eq_getElem?_getD, List.getElem?_range hi]
    rfl
  unfold gathG
  rw [e]
  simp only [h]
theorem gath_none {cs : List (List (List Nat))} {gen : Nat} (hno : ∀ j, j < longT cs cs.length → fstC cs j gen 0 = none) : gathG cs gen = none := by
  have e : (List.range (longT cs cs.length)).find? (fun i => (fstC cs i gen 0).isSome) = none := by
    rw [List.find?_eq_none]
    intro x hx
    rw [hno x (List.mem_range.1 hx)]
    simp
  unfold gathG
  rw [e]
theorem blk_apart {w : World} {base g : Nat} {u : Value} {l : List Nat} {t : TypeId} {cs : Array Value} (h : OB w base 5 u l) (hb : Blk w g t cs) (ht : t ≠ 5) : some g ≠ u.ownBlock := by
  intro e
  rcases h.2 with ⟨rfl, _⟩ | ⟨g1, c1, r1, rfl, _, h1, _⟩
  · cases e
  · injection e with e
    subst e
    have h2 : w.heap[g]? = some (.cells cs t) := hb
    rw [h1] at h2
    injection h2 with h2
    injection h2 with _ h3
    exact ht h3.symm
/-- What Gather returns. -/
def GathIs (w' : World) (e : Ending) (o : Option (List Nat)) : Prop :=
  match o with
  | none => e = .returned (.tuple #[.slice none 0 0, .int .i64 12])
  | some out => ∃ X c, e = .returned (.tuple #[.slice X out.length c, .int .i64 0]) ∧ RB w' w'.heap.size X out.length out ∧ out.length ≤ c

set_option maxHeartbeats 2000000 in
theorem gather_any (cs : List (List (List Nat))) (B nc c gen : Nat) (A : Option Addr) (w : World) (hr : RC w B A nc cs) (hB : B ≤ w.heap.size) (hnc : nc ≤ 65536) (hlen : ∀ j, j < nc → (cs.getD j []).length ≤ 65536) :
    Calls Try.prog 10 #[.slice A nc c, .int .u64 (gen : Int)] w fun e w' => GathIs w' e (gathG cs gen) ∧ Below w.heap.size w w' := by
  obtain ⟨i0, hi0, hz0, hz1, hz2⟩ := info_parts byteInfo
  have hl := hr.1
  have hLj : ∀ j, j ≤ nc → longT cs j ≤ 65536 := fun j => by
    induction j with
    | zero => intro _; exact Nat.zero_le _
    | succ j ih => intro h; have := ih (by omega); have := hlen j (by omega); rw [longT]; omega
  have HR := Lib.hid hr
  have Hl := Lib.hid hl
  have HLj := Lib.hid hLj
  have HLen := Lib.hid hlen
  clear hr hl hLj hlen
  go_enter Try.func10, Try.ntmps10
  go_wp2_with fail
  go_loopw [6, 18] (fun s6 s18 wr => ∃ j : Nat, j ≤ nc ∧ s18 = .int .i64 (j : Int) ∧ s6 = .int .i64 ((longT cs j : Nat) : Int) ∧ w = wr) (fun _ s18 _ => nc - (intOf s18).toNat)
  case atStart => exact ⟨0, by omega, rfl, rfl, rfl⟩
  case round =>
    obtain ⟨j, hj, rfl, rfl, rfl⟩ := hrel
    by_cases hlt : j < nc
    · obtain ⟨ad, rfl, hadb, hel⟩ := HR.out.2 (by omega)
      obtain ⟨Y, n, cY, hcell, hRS, hn⟩ := hel j hlt
      have t2 : (j : Int) < (nc : Int) := by omega
      have hM : Hid (max (longT cs j) n = longT cs (j + 1)) := Lib.hid (by rw [longT, hRS.1])
      generalize longT cs j = L at hM ⊢
      obtain ⟨M, hMd⟩ : ∃ M, M = max L n := ⟨_, rfl⟩
      have hmax : ∀ (ts : Array TypeId) (t : TypeId) (W : World), (Builtin.max_ ts t #[.int .i64 (L : Int), .int .i64 (n : Int)]).run Try.prog W = .ok (.int .i64 (M : Int)) W := fun ts t W => by
        rw [run_max_int2, hMd]
        congr 2
        split <;> omega
      have HMd := Lib.hid hMd
      clear hMd hel hRS
      go_wp2_with fail
      go_roundw
      case rel => exact ⟨j + 1, by omega, by go_num, by rw [← hM.out, HMd.out], by simp⟩
      case measure => simp [intOf]; omega
    · have e : j = nc := by omega
      have hLl : longT cs j ≤ 65536 := HLj.out j hj
      have HLd : Hid (longT cs j = longT cs cs.length) := Lib.hid (by rw [Hl.out, e])
      generalize longT cs j = L at hLl HLd ⊢
      have t3 : ¬ (j : Int) < (nc : Int) := by omega
      clear e
      have HFst : Hid (∀ (W : World) (i m : Nat), i ≤ 4294967296 → Below w.heap.size w W → Calls Try.prog 17 #[.slice A nc c, .int .i64 (i : Int), .int .u64 (gen : Int), .int .u64 (m : Int)] W fun e w' => ∃ (g ix m' k : Nat) (X : Option Addr) (d : Nat) (ok : Bool), e = .returned (.tuple #[.agg #[.int .u64 (g : Int), .int .u64 (ix : Int), .int .u64 (m' : Int), .slice X k d], .bool ok]) ∧ FstIs w B (fstC cs i gen m) i g ix m' X k ok ∧ Below W.heap.size W w') := Lib.hid (fun W i m hi hb => by
        refine (first_any cs B nc c i gen m A W (HR.out.below (hb.mono hB)) (by have := hb.size; omega) hi (by omega)).mono ?_
        rintro e w' ⟨g, ix, m', k, X, d, ok, h1, h2, h3⟩
        refine ⟨g, ix, m', k, X, d, ok, h1, ?_, h3⟩
        unfold FstIs at h2 ⊢
        cases hf : fstC cs i gen m with
        | none => rw [hf] at h2; exact h2
        | some ls => rw [hf] at h2; exact ⟨h2.1, h2.2.up (hb.mono hB)⟩)
      have HFst0 : Hid (∀ (W : World) (i : Nat), i ≤ 4294967296 → Below w.heap.size w W → Calls Try.prog 17 #[.slice A nc c, .int .i64 (i : Int), .int .u64 (gen : Int), .int .u64 0] W fun e w' => ∃ (g ix m' k : Nat) (X : Option Addr) (d : Nat) (ok : Bool), e = .returned (.tuple #[.agg #[.int .u64 (g : Int), .int .u64 (ix : Int), .int .u64 (m' : Int), .slice X k d], .bool ok]) ∧ FstIs w B (fstC cs i gen 0) i g ix m' X k ok ∧ Below W.heap.size W w') := Lib.hid (fun W i hi hb => HFst.out W i 0 hi hb)
      have HBy : Hid (∀ ls, ls ∈ cs → ls.length ≤ 65536 ∧ ∀ i', i' < ls.length → Crc.Bytes (ls.getD i' [])) := Lib.hid (fun ls hls => by
        obtain ⟨j', hj', he⟩ := List.mem_iff_getElem.1 hls
        have hg : cs.getD j' [] = ls := by rw [List.getD_eq_getElem?_getD, List.getElem?_eq_getElem hj', he]; rfl
        have hjn : j' < nc := by rw [← Hl.out]; exact hj'
        obtain ⟨_, _, _, hel⟩ := HR.out.2 (by omega)
        obtain ⟨_, n', _, _, hRS', _⟩ := hel j' hjn
        rw [hg] at hRS'
        exact ⟨by rw [← hg]; exact HLen.out j' hjn, fun i' hi' => (hRS'.2.1 i' (by rw [← hRS'.1]; exact hi')).1⟩)
      clear HR
      go_wp2_with fail
      go_loopw [28] (fun s28 wr => ∃ i : Nat, i ≤ L ∧ s28 = .int .i64 (i : Int) ∧ (∀ i', i' < i → fstC cs i' gen 0 = none) ∧ Below w.heap.size w wr) (fun s28 _ => L - (intOf s28).toNat)
      case atStart => exact ⟨0, by omega, rfl, fun i' h => absurd h (Nat.not_lt_zero _), Below.refl _ _⟩
      case round =>
        obtain ⟨i, hi, rfl, hno, hB'⟩ := hrel
        by_cases hlt2 : i < L
        · have HNo := Lib.hid hno
          have HBr := Lib.hid hB'
          clear hno hB'
          go_wp2_with fail
          refine (HFst0.out _ i (by omega) HBr.out).mono ?_
          rintro e w1 ⟨g, ix, m', k, X, d, ok, rfl, hF, hb1⟩
          have hB1 := HBr.out.trans (hb1.mono HBr.out.size)
          have hB2 := hB1.alloc hB1.size (.cells #[.int .u64 (g : Int), .int .u64 (ix : Int), .int .u64 (m' : Int), .slice X k d] 43)
          have hS2 := Blk.new w1 43 #[.int .u64 (g : Int), .int .u64 (ix : Int), .int .u64 (m' : Int), .slice X k d]
          cases hfc : fstC cs i gen 0 with
          | none =>
            rw [hfc] at hF
            have hok : ok = false := hF
            subst hok
            have HB2 := Lib.hid hB2
            have Hfc := Lib.hid hfc
            clear hF hb1 hB1 hB2 hS2 hfc
            go_wp2_with fail
            go_roundw
            case rel => exact ⟨i + 1, by omega, by go_num, fun i' h => (by by_cases e : i' = i; rw [e]; exact Hfc.out; exact HNo.out i' (by omega)), HB2.out⟩
            case measure => simp [intOf]; omega
          | some ls =>
            rw [hfc] at hF
            obtain ⟨hok, hSec⟩ := hF
            subst hok
            have hgath := gath_at (by rw [← HLd.out]; exact hlt2) HNo.out hfc
            have hmE : m' = mOf ls i := hSec.2.2.1
            have hm32 : m' < 4294967296 := by
              rw [hmE]
              have h := num_take_lt (bytes_drop ((HBy.out ls (fst_mem hfc)).2 i (us_lt (Bool.and_eq_true_iff.1 (fst_serves hfc)).1)) 12) 4
              exact h
            rw [← hmE] at hgath
            have HGa := Lib.hid hgath
            obtain ⟨w2, hw2⟩ : ∃ w2, w2 = w1.alloc (.cells #[.int .u64 (g : Int), .int .u64 (ix : Int), .int .u64 (m' : Int), .slice X k d] 43) := ⟨_, rfl⟩
            obtain ⟨b10, hb10⟩ : ∃ b10, b10 = w1.heap.size := ⟨_, rfl⟩
            rw [← hw2] at hB2 hS2
            rw [← hb10] at hS2
            have v2 : w2.cell? ⟨b10, 2, none⟩ = some (.int .u64 (m' : Int)) := hS2.cell 2
            have HB2 := Lib.hid hB2
            have HS2 := Lib.hid hS2
            have Hw2 := Lib.hid hw2
            have Hb10 := Lib.hid hb10
            have hwb : w.heap.size ≤ b10 := by rw [hb10]; exact hB1.size
            clear hb1 hB1 hB2 hS2 hfc hSec hgath hmE hw2 hb10
            rw [Hw2.out, Hb10.out] at v2
            go_wp2_with fail
            rw [← Hw2.out, ← Hb10.out]
            go_loopw [12, 42] (fun s12 s42 wr => ∃ (q : Nat) (v : Value) (out : List Nat), q ≤ m' ∧ q ≤ 65536 ∧ s42 = .int .u64 (q : Int) ∧ v = s12 ∧ OB wr w.heap.size 5 v out ∧ coll cs gen m' q = some out ∧ out.length ≤ 32 * q ∧ Blk wr b10 43 #[.int .u64 (g : Int), .int .u64 (ix : Int), .int .u64 (m' : Int), .slice X k d] ∧ Below w.heap.size w wr) (fun _ s42 _ => m' - (intOf s42).toNat)
            case atStart => exact ⟨0, _, [], by omega, by omega, rfl, rfl, ⟨rfl, .inl ⟨rfl, rfl⟩⟩, rfl, by simp, HS2.out, HB2.out⟩
            case round =>
              obtain ⟨q, v, out, hq, hq6, rfl, rfl, hO, hco, hol, hSq, hBq⟩ := hrel
              have u2 : wr.cell? ⟨b10, 2, none⟩ = some (.int .u64 (m' : Int)) := hSq.cell 2
              have HO := Lib.hid hO
              have HCo := Lib.hid hco
              have HSq := Lib.hid hSq
              have HBq := Lib.hid hBq
              clear hO hco hSq hBq
              by_cases hlt3 : q < m'
              · go_wp2_with fail
                refine (HFst.out _ q m' (by omega) HBq.out).mono ?_
                clear u2
                rintro e w3 ⟨g3, ix3, m3, k3, X3, d3, ok3, rfl, hF3, hb3⟩
                have hB3 := HBq.out.trans (hb3.mono HBq.out.size)
                cases hfc3 : fstC cs q gen m' with
                | none =>
                  rw [hfc3] at hF3
                  have hok3 : ok3 = false := hF3
                  subst hok3
                  have HNone : Hid (gathG cs gen = none) := Lib.hid (by
                    rw [HGa.out]
                    refine coll_none (k := q + 1) ?_ m' hlt3
                    rw [coll, HCo.out]
                    simp only [hfc3])
                  have HB4 := Lib.hid (hB3.alloc hB3.size (.cells #[.int .u64 (g3 : Int), .int .u64 (ix3 : Int), .int .u64 (m3 : Int), .slice X3 k3 d3] 43))
                  clear hF3 hb3 hB3 hfc3
                  go_wp2_with fail
                  refine bodyPost_ret (v := .tuple #[.slice none 0 0, .int .i64 12]) (by simp [results, Try.results10, go_sem]) rfl ⟨?_, HB4.out⟩
                  rw [HNone.out]
                  exact rfl
                | some ls3 =>
                  rw [hfc3] at hF3
                  obtain ⟨hok3, hSec3⟩ := hF3
                  subst hok3
                  have hus3 := (Bool.and_eq_true_iff.1 (fst_serves hfc3)).1
                  have hq65 : q < 65536 := Nat.lt_of_lt_of_le (us_lt hus3) (HBy.out ls3 (fst_mem hfc3)).1
                  have hck : (chkOf (ls3.getD q [])).length ≤ 32 := us_chunk hus3
                  have hrc : RB w B X3 k3 (chkOf (ls3.getD q [])) := by
                    have h := hSec3.2.2.2.2
                    unfold chkOf
                    rw [← hSec3.2.2.2.1]
                    exact h
                  have HCo1 : Hid (coll cs gen m' (q + 1) = some (out ++ chkOf (ls3.getD q []))) := Lib.hid (by rw [coll, HCo.out]; simp only [hfc3])
                  generalize chkOf (ls3.getD q []) = ck at hck hrc HCo1
                  obtain ⟨w4, hw4⟩ : ∃ w4, w4 = w3.alloc (.cells #[.int .u64 (g3 : Int), .int .u64 (ix3 : Int), .int .u64 (m3 : Int), .slice X3 k3 d3] 43) := ⟨_, rfl⟩
                  have hb4 : Below wr.heap.size wr w4 := by rw [hw4]; exact hb3.alloc hb3.size _
                  have hv3 : w4.cell? ⟨w3.heap.size, 3, none⟩ = some (.slice X3 k3 d3) := by rw [hw4]; exact (Blk.new w3 _ _).cell 3
                  have HO4 := Lib.hid (HO.out.below hb4)
                  have HS4 := Lib.hid (HSq.out.below hb4 HSq.out.lt)
                  have hB4 := HBq.out.trans (hb4.mono HBq.out.size)
                  have HB4 := Lib.hid hB4
                  have HRc := Lib.hid (hrc.below (hB4.mono hB))
                  have hkl : ck.length = k3 := hrc.len
                  have hz4 := hB4.size
                  have Hw4 := Lib.hid hw4
                  have HNe : Hid (some b10 ≠ v.ownBlock) := Lib.hid (blk_apart HO4.out HS4.out (by decide))
                  clear hSec3 hb3 hB3 hb4 hrc hB4 hw4 hus3 hfc3
                  rw [Hw4.out] at hv3
                  have HO4' : Hid (OB (w3.alloc (.cells #[.int .u64 (g3 : Int), .int .u64 (ix3 : Int), .int .u64 (m3 : Int), .slice X3 k3 d3] 43)) w.heap.size 5 v out) := Lib.hid (by rw [← Hw4.out]; exact HO4.out)
                  have HRc' : Hid (RB (w3.alloc (.cells #[.int .u64 (g3 : Int), .int .u64 (ix3 : Int), .int .u64 (m3 : Int), .slice X3 k3 d3] 43)) B X3 k3 ck) := Lib.hid (by rw [← Hw4.out]; exact HRc.out)
                  have Hl1 : Hid (out.length + k3 ≤ 1099511627776) := Lib.hid (by omega)
                  have Hl2 : Hid (w.heap.size ≤ (w3.alloc (.cells #[.int .u64 (g3 : Int), .int .u64 (ix3 : Int), .int .u64 (m3 : Int), .slice X3 k3 d3] 43)).heap.size) := Lib.hid (by rw [← Hw4.out]; exact hz4)
                  go_wp2_with (at_builtin; refine wpList_append_rb _ rfl (.tmp 57) (.tmp 59) _ rfl w.heap.size 5 i0 Try.underlying22 hi0 hz0 hz1 hz2 v out rfl HO4'.out B X3 k3 d3 ck rfl HRc'.out Hl1.out Hl2.out ?_; intro v5 w5 hown hg _; rw [← Hw4.out] at hg; have HS5 := Lib.hid (HS4.out.grown hg HNe.out); have HB5 := Lib.hid (HB4.out.trans (below_grown HO4.out hg (Nat.le_refl _) hz4)); have HO5 := Lib.hid hown; clear hown hg)
                  go_roundw
                  case rel => exact ⟨q + 1, v5, _, by omega, by omega, by go_num, rfl, HO5.out, HCo1.out, by rw [List.length_append]; omega, HS5.out, HB5.out⟩
                  case measure => simp [intOf]; omega
              · have e : q = m' := by omega
                obtain ⟨X5, c5, rfl, hr5, hc5, _⟩ := HO.out.form
                have HR5 := Lib.hid hr5
                have HGb : Hid (gathG cs gen = some out) := Lib.hid (by rw [HGa.out, ← e]; rw [e]; rw [← HCo.out, e])
                clear e hr5
                go_wp2_with fail
                refine bodyPost_ret (v := .tuple #[.slice X5 out.length c5, .int .i64 0]) (by simp [results, Try.results10, go_sem]) rfl ⟨?_, HBq.out⟩
                rw [HGb.out]
                exact ⟨X5, c5, rfl, HR5.out, hc5⟩
        · have e2 : i = L := by omega
          have HNone : Hid (gathG cs gen = none) := Lib.hid (gath_none (fun j' hj' => hno j' (by rw [← HLd.out] at hj'; omega)))
          have HBr := Lib.hid hB'
          clear hno hB' e2
          go_wp2_with fail
          refine bodyPost_ret (v := .tuple #[.slice none 0 0, .int .i64 12]) (by simp [results, Try.results10, go_sem]) rfl ⟨?_, HBr.out⟩
          rw [HNone.out]
          exact rfl

end Go.Proofs.Ytijhmopejadpdaa

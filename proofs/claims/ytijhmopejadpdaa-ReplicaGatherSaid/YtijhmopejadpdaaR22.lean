/- The walks over short and over the statement ReplicaGather. -/
import Derived.Test.YtijhmopejadpdaaR21
import Derived.Test.YtijhmopejadpdaaRO
namespace Go.Proofs.Ytijhmopejadpdaa
open Go.RowKit

/-- Few and short copies. -/
def ShortB (cs : List (List (List Nat))) (nc : Nat) : Prop :=
  nc ≤ 8 ∧ ∀ j, j < nc → (cs.getD j []).length ≤ 40 ∧ ∀ k, k < (cs.getD j []).length → ((cs.getD j []).getD k []).length ≤ 100
theorem RSo.rs {w : World} {B n : Nat} {A : Option Addr} {ls : List (List Nat)} (h : RSo w B A n ls) (hs : ∀ k, k < n → (ls.getD k []).length ≤ 65536) : RS w B A n ls :=
  ⟨h.1, fun j hj => ⟨h.2.1 j hj, hs j hj⟩, h.2.2⟩
theorem RCo.rc {w : World} {B nc : Nat} {A : Option Addr} {cs : List (List (List Nat))} (h : RCo w B A nc cs) (hs : ShortB cs nc) : RC w B A nc cs := by
  refine ⟨h.1, fun h0 => ?_⟩
  obtain ⟨ad, e, hb, hc⟩ := h.2 h0
  refine ⟨ad, e, hb, fun j hj => ?_⟩
  obtain ⟨Y, c, h1, h2⟩ := hc j hj
  obtain ⟨h3, h4⟩ := hs.2 j hj
  exact ⟨Y, _, c, h1, h2.rs (fun k hk => by have := h4 k hk; omega), by omega⟩
theorem RSo.below {w w' : World} {B n : Nat} {A : Option Addr} {ls : List (List Nat)} (h : RSo w B A n ls) (hb : Below B w w') : RSo w' B A n ls :=
  ⟨h.1, h.2.1, fun h0 => by
    obtain ⟨ad, e, hlt, hc⟩ := h.2.2 h0
    refine ⟨ad, e, hlt, fun j hj => ?_⟩
    obtain ⟨Y, c, h1, h2, h3⟩ := hc j hj
    exact ⟨Y, c, (hb.cell (by rw [block_of_add]; exact hlt)).trans h1, h2.below hb, h3⟩⟩
theorem RCo.below {w w' : World} {B nc : Nat} {A : Option Addr} {cs : List (List (List Nat))} (h : RCo w B A nc cs) (hb : Below B w w') : RCo w' B A nc cs :=
  ⟨h.1, fun h0 => by
    obtain ⟨ad, e, hlt, hc⟩ := h.2 h0
    refine ⟨ad, e, hlt, fun j hj => ?_⟩
    obtain ⟨Y, c, h1, h2⟩ := hc j hj
    exact ⟨Y, c, (hb.cell (by rw [block_of_add]; exact hlt)).trans h1, h2.below hb⟩⟩

set_option maxHeartbeats 1000000 in
theorem short_any (cs : List (List (List Nat))) (B nc c : Nat) (A : Option Addr) (w : World) (hr : RCo w B A nc cs) :
    Calls Try.prog 13 #[.slice A nc c] w fun e w' => ∃ ok, e = .returned (.bool ok) ∧ (ok = true → ShortB cs nc) ∧ w = w' := by
  have HR := Lib.hid hr
  clear hr
  by_cases h8 : (nc : Int) > 8
  · go_enter Try.func13, Try.ntmps13
    go_wp2
    go_ret
    exact ⟨_, rfl, fun h => (by cases h), rfl⟩
  have hn8 : nc ≤ 8 := by omega
  go_enter Try.func13, Try.ntmps13
  go_wp2_with fail
  go_loopw [3] (fun s3 wr => ∃ j : Nat, j ≤ nc ∧ s3 = .int .i64 (j : Int) ∧ (∀ j', j' < j → (cs.getD j' []).length ≤ 40 ∧ ∀ k, k < (cs.getD j' []).length → ((cs.getD j' []).getD k []).length ≤ 100) ∧ w = wr) (fun s3 _ => nc - (intOf s3).toNat)
  case atStart => exact ⟨0, by omega, rfl, fun j' h => absurd h (Nat.not_lt_zero _), rfl⟩
  case round =>
    obtain ⟨j, hj, rfl, hS, rfl⟩ := hrel
    have HS := Lib.hid hS
    clear hS
    by_cases hlt : j < nc
    · obtain ⟨ad, rfl, hadb, hel⟩ := HR.out.2 (by omega)
      obtain ⟨Y, cY, hcell, hRS⟩ := hel j hlt
      have t1 : (j : Int) < (nc : Int) := by omega
      obtain ⟨ls, hls⟩ : ∃ ls, ls = cs.getD j [] := ⟨_, rfl⟩
      rw [← hls] at hcell hRS
      have Hls := Lib.hid hls
      obtain ⟨n, hn⟩ : ∃ n, n = ls.length := ⟨_, rfl⟩
      rw [← hn] at hcell hRS
      have Hn := Lib.hid hn
      have HRS := Lib.hid hRS
      clear hls hn hRS hel
      by_cases h40 : (n : Int) > 40
      · go_wp2_with fail
        go_ret
        exact ⟨_, rfl, fun h => (by cases h), rfl⟩
      · go_wp2_with fail
        go_loopw [4] (fun s4 wr => ∃ k : Nat, k ≤ n ∧ s4 = .int .i64 (k : Int) ∧ (∀ k', k' < k → (ls.getD k' []).length ≤ 100) ∧ w = wr) (fun s4 _ => n - (intOf s4).toNat)
        case atStart => exact ⟨0, by omega, rfl, fun j' h => absurd h (Nat.not_lt_zero _), rfl⟩
        case round =>
          obtain ⟨k, hk, rfl, hK, rfl⟩ := hrel
          have HK := Lib.hid hK
          clear hK
          by_cases hkn : k < n
          · obtain ⟨a2, rfl, ha2, hel2⟩ := HRS.out.2.2 (by omega)
            obtain ⟨Z, d, hc2, _⟩ := hel2 k hkn
            obtain ⟨z, hz⟩ : ∃ z, z = (ls.getD k []).length := ⟨_, rfl⟩
            rw [← hz] at hc2
            have Hz := Lib.hid hz
            have t2 : (k : Int) < (n : Int) := by omega
            clear hz hel2
            by_cases h100 : (z : Int) > 100
            · go_wp2_with fail
              go_ret
              exact ⟨_, rfl, fun h => (by cases h), rfl⟩
            · go_wp2_with fail
              go_roundw
              case rel => exact ⟨k + 1, by omega, by go_num, fun k' hk' => (by by_cases e : k' = k; rw [e, ← Hz.out]; omega; exact HK.out k' (by omega)), by simp⟩
              case measure => simp [intOf]; omega
          · have t2 : ¬ (k : Int) < (n : Int) := by omega
            go_wp2_with fail
            go_roundw
            case rel => exact ⟨j + 1, by omega, by go_num, fun j' hj' => (by
              by_cases e : j' = j
              · rw [e, ← Hls.out, ← Hn.out]
                exact ⟨by omega, fun k' hk' => HK.out k' (by omega)⟩
              · exact HS.out j' (by omega)), by simp⟩
            case measure => simp [intOf]; omega
    · have e : j = nc := by omega
      have HF : Hid (ShortB cs nc) := Lib.hid ⟨hn8, fun j' hj' => HS.out j' (by omega)⟩
      clear e
      go_wp2_with fail
      go_ret
      exact ⟨_, rfl, fun _ => HF.out, rfl⟩

set_option maxHeartbeats 1000000 in
theorem ReplicaGather_walk (cs : List (List (List Nat))) (nc c gen : Nat) (hgen : gen < 18446744073709551616) (A : Option Addr) (w : World) (hr : RCo w w.heap.size A nc cs) :
    Calls Try.prog 7 #[.slice A nc c, .int .u64 (gen : Int)] w (True1 w) := by
  have HR := Lib.hid hr
  clear hr
  unfold True1
  go_enter Try.func7, Try.ntmps7
  go_wp2_with fail
  refine (awake_any w).mono ?_
  rintro e w1 ⟨rfl, hb1⟩
  have HB1 := Lib.hid hb1
  have hz1 := hb1.size
  have HR1 := Lib.hid (HR.out.below hb1)
  clear hb1
  go_wp2_with fail
  refine (short_any cs w.heap.size nc c A w1 HR1.out).mono ?_
  rintro e w' ⟨ok, rfl, hok, rfl⟩
  cases ok with
  | false =>
    clear hok
    go_wp2_with fail
    refine (awake_any w1).mono ?_
    rintro e w2 ⟨rfl, hb2⟩
    have HB2 := Lib.hid (HB1.out.trans (hb2.mono hz1))
    clear hb2
    go_wp2
    go_ret
    exact ⟨rfl, HB2.out⟩
  | true =>
    have hs := hok rfl
    have HRC := Lib.hid (HR1.out.rc hs)
    have HLen : Hid (∀ j, j < nc → (cs.getD j []).length ≤ 65536) := Lib.hid (fun j hj => by have := (hs.2 j hj).1; omega)
    have hnc : nc ≤ 65536 := by have := hs.1; omega
    clear hok hs
    go_wp2_with fail
    refine (gather_any cs w.heap.size nc c gen A w1 HRC.out hz1 hnc HLen.out).mono ?_
    rintro e w2 ⟨hG2, hb2⟩
    have HB2 := Lib.hid (HB1.out.trans (hb2.mono hz1))
    have HRC2 := Lib.hid (HRC.out.below (hb2.mono hz1))
    have hz2 := HB2.out.size
    clear hb2
    cases hg : gathG cs gen with
    | none =>
      rw [hg] at hG2
      have he : e = .returned (.tuple #[.slice none 0 0, .int .i64 12]) := hG2
      subst he
      clear hG2
      go_wp2_with fail
      refine (rgather_any cs w.heap.size nc c gen hgen A w2 HRC2.out hz2 hnc HLen.out).mono ?_
      rintro e w3 ⟨hG3, hb3⟩
      rw [hg] at hG3
      have he : e = .returned (.tuple #[.slice none 0 0, .int .i64 12]) := hG3
      subst he
      have HB3 := Lib.hid (HB2.out.trans (hb3.mono hz2))
      have qc1 := run_convert_rb (P := Try.prog) 22 5 9 0 Try.underlying22 Try.underlying5 Try.underlying9 (rb_nil w3 w3.heap.size none)
      clear hG3 hb3
      go_wp2
      go_ret
      exact ⟨rfl, HB3.out⟩
    | some out =>
      rw [hg] at hG2
      obtain ⟨X2, d2, rfl, hr2, _⟩ := hG2
      have HX2 := Lib.hid hr2
      clear hr2
      go_wp2_with fail
      refine (rgather_any cs w.heap.size nc c gen hgen A w2 HRC2.out hz2 hnc HLen.out).mono ?_
      rintro e w3 ⟨hG3, hb3⟩
      rw [hg] at hG3
      obtain ⟨X3, d3, rfl, hr3, _⟩ := hG3
      have HB3 := Lib.hid (HB2.out.trans (hb3.mono hz2))
      have qc1 := run_convert_rb (P := Try.prog) 22 5 9 d2 Try.underlying22 Try.underlying5 Try.underlying9 (HX2.out.below hb3)
      have qc2 := run_convert_rb (P := Try.prog) 22 5 9 d3 Try.underlying22 Try.underlying5 Try.underlying9 hr3
      clear hr3 hb3
      go_wp2
      go_ret
      exact ⟨rfl, HB3.out⟩

end Go.Proofs.Ytijhmopejadpdaa

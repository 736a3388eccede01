/- The walk over the statement PiecesumBad. -/
import Derived.Test.YtejhfollfmdmpaaP11
namespace Go.Proofs.Ytejhfollfmdmpaa
open Go.RowKit

set_option maxHeartbeats 1000000 in
theorem PiecesumBad_walk (A1 A2 A3 A4 A5 : Option Addr) (n1 c1 n2 c2 n3 c3 n4 c4 n5 c5 : Nat) (g : Int) (l1 l2 vs : List Nat) (ds : List (List Nat)) (ps : List Bool) (w : World)
    (hr1 : RU w w.heap.size A1 n1 l1) (hr2 : RU w w.heap.size A2 n2 l2) (hr3 : RU w w.heap.size A3 n3 vs) (hr4 : RD w w.heap.size A4 n4 ds) (hr5 : RL w w.heap.size A5 n5 ps) :
    Calls Try.prog 4 #[.agg #[.slice A1 n1 c1, .slice A2 n2 c2, .int .i64 g, .slice A3 n3 c3, .slice A4 n4 c4, .slice A5 n5 c5]] w (True1 w) := by
  unfold True1
  obtain ⟨w0, hw0⟩ : ∃ w0, w0 = w.alloc (.cells #[.slice A1 n1 c1, .slice A2 n2 c2, .int .i64 g, .slice A3 n3 c3, .slice A4 n4 c4, .slice A5 n5 c5] 38) := ⟨_, rfl⟩
  have hE0 : Blk w0 w.heap.size 38 #[.slice A1 n1 c1, .slice A2 n2 c2, .int .i64 g, .slice A3 n3 c3, .slice A4 n4 c4, .slice A5 n5 c5] := by rw [hw0]; exact Blk.new _ _ _
  have hB0 : Below w.heap.size w w0 := by rw [hw0]; exact (Below.refl _ _).alloc (Nat.le_refl _) _
  obtain ⟨St, HSt⟩ : ∃ St : World → Prop, ∀ W, St W ↔ (Blk W w.heap.size 38 #[.slice A1 n1 c1, .slice A2 n2 c2, .int .i64 g, .slice A3 n3 c3, .slice A4 n4 c4, .slice A5 n5 c5] ∧ Below w.heap.size w W) := ⟨_, fun _ => Iff.rfl⟩
  have HT : Hid (∀ W W', St W → Below W.heap.size W W' → St W') := Lib.hid (fun W W' h hb => by
    obtain ⟨h1, h2⟩ := (HSt W).1 h
    exact (HSt W').2 ⟨h1.below hb h1.lt, h2.trans (hb.mono h2.size)⟩)
  have HA : Hid (∀ W, St W → Calls Try.prog 10 #[] W fun e w' => e = .returned (.bool true) ∧ St w') := Lib.hid (fun W h => (awake_any W).mono fun e w' ⟨h1, h2⟩ => ⟨h1, HT.out W w' h h2⟩)
  have HF : Hid (∀ W, St W → Calls Try.prog 16 #[.agg #[.slice A1 n1 c1, .slice A2 n2 c2]] W fun e w' => e = .returned (.bool (decide (n1 ≤ 40 ∧ n2 ≤ 40))) ∧ St w') := Lib.hid (fun W h => (fair_any _ _ _ _ _ _ W).mono fun e w' ⟨h1, h2⟩ => ⟨h1, HT.out W w' h h2⟩)
  obtain ⟨X, hX⟩ : ∃ X, X = badL l1 l2 g vs ds ps (min n1 n2) := ⟨_, rfl⟩
  obtain ⟨q, hq⟩ : ∃ q, q = min n1 n2 := ⟨_, rfl⟩
  have hXq : X.length = q := by rw [hX, badL_length, hq]
  have HP1 : Hid (n1 ≤ 40 → ∀ W, St W → Calls Try.prog 18 #[.agg #[.slice A1 n1 c1, .slice A2 n2 c2], .int .i64 g, .slice A3 n3 c3, .slice A4 n4 c4, .slice A5 n5 c5] W fun e w' => ∃ A c, e = .returned (.slice A q c) ∧ St w' ∧ RL w' w'.heap.size A q X ∧ Below W.heap.size W w') := Lib.hid (fun h40 W h => by
    have hB := ((HSt W).1 h).2
    refine (bad_any l1 l2 vs ds ps w.heap.size n1 c1 n2 c2 n3 c3 n4 c4 n5 c5 A1 A2 A3 A4 A5 g W (hr1.below hB) (hr2.below hB) (hr3.below hB) (hr4.below hB) (hr5.below hB) hB.size (by omega)).mono ?_
    rintro e w' ⟨v, h1, h2, h3⟩
    rw [← hX] at h2
    obtain ⟨A, c, rfl, h4, _⟩ := h2.form' (n := q) (by rw [List.length_map, hXq])
    exact ⟨A, c, h1, HT.out W w' h h3, h4, h3⟩)
  have HP2 : Hid (n1 ≤ 40 → ∀ W, St W → Calls Try.prog 19 #[.agg #[.slice A1 n1 c1, .slice A2 n2 c2], .int .i64 g, .slice A3 n3 c3, .slice A4 n4 c4, .slice A5 n5 c5] W fun e w' => ∃ A c, e = .returned (.slice A q c) ∧ St w' ∧ RL w' w'.heap.size A q X ∧ Below W.heap.size W w') := Lib.hid (fun h40 W h => by
    have hB := ((HSt W).1 h).2
    refine (rbad_any l1 l2 vs ds ps w.heap.size n1 c1 n2 c2 n3 c3 n4 c4 n5 c5 A1 A2 A3 A4 A5 g W (hr1.below hB) (hr2.below hB) (hr3.below hB) (hr4.below hB) (hr5.below hB) hB.size (by omega)).mono ?_
    rintro e w' ⟨v, h1, h2, h3⟩
    rw [← hX] at h2
    obtain ⟨A, c, rfl, h4, _⟩ := h2.form' (n := q) (by rw [List.length_map, hXq])
    exact ⟨A, c, h1, HT.out W w' h h3, h4, h3⟩)
  have hq40 : n1 ≤ 40 → q ≤ 65536 := fun h => by omega
  have HL : Hid (∀ W, St W → W.cell? ⟨w.heap.size, 0, none⟩ = some (.slice A1 n1 c1) ∧ W.cell? ⟨w.heap.size, 1, none⟩ = some (.slice A2 n2 c2) ∧ W.cell? ⟨w.heap.size, 2, none⟩ = some (.int .i64 g) ∧ W.cell? ⟨w.heap.size, 3, none⟩ = some (.slice A3 n3 c3) ∧ W.cell? ⟨w.heap.size, 4, none⟩ = some (.slice A4 n4 c4) ∧ W.cell? ⟨w.heap.size, 5, none⟩ = some (.slice A5 n5 c5) ∧ St W) := Lib.hid (fun W h => ⟨((HSt W).1 h).1.cell 0, ((HSt W).1 h).1.cell 1, ((HSt W).1 h).1.cell 2, ((HSt W).1 h).1.cell 3, ((HSt W).1 h).1.cell 4, ((HSt W).1 h).1.cell 5, h⟩)
  have HS0 : Hid (St w0) := Lib.hid ((HSt _).2 ⟨hE0, hB0⟩)
  have HSB : Hid (∀ W, St W → Below w.heap.size w W) := Lib.hid (fun W h => ((HSt W).1 h).2)
  have Hw0 := Lib.hid hw0
  have Hq40 := Lib.hid hq40
  clear HSt hw0 hE0 hB0 hX hXq hq hq40 hr1 hr2 hr3 hr4 hr5
  go_enter Try.func4, Try.ntmps4
  go_wp2_with fail
  rw [← Hw0.out]
  refine (HA.out _ HS0.out).mono ?_
  rintro e w1 ⟨rfl, hS1⟩
  obtain ⟨k0, k1, k2, k3, k4, k5, hS1⟩ := HL.out _ hS1
  have HS1 := Lib.hid hS1
  go_wp2_with fail
  refine (HF.out _ HS1.out).mono ?_
  clear k0 k1 k2 k3 k4 k5 hS1
  rintro e w2 ⟨rfl, hS2⟩
  obtain ⟨k0, k1, k2, k3, k4, k5, hS2⟩ := HL.out _ hS2
  have HS2 := Lib.hid hS2
  by_cases hf : n1 ≤ 40 ∧ n2 ≤ 40
  · rw [decide_eq_true hf]
    have h40 := hf.1
    by_cases h3 : 40 < n3
    · go_wp2_with fail
      refine (HA.out _ HS2.out).mono ?_
      rintro e w3 ⟨rfl, hS3⟩
      go_wp2
      go_ret
      exact ⟨rfl, HSB.out _ hS3⟩
    by_cases h4 : 40 < n4
    · go_wp2_with fail
      refine (HA.out _ HS2.out).mono ?_
      rintro e w3 ⟨rfl, hS3⟩
      go_wp2
      go_ret
      exact ⟨rfl, HSB.out _ hS3⟩
    by_cases h5 : 40 < n5
    · go_wp2_with fail
      refine (HA.out _ HS2.out).mono ?_
      rintro e w3 ⟨rfl, hS3⟩
      go_wp2
      go_ret
      exact ⟨rfl, HSB.out _ hS3⟩
    go_wp2_with fail
    clear k0 k1 k2 k3 k4 k5 hS2
    have hSd : St w2.drew := HT.out _ _ HS2.out (Below.refl _ _).drew
    go_region_held3 (fun W => W.cell? ⟨w.heap.size, 0, none⟩ = some (.slice A1 n1 c1) ∧ W.cell? ⟨w.heap.size, 1, none⟩ = some (.slice A2 n2 c2) ∧ W.cell? ⟨w.heap.size, 2, none⟩ = some (.int .i64 g) ∧ W.cell? ⟨w.heap.size, 3, none⟩ = some (.slice A3 n3 c3) ∧ W.cell? ⟨w.heap.size, 4, none⟩ = some (.slice A4 n4 c4) ∧ W.cell? ⟨w.heap.size, 5, none⟩ = some (.slice A5 n5 c5) ∧ St W) (first | exact HL.out _ hSd | exact HL.out _ (by assumption))
      (first
        | (go_at_call 18; (with_reducible refine (HP1.out h40 _ (by assumption)).mono ?_); rintro e w4 ⟨E1, d1, rfl, hS4, r1, hb4⟩)
        | (go_at_call 19; (with_reducible refine (HP2.out h40 _ (by assumption)).mono ?_); rintro e w5 ⟨E2, d2, rfl, hS5, r2, hb5⟩)
        | (go_at_call 17; first
            | (refine (bools_any X X w5.heap.size q d1 q d2 E1 E2 w5 ((Reads.below r1 hb5).more hb5.size) r2 (Nat.le_refl _) (Hq40.out h40)).mono ?_; rintro e w6 ⟨rfl, hb6⟩; rw [decide_eq_true rfl]; have hS6 := HT.out _ _ hS5 hb6)
            | (refine (bools_any X X w4.heap.size q d1 q d2 E1 E2 w4 r1 ((Reads.below r2 hb4).more hb4.size) (Nat.le_refl _) (Hq40.out h40)).mono ?_; rintro e w6 ⟨rfl, hb6⟩; rw [decide_eq_true rfl]; have hS6 := HT.out _ _ hS4 hb6)))
    all_goals go_wp2
    all_goals go_ret
    all_goals exact ⟨rfl, HSB.out _ hS6⟩
  · rw [decide_eq_false hf]
    go_wp2_with fail
    refine (HA.out _ HS2.out).mono ?_
    rintro e w3 ⟨rfl, hS3⟩
    go_wp2
    go_ret
    exact ⟨rfl, HSB.out _ hS3⟩

end Go.Proofs.Ytejhfollfmdmpaa

/- The walk over the statement PiecesumSum. -/
import Derived.Test.YtejhfollfmdmpaaP10
import Derived.Test.YtejhfollfmdmpaaP5
namespace Go.Proofs.Ytejhfollfmdmpaa
open Go.RowKit

def True1 (w : World) (e : Ending) (w' : World) : Prop := e = .returned (.bool true) ∧ Below w.heap.size w w'

set_option maxHeartbeats 1000000 in
theorem PiecesumSum_walk (group piece pg pp : Int) (ver x0 x1 x2 x3 x4 x5 x6 x7 : Nat) (hx : Crc.Bytes [x0, x1, x2, x3, x4, x5, x6, x7]) (w : World) :
    Calls Try.prog 3 #[.int .i64 group, .int .i64 piece, .agg #[.int .i64 pg, .int .i64 pp, .int .u64 (ver : Int), bv x0, bv x1, bv x2, bv x3, bv x4, bv x5, bv x6, bv x7]] w (True1 w) := by
  unfold True1
  obtain ⟨w0, hw0⟩ : ∃ w0, w0 = w.alloc (.cells #[.int .i64 pg, .int .i64 pp, .int .u64 (ver : Int), bv x0, bv x1, bv x2, bv x3, bv x4, bv x5, bv x6, bv x7] 26) := ⟨_, rfl⟩
  have hE0 : Blk w0 w.heap.size 26 #[.int .i64 pg, .int .i64 pp, .int .u64 (ver : Int), bv x0, bv x1, bv x2, bv x3, bv x4, bv x5, bv x6, bv x7] := by rw [hw0]; exact Blk.new _ _ _
  have hB0 : Below w.heap.size w w0 := by rw [hw0]; exact (Below.refl _ _).alloc (Nat.le_refl _) _
  obtain ⟨St, HSt⟩ : ∃ St : World → Prop, ∀ W, St W ↔ (Blk W w.heap.size 26 #[.int .i64 pg, .int .i64 pp, .int .u64 (ver : Int), bv x0, bv x1, bv x2, bv x3, bv x4, bv x5, bv x6, bv x7] ∧ Below w.heap.size w W) := ⟨_, fun _ => Iff.rfl⟩
  have HT : Hid (∀ W W', St W → Below W.heap.size W W' → St W') := Lib.hid (fun W W' h hb => by
    obtain ⟨h1, h2⟩ := (HSt W).1 h
    exact (HSt W').2 ⟨h1.below hb h1.lt, h2.trans (hb.mono h2.size)⟩)
  have HA : Hid (∀ W, St W → Calls Try.prog 10 #[] W fun e w' => e = .returned (.bool true) ∧ St w') := Lib.hid (fun W h => (awake_any W).mono fun e w' ⟨h1, h2⟩ => ⟨h1, HT.out W w' h h2⟩)
  obtain ⟨X, hX⟩ : ∃ X, X = Crc.psum group piece ver [x0, x1, x2, x3, x4, x5, x6, x7] := ⟨_, rfl⟩
  have HS1 : Hid (∀ W, St W → Calls Try.prog 11 #[.int .i64 group, .int .i64 piece, .int .u64 (ver : Int), .agg #[bv x0, bv x1, bv x2, bv x3, bv x4, bv x5, bv x6, bv x7]] W fun e w' => e = .returned (.int .u64 (X : Int)) ∧ St w') := Lib.hid (fun W h => (psum_any group piece ver x0 x1 x2 x3 x4 x5 x6 x7 hx W).mono fun e w' ⟨h1, h2⟩ => ⟨by rw [h1, hX], HT.out W w' h h2⟩)
  have HS2 : Hid (∀ W, St W → Calls Try.prog 12 #[.int .i64 group, .int .i64 piece, .int .u64 (ver : Int), .agg #[bv x0, bv x1, bv x2, bv x3, bv x4, bv x5, bv x6, bv x7]] W fun e w' => e = .returned (.int .u64 (X : Int)) ∧ St w') := Lib.hid (fun W h => (rpsum_any group piece ver x0 x1 x2 x3 x4 x5 x6 x7 hx W).mono fun e w' ⟨h1, h2⟩ => ⟨by rw [h1, hX], HT.out W w' h h2⟩)
  have HZ : Hid (∀ W, St W → Calls Try.prog 14 #[.int .i64 group, .int .i64 piece] W fun e w' => ∃ A1 c1 A2 c2, e = .returned (.agg #[.slice A1 (zN piece) c1, .slice A2 (zN piece) c2]) ∧ St w' ∧ RU w' w'.heap.size A1 (zN piece) (zL (zN piece)) ∧ RU w' w'.heap.size A2 (zN piece) (zS group (zN piece)) ∧ Below W.heap.size W w') := Lib.hid (fun W h => (zero_any group piece W).mono fun e w' ⟨A1, c1, A2, c2, h1, h2, h3, h4, _⟩ => ⟨A1, c1, A2, c2, h1, HT.out W w' h h4, h2, h3, h4⟩)
  have HZ' : Hid (∀ W, St W → Calls Try.prog 15 #[.int .i64 group, .int .i64 piece] W fun e w' => ∃ A1 c1 A2 c2, e = .returned (.agg #[.slice A1 (zN piece) c1, .slice A2 (zN piece) c2]) ∧ St w' ∧ RU w' w'.heap.size A1 (zN piece) (zL (zN piece)) ∧ RU w' w'.heap.size A2 (zN piece) (zS group (zN piece)) ∧ Below W.heap.size W w') := Lib.hid (fun W h => (rzero_any group piece W).mono fun e w' ⟨A1, c1, A2, c2, h1, h2, h3, h4, _⟩ => ⟨A1, c1, A2, c2, h1, HT.out W w' h h4, h2, h3, h4⟩)
  have hN : zN piece ≤ 65536 := by unfold zN; split <;> omega
  have HS := Lib.hid HSt
  have HL : Hid (∀ W, St W → W.cell? ⟨w.heap.size, 2, none⟩ = some (.int .u64 (ver : Int)) ∧ W.cell? ⟨w.heap.size, 3, none⟩ = some (bv x0) ∧ W.cell? ⟨w.heap.size, 4, none⟩ = some (bv x1) ∧ W.cell? ⟨w.heap.size, 5, none⟩ = some (bv x2) ∧ W.cell? ⟨w.heap.size, 6, none⟩ = some (bv x3) ∧ W.cell? ⟨w.heap.size, 7, none⟩ = some (bv x4) ∧ W.cell? ⟨w.heap.size, 8, none⟩ = some (bv x5) ∧ W.cell? ⟨w.heap.size, 9, none⟩ = some (bv x6) ∧ W.cell? ⟨w.heap.size, 10, none⟩ = some (bv x7) ∧ St W) := Lib.hid (fun W h => ⟨((HS.out W).1 h).1.cell 2, ((HS.out W).1 h).1.cell 3, ((HS.out W).1 h).1.cell 4, ((HS.out W).1 h).1.cell 5, ((HS.out W).1 h).1.cell 6, ((HS.out W).1 h).1.cell 7, ((HS.out W).1 h).1.cell 8, ((HS.out W).1 h).1.cell 9, ((HS.out W).1 h).1.cell 10, h⟩)
  have HS0 : Hid (St w0.drew) := Lib.hid ((HSt _).2 ⟨hE0, hB0.drew⟩)
  have Hw0 := Lib.hid hw0
  have tx : ((X : Int) == (X : Int)) = true := beq_self_eq_true _
  clear HSt hw0 hE0 hB0 hX hx
  go_enter Try.func3, Try.ntmps3
  go_wp2_with fail
  rw [← Hw0.out]
  go_region_held3 (fun W => W.cell? ⟨w.heap.size, 2, none⟩ = some (.int .u64 (ver : Int)) ∧ W.cell? ⟨w.heap.size, 3, none⟩ = some (bv x0) ∧ W.cell? ⟨w.heap.size, 4, none⟩ = some (bv x1) ∧ W.cell? ⟨w.heap.size, 5, none⟩ = some (bv x2) ∧ W.cell? ⟨w.heap.size, 6, none⟩ = some (bv x3) ∧ W.cell? ⟨w.heap.size, 7, none⟩ = some (bv x4) ∧ W.cell? ⟨w.heap.size, 8, none⟩ = some (bv x5) ∧ W.cell? ⟨w.heap.size, 9, none⟩ = some (bv x6) ∧ W.cell? ⟨w.heap.size, 10, none⟩ = some (bv x7) ∧ St W) (first | exact HL.out _ HS0.out | exact HL.out _ (by assumption))
    (first
      | (go_at_call 10; (with_reducible refine (HA.out _ HS0.out).mono ?_); rintro e w1 ⟨rfl, hS1⟩)
      | (go_at_call 11; (with_reducible refine (HS1.out _ (by assumption)).mono ?_); rintro e w2 ⟨rfl, hS2⟩)
      | (go_at_call 12; (with_reducible refine (HS2.out _ (by assumption)).mono ?_); rintro e w3 ⟨rfl, hS3⟩)
      | (go_at_call 14; (with_reducible refine (HZ.out _ (by assumption)).mono ?_); rintro e w4 ⟨A1, c1, A2, c2, rfl, hS4, r1, r2, hb4⟩)
      | (go_at_call 15; (with_reducible refine (HZ'.out _ (by assumption)).mono ?_); rintro e w5 ⟨E1, d1, E2, d2, rfl, hS5, s1, s2, hb5⟩)
      | (go_at_call 13; first
          | (refine (same_any _ _ _ _ w5.heap.size _ c1 _ c2 _ d1 _ d2 A1 A2 E1 E2 w5 ((r1.below hb5).more hb5.size) ((r2.below hb5).more hb5.size) s1 s2 (Nat.le_refl _) hN hN).mono ?_; rintro e w6 ⟨rfl, hb6⟩; rw [decide_eq_true ⟨rfl, rfl⟩]; have hS6 := HT.out _ _ hS5 hb6)
          | (refine (same_any _ _ _ _ w4.heap.size _ c1 _ c2 _ d1 _ d2 A1 A2 E1 E2 w4 r1 r2 ((s1.below hb4).more hb4.size) ((s2.below hb4).more hb4.size) (Nat.le_refl _) hN hN).mono ?_; rintro e w6 ⟨rfl, hb6⟩; rw [decide_eq_true ⟨rfl, rfl⟩]; have hS6 := HT.out _ _ hS4 hb6)))
  all_goals go_wp2
  all_goals go_ret
  all_goals exact ⟨rfl, ((HS.out _).1 hS6).2⟩

end Go.Proofs.Ytejhfollfmdmpaa

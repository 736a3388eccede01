/- Walks over the entries' validity, the sealing of bytes, and both encodings. -/
import Derived.Test.YtibmigeikkmofaaE1
import Derived.Test.YtibmigeikkmofaaRef
namespace Go.Proofs.Ytibmigeikkmofaa
open Go.RowKit

set_option maxHeartbeats 400000 in
theorem rseal_any (l : List Nat) (hl : Crc.Bytes l) (B m c : Nat) (A : Option Addr) (w : World) (hr : RB w B A m l) (hB : B ≤ w.heap.size) (hm : m ≤ 65536) :
    Calls Try.prog 14 #[.slice A m c] w fun e w' => ∃ v', e = .returned v' ∧ OB w' w.heap.size 5 v' (l ++ Crc.leb 8 (Crc.sumS l)) ∧ Below w.heap.size w w' := by
  have HR := Lib.hid hr
  have HL := Lib.hid hl
  clear hr hl
  go_enter Try.func14, Try.ntmps14
  go_wp2_with fail
  refine (rsum_any l HL.out _ _ _ _ _ HR.out (by unfold maxLen; omega)).mono ?_
  rintro e w' ⟨rfl, rfl⟩
  go_wp2_with fail
  refine (rput_any l _ _ _ _ _ _ (by omega) (by omega) _ HR.out hB hm).mono ?_
  rintro e w' ⟨v', rfl, hown, hb⟩
  have HO := Lib.hid hown
  have HBl := Lib.hid hb
  clear hown hb
  go_wp2
  go_ret
  exact ⟨v', rfl, HO.out, HBl.out⟩

/-- Is an entry valid? -/
def validB (kd bl : Int) (ver : Nat) (D : List Nat) : Bool := decide ((kd = 1 ∨ kd = 2) ∧ 0 ≤ bl ∧ bl < 65536 ∧ 1 ≤ ver ∧ (kd = 1 ∨ D = [0, 0, 0, 0, 0, 0, 0, 0]))

/-- A block's eight bytes against none. -/
theorem eq_zero8 (x0 x1 x2 x3 x4 x5 x6 x7 : Nat) (w : World) :
    (Op.equalIn 10000 24 (.agg #[bv x0, bv x1, bv x2, bv x3, bv x4, bv x5, bv x6, bv x7]) (.agg #[.int .u8 0, .int .u8 0, .int .u8 0, .int .u8 0, .int .u8 0, .int .u8 0, .int .u8 0, .int .u8 0])).run Try.prog w =
      .ok (decide ([x0, x1, x2, x3, x4, x5, x6, x7] = [0, 0, 0, 0, 0, 0, 0, 0])) w := by
  obtain ⟨i0, hi0, hz0, hz1, hz2⟩ := info_parts byteInfo
  exact run_equalIn_bytes8 w 9998 24 5 i0 Try.underlying24 Try.underlying5 hi0 hz1 x0 x1 x2 x3 x4 x5 x6 x7 0 0 0 0 0 0 0 0

theorem validB_bl0 {kd bl : Int} {ver : Nat} {D : List Nat} (h : bl < 0) : validB kd bl ver D = false := by unfold validB; exact decide_eq_false (by omega)
theorem validB_bl1 {kd bl : Int} {ver : Nat} {D : List Nat} (h : ¬ bl < 65536) : validB kd bl ver D = false := by unfold validB; exact decide_eq_false (by omega)
theorem validB_ver {kd bl : Int} {ver : Nat} {D : List Nat} (h : ver < 1) : validB kd bl ver D = false := by unfold validB; exact decide_eq_false (by omega)
theorem validB_two {bl : Int} {ver : Nat} {D : List Nat} (h0 : 0 ≤ bl) (h1 : bl < 65536) (h2 : 1 ≤ ver) : validB 2 bl ver D = decide (D = [0, 0, 0, 0, 0, 0, 0, 0]) := by
  unfold validB
  by_cases h : D = [0, 0, 0, 0, 0, 0, 0, 0]
  · rw [decide_eq_true h]; exact decide_eq_true ⟨.inr rfl, h0, h1, h2, .inr h⟩
  · rw [decide_eq_false h]; exact decide_eq_false fun ⟨_, _, _, _, h5⟩ => h5.elim (by omega) h
theorem validB_one {bl : Int} {ver : Nat} {D : List Nat} (h0 : 0 ≤ bl) (h1 : bl < 65536) (h2 : 1 ≤ ver) : validB 1 bl ver D = true := by
  unfold validB; exact decide_eq_true ⟨.inl rfl, h0, h1, h2, .inl rfl⟩
theorem validB_kd {kd bl : Int} {ver : Nat} {D : List Nat} (h1 : ¬ kd = 1) (h2 : ¬ kd = 2) : validB kd bl ver D = false := by
  unfold validB; exact decide_eq_false fun ⟨h, _⟩ => h.elim h1 h2

set_option maxHeartbeats 400000 in
theorem valid_any (kd bl : Int) (ver x0 x1 x2 x3 x4 x5 x6 x7 : Nat) (w : World) :
    Calls Try.prog 16 #[.agg #[.int .i64 kd, .int .i64 bl, .int .u64 (ver : Int), bv x0, bv x1, bv x2, bv x3, bv x4, bv x5, bv x6, bv x7]] w fun e w' =>
      e = .returned (.bool (validB kd bl ver [x0, x1, x2, x3, x4, x5, x6, x7])) ∧ Below w.heap.size w w' := by
  have hz := eq_zero8 x0 x1 x2 x3 x4 x5 x6 x7
  by_cases h0 : bl < 0
  · rw [validB_bl0 h0]
    go_enter Try.func16, Try.ntmps16
    go_wp2
    all_goals (go_ret; exact ⟨rfl, (Below.refl _ _).alloc (Nat.le_refl _) _⟩)
  · by_cases h1 : bl < 65536
    · by_cases h2 : ver < 1
      · rw [validB_ver h2]
        go_enter Try.func16, Try.ntmps16
        go_wp2
        all_goals (go_ret; exact ⟨rfl, (Below.refl _ _).alloc (Nat.le_refl _) _⟩)
      · by_cases h4 : kd = 2
        · subst h4
          rw [validB_two (by omega) h1 (by omega)]
          go_enter Try.func16, Try.ntmps16
          go_wp2
          all_goals (go_ret; exact ⟨rfl, (Below.refl _ _).alloc (Nat.le_refl _) _⟩)
        · by_cases h5 : kd = 1
          · subst h5
            rw [validB_one (by omega) h1 (by omega)]
            go_enter Try.func16, Try.ntmps16
            go_wp2
            all_goals (go_ret; exact ⟨rfl, (Below.refl _ _).alloc (Nat.le_refl _) _⟩)
          · rw [validB_kd h5 h4]
            have t1 : (kd == 2) = false := beq_eq_false_iff_ne.2 h4
            have t2 : (kd == 1) = false := beq_eq_false_iff_ne.2 h5
            have t3 : (kd != 1) = true := bne_iff_ne.2 h5
            have t4 : (kd != 2) = true := bne_iff_ne.2 h4
            clear h4 h5
            go_enter Try.func16, Try.ntmps16
            go_wp2
            all_goals (go_ret; exact ⟨rfl, (Below.refl _ _).alloc (Nat.le_refl _) _⟩)
    · rw [validB_bl1 h1]
      go_enter Try.func16, Try.ntmps16
      go_wp2
      all_goals (go_ret; exact ⟨rfl, (Below.refl _ _).alloc (Nat.le_refl _) _⟩)

set_option maxHeartbeats 400000 in
theorem rvalid_any (kd bl : Int) (ver x0 x1 x2 x3 x4 x5 x6 x7 : Nat) (w : World) :
    Calls Try.prog 15 #[.agg #[.int .i64 kd, .int .i64 bl, .int .u64 (ver : Int), bv x0, bv x1, bv x2, bv x3, bv x4, bv x5, bv x6, bv x7]] w fun e w' =>
      e = .returned (.bool (validB kd bl ver [x0, x1, x2, x3, x4, x5, x6, x7])) ∧ Below w.heap.size w w' := by
  have hz := eq_zero8 x0 x1 x2 x3 x4 x5 x6 x7
  by_cases h0 : bl < 0
  · rw [validB_bl0 h0]
    go_enter Try.func15, Try.ntmps15
    go_wp2
    all_goals (go_ret; exact ⟨rfl, (Below.refl _ _).alloc (Nat.le_refl _) _⟩)
  · by_cases h1 : bl < 65536
    · by_cases h2 : ver < 1
      · rw [validB_ver h2]
        go_enter Try.func15, Try.ntmps15
        go_wp2
        all_goals (go_ret; exact ⟨rfl, (Below.refl _ _).alloc (Nat.le_refl _) _⟩)
      · by_cases h4 : kd = 2
        · subst h4
          rw [validB_two (by omega) h1 (by omega)]
          go_enter Try.func15, Try.ntmps15
          go_wp2
          all_goals (go_ret; exact ⟨rfl, (Below.refl _ _).alloc (Nat.le_refl _) _⟩)
        · by_cases h5 : kd = 1
          · subst h5
            rw [validB_one (by omega) h1 (by omega)]
            go_enter Try.func15, Try.ntmps15
            go_wp2
            all_goals (go_ret; exact ⟨rfl, (Below.refl _ _).alloc (Nat.le_refl _) _⟩)
          · rw [validB_kd h5 h4]
            have t1 : (kd == 2) = false := beq_eq_false_iff_ne.2 h4
            have t2 : (kd == 1) = false := beq_eq_false_iff_ne.2 h5
            have t3 : (kd != 1) = true := bne_iff_ne.2 h5
            have t4 : (kd != 2) = true := bne_iff_ne.2 h4
            clear h4 h5
            go_enter Try.func15, Try.ntmps15
            go_wp2
            all_goals (go_ret; exact ⟨rfl, (Below.refl _ _).alloc (Nat.le_refl _) _⟩)
    · rw [validB_bl1 h1]
      go_enter Try.func15, Try.ntmps15
      go_wp2
      all_goals (go_ret; exact ⟨rfl, (Below.refl _ _).alloc (Nat.le_refl _) _⟩)

end Go.Proofs.Ytibmigeikkmofaa

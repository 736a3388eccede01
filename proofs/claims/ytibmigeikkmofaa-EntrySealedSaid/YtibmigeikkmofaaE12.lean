/- Decoding by both programs; the walk over the statement EntryDecode. -/
import Derived.Test.YtibmigeikkmofaaE9
import Derived.Test.YtibmigeikkmofaaE11
namespace Go.Proofs.Ytibmigeikkmofaa
open Go.RowKit

theorem dec_list {l : List Nat} (hl : Crc.Bytes l) (h37 : l.length = 37) (hs : Crc.num ((l.drop 29).take 8) = Crc.sumS (l.take 29)) :
    Crc.encB (l.getD 0 0) (Crc.num ((l.drop 1).take 4)) (Crc.num ((l.drop 5).take 8)) ((l.drop 13).take 8) (Crc.num ((l.drop 21).take 8)) = l := by
  have e := (seal_iff hl h37).2 hs
  have a0 : Crc.leb 1 (l.getD 0 0) = l.take 1 := by
    have h := bytes_getD hl 0
    cases l with
    | nil => simp at h37
    | cons b r =>
      simp only [List.getD_cons_zero] at h
      simp [Crc.leb, Nat.mod_eq_of_lt h]
  have a : ∀ i m, i + m ≤ 37 → Crc.leb m (Crc.num ((l.drop i).take m)) = (l.drop i).take m := fun i m him => by
    have h := Crc.leb_num ((l.drop i).take m) (bytes_take (bytes_drop hl i) m)
    rwa [show ((l.drop i).take m).length = m by rw [List.length_take, List.length_drop]; omega] at h
  have j : ∀ i m, l.take i ++ (l.drop i).take m = l.take (i + m) := fun i m => by rw [List.take_add]
  unfold Crc.encB Crc.bodyB
  rw [a0, a 1 4 (by omega), a 5 8 (by omega), a 21 8 (by omega), j 1 4, j 5 8, j 13 8, j 21 8]
  exact e

/-- What both decodings return. -/
def DecIs (l : List Nat) (kd bl : Int) (ver x0 x1 x2 x3 x4 x5 x6 x7 time : Nat) (er : Int) : Prop :=
  (∀ (B c : Nat) (A : Option Addr) (w : World), RB w B A l.length l → B ≤ w.heap.size → l.length ≤ c → Calls Try.prog 12 #[.slice A l.length c] w fun e w' => e = .returned (.tuple #[.agg #[.int .i64 kd, .int .i64 bl, .int .u64 (ver : Int), bv x0, bv x1, bv x2, bv x3, bv x4, bv x5, bv x6, bv x7], .int .u64 (time : Int), .int .i64 er]) ∧ Below w.heap.size w w') ∧
  (∀ (B c : Nat) (A : Option Addr) (w : World), RB w B A l.length l → B ≤ w.heap.size → l.length ≤ c → Calls Try.prog 13 #[.slice A l.length c] w fun e w' => e = .returned (.tuple #[.agg #[.int .i64 kd, .int .i64 bl, .int .u64 (ver : Int), bv x0, bv x1, bv x2, bv x3, bv x4, bv x5, bv x6, bv x7], .int .u64 (time : Int), .int .i64 er]) ∧ Below w.heap.size w w')
theorem list8 {l : List Nat} (h : l.length = 8) : ∃ x0 x1 x2 x3 x4 x5 x6 x7, l = [x0, x1, x2, x3, x4, x5, x6, x7] := by
  match l, h with
  | [x0, x1, x2, x3, x4, x5, x6, x7], _ => exact ⟨_, _, _, _, _, _, _, _, rfl⟩
theorem dec_good (l : List Nat) (hl : Crc.Bytes l) (h37 : l.length = 37) (hs : Crc.num ((l.drop 29).take 8) = Crc.sumS (l.take 29)) :
    (∃ (kd bl ver x0 x1 x2 x3 x4 x5 x6 x7 time : Nat), DecIs l kd bl ver x0 x1 x2 x3 x4 x5 x6 x7 time 0 ∧ kd < 256 ∧ bl < 65536 ∧ validB (kd : Int) (bl : Int) ver [x0, x1, x2, x3, x4, x5, x6, x7] = true ∧ Crc.Bytes [x0, x1, x2, x3, x4, x5, x6, x7] ∧ Crc.encB kd bl ver [x0, x1, x2, x3, x4, x5, x6, x7] time = l) ∨
    DecIs l 0 0 0 0 0 0 0 0 0 0 0 0 5 := by
  obtain ⟨x0, x1, x2, x3, x4, x5, x6, x7, hx⟩ := list8 (l := (l.drop 13).take 8) (by rw [List.length_take, List.length_drop]; omega)
  have hL := dec_list hl h37 hs
  rw [hx] at hL
  have hxb : Crc.Bytes [x0, x1, x2, x3, x4, x5, x6, x7] := hx ▸ bytes_take (bytes_drop hl 13) 8
  by_cases hv : validB (l.getD 0 0 : Int) (Crc.num ((l.drop 1).take 4) : Int) (Crc.num ((l.drop 5).take 8)) [x0, x1, x2, x3, x4, x5, x6, x7] = true
  · left
    obtain ⟨k, b, e1, e2, hk, hb⟩ := valid_nat hv
    have e1' : l.getD 0 0 = k := Int.ofNat.inj e1
    have e2' : Crc.num ((l.drop 1).take 4) = b := Int.ofNat.inj e2
    refine ⟨l.getD 0 0, Crc.num ((l.drop 1).take 4), Crc.num ((l.drop 5).take 8), x0, x1, x2, x3, x4, x5, x6, x7, Crc.num ((l.drop 21).take 8), ⟨?_, ?_⟩, by omega, by omega, hv, hxb, hL⟩
    · intro B c A w hr hB hc
      rw [h37] at hr hc ⊢
      exact decode_rest l hl B c A w hr hB hc hs _ _ _ _ _ _ _ _ _ _ _ _ rfl rfl rfl rfl hx true hv
    · intro B c A w hr hB hc
      rw [h37] at hr hc ⊢
      exact rdecode_rest l hl B c A w hr hB hc hs _ _ _ _ _ _ _ _ _ _ _ _ rfl rfl rfl rfl hx true hv
  · right
    have hv := Bool.eq_false_iff.2 hv
    refine ⟨?_, ?_⟩
    · intro B c A w hr hB hc
      rw [h37] at hr hc ⊢
      exact decode_rest l hl B c A w hr hB hc hs _ _ _ _ _ _ _ _ _ _ _ _ rfl rfl rfl rfl hx false hv
    · intro B c A w hr hB hc
      rw [h37] at hr hc ⊢
      exact rdecode_rest l hl B c A w hr hB hc hs _ _ _ _ _ _ _ _ _ _ _ _ rfl rfl rfl rfl hx false hv
theorem dec_any (l : List Nat) (hl : Crc.Bytes l) : ∃ (kd bl : Int) (ver x0 x1 x2 x3 x4 x5 x6 x7 time : Nat) (er : Int), DecIs l kd bl ver x0 x1 x2 x3 x4 x5 x6 x7 time er := by
  by_cases h37 : l.length = 37
  · by_cases hs : Crc.num ((l.drop 29).take 8) = Crc.sumS (l.take 29)
    · rcases dec_good l hl h37 hs with ⟨kd, bl, ver, x0, x1, x2, x3, x4, x5, x6, x7, time, h, _⟩ | h
      · exact ⟨_, _, _, _, _, _, _, _, _, _, _, _, _, h⟩
      · exact ⟨_, _, _, _, _, _, _, _, _, _, _, _, _, h⟩
    · refine ⟨0, 0, 0, 0, 0, 0, 0, 0, 0, 0, 0, 0, 6, ?_, ?_⟩
      · intro B c A w hr hB hc
        rw [h37] at hr hc ⊢
        exact decode_sum l hl B c A w hr hB hc hs
      · intro B c A w hr hB hc
        rw [h37] at hr hc ⊢
        exact rdecode_sum l hl B c A w hr hB hc hs
  · exact ⟨0, 0, 0, 0, 0, 0, 0, 0, 0, 0, 0, 0, 5, fun B c A w _ _ _ => decode_len _ c A w h37, fun B c A w _ _ _ => rdecode_len _ c A w h37⟩

set_option maxHeartbeats 800000 in
theorem EntryDecode_walk (l : List Nat) (hl : Crc.Bytes l) (A : Option Addr) (n c : Nat) (w : World) (hr : RB w w.heap.size A n l) (hc : n ≤ c) :
    Calls Try.prog 4 #[.slice A n c] w (True1 w) := by
  obtain ⟨kd, bl, ver, x0, x1, x2, x3, x4, x5, x6, x7, time, er, h1, h2⟩ := dec_any l hl
  have hn := hr.len
  rw [hn] at h1 h2
  have H1 := Lib.hid h1
  have H2 := Lib.hid h2
  have HR := Lib.hid hr
  have heq8 := eq_same8 x0 x1 x2 x3 x4 x5 x6 x7
  clear h1 h2 hr hl hn
  go_enter Try.func4, Try.ntmps4
  go_wp2_with fail
  refine (H1.out _ c A w HR.out (Nat.le_refl _) hc).mono ?_
  rintro e w1 ⟨rfl, hB⟩
  have HB1 := Lib.hid hB
  have hz1 := hB.size
  clear hB
  have hbv : ∀ b : Nat, bv b = Value.int .u8 (b : Int) := fun _ => rfl
  go_wp2_with fail
  clear hbv
  have HR1 := Lib.hid (RB.below HR.out (HB1.out.alloc hz1 (.cells #[.int .i64 kd, .int .i64 bl, .int .u64 (ver : Int), bv x0, bv x1, bv x2, bv x3, bv x4, bv x5, bv x6, bv x7] 26)))
  refine (H2.out _ c A _ HR1.out (by simp; omega) hc).mono ?_
  rintro e w2 ⟨rfl, hB⟩
  have HE2 := Lib.hid ((Blk.new w1 26 #[.int .i64 kd, .int .i64 bl, .int .u64 (ver : Int), bv x0, bv x1, bv x2, bv x3, bv x4, bv x5, bv x6, bv x7]).below hB (by simp))
  have HB2 := Lib.hid ((HB1.out.alloc hz1 (.cells #[.int .i64 kd, .int .i64 bl, .int .u64 (ver : Int), bv x0, bv x1, bv x2, bv x3, bv x4, bv x5, bv x6, bv x7] 26)).trans (hB.mono (by simp; omega)))
  have hz2 : w1.heap.size < w2.heap.size := HE2.out.lt
  clear hB
  have hbv : ∀ b : Nat, bv b = Value.int .u8 (b : Int) := fun _ => rfl
  go_wp2_with fail
  clear hbv
  refine (awake_any _).mono ?_
  rintro e w3 ⟨rfl, hB⟩
  have hE3 := (HE2.out.alloc (.cells #[.int .i64 kd, .int .i64 bl, .int .u64 (ver : Int), bv x0, bv x1, bv x2, bv x3, bv x4, bv x5, bv x6, bv x7] 26)).below hB (by simp; omega)
  have hS3 := (Blk.new w2 26 #[.int .i64 kd, .int .i64 bl, .int .u64 (ver : Int), bv x0, bv x1, bv x2, bv x3, bv x4, bv x5, bv x6, bv x7]).below hB (by simp)
  have HB3 := Lib.hid ((HB2.out.alloc (by omega) (.cells #[.int .i64 kd, .int .i64 bl, .int .u64 (ver : Int), bv x0, bv x1, bv x2, bv x3, bv x4, bv x5, bv x6, bv x7] 26)).trans (hB.mono (by simp; omega)))
  have g0 : w3.cell? ⟨w1.heap.size, 0, none⟩ = some (.int .i64 kd) := hE3.cell 0
  have s0 : w3.cell? ⟨w2.heap.size, 0, none⟩ = some (.int .i64 kd) := hS3.cell 0
  have g1 : w3.cell? ⟨w1.heap.size, 1, none⟩ = some (.int .i64 bl) := hE3.cell 1
  have s1 : w3.cell? ⟨w2.heap.size, 1, none⟩ = some (.int .i64 bl) := hS3.cell 1
  have g2 : w3.cell? ⟨w1.heap.size, 2, none⟩ = some (.int .u64 (ver : Int)) := hE3.cell 2
  have s2 : w3.cell? ⟨w2.heap.size, 2, none⟩ = some (.int .u64 (ver : Int)) := hS3.cell 2
  have g3 : w3.cell? ⟨w1.heap.size, 3, none⟩ = some (bv x0) := hE3.cell 3
  have s3 : w3.cell? ⟨w2.heap.size, 3, none⟩ = some (bv x0) := hS3.cell 3
  have g4 : w3.cell? ⟨w1.heap.size, 4, none⟩ = some (bv x1) := hE3.cell 4
  have s4 : w3.cell? ⟨w2.heap.size, 4, none⟩ = some (bv x1) := hS3.cell 4
  have g5 : w3.cell? ⟨w1.heap.size, 5, none⟩ = some (bv x2) := hE3.cell 5
  have s5 : w3.cell? ⟨w2.heap.size, 5, none⟩ = some (bv x2) := hS3.cell 5
  have g6 : w3.cell? ⟨w1.heap.size, 6, none⟩ = some (bv x3) := hE3.cell 6
  have s6 : w3.cell? ⟨w2.heap.size, 6, none⟩ = some (bv x3) := hS3.cell 6
  have g7 : w3.cell? ⟨w1.heap.size, 7, none⟩ = some (bv x4) := hE3.cell 7
  have s7 : w3.cell? ⟨w2.heap.size, 7, none⟩ = some (bv x4) := hS3.cell 7
  have g8 : w3.cell? ⟨w1.heap.size, 8, none⟩ = some (bv x5) := hE3.cell 8
  have s8 : w3.cell? ⟨w2.heap.size, 8, none⟩ = some (bv x5) := hS3.cell 8
  have g9 : w3.cell? ⟨w1.heap.size, 9, none⟩ = some (bv x6) := hE3.cell 9
  have s9 : w3.cell? ⟨w2.heap.size, 9, none⟩ = some (bv x6) := hS3.cell 9
  have g10 : w3.cell? ⟨w1.heap.size, 10, none⟩ = some (bv x7) := hE3.cell 10
  have s10 : w3.cell? ⟨w2.heap.size, 10, none⟩ = some (bv x7) := hS3.cell 10
  clear hB hE3 hS3
  go_wp2
  go_ret
  exact ⟨rfl, HB3.out⟩

end Go.Proofs.Ytibmigeikkmofaa

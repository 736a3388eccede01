/- Walks over the reference's decoding of an entry. -/
import Derived.Test.YtibmigeikkmofaaE8
namespace Go.Proofs.Ytibmigeikkmofaa
open Go.RowKit

set_option maxHeartbeats 400000 in
theorem rdecode_len (n c : Nat) (A : Option Addr) (w : World) (hn : ¬ n = 37) :
    Calls Try.prog 13 #[.slice A n c] w fun e w' => e = .returned (.tuple #[noEnt, .int .u64 0, .int .i64 5]) ∧ Below w.heap.size w w' := by
  have t : ((n : Int) != 37) = true := bne_iff_ne.2 (by omega)
  clear hn
  go_enter Try.func13, Try.ntmps13
  go_wp2
  exact bodyPost_ret (v := .tuple #[noEnt, .int .u64 0, .int .i64 5]) (by simp [results, Try.results13, go_sem, noEnt]) rfl ⟨rfl, (Below.refl _ _).alloc (Nat.le_refl _) _⟩

/-- The sum stands at the end exactly if the whole is the sealed beginning. -/
theorem seal_iff {l : List Nat} (hl : Crc.Bytes l) (h : l.length = 37) : Crc.sealB (l.take 29) = l ↔ Crc.num ((l.drop 29).take 8) = Crc.sumS (l.take 29) := by
  have h8 : ((l.drop 29).take 8).length = 8 := by rw [List.length_take, List.length_drop]; omega
  have e : l = l.take 29 ++ (l.drop 29).take 8 := by
    conv => lhs; rw [← List.take_append_drop 29 l]
    congr 1
    rw [List.take_of_length_le (by rw [List.length_drop]; omega)]
  have hb8 : Crc.Bytes ((l.drop 29).take 8) := bytes_take (bytes_drop hl 29) 8
  constructor
  · intro hs
    have h1 : l.take 29 ++ Crc.leb 8 (Crc.sumS (l.take 29)) = l.take 29 ++ (l.drop 29).take 8 := by rw [← e]; exact hs
    have h2 := List.append_cancel_left h1
    rw [← h2]
    exact Crc.num_leb8 (sumS_lt' (bytes_take hl 29))
  · intro hn
    have h2 := Crc.leb_num _ hb8
    rw [h8, hn] at h2
    unfold Crc.sealB
    rw [h2]
    exact e.symm

set_option maxHeartbeats 800000 in
theorem rdecode_sum (l : List Nat) (hl : Crc.Bytes l) (B c : Nat) (A : Option Addr) (w : World) (hr : RB w B A 37 l) (hB : B ≤ w.heap.size) (hc : 37 ≤ c) (hs : ¬ Crc.num ((l.drop 29).take 8) = Crc.sumS (l.take 29)) :
    Calls Try.prog 13 #[.slice A 37 c] w fun e w' => e = .returned (.tuple #[noEnt, .int .u64 0, .int .i64 6]) ∧ Below w.heap.size w w' := by
  obtain ⟨ad, rfl, hbl, _⟩ := hr.at_ (k := 0) (by omega)
  have h29 : ¬ c = 29 := by omega
  have hlen := hr.len
  have hne : ¬ Crc.sealB (l.take 29) = l := fun h => hs ((seal_iff hl hlen).1 h)
  have t : ((bstr (Crc.sealB (l.take 29))).toList == (bstr l).toList) = false := by rw [bstr_beq (Crc.sealB_bytes (bytes_take hl 29)) hl]; exact decide_eq_false hne
  obtain ⟨w0, hw0⟩ : ∃ w0, w0 = w.alloc (.cells #[.int .i64 0, .int .i64 0, .int .u64 0, .int .u8 0, .int .u8 0, .int .u8 0, .int .u8 0, .int .u8 0, .int .u8 0, .int .u8 0, .int .u8 0] 26) := ⟨_, rfl⟩
  obtain ⟨St, HSt⟩ : ∃ St : World → Prop, ∀ W, St W ↔ (RB W B (some ad) 37 l ∧ Blk W w.heap.size 26 #[.int .i64 0, .int .i64 0, .int .u64 0, .int .u8 0, .int .u8 0, .int .u8 0, .int .u8 0, .int .u8 0, .int .u8 0, .int .u8 0, .int .u8 0] ∧ Below w.heap.size w W) := ⟨_, fun _ => Iff.rfl⟩
  have hS0 : St w0 := (HSt w0).2 ⟨by rw [hw0]; exact Reads.alloc hr hB _, by rw [hw0]; exact Blk.new _ _ _, by rw [hw0]; exact (Below.refl _ _).alloc (Nat.le_refl _) _⟩
  have hS0d : St w0.drew := (HSt _).2 ⟨((HSt w0).1 hS0).1.drew, ((HSt w0).1 hS0).2.1, ((HSt w0).1 hS0).2.2.drew⟩
  have hcv : ∀ W, St W → (convert 27 9 (.slice (some ad) 37 c)).run Try.prog W = .ok (.string (bstr l)) W := fun W h => run_convert_rb 27 5 9 c Try.underlying27 Try.underlying5 Try.underlying9 ((HSt W).1 h).1
  have HSeal : Hid (∀ W, St W → Calls Try.prog 14 #[.slice (some ad) 29 c] W fun e w' => ∃ A' c', e = .returned (.slice A' 37 c') ∧ St w' ∧ RB w' w'.heap.size A' 37 (Crc.sealB (l.take 29))) := Lib.hid (by
    intro W h
    obtain ⟨h1, h2, h3⟩ := (HSt W).1 h
    refine (rseal_any (l.take 29) (bytes_take hl 29) B 29 c (some ad) W (h1.take 29 (by omega)) (by have := h3.size; omega) (by omega)).mono ?_
    rintro e w' ⟨v, rfl, hO, hb⟩
    obtain ⟨A', c', rfl, hr', _, _⟩ := hO.form' (n := 37) (by rw [List.length_append, Crc.leb_length, List.length_take]; omega)
    refine ⟨A', c', rfl, (HSt w').2 ⟨h1.below (hb.mono (by have := h3.size; omega)), h2.below hb h2.lt, h3.trans (hb.mono h3.size)⟩, hr'⟩)
  have HS := Lib.hid HSt
  have q29 : (29 : Int) ≤ (c : Int) := by omega
  have hcv1 := hcv w0.drew hS0d
  have HCV := Lib.hid hcv
  clear hcv
  have Hw0 := Lib.hid hw0
  clear hr hl hs hw0 hne hlen HSt
  go_enter Try.func13, Try.ntmps13
  go_wp2
  rw [← Hw0.out]
  go_region_with (go_at_call 14; (with_reducible refine (HSeal.out _ (by assumption)).mono ?_); rintro e w2 ⟨A', c', rfl, hS, hr⟩; have hcv2 := HCV.out w2 hS; have hcs := run_convert_rb (P := Try.prog) 27 5 9 c' Try.underlying27 Try.underlying5 Try.underlying9 hr)
  all_goals have g0 : w2.cell? ⟨w.heap.size, 0, none⟩ = some (.int .i64 0) := ((HS.out w2).1 hS).2.1.cell 0
  all_goals have z0 := ((HS.out w2).1 hS).2.1.frozen 0
  all_goals have g1 : w2.cell? ⟨w.heap.size, 1, none⟩ = some (.int .i64 0) := ((HS.out w2).1 hS).2.1.cell 1
  all_goals have z1 := ((HS.out w2).1 hS).2.1.frozen 1
  all_goals have g2 : w2.cell? ⟨w.heap.size, 2, none⟩ = some (.int .u64 0) := ((HS.out w2).1 hS).2.1.cell 2
  all_goals have z2 := ((HS.out w2).1 hS).2.1.frozen 2
  all_goals have g3 : w2.cell? ⟨w.heap.size, 3, none⟩ = some (.int .u8 0) := ((HS.out w2).1 hS).2.1.cell 3
  all_goals have z3 := ((HS.out w2).1 hS).2.1.frozen 3
  all_goals have g4 : w2.cell? ⟨w.heap.size, 4, none⟩ = some (.int .u8 0) := ((HS.out w2).1 hS).2.1.cell 4
  all_goals have z4 := ((HS.out w2).1 hS).2.1.frozen 4
  all_goals have g5 : w2.cell? ⟨w.heap.size, 5, none⟩ = some (.int .u8 0) := ((HS.out w2).1 hS).2.1.cell 5
  all_goals have z5 := ((HS.out w2).1 hS).2.1.frozen 5
  all_goals have g6 : w2.cell? ⟨w.heap.size, 6, none⟩ = some (.int .u8 0) := ((HS.out w2).1 hS).2.1.cell 6
  all_goals have z6 := ((HS.out w2).1 hS).2.1.frozen 6
  all_goals have g7 : w2.cell? ⟨w.heap.size, 7, none⟩ = some (.int .u8 0) := ((HS.out w2).1 hS).2.1.cell 7
  all_goals have z7 := ((HS.out w2).1 hS).2.1.frozen 7
  all_goals have g8 : w2.cell? ⟨w.heap.size, 8, none⟩ = some (.int .u8 0) := ((HS.out w2).1 hS).2.1.cell 8
  all_goals have z8 := ((HS.out w2).1 hS).2.1.frozen 8
  all_goals have g9 : w2.cell? ⟨w.heap.size, 9, none⟩ = some (.int .u8 0) := ((HS.out w2).1 hS).2.1.cell 9
  all_goals have z9 := ((HS.out w2).1 hS).2.1.frozen 9
  all_goals have g10 : w2.cell? ⟨w.heap.size, 10, none⟩ = some (.int .u8 0) := ((HS.out w2).1 hS).2.1.cell 10
  all_goals have z10 := ((HS.out w2).1 hS).2.1.frozen 10
  all_goals have HBw := Lib.hid ((HS.out w2).1 hS).2.2
  all_goals clear hS hr hcv2 hcs
  all_goals go_wp2
  all_goals refine bodyPost_ret (v := .tuple #[noEnt, .int .u64 0, .int .i64 6]) (by simp [results, Try.results13, go_sem, noEnt, g0, g1, g2, g3, g4, g5, g6, g7, g8, g9, g10]) rfl ⟨rfl, ?_⟩
  all_goals exact below_11 (Nat.le_refl _) HBw.out _ _ _ _ _ _ _ _ _ _ _

end Go.Proofs.Ytibmigeikkmofaa

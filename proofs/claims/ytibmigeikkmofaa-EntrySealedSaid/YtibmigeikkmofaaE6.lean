/- The walk over the program's decoding of an entry whose sum is right. -/
import Derived.Test.YtibmigeikkmofaaE5
namespace Go.Proofs.Ytibmigeikkmofaa
open Go.RowKit

theorem still_left {P : Program} {f : FuncId} {args : Array Value} {w : World} {v : Value} (h : Calls P f args w fun e w' => e = .returned v ∧ w = w') : Calls P f args w fun e w' => e = .returned v ∧ w' = w :=
  h.mono fun _ _ ⟨he, hm⟩ => ⟨he, hm.symm⟩
/-- The eight cells of a cut. -/
theorem RB.eight {w : World} {B : Nat} {ad : Addr} {x0 x1 x2 x3 x4 x5 x6 x7 : Nat} (h : RB w B (some ad) 8 [x0, x1, x2, x3, x4, x5, x6, x7]) (j : Nat) (hj : j < 8) : w.cell? (ad.add j) = some (bv ([x0, x1, x2, x3, x4, x5, x6, x7].getD j 0)) := by
  obtain ⟨ad', e, _, hc⟩ := h.at_ hj
  injection e with e
  subst e
  exact hc

/-- A slice as a pointer to an array: the same place, where it is long enough. -/
theorem run_arrayAt {P : Program} (arr e : TypeId) (N n c : Nat) (a : Addr) (w : World) (ht : P.underlying arr = some (.array N e)) (h : N ≤ n) : (Instr.arrayAt arr (.slice (some a) n c)).run P w = .ok (.pointer (some a)) w := by
  simp [Instr.arrayAt, run_underlying ht]
  omega

set_option maxHeartbeats 400000 in
theorem decode_rest (l : List Nat) (hl : Crc.Bytes l) (B c : Nat) (A : Option Addr) (w : World) (hr : RB w B A 37 l) (hB : B ≤ w.heap.size) (hc : 37 ≤ c) (hs : Crc.num ((l.drop 29).take 8) = Crc.sumS (l.take 29))
    (k f1 f2 f3 x0 x1 x2 x3 x4 x5 x6 x7 : Nat) (hk : l.getD 0 0 = k) (h1 : Crc.num ((l.drop 1).take 4) = f1) (h2 : Crc.num ((l.drop 5).take 8) = f2) (h3 : Crc.num ((l.drop 21).take 8) = f3)
    (hx : (l.drop 13).take 8 = [x0, x1, x2, x3, x4, x5, x6, x7]) (ok : Bool) (hok : validB (k : Int) (f1 : Int) f2 [x0, x1, x2, x3, x4, x5, x6, x7] = ok) :
    Calls Try.prog 12 #[.slice A 37 c] w fun e w' => (e = .returned (.tuple (if ok then #[.agg (entCells k f1 f2 x0 x1 x2 x3 x4 x5 x6 x7), .int .u64 (f3 : Int), .int .i64 0] else #[noEnt, .int .u64 0, .int .i64 5]))) ∧ Below w.heap.size w w' := by
  obtain ⟨ad, rfl, hbl, hcell⟩ := hr.at_ (k := 0) (by omega)
  have h29 : ¬ c = 29 := by omega
  have t : (((Crc.num ((l.drop 29).take 8) : Nat) : Int) != ((Crc.sumS (l.take 29) : Nat) : Int)) = false := by rw [hs]; exact bne_self_eq_false' _
  obtain ⟨w0, hw0⟩ : ∃ w0, w0 = w.alloc (.cells #[.int .i64 0, .int .i64 0, .int .u64 0, .int .u8 0, .int .u8 0, .int .u8 0, .int .u8 0, .int .u8 0, .int .u8 0, .int .u8 0, .int .u8 0] 26) := ⟨_, rfl⟩
  obtain ⟨b0, hb0⟩ : ∃ b0, b0 = w.heap.size := ⟨_, rfl⟩
  rw [← hb0]
  have HR0 := Lib.hid hr
  have HR : Hid (RB w0 B (some ad) 37 l) := Lib.hid (by rw [hw0]; exact Reads.alloc hr hB _)
  have HL := Lib.hid hl
  have Hw0 := Lib.hid hw0
  have Hb0 := Lib.hid hb0
  have HK := Lib.hid hk
  have HX := Lib.hid hx
  have HOK := Lib.hid hok
  have HF1 := Lib.hid h1
  have HF2 := Lib.hid h2
  have HF3 := Lib.hid h3
  clear h1 h2 h3 hr hl hs hw0 hb0 hk hx hok hcell
  have h37 : (37 : Nat) ≤ maxLen := by unfold maxLen; omega
  go_enter Try.func12, Try.ntmps12
  go_wp2
  rw [← Hw0.out]
  go_quiet (first
    | (go_at_call 20; exact quiet_left (get_any _ (bytes_take (bytes_drop HL.out 29) 8) B 8 _ _ _ (RB.drewN (HR.out.cut' 29 8 (by omega) (by omega)) _) (by omega)))
    | (go_at_call 18; exact quiet_left (sum_any _ (bytes_take HL.out 29) B 29 _ _ _ (RB.drewN (RB.take HR.out 29 (by omega)) _) (by omega))))
  obtain ⟨w2, hw2⟩ : ∃ w2, w2 = w.drewN nq := ⟨_, rfl⟩
  have e1 : w0.drewN nq = w2.alloc (.cells #[.int .i64 0, .int .i64 0, .int .u64 0, .int .u8 0, .int .u8 0, .int .u8 0, .int .u8 0, .int .u8 0, .int .u8 0, .int .u8 0, .int .u8 0] 26) := by rw [hw2, Hw0.out]; rfl
  have e2 : w.heap.size = w2.heap.size := by rw [hw2]; rfl
  have HB2 : Hid (Below b0 w w2) := Lib.hid (by rw [hw2]; exact below_drewN (Below.refl _ _) _)
  have HR2 : Hid (RB w2 B (some ad) 37 l) := Lib.hid (by rw [hw2]; exact HR0.out.drewN _)
  have hz2 : b0 ≤ w2.heap.size := by rw [Hb0.out, e2]; exact Nat.le_refl _
  have hBz : B ≤ w2.heap.size := by omega
  rw [e1, e2]
  clear e1 e2 hw2 hB
  go_wp2
  obtain ⟨W2, hW2⟩ : ∃ W2, W2 = (w2.alloc (.cells #[.int .i64 0, .int .i64 0, .int .u64 0, .int .u8 0, .int .u8 0, .int .u8 0, .int .u8 0, .int .u8 0, .int .u8 0, .int .u8 0, .int .u8 0] 26)).drew := ⟨_, rfl⟩
  have HRW : Hid (RB W2 B (some ad) 37 l) := Lib.hid (by rw [hW2]; exact (Reads.alloc HR2.out hBz _).drew)
  obtain ⟨adx, ea, _, hcell⟩ := HRW.out.at_ (k := 0) (by omega)
  injection ea with ea
  subst ea
  rw [HK.out] at hcell
  have hcell' : W2.cell? ad = some (.int .u8 (k : Int)) := by
    have e : ad.add 0 = ad := by unfold Addr.add; rw [if_pos rfl]
    rwa [e] at hcell
  clear hcell
  have hD := HRW.out.cut' 13 8 (by omega) (by omega)
  rw [HX.out] at hD
  have d0 : W2.cell? ⟨ad.block, ad.off + 13, none⟩ = some (bv x0) := hD.eight 0 (by omega)
  have d1 : W2.cell? ⟨ad.block, ad.off + 13 + 1, none⟩ = some (bv x1) := hD.eight 1 (by omega)
  have d2 : W2.cell? ⟨ad.block, ad.off + 13 + 2, none⟩ = some (bv x2) := hD.eight 2 (by omega)
  have d3 : W2.cell? ⟨ad.block, ad.off + 13 + 3, none⟩ = some (bv x3) := hD.eight 3 (by omega)
  have d4 : W2.cell? ⟨ad.block, ad.off + 13 + 4, none⟩ = some (bv x4) := hD.eight 4 (by omega)
  have d5 : W2.cell? ⟨ad.block, ad.off + 13 + 5, none⟩ = some (bv x5) := hD.eight 5 (by omega)
  have d6 : W2.cell? ⟨ad.block, ad.off + 13 + 6, none⟩ = some (bv x6) := hD.eight 6 (by omega)
  have d7 : W2.cell? ⟨ad.block, ad.off + 13 + 7, none⟩ = some (bv x7) := hD.eight 7 (by omega)
  clear hD
  have q5 : (5 : Int) ≤ (c : Int) := by omega
  have q13 : (13 : Int) ≤ (c : Int) := by omega
  have q21 : (21 : Int) ≤ (c : Int) := by omega
  have q29 : (29 : Int) ≤ (c : Int) := by omega
  have q1' : ¬ c = 1 := by omega
  have q5' : ¬ c = 5 := by omega
  have q13' : ¬ c = 13 := by omega
  have q21' : ¬ c = 21 := by omega
  have hk256 : k < 256 := by rw [← HK.out]; exact bytes_getD HL.out 0
  have hwk : IntKind.i64.wrap (k : Int) = (k : Int) := IntWalk.i64_in _ (by omega)
  have hn1 : f1 < 4294967296 := by rw [← HF1.out]; exact num_take_lt (bytes_drop HL.out 1) 4
  have hget1 := get_any _ (bytes_take (bytes_drop HL.out 1) 4) B 4 (c - 1) _ W2 (HRW.out.cut' 1 4 (by omega) (by omega)) (by omega)
  have hget2 := get_any _ (bytes_take (bytes_drop HL.out 5) 8) B 8 (c - 5) _ W2 (HRW.out.cut' 5 8 (by omega) (by omega)) (by omega)
  rw [HF1.out] at hget1
  rw [HF2.out] at hget2
  have HG1 := Lib.hid hget1
  have HG2 := Lib.hid hget2
  clear hget1 hget2
  have hw1 : IntKind.i64.wrap (f1 : Int) = (f1 : Int) := IntWalk.i64_in _ (by omega)
  have harr := fun (a : Addr) (n c : Nat) (w : World) (h : 8 ≤ n) => run_arrayAt (P := Try.prog) 24 5 8 n c a w Try.underlying24 h
  refine wp_region_still_tail 16 (by kernel_rfl) (by kernel_rfl) ?_
  simp only [List.take_succ_cons, List.take_zero, List.drop_succ_cons, List.drop_zero]
  change wpStill _ _ ((w2.alloc (.cells #[.int .i64 0, .int .i64 0, .int .u64 0, .int .u8 0, .int .u8 0, .int .u8 0, .int .u8 0, .int .u8 0, .int .u8 0, .int .u8 0, .int .u8 0] 26)).drew) _ _ _
  rw [← hW2]
  have HW2 := Lib.hid hW2
  clear hW2
  repeat still_step
  still_call (still_left HG1.out)
  repeat still_step
  still_call (still_left HG2.out)
  repeat still_step
  refine wpStill_nil ?_
  change wpList _ _ _ _ _ ((w2.alloc (.cells #[.int .i64 0, .int .i64 0, .int .u64 0, .int .u8 0, .int .u8 0, .int .u8 0, .int .u8 0, .int .u8 0, .int .u8 0, .int .u8 0, .int .u8 0] 26)).drew)
  obtain ⟨w3, hw3⟩ : ∃ w3, w3 = w2.drew := ⟨_, rfl⟩
  have e3 : (w2.alloc (.cells #[.int .i64 0, .int .i64 0, .int .u64 0, .int .u8 0, .int .u8 0, .int .u8 0, .int .u8 0, .int .u8 0, .int .u8 0, .int .u8 0, .int .u8 0] 26)).drew = w3.alloc (.cells #[.int .i64 0, .int .i64 0, .int .u64 0, .int .u8 0, .int .u8 0, .int .u8 0, .int .u8 0, .int .u8 0, .int .u8 0, .int .u8 0, .int .u8 0] 26) := by rw [hw3]; rfl
  have e4 : w2.heap.size = w3.heap.size := by rw [hw3]; rfl
  have HB3 : Hid (Below b0 w w3) := Lib.hid (by rw [hw3]; exact HB2.out.drew)
  have HR3 : Hid (RB w3 B (some ad) 37 l) := Lib.hid (by rw [hw3]; exact HR2.out.drew)
  have hz3 : b0 ≤ w3.heap.size := by rw [← e4]; exact hz2
  have hBz3 : B ≤ w3.heap.size := by omega
  rw [e3, e4]
  clear e3 e4 hw3 d0 d1 d2 d3 d4 d5 d6 d7 hcell' harr hw1 hwk hz2 hBz
  have hbv : ∀ b : Nat, bv b = Value.int .u8 (b : Int) := fun _ => rfl
  go_wp2_with fail
  clear hbv
  refine (valid_any (k : Int) (f1 : Int) f2 x0 x1 x2 x3 x4 x5 x6 x7 _).mono ?_
  rintro e w4 ⟨rfl, hb4⟩
  rw [HOK.out]
  have hE4 : Blk w4 w3.heap.size 26 (entCells k f1 f2 x0 x1 x2 x3 x4 x5 x6 x7) := (Blk.new w3 26 (entCells k f1 f2 x0 x1 x2 x3 x4 x5 x6 x7)).below hb4 (by simp)
  have HB4 : Hid (Below b0 w w4) := Lib.hid ((HB3.out.alloc hz3 (.cells (entCells k f1 f2 x0 x1 x2 x3 x4 x5 x6 x7) 26)).trans (hb4.mono (by simp; omega)))
  have HR4 : Hid (RB w4 B (some ad) 37 l) := Lib.hid (RB.below (Reads.alloc HR3.out hBz3 _) (hb4.mono (by simp; omega)))
  have g0 : w4.cell? ⟨w3.heap.size, 0, none⟩ = some (.int .i64 (k : Int)) := hE4.cell 0
  have z0 := hE4.frozen 0
  have g1 : w4.cell? ⟨w3.heap.size, 1, none⟩ = some (.int .i64 (f1 : Int)) := hE4.cell 1
  have z1 := hE4.frozen 1
  have g2 : w4.cell? ⟨w3.heap.size, 2, none⟩ = some (.int .u64 (f2 : Int)) := hE4.cell 2
  have z2 := hE4.frozen 2
  have g3 : w4.cell? ⟨w3.heap.size, 3, none⟩ = some (bv x0) := hE4.cell 3
  have z3 := hE4.frozen 3
  have g4 : w4.cell? ⟨w3.heap.size, 4, none⟩ = some (bv x1) := hE4.cell 4
  have z4 := hE4.frozen 4
  have g5 : w4.cell? ⟨w3.heap.size, 5, none⟩ = some (bv x2) := hE4.cell 5
  have z5 := hE4.frozen 5
  have g6 : w4.cell? ⟨w3.heap.size, 6, none⟩ = some (bv x3) := hE4.cell 6
  have z6 := hE4.frozen 6
  have g7 : w4.cell? ⟨w3.heap.size, 7, none⟩ = some (bv x4) := hE4.cell 7
  have z7 := hE4.frozen 7
  have g8 : w4.cell? ⟨w3.heap.size, 8, none⟩ = some (bv x5) := hE4.cell 8
  have z8 := hE4.frozen 8
  have g9 : w4.cell? ⟨w3.heap.size, 9, none⟩ = some (bv x6) := hE4.cell 9
  have z9 := hE4.frozen 9
  have g10 : w4.cell? ⟨w3.heap.size, 10, none⟩ = some (bv x7) := hE4.cell 10
  have z10 := hE4.frozen 10
  clear hE4 hb4
  cases ok with
  | false =>
    go_wp2_with fail
    refine bodyPost_ret (v := .tuple #[noEnt, .int .u64 0, .int .i64 5]) (by simp [results, Try.results12, go_sem, noEnt, g0, g1, g2, g3, g4, g5, g6, g7, g8, g9, g10]) rfl ⟨rfl, ?_⟩
    exact below_11 hz3 HB4.out _ _ _ _ _ _ _ _ _ _ _
  | true =>
    go_wp2_with fail
    refine wp_region_still_tail 4 (by kernel_rfl) (by kernel_rfl) ?_
    simp only [List.take_succ_cons, List.take_zero, List.drop_succ_cons, List.drop_zero]
    change wpStill _ _ w4.drew _ _ _
    have hget3 := get_any _ (bytes_take (bytes_drop HL.out 21) 8) B 8 (c - 21) _ w4.drew (HR4.out.drew.cut' 21 8 (by omega) (by omega)) (by omega)
    rw [HF3.out] at hget3
    have HG3 := Lib.hid hget3
    clear hget3
    repeat still_step
    still_call (still_left HG3.out)
    refine wpStill_nil ?_
    change wpList _ _ _ _ _ w4.drew
    have hbv : ∀ b : Nat, bv b = Value.int .u8 (b : Int) := fun _ => rfl
    go_wp2_with fail
    refine bodyPost_ret (v := .tuple #[.agg (entCells k f1 f2 x0 x1 x2 x3 x4 x5 x6 x7), .int .u64 (f3 : Int), .int .i64 0]) (by simp [results, Try.results12, go_sem, entCells, hbv, g0, g1, g2, g3, g4, g5, g6, g7, g8, g9, g10]) rfl ⟨rfl, ?_⟩
    exact (below_11 hz3 HB4.out _ _ _ _ _ _ _ _ _ _ _).drew

end Go.Proofs.Ytibmigeikkmofaa

/- Walks over both settings of a piece that is none. -/
import Derived.Test.YtejhfollfmdmpaaP4
namespace Go.Proofs.Ytejhfollfmdmpaa
open Go.RowKit

set_option maxHeartbeats 800000 in
theorem set_no (n1 c1 n2 c2 : Nat) (A1 A2 : Option Addr) (group piece : Int) (ver x0 x1 x2 x3 x4 x5 x6 x7 q : Nat) (w : World) (hq : q = min n1 n2) (hp : ¬ (0 ≤ piece ∧ piece < (q : Int))) :
    Calls Try.prog 20 #[.agg #[.slice A1 n1 c1, .slice A2 n2 c2], .agg #[.int .i64 group, .int .i64 piece, .int .u64 (ver : Int), bv x0, bv x1, bv x2, bv x3, bv x4, bv x5, bv x6, bv x7]] w fun e w' => e = .returned (.tuple #[.agg #[.slice none 0 0, .slice none 0 0], .int .i64 2]) ∧ Below w.heap.size w w' := by
  obtain ⟨w0, hw0⟩ : ∃ w0, w0 = ((w.alloc (.cells #[.slice A1 n1 c1, .slice A2 n2 c2] 32)).alloc (.cells #[.int .i64 group, .int .i64 piece, .int .u64 (ver : Int), bv x0, bv x1, bv x2, bv x3, bv x4, bv x5, bv x6, bv x7] 26)).alloc (.cells #[.slice none 0 0, .slice none 0 0] 32) := ⟨_, rfl⟩
  have e1 : (w.alloc (.cells #[.slice A1 n1 c1, .slice A2 n2 c2] 32)).heap.size = w.heap.size + 1 := by simp
  have e2 : ((w.alloc (.cells #[.slice A1 n1 c1, .slice A2 n2 c2] 32)).alloc (.cells #[.int .i64 group, .int .i64 piece, .int .u64 (ver : Int), bv x0, bv x1, bv x2, bv x3, bv x4, bv x5, bv x6, bv x7] 26)).heap.size = w.heap.size + 1 + 1 := by simp
  have hE : Blk w0 w.heap.size 32 #[.slice A1 n1 c1, .slice A2 n2 c2] := by rw [hw0]; exact ((Blk.new _ _ _).alloc _).alloc _
  have hP : Blk w0 (w.heap.size + 1) 26 #[.int .i64 group, .int .i64 piece, .int .u64 (ver : Int), bv x0, bv x1, bv x2, bv x3, bv x4, bv x5, bv x6, bv x7] := by
    rw [hw0]
    have h := (Blk.new (w.alloc (.cells #[.slice A1 n1 c1, .slice A2 n2 c2] 32)) 26 #[.int .i64 group, .int .i64 piece, .int .u64 (ver : Int), bv x0, bv x1, bv x2, bv x3, bv x4, bv x5, bv x6, bv x7]).alloc (.cells #[.slice none 0 0, .slice none 0 0] 32)
    rwa [e1] at h
  have hZ : Blk w0 (w.heap.size + 1 + 1) 32 #[.slice none 0 0, .slice none 0 0] := by
    rw [hw0]
    have h := Blk.new ((w.alloc (.cells #[.slice A1 n1 c1, .slice A2 n2 c2] 32)).alloc (.cells #[.int .i64 group, .int .i64 piece, .int .u64 (ver : Int), bv x0, bv x1, bv x2, bv x3, bv x4, bv x5, bv x6, bv x7] 26)) 32 #[.slice none 0 0, .slice none 0 0]
    rwa [e2] at h
  have hB0 : Below w.heap.size w w0 := by rw [hw0]; exact (((Below.refl _ _).alloc (Nat.le_refl _) _).alloc (by simp) _).alloc (by simp; omega) _
  have g0 : w0.cell? ⟨w.heap.size, 0, none⟩ = some (.slice A1 n1 c1) := hE.cell 0
  have g1 : w0.cell? ⟨w.heap.size, 1, none⟩ = some (.slice A2 n2 c2) := hE.cell 1
  have HP := Lib.hid hP
  have HZ := Lib.hid hZ
  have HB0 := Lib.hid hB0
  have Hw0 := Lib.hid hw0
  have Hq := Lib.hid hq
  have hz : w.heap.size + 1 + 1 < w0.heap.size := hZ.lt
  clear hw0 e1 e2 hE hP hZ hB0 hq
  go_enter Try.func20, Try.ntmps20
  go_wp2_with fail
  rw [← Hw0.out]
  refine (pieces_any A1 A2 n1 c1 n2 c2 w0).mono ?_
  rintro e w1 ⟨rfl, hb⟩
  rw [← Hq.out]
  have p1 : w1.cell? ⟨w.heap.size + 1, 1, none⟩ = some (.int .i64 piece) := (HP.out.below hb (by omega)).cell 1
  have hZ1 := HZ.out.below hb hz
  have v0 : w1.cell? ⟨w.heap.size + 1 + 1, 0, none⟩ = some (.slice none 0 0) := hZ1.cell 0
  have v1 : w1.cell? ⟨w.heap.size + 1 + 1, 1, none⟩ = some (.slice none 0 0) := hZ1.cell 1
  have f0 := hZ1.frozen 0
  have f1 := hZ1.frozen 1
  have HB1 := Lib.hid (HB0.out.trans (hb.mono (by omega)))
  clear hb hZ1 g0 g1
  by_cases hn : piece < 0
  · go_wp2_with fail
    refine bodyPost_ret (v := .tuple #[.agg #[.slice none 0 0, .slice none 0 0], .int .i64 2]) (by simp [results, Try.results20, go_sem, v0, v1]) rfl ⟨rfl, ?_⟩
    exact (HB1.out.setCell (by simp; omega) _).setCell (by simp; omega) _
  · have h2 : (q : Int) ≤ piece := by omega
    have h3 : piece ≥ (q : Int) := by omega
    go_wp2_with fail
    refine bodyPost_ret (v := .tuple #[.agg #[.slice none 0 0, .slice none 0 0], .int .i64 2]) (by simp [results, Try.results20, go_sem, v0, v1]) rfl ⟨rfl, ?_⟩
    exact (HB1.out.setCell (by simp; omega) _).setCell (by simp; omega) _

set_option maxHeartbeats 800000 in
theorem rset_no (n1 c1 n2 c2 : Nat) (A1 A2 : Option Addr) (group piece : Int) (ver x0 x1 x2 x3 x4 x5 x6 x7 q : Nat) (w : World) (hq : q = min n1 n2) (hp : ¬ (0 ≤ piece ∧ piece < (q : Int))) :
    Calls Try.prog 21 #[.agg #[.slice A1 n1 c1, .slice A2 n2 c2], .agg #[.int .i64 group, .int .i64 piece, .int .u64 (ver : Int), bv x0, bv x1, bv x2, bv x3, bv x4, bv x5, bv x6, bv x7]] w fun e w' => e = .returned (.tuple #[.agg #[.slice none 0 0, .slice none 0 0], .int .i64 2]) ∧ Below w.heap.size w w' := by
  obtain ⟨w0, hw0⟩ : ∃ w0, w0 = ((w.alloc (.cells #[.slice A1 n1 c1, .slice A2 n2 c2] 32)).alloc (.cells #[.int .i64 group, .int .i64 piece, .int .u64 (ver : Int), bv x0, bv x1, bv x2, bv x3, bv x4, bv x5, bv x6, bv x7] 26)).alloc (.cells #[.slice none 0 0, .slice none 0 0] 32) := ⟨_, rfl⟩
  have e1 : (w.alloc (.cells #[.slice A1 n1 c1, .slice A2 n2 c2] 32)).heap.size = w.heap.size + 1 := by simp
  have e2 : ((w.alloc (.cells #[.slice A1 n1 c1, .slice A2 n2 c2] 32)).alloc (.cells #[.int .i64 group, .int .i64 piece, .int .u64 (ver : Int), bv x0, bv x1, bv x2, bv x3, bv x4, bv x5, bv x6, bv x7] 26)).heap.size = w.heap.size + 1 + 1 := by simp
  have hE : Blk w0 w.heap.size 32 #[.slice A1 n1 c1, .slice A2 n2 c2] := by rw [hw0]; exact ((Blk.new _ _ _).alloc _).alloc _
  have hP : Blk w0 (w.heap.size + 1) 26 #[.int .i64 group, .int .i64 piece, .int .u64 (ver : Int), bv x0, bv x1, bv x2, bv x3, bv x4, bv x5, bv x6, bv x7] := by
    rw [hw0]
    have h := (Blk.new (w.alloc (.cells #[.slice A1 n1 c1, .slice A2 n2 c2] 32)) 26 #[.int .i64 group, .int .i64 piece, .int .u64 (ver : Int), bv x0, bv x1, bv x2, bv x3, bv x4, bv x5, bv x6, bv x7]).alloc (.cells #[.slice none 0 0, .slice none 0 0] 32)
    rwa [e1] at h
  have hZ : Blk w0 (w.heap.size + 1 + 1) 32 #[.slice none 0 0, .slice none 0 0] := by
    rw [hw0]
    have h := Blk.new ((w.alloc (.cells #[.slice A1 n1 c1, .slice A2 n2 c2] 32)).alloc (.cells #[.int .i64 group, .int .i64 piece, .int .u64 (ver : Int), bv x0, bv x1, bv x2, bv x3, bv x4, bv x5, bv x6, bv x7] 26)) 32 #[.slice none 0 0, .slice none 0 0]
    rwa [e2] at h
  have hB0 : Below w.heap.size w w0 := by rw [hw0]; exact (((Below.refl _ _).alloc (Nat.le_refl _) _).alloc (by simp) _).alloc (by simp; omega) _
  have g0 : w0.cell? ⟨w.heap.size, 0, none⟩ = some (.slice A1 n1 c1) := hE.cell 0
  have g1 : w0.cell? ⟨w.heap.size, 1, none⟩ = some (.slice A2 n2 c2) := hE.cell 1
  have HP := Lib.hid hP
  have HZ := Lib.hid hZ
  have HB0 := Lib.hid hB0
  have Hw0 := Lib.hid hw0
  have Hq := Lib.hid hq
  have hz : w.heap.size + 1 + 1 < w0.heap.size := hZ.lt
  clear hw0 e1 e2 hE hP hZ hB0 hq
  go_enter Try.func21, Try.ntmps21
  go_wp2_with fail
  rw [← Hw0.out]
  refine (width_any A1 A2 n1 c1 n2 c2 w0).mono ?_
  rintro e w1 ⟨rfl, hb⟩
  rw [← Hq.out]
  have p1 : w1.cell? ⟨w.heap.size + 1, 1, none⟩ = some (.int .i64 piece) := (HP.out.below hb (by omega)).cell 1
  have hZ1 := HZ.out.below hb hz
  have v0 : w1.cell? ⟨w.heap.size + 1 + 1, 0, none⟩ = some (.slice none 0 0) := hZ1.cell 0
  have v1 : w1.cell? ⟨w.heap.size + 1 + 1, 1, none⟩ = some (.slice none 0 0) := hZ1.cell 1
  have f0 := hZ1.frozen 0
  have f1 := hZ1.frozen 1
  have HB1 := Lib.hid (HB0.out.trans (hb.mono (by omega)))
  clear hb hZ1 g0 g1
  by_cases hn : piece < 0
  · go_wp2_with fail
    refine bodyPost_ret (v := .tuple #[.agg #[.slice none 0 0, .slice none 0 0], .int .i64 2]) (by simp [results, Try.results21, go_sem, v0, v1]) rfl ⟨rfl, ?_⟩
    exact (HB1.out.setCell (by simp; omega) _).setCell (by simp; omega) _
  · have h2 : (q : Int) ≤ piece := by omega
    have h3 : piece ≥ (q : Int) := by omega
    go_wp2_with fail
    refine bodyPost_ret (v := .tuple #[.agg #[.slice none 0 0, .slice none 0 0], .int .i64 2]) (by simp [results, Try.results21, go_sem, v0, v1]) rfl ⟨rfl, ?_⟩
    exact (HB1.out.setCell (by simp; omega) _).setCell (by simp; omega) _

end Go.Proofs.Ytejhfollfmdmpaa

/- The walk over the statement PiecesumGood. -/
import Derived.Test.YtejhfollfmdmpaaP11
import Derived.Test.YtejhfollfmdmpaaP17
namespace Go.Proofs.Ytejhfollfmdmpaa
open Go.RowKit

set_option maxHeartbeats 1000000 in
theorem PiecesumGood_walk (A1 A2 : Option Addr) (n1 c1 n2 c2 : Nat) (l1 l2 : List Nat) (g p : Int) (v x0 x1 x2 x3 x4 x5 x6 x7 : Nat) (hx : Crc.Bytes [x0, x1, x2, x3, x4, x5, x6, x7]) (w : World)
    (hr1 : RU w w.heap.size A1 n1 l1) (hr2 : RU w w.heap.size A2 n2 l2) :
    Calls Try.prog 8 #[.agg #[.slice A1 n1 c1, .slice A2 n2 c2], .agg #[.int .i64 g, .int .i64 p, .int .u64 (v : Int), bv x0, bv x1, bv x2, bv x3, bv x4, bv x5, bv x6, bv x7]] w (True1 w) := by
  unfold True1
  obtain ⟨w0, hw0⟩ : ∃ w0, w0 = (w.alloc (.cells #[.slice A1 n1 c1, .slice A2 n2 c2] 32)).alloc (.cells #[.int .i64 g, .int .i64 p, .int .u64 (v : Int), bv x0, bv x1, bv x2, bv x3, bv x4, bv x5, bv x6, bv x7] 26) := ⟨_, rfl⟩
  have hE0 : Blk w0 w.heap.size 32 #[.slice A1 n1 c1, .slice A2 n2 c2] := by rw [hw0]; exact (Blk.new _ _ _).alloc _
  have hP0 : Blk w0 (w.heap.size + 1) 26 #[.int .i64 g, .int .i64 p, .int .u64 (v : Int), bv x0, bv x1, bv x2, bv x3, bv x4, bv x5, bv x6, bv x7] := by
    rw [hw0]
    have e1 : (w.alloc (.cells #[.slice A1 n1 c1, .slice A2 n2 c2] 32)).heap.size = w.heap.size + 1 := by simp
    have h1 := Blk.new (w.alloc (.cells #[.slice A1 n1 c1, .slice A2 n2 c2] 32)) 26 #[.int .i64 g, .int .i64 p, .int .u64 (v : Int), bv x0, bv x1, bv x2, bv x3, bv x4, bv x5, bv x6, bv x7]
    rw [e1] at h1
    exact h1
  have hB0 : Below w.heap.size w w0 := by rw [hw0]; exact ((Below.refl _ _).alloc (Nat.le_refl _) _).alloc (by simp) _
  obtain ⟨St, HSt⟩ : ∃ St : World → Prop, ∀ W, St W ↔ (Blk W w.heap.size 32 #[.slice A1 n1 c1, .slice A2 n2 c2] ∧ Blk W (w.heap.size + 1) 26 #[.int .i64 g, .int .i64 p, .int .u64 (v : Int), bv x0, bv x1, bv x2, bv x3, bv x4, bv x5, bv x6, bv x7] ∧ Below w.heap.size w W) := ⟨_, fun _ => Iff.rfl⟩
  have HT : Hid (∀ W W', St W → Below W.heap.size W W' → St W') := Lib.hid (fun W W' h hb => by
    obtain ⟨h1, h2, h3⟩ := (HSt W).1 h
    exact (HSt W').2 ⟨h1.below hb h1.lt, h2.below hb h2.lt, h3.trans (hb.mono h3.size)⟩)
  have HA : Hid (∀ W, St W → Calls Try.prog 10 #[] W fun e w' => e = .returned (.bool true) ∧ St w') := Lib.hid (fun W h => (awake_any W).mono fun e w' ⟨h1, h2⟩ => ⟨h1, HT.out W w' h h2⟩)
  have HF : Hid (∀ W, St W → Calls Try.prog 16 #[.agg #[.slice A1 n1 c1, .slice A2 n2 c2]] W fun e w' => e = .returned (.bool (decide (n1 ≤ 40 ∧ n2 ≤ 40))) ∧ St w') := Lib.hid (fun W h => (fair_any _ _ _ _ _ _ W).mono fun e w' ⟨h1, h2⟩ => ⟨h1, HT.out W w' h h2⟩)
  obtain ⟨X, hX⟩ : ∃ X, X = goodB l1 l2 g p v [x0, x1, x2, x3, x4, x5, x6, x7] := ⟨_, rfl⟩
  obtain ⟨Y, hY⟩ : ∃ Y, Y = Crc.leafS g (min n1 n2) l1 l2 := ⟨_, rfl⟩
  have HGood : Hid (n1 ≤ 40 → ∀ W, St W → Calls Try.prog 22 #[.agg #[.slice A1 n1 c1, .slice A2 n2 c2], .int .i64 g, .int .i64 p, .int .u64 (v : Int), .agg #[bv x0, bv x1, bv x2, bv x3, bv x4, bv x5, bv x6, bv x7]] W fun e w' => e = .returned (.bool X) ∧ St w') := Lib.hid (fun h40 W h => by
    have hB := ((HSt W).1 h).2.2
    exact (good_any l1 l2 w.heap.size n1 c1 n2 c2 A1 A2 g p v x0 x1 x2 x3 x4 x5 x6 x7 hx W (hr1.below hB) (hr2.below hB) hB.size).mono fun e w' ⟨h1, h2⟩ => ⟨by rw [h1, hX], HT.out W w' h h2⟩)
  have HRgood : Hid (n1 ≤ 40 → ∀ W, St W → Calls Try.prog 23 #[.agg #[.slice A1 n1 c1, .slice A2 n2 c2], .int .i64 g, .int .i64 p, .int .u64 (v : Int), .agg #[bv x0, bv x1, bv x2, bv x3, bv x4, bv x5, bv x6, bv x7]] W fun e w' => e = .returned (.bool X) ∧ St w') := Lib.hid (fun h40 W h => by
    have hB := ((HSt W).1 h).2.2
    exact (rgood_any l1 l2 w.heap.size n1 c1 n2 c2 A1 A2 g p v x0 x1 x2 x3 x4 x5 x6 x7 hx W (hr1.below hB) (hr2.below hB) hB.size).mono fun e w' ⟨h1, h2⟩ => ⟨by rw [h1, hX], HT.out W w' h h2⟩)
  have HSum : Hid (n1 ≤ 40 → ∀ W, St W → Calls Try.prog 24 #[.int .i64 g, .agg #[.slice A1 n1 c1, .slice A2 n2 c2]] W fun e w' => e = .returned (.int .u64 (Y : Int)) ∧ St w') := Lib.hid (fun h40 W h => by
    have hB := ((HSt W).1 h).2.2
    exact (leafsum_any l1 l2 w.heap.size n1 c1 n2 c2 (min n1 n2) A1 A2 g W (hr1.below hB) (hr2.below hB) hB.size rfl (by omega)).mono fun e w' ⟨h1, h2⟩ => ⟨by rw [h1, hY], HT.out W w' h h2⟩)
  have HRsum : Hid (n1 ≤ 40 → ∀ W, St W → Calls Try.prog 25 #[.int .i64 g, .agg #[.slice A1 n1 c1, .slice A2 n2 c2]] W fun e w' => e = .returned (.int .u64 (Y : Int)) ∧ St w') := Lib.hid (fun h40 W h => by
    have hB := ((HSt W).1 h).2.2
    exact (rleafsum_any l1 l2 w.heap.size n1 c1 n2 c2 (min n1 n2) A1 A2 g W (hr1.below hB) (hr2.below hB) hB.size rfl (by omega)).mono fun e w' ⟨h1, h2⟩ => ⟨by rw [h1, hY], HT.out W w' h h2⟩)
  have HS0 : Hid (St w0) := Lib.hid ((HSt _).2 ⟨hE0, hP0, hB0⟩)
  have HSd : Hid (∀ W, St W → St W.drew) := Lib.hid (fun W h => HT.out _ _ h (Below.refl _ _).drew)
  have HSB : Hid (∀ W, St W → Below w.heap.size w W) := Lib.hid (fun W h => ((HSt W).1 h).2.2)
  have HL : Hid (∀ W, St W → W.cell? ⟨w.heap.size, 0, none⟩ = some (.slice A1 n1 c1) ∧ W.cell? ⟨w.heap.size, 1, none⟩ = some (.slice A2 n2 c2)) := Lib.hid (fun W h => ⟨((HSt W).1 h).1.cell 0, ((HSt W).1 h).1.cell 1⟩)
  have HW0 : Hid (∀ W, St W → W.cell? ⟨w.heap.size + 1, 0, none⟩ = some (.int .i64 g)) := Lib.hid (fun W h => ((HSt W).1 h).2.1.cell 0)
  have HW1 : Hid (∀ W, St W → W.cell? ⟨w.heap.size + 1, 1, none⟩ = some (.int .i64 p)) := Lib.hid (fun W h => ((HSt W).1 h).2.1.cell 1)
  have HW2 : Hid (∀ W, St W → W.cell? ⟨w.heap.size + 1, 2, none⟩ = some (.int .u64 (v : Int))) := Lib.hid (fun W h => ((HSt W).1 h).2.1.cell 2)
  have HW3 : Hid (∀ W, St W → W.cell? ⟨w.heap.size + 1, 3, none⟩ = some (bv x0)) := Lib.hid (fun W h => ((HSt W).1 h).2.1.cell 3)
  have HW4 : Hid (∀ W, St W → W.cell? ⟨w.heap.size + 1, 4, none⟩ = some (bv x1)) := Lib.hid (fun W h => ((HSt W).1 h).2.1.cell 4)
  have HW5 : Hid (∀ W, St W → W.cell? ⟨w.heap.size + 1, 5, none⟩ = some (bv x2)) := Lib.hid (fun W h => ((HSt W).1 h).2.1.cell 5)
  have HW6 : Hid (∀ W, St W → W.cell? ⟨w.heap.size + 1, 6, none⟩ = some (bv x3)) := Lib.hid (fun W h => ((HSt W).1 h).2.1.cell 6)
  have HW7 : Hid (∀ W, St W → W.cell? ⟨w.heap.size + 1, 7, none⟩ = some (bv x4)) := Lib.hid (fun W h => ((HSt W).1 h).2.1.cell 7)
  have HW8 : Hid (∀ W, St W → W.cell? ⟨w.heap.size + 1, 8, none⟩ = some (bv x5)) := Lib.hid (fun W h => ((HSt W).1 h).2.1.cell 8)
  have HW9 : Hid (∀ W, St W → W.cell? ⟨w.heap.size + 1, 9, none⟩ = some (bv x6)) := Lib.hid (fun W h => ((HSt W).1 h).2.1.cell 9)
  have HW10 : Hid (∀ W, St W → W.cell? ⟨w.heap.size + 1, 10, none⟩ = some (bv x7)) := Lib.hid (fun W h => ((HSt W).1 h).2.1.cell 10)
  have Hw0 := Lib.hid hw0
  have tX : (X == X) = true := beq_self_eq_true X
  have tY : ((Y : Int) == (Y : Int)) = true := beq_self_eq_true _
  clear HSt hw0 hE0 hP0 hB0 hX hY hr1 hr2 hx
  go_enter Try.func8, Try.ntmps8
  go_wp2_with fail
  rw [← Hw0.out]
  refine (HA.out _ HS0.out).mono ?_
  rintro e w1 ⟨rfl, hS1⟩
  have HS1 := Lib.hid hS1
  obtain ⟨k0, k1⟩ := HL.out _ hS1
  clear hS1
  go_wp2_with fail
  refine (HF.out _ HS1.out).mono ?_
  clear k0 k1
  rintro e w2 ⟨rfl, hS2⟩
  have HS2 := Lib.hid hS2
  clear hS2
  by_cases hf : n1 ≤ 40 ∧ n2 ≤ 40
  case neg =>
    rw [decide_eq_false hf]
    go_wp2_with fail
    refine (HA.out _ HS2.out).mono ?_
    rintro e w3 ⟨rfl, hS3⟩
    go_wp2
    go_ret
    exact ⟨rfl, HSB.out _ hS3⟩
  rw [decide_eq_true hf]
  have h40 := hf.1
  clear hf
  go_wp2_with fail
  have inh : Nonempty (Cls St) := ⟨⟨_, HS0.out⟩⟩
  have a0 : ∀ z : Cls St, z.W.cell? ⟨w.heap.size, 0, none⟩ = some (.slice A1 n1 c1) := fun z => (HL.out _ z.ok).1
  have a1 : ∀ z : Cls St, z.W.cell? ⟨w.heap.size, 1, none⟩ = some (.slice A2 n2 c2) := fun z => (HL.out _ z.ok).2
  have e0 : ∀ z : Cls St, z.W.cell? ⟨w.heap.size + 1, 0, none⟩ = some (.int .i64 g) := fun z => HW0.out _ z.ok
  have e1 : ∀ z : Cls St, z.W.cell? ⟨w.heap.size + 1, 1, none⟩ = some (.int .i64 p) := fun z => HW1.out _ z.ok
  have e2 : ∀ z : Cls St, z.W.cell? ⟨w.heap.size + 1, 2, none⟩ = some (.int .u64 (v : Int)) := fun z => HW2.out _ z.ok
  have e3 : ∀ z : Cls St, z.W.cell? ⟨w.heap.size + 1, 3, none⟩ = some (bv x0) := fun z => HW3.out _ z.ok
  have e4 : ∀ z : Cls St, z.W.cell? ⟨w.heap.size + 1, 4, none⟩ = some (bv x1) := fun z => HW4.out _ z.ok
  have e5 : ∀ z : Cls St, z.W.cell? ⟨w.heap.size + 1, 5, none⟩ = some (bv x2) := fun z => HW5.out _ z.ok
  have e6 : ∀ z : Cls St, z.W.cell? ⟨w.heap.size + 1, 6, none⟩ = some (bv x3) := fun z => HW6.out _ z.ok
  have e7 : ∀ z : Cls St, z.W.cell? ⟨w.heap.size + 1, 7, none⟩ = some (bv x4) := fun z => HW7.out _ z.ok
  have e8 : ∀ z : Cls St, z.W.cell? ⟨w.heap.size + 1, 8, none⟩ = some (bv x5) := fun z => HW8.out _ z.ok
  have e9 : ∀ z : Cls St, z.W.cell? ⟨w.heap.size + 1, 9, none⟩ = some (bv x6) := fun z => HW9.out _ z.ok
  have e10 : ∀ z : Cls St, z.W.cell? ⟨w.heap.size + 1, 10, none⟩ = some (bv x7) := fun z => HW10.out _ z.ok
  refine wp_region_cls St (by kernel_rfl) (by kernel_rfl) (HSd.out _ HS2.out) ?_
  repeat (go_big_quiet_step (first
    | (go_at_call 22; exact cls_call (HGood.out h40))
    | (go_at_call 23; exact cls_call (HRgood.out h40))
    | (go_at_call 24; exact cls_call (HSum.out h40))
    | (go_at_call 25; exact cls_call (HRsum.out h40))))
  refine wpQuiet_nil ?_
  rintro _ ⟨zq, rfl⟩
  go_wp2
  go_ret
  exact ⟨rfl, HSB.out _ zq.ok⟩

end Go.Proofs.Ytejhfollfmdmpaa

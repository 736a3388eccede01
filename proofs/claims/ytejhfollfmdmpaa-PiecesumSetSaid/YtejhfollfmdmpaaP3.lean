/- Walks over both judgements of a piece. -/
import Derived.Test.YtejhfollfmdmpaaP2
namespace Go.Proofs.Ytejhfollfmdmpaa
open Go.RowKit

/-- Is a piece that of a leaf? -/
def goodB (l1 l2 : List Nat) (group piece : Int) (ver : Nat) (D : List Nat) : Bool :=
  decide (0 ≤ piece ∧ piece.toNat < min l1.length l2.length ∧ l1.getD piece.toNat 0 = ver ∧ l2.getD piece.toNat 0 = Crc.psum group piece ver D)

set_option maxHeartbeats 800000 in
theorem good_any (l1 l2 : List Nat) (B n1 c1 n2 c2 : Nat) (A1 A2 : Option Addr) (group piece : Int) (ver x0 x1 x2 x3 x4 x5 x6 x7 : Nat) (hx : Crc.Bytes [x0, x1, x2, x3, x4, x5, x6, x7]) (w : World) (hr1 : RU w B A1 n1 l1) (hr2 : RU w B A2 n2 l2) (hB : B ≤ w.heap.size) :
    Calls Try.prog 22 #[.agg #[.slice A1 n1 c1, .slice A2 n2 c2], .int .i64 group, .int .i64 piece, .int .u64 (ver : Int), .agg #[bv x0, bv x1, bv x2, bv x3, bv x4, bv x5, bv x6, bv x7]] w fun e w' =>
      e = .returned (.bool (goodB l1 l2 group piece ver [x0, x1, x2, x3, x4, x5, x6, x7])) ∧ Below w.heap.size w w' := by
  have hl1 := hr1.len
  have hl2 := hr2.len
  obtain ⟨w0, hw0⟩ : ∃ w0, w0 = (w.alloc (.cells #[.slice A1 n1 c1, .slice A2 n2 c2] 32)).alloc (.cells #[bv x0, bv x1, bv x2, bv x3, bv x4, bv x5, bv x6, bv x7] 24) := ⟨_, rfl⟩
  have hE0 : Blk w0 w.heap.size 32 #[.slice A1 n1 c1, .slice A2 n2 c2] := by rw [hw0]; exact (Blk.new _ _ _).alloc _
  have hD0 : Blk w0 (w.heap.size + 1) 24 (blkCells x0 x1 x2 x3 x4 x5 x6 x7) := by
    rw [hw0]
    have h := Blk.new (w.alloc (.cells #[.slice A1 n1 c1, .slice A2 n2 c2] 32)) 24 (blkCells x0 x1 x2 x3 x4 x5 x6 x7)
    have e : (w.alloc (.cells #[.slice A1 n1 c1, .slice A2 n2 c2] 32)).heap.size = w.heap.size + 1 := by simp
    rw [e] at h
    exact h
  obtain ⟨q, hq⟩ : ∃ q, q = min n1 n2 := ⟨_, rfl⟩
  have hB0 : Below w.heap.size w w0 := by rw [hw0]; exact ((Below.refl _ _).alloc (Nat.le_refl _) _).alloc (by simp) _
  obtain ⟨St, HSt⟩ : ∃ St : World → Prop, ∀ W, St W ↔ (Blk W w.heap.size 32 #[.slice A1 n1 c1, .slice A2 n2 c2] ∧ Blk W (w.heap.size + 1) 24 (blkCells x0 x1 x2 x3 x4 x5 x6 x7) ∧ Below w.heap.size w W) := ⟨_, fun _ => Iff.rfl⟩
  have HP : Hid (∀ W, St W → Calls Try.prog 30 #[.agg #[.slice A1 n1 c1, .slice A2 n2 c2]] W fun e w' => e = .returned (.int .i64 (q : Int)) ∧ St w') := Lib.hid (by
    intro W h
    obtain ⟨h1, h2, h3⟩ := (HSt W).1 h
    refine (pieces_any A1 A2 n1 c1 n2 c2 W).mono ?_
    rintro e w' ⟨rfl, hb⟩
    exact ⟨by rw [hq], (HSt w').2 ⟨h1.below hb h1.lt, h2.below hb h2.lt, h3.trans (hb.mono h3.size)⟩⟩)
  have HQ : Hid (∀ W, St W → Calls Try.prog 11 #[.int .i64 group, .int .i64 piece, .int .u64 (ver : Int), .agg #[bv x0, bv x1, bv x2, bv x3, bv x4, bv x5, bv x6, bv x7]] W fun e w' => e = .returned (.int .u64 ((Crc.psum group piece ver [x0, x1, x2, x3, x4, x5, x6, x7] : Nat) : Int)) ∧ St w') := Lib.hid (by
    intro W h
    obtain ⟨h1, h2, h3⟩ := (HSt W).1 h
    refine (psum_any group piece ver x0 x1 x2 x3 x4 x5 x6 x7 hx W).mono ?_
    rintro e w' ⟨rfl, hb⟩
    exact ⟨rfl, (HSt w').2 ⟨h1.below hb h1.lt, h2.below hb h2.lt, h3.trans (hb.mono h3.size)⟩⟩)
  have HS0 : Hid (St w0.drew) := Lib.hid ((HSt _).2 ⟨hE0, hD0, hB0.drew⟩)
  have HS := Lib.hid HSt
  have inh : Nonempty (Cls St) := ⟨⟨_, HS0.out⟩⟩
  have Hw0 := Lib.hid hw0
  have Hq := Lib.hid hq
  have g0 : ∀ z : Cls St, z.W.cell? ⟨w.heap.size, 0, none⟩ = some (.slice A1 n1 c1) := fun z => ((HS.out _).1 z.ok).1.cell 0
  have g1 : ∀ z : Cls St, z.W.cell? ⟨w.heap.size, 1, none⟩ = some (.slice A2 n2 c2) := fun z => ((HS.out _).1 z.ok).1.cell 1
  by_cases h0 : 0 ≤ piece
  · by_cases h1 : piece < (q : Int)
    · obtain ⟨p, rfl⟩ := Int.eq_ofNat_of_zero_le h0
      obtain ⟨ad1, rfl, hb1, hc1⟩ := hr1.at_ (show p < n1 by omega)
      obtain ⟨ad2, rfl, hb2, hc2⟩ := hr2.at_ (show p < n2 by omega)
      have g2 : ∀ z : Cls St, z.W.cell? (ad1.add p) = some (.int .u64 ((l1.getD p 0 : Nat) : Int)) := fun z => (((HS.out _).1 z.ok).2.2.cell (by rw [block_of_add]; omega)).trans hc1
      have g3 : ∀ z : Cls St, z.W.cell? (ad2.add p) = some (.int .u64 ((l2.getD p 0 : Nat) : Int)) := fun z => (((HS.out _).1 z.ok).2.2.cell (by rw [block_of_add]; omega)).trans hc2
      have q1 : (p : Int) < (n1 : Int) := by omega
      have q2 : (p : Int) < (n2 : Int) := by omega
      have hgood : goodB l1 l2 group (p : Int) ver [x0, x1, x2, x3, x4, x5, x6, x7] = (decide (l1.getD p 0 = ver) && decide (l2.getD p 0 = Crc.psum group p ver [x0, x1, x2, x3, x4, x5, x6, x7])) := by
        unfold goodB
        rw [← Bool.decide_and, decide_eq_decide, Int.toNat_natCast]
        have : p < min l1.length l2.length := by omega
        constructor
        · exact fun h => ⟨h.2.2.1, h.2.2.2⟩
        · exact fun h => ⟨h0, this, h.1, h.2⟩
      rw [hgood]
      generalize l1.getD p 0 = v1 at g2
      generalize l2.getD p 0 = v2 at g3
      generalize Crc.psum group p ver [x0, x1, x2, x3, x4, x5, x6, x7] = v3 at HQ
      clear hw0 HSt hq hx hr1 hr2 hl1 hl2 hE0 hD0 hB0 hgood hc1 hc2
      by_cases hv : v1 = ver
      · have t2 : ((v1 : Int) == (ver : Int)) = true := beq_iff_eq.2 (by omega)
        rw [decide_eq_true hv, Bool.true_and]
        clear hv
        have d0 : ∀ z : Cls St, z.W.cell? ⟨w.heap.size + 1, 0, none⟩ = some (bv x0) := fun z => ((HS.out _).1 z.ok).2.1.cell 0
        have d1 : ∀ z : Cls St, z.W.cell? ⟨w.heap.size + 1, 1, none⟩ = some (bv x1) := fun z => ((HS.out _).1 z.ok).2.1.cell 1
        have d2 : ∀ z : Cls St, z.W.cell? ⟨w.heap.size + 1, 2, none⟩ = some (bv x2) := fun z => ((HS.out _).1 z.ok).2.1.cell 2
        have d3 : ∀ z : Cls St, z.W.cell? ⟨w.heap.size + 1, 3, none⟩ = some (bv x3) := fun z => ((HS.out _).1 z.ok).2.1.cell 3
        have d4 : ∀ z : Cls St, z.W.cell? ⟨w.heap.size + 1, 4, none⟩ = some (bv x4) := fun z => ((HS.out _).1 z.ok).2.1.cell 4
        have d5 : ∀ z : Cls St, z.W.cell? ⟨w.heap.size + 1, 5, none⟩ = some (bv x5) := fun z => ((HS.out _).1 z.ok).2.1.cell 5
        have d6 : ∀ z : Cls St, z.W.cell? ⟨w.heap.size + 1, 6, none⟩ = some (bv x6) := fun z => ((HS.out _).1 z.ok).2.1.cell 6
        have d7 : ∀ z : Cls St, z.W.cell? ⟨w.heap.size + 1, 7, none⟩ = some (bv x7) := fun z => ((HS.out _).1 z.ok).2.1.cell 7
        go_enter Try.func22, Try.ntmps22
        go_wp2_with fail
        rw [← Hw0.out]
        refine wp_region_cls St (by kernel_rfl) (by kernel_rfl) HS0.out ?_
        repeat (go_big_quiet_step (first | (go_at_call 30; exact cls_call HP.out) | (go_at_call 11; exact cls_call HQ.out)))
        refine wpQuiet_nil ?_
        rintro _ ⟨zq, rfl⟩
        go_wp2
        go_ret
        exact ⟨ret_b (by rw [Bool.eq_iff_iff, beq_iff_eq, decide_eq_true_iff]; omega), ((HS.out _).1 zq.ok).2.2⟩
      · have t2 : ((v1 : Int) == (ver : Int)) = false := beq_eq_false_iff_ne.2 (by omega)
        rw [decide_eq_false hv, Bool.false_and]
        clear hv
        go_enter Try.func22, Try.ntmps22
        go_wp2_with fail
        rw [← Hw0.out]
        refine wp_region_cls St (by kernel_rfl) (by kernel_rfl) HS0.out ?_
        repeat (go_big_quiet_step (first | (go_at_call 30; exact cls_call HP.out) | (go_at_call 11; exact cls_call HQ.out)))
        refine wpQuiet_nil ?_
        rintro _ ⟨zq, rfl⟩
        go_wp2
        go_ret
        exact ⟨rfl, ((HS.out _).1 zq.ok).2.2⟩
    · have e : goodB l1 l2 group piece ver [x0, x1, x2, x3, x4, x5, x6, x7] = false := decide_eq_false (fun h => h1 (by have := h.2.1; omega))
      rw [e]
      have t0 : decide (0 ≤ piece) = true := decide_eq_true h0
      have t1 : decide (piece < (q : Int)) = false := decide_eq_false h1
      clear hw0 HSt hq hx hr1 hr2 hl1 hl2 hE0 hD0 hB0
      go_enter Try.func22, Try.ntmps22
      go_wp2_with fail
      rw [← Hw0.out]
      refine wp_region_cls St (by kernel_rfl) (by kernel_rfl) HS0.out ?_
      repeat (go_big_quiet_step (first | (go_at_call 30; exact cls_call HP.out) | (go_at_call 11; exact cls_call HQ.out)))
      refine wpQuiet_nil ?_
      rintro _ ⟨zq, rfl⟩
      go_wp2
      go_ret
      exact ⟨rfl, ((HS.out _).1 zq.ok).2.2⟩
  · have e : goodB l1 l2 group piece ver [x0, x1, x2, x3, x4, x5, x6, x7] = false := decide_eq_false (fun h => h0 h.1)
    rw [e]
    have t0 : decide (0 ≤ piece) = false := decide_eq_false h0
    clear hw0 HSt hq hx hr1 hr2 hl1 hl2 hE0 hD0 hB0
    go_enter Try.func22, Try.ntmps22
    go_wp2_with fail
    rw [← Hw0.out]
    refine wp_region_cls St (by kernel_rfl) (by kernel_rfl) HS0.out ?_
    repeat (go_big_quiet_step (first | (go_at_call 30; exact cls_call HP.out) | (go_at_call 11; exact cls_call HQ.out)))
    refine wpQuiet_nil ?_
    rintro _ ⟨zq, rfl⟩
    go_wp2
    go_ret
    exact ⟨rfl, ((HS.out _).1 zq.ok).2.2⟩

set_option maxHeartbeats 800000 in
theorem rgood_any (l1 l2 : List Nat) (B n1 c1 n2 c2 : Nat) (A1 A2 : Option Addr) (group piece : Int) (ver x0 x1 x2 x3 x4 x5 x6 x7 : Nat) (hx : Crc.Bytes [x0, x1, x2, x3, x4, x5, x6, x7]) (w : World) (hr1 : RU w B A1 n1 l1) (hr2 : RU w B A2 n2 l2) (hB : B ≤ w.heap.size) :
    Calls Try.prog 23 #[.agg #[.slice A1 n1 c1, .slice A2 n2 c2], .int .i64 group, .int .i64 piece, .int .u64 (ver : Int), .agg #[bv x0, bv x1, bv x2, bv x3, bv x4, bv x5, bv x6, bv x7]] w fun e w' =>
      e = .returned (.bool (goodB l1 l2 group piece ver [x0, x1, x2, x3, x4, x5, x6, x7])) ∧ Below w.heap.size w w' := by
  have hl1 := hr1.len
  have hl2 := hr2.len
  obtain ⟨w0, hw0⟩ : ∃ w0, w0 = (w.alloc (.cells #[.slice A1 n1 c1, .slice A2 n2 c2] 32)).alloc (.cells #[bv x0, bv x1, bv x2, bv x3, bv x4, bv x5, bv x6, bv x7] 24) := ⟨_, rfl⟩
  have hE0 : Blk w0 w.heap.size 32 #[.slice A1 n1 c1, .slice A2 n2 c2] := by rw [hw0]; exact (Blk.new _ _ _).alloc _
  have hD0 : Blk w0 (w.heap.size + 1) 24 (blkCells x0 x1 x2 x3 x4 x5 x6 x7) := by
    rw [hw0]
    have h := Blk.new (w.alloc (.cells #[.slice A1 n1 c1, .slice A2 n2 c2] 32)) 24 (blkCells x0 x1 x2 x3 x4 x5 x6 x7)
    have e : (w.alloc (.cells #[.slice A1 n1 c1, .slice A2 n2 c2] 32)).heap.size = w.heap.size + 1 := by simp
    rw [e] at h
    exact h
  obtain ⟨q, hq⟩ : ∃ q, q = min n1 n2 := ⟨_, rfl⟩
  have hB0 : Below w.heap.size w w0 := by rw [hw0]; exact ((Below.refl _ _).alloc (Nat.le_refl _) _).alloc (by simp) _
  obtain ⟨St, HSt⟩ : ∃ St : World → Prop, ∀ W, St W ↔ (Blk W w.heap.size 32 #[.slice A1 n1 c1, .slice A2 n2 c2] ∧ Blk W (w.heap.size + 1) 24 (blkCells x0 x1 x2 x3 x4 x5 x6 x7) ∧ Below w.heap.size w W) := ⟨_, fun _ => Iff.rfl⟩
  have HP : Hid (∀ W, St W → Calls Try.prog 31 #[.agg #[.slice A1 n1 c1, .slice A2 n2 c2]] W fun e w' => e = .returned (.int .i64 (q : Int)) ∧ St w') := Lib.hid (by
    intro W h
    obtain ⟨h1, h2, h3⟩ := (HSt W).1 h
    refine (width_any A1 A2 n1 c1 n2 c2 W).mono ?_
    rintro e w' ⟨rfl, hb⟩
    exact ⟨by rw [hq], (HSt w').2 ⟨h1.below hb h1.lt, h2.below hb h2.lt, h3.trans (hb.mono h3.size)⟩⟩)
  have HQ : Hid (∀ W, St W → Calls Try.prog 12 #[.int .i64 group, .int .i64 piece, .int .u64 (ver : Int), .agg #[bv x0, bv x1, bv x2, bv x3, bv x4, bv x5, bv x6, bv x7]] W fun e w' => e = .returned (.int .u64 ((Crc.psum group piece ver [x0, x1, x2, x3, x4, x5, x6, x7] : Nat) : Int)) ∧ St w') := Lib.hid (by
    intro W h
    obtain ⟨h1, h2, h3⟩ := (HSt W).1 h
    refine (rpsum_any group piece ver x0 x1 x2 x3 x4 x5 x6 x7 hx W).mono ?_
    rintro e w' ⟨rfl, hb⟩
    exact ⟨rfl, (HSt w').2 ⟨h1.below hb h1.lt, h2.below hb h2.lt, h3.trans (hb.mono h3.size)⟩⟩)
  have HS0 : Hid (St w0.drew) := Lib.hid ((HSt _).2 ⟨hE0, hD0, hB0.drew⟩)
  have HS := Lib.hid HSt
  have inh : Nonempty (Cls St) := ⟨⟨_, HS0.out⟩⟩
  have Hw0 := Lib.hid hw0
  have Hq := Lib.hid hq
  have g0 : ∀ z : Cls St, z.W.cell? ⟨w.heap.size, 0, none⟩ = some (.slice A1 n1 c1) := fun z => ((HS.out _).1 z.ok).1.cell 0
  have g1 : ∀ z : Cls St, z.W.cell? ⟨w.heap.size, 1, none⟩ = some (.slice A2 n2 c2) := fun z => ((HS.out _).1 z.ok).1.cell 1
  by_cases h0 : 0 ≤ piece
  · by_cases h1 : piece < (q : Int)
    · obtain ⟨p, rfl⟩ := Int.eq_ofNat_of_zero_le h0
      obtain ⟨ad1, rfl, hb1, hc1⟩ := hr1.at_ (show p < n1 by omega)
      obtain ⟨ad2, rfl, hb2, hc2⟩ := hr2.at_ (show p < n2 by omega)
      have g2 : ∀ z : Cls St, z.W.cell? (ad1.add p) = some (.int .u64 ((l1.getD p 0 : Nat) : Int)) := fun z => (((HS.out _).1 z.ok).2.2.cell (by rw [block_of_add]; omega)).trans hc1
      have g3 : ∀ z : Cls St, z.W.cell? (ad2.add p) = some (.int .u64 ((l2.getD p 0 : Nat) : Int)) := fun z => (((HS.out _).1 z.ok).2.2.cell (by rw [block_of_add]; omega)).trans hc2
      have q1 : (p : Int) < (n1 : Int) := by omega
      have q2 : (p : Int) < (n2 : Int) := by omega
      have hgood : goodB l1 l2 group (p : Int) ver [x0, x1, x2, x3, x4, x5, x6, x7] = (decide (l1.getD p 0 = ver) && decide (l2.getD p 0 = Crc.psum group p ver [x0, x1, x2, x3, x4, x5, x6, x7])) := by
        unfold goodB
        rw [← Bool.decide_and, decide_eq_decide, Int.toNat_natCast]
        have : p < min l1.length l2.length := by omega
        constructor
        · exact fun h => ⟨h.2.2.1, h.2.2.2⟩
        · exact fun h => ⟨h0, this, h.1, h.2⟩
      rw [hgood]
      generalize l1.getD p 0 = v1 at g2
      generalize l2.getD p 0 = v2 at g3
      generalize Crc.psum group p ver [x0, x1, x2, x3, x4, x5, x6, x7] = v3 at HQ
      clear hw0 HSt hq hx hr1 hr2 hl1 hl2 hE0 hD0 hB0 hgood hc1 hc2
      by_cases hv : v1 = ver
      · have t2 : ((v1 : Int) == (ver : Int)) = true := beq_iff_eq.2 (by omega)
        rw [decide_eq_true hv, Bool.true_and]
        clear hv
        have d0 : ∀ z : Cls St, z.W.cell? ⟨w.heap.size + 1, 0, none⟩ = some (bv x0) := fun z => ((HS.out _).1 z.ok).2.1.cell 0
        have d1 : ∀ z : Cls St, z.W.cell? ⟨w.heap.size + 1, 1, none⟩ = some (bv x1) := fun z => ((HS.out _).1 z.ok).2.1.cell 1
        have d2 : ∀ z : Cls St, z.W.cell? ⟨w.heap.size + 1, 2, none⟩ = some (bv x2) := fun z => ((HS.out _).1 z.ok).2.1.cell 2
        have d3 : ∀ z : Cls St, z.W.cell? ⟨w.heap.size + 1, 3, none⟩ = some (bv x3) := fun z => ((HS.out _).1 z.ok).2.1.cell 3
        have d4 : ∀ z : Cls St, z.W.cell? ⟨w.heap.size + 1, 4, none⟩ = some (bv x4) := fun z => ((HS.out _).1 z.ok).2.1.cell 4
        have d5 : ∀ z : Cls St, z.W.cell? ⟨w.heap.size + 1, 5, none⟩ = some (bv x5) := fun z => ((HS.out _).1 z.ok).2.1.cell 5
        have d6 : ∀ z : Cls St, z.W.cell? ⟨w.heap.size + 1, 6, none⟩ = some (bv x6) := fun z => ((HS.out _).1 z.ok).2.1.cell 6
        have d7 : ∀ z : Cls St, z.W.cell? ⟨w.heap.size + 1, 7, none⟩ = some (bv x7) := fun z => ((HS.out _).1 z.ok).2.1.cell 7
        go_enter Try.func23, Try.ntmps23
        go_wp2_with fail
        rw [← Hw0.out]
        refine wp_region_cls St (by kernel_rfl) (by kernel_rfl) HS0.out ?_
        repeat (go_big_quiet_step (first | (go_at_call 31; exact cls_call HP.out) | (go_at_call 12; exact cls_call HQ.out)))
        refine wpQuiet_nil ?_
        rintro _ ⟨zq, rfl⟩
        go_wp2
        go_ret
        exact ⟨ret_b (by rw [Bool.eq_iff_iff, beq_iff_eq, decide_eq_true_iff]; omega), ((HS.out _).1 zq.ok).2.2⟩
      · have t2 : ((v1 : Int) == (ver : Int)) = false := beq_eq_false_iff_ne.2 (by omega)
        rw [decide_eq_false hv, Bool.false_and]
        clear hv
        go_enter Try.func23, Try.ntmps23
        go_wp2_with fail
        rw [← Hw0.out]
        refine wp_region_cls St (by kernel_rfl) (by kernel_rfl) HS0.out ?_
        repeat (go_big_quiet_step (first | (go_at_call 31; exact cls_call HP.out) | (go_at_call 12; exact cls_call HQ.out)))
        refine wpQuiet_nil ?_
        rintro _ ⟨zq, rfl⟩
        go_wp2
        go_ret
        exact ⟨rfl, ((HS.out _).1 zq.ok).2.2⟩
    · have e : goodB l1 l2 group piece ver [x0, x1, x2, x3, x4, x5, x6, x7] = false := decide_eq_false (fun h => h1 (by have := h.2.1; omega))
      rw [e]
      have t0 : decide (0 ≤ piece) = true := decide_eq_true h0
      have t1 : decide (piece < (q : Int)) = false := decide_eq_false h1
      clear hw0 HSt hq hx hr1 hr2 hl1 hl2 hE0 hD0 hB0
      go_enter Try.func23, Try.ntmps23
      go_wp2_with fail
      rw [← Hw0.out]
      refine wp_region_cls St (by kernel_rfl) (by kernel_rfl) HS0.out ?_
      repeat (go_big_quiet_step (first | (go_at_call 31; exact cls_call HP.out) | (go_at_call 12; exact cls_call HQ.out)))
      refine wpQuiet_nil ?_
      rintro _ ⟨zq, rfl⟩
      go_wp2
      go_ret
      exact ⟨rfl, ((HS.out _).1 zq.ok).2.2⟩
  · have e : goodB l1 l2 group piece ver [x0, x1, x2, x3, x4, x5, x6, x7] = false := decide_eq_false (fun h => h0 h.1)
    rw [e]
    have t0 : decide (0 ≤ piece) = false := decide_eq_false h0
    clear hw0 HSt hq hx hr1 hr2 hl1 hl2 hE0 hD0 hB0
    go_enter Try.func23, Try.ntmps23
    go_wp2_with fail
    rw [← Hw0.out]
    refine wp_region_cls St (by kernel_rfl) (by kernel_rfl) HS0.out ?_
    repeat (go_big_quiet_step (first | (go_at_call 31; exact cls_call HP.out) | (go_at_call 12; exact cls_call HQ.out)))
    refine wpQuiet_nil ?_
    rintro _ ⟨zq, rfl⟩
    go_wp2
    go_ret
    exact ⟨rfl, ((HS.out _).1 zq.ok).2.2⟩


end Go.Proofs.Ytejhfollfmdmpaa

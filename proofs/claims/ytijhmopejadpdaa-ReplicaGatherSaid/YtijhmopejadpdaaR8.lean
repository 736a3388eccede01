/- The walk over awake. -/
import Derived.Test.YtijhmopejadpdaaR7
import Derived.Laws.MakeOwn
namespace Go.Proofs.Ytijhmopejadpdaa
open Go.RowKit

theorem run_made8 {w : World} (n : Nat) (z : Int) (hz : z = (n : Int)) (hn : n ≤ 16777216) : (Instr.makeSlice 22 (.int .i64 z) (.int .i64 z)).run Try.prog w = .ok (.slice (some ⟨w.heap.size, 0, none⟩) n n) (w.alloc (.cells (madeCells (Value.int .u8 0).cells (n * 1)) 5)) := by
  subst hz
  obtain ⟨i0, hi0, hz0, hz1, hz2⟩ := info_parts byteInfo
  have h := run_make (P := Try.prog) w 22 5 i0 (.int .u8 0) Try.underlying22 hi0 hz0 .i64 .i64 (n : Int) (n : Int) (by omega) (Int.le_refl _) (by rw [hz2]; omega) (by omega)
  rw [Int.toNat_natCast, hz1] at h
  exact h
theorem made_zero (n j : Nat) (h : j < n) : (madeCells (Value.int .u8 0).cells (n * 1))[j]? = some (bv 0) := by
  rw [Nat.mul_one]
  simp [madeCells, Value.cells, h, Nat.mod_one]
  rfl
theorem made_row (w : World) (n : Nat) : RowIs (w.alloc (.cells (madeCells (Value.int .u8 0).cells (n * 1)) 5)) w.heap.size 5 n (List.replicate n 0) := by
  refine ⟨⟨_, Blk.new _ _ _, by rw [size_madeCells, Nat.mul_one], fun j hj => ?_⟩, by simp⟩
  rw [List.length_replicate] at hj
  rw [made_zero n j hj]
  congr 2
  rw [List.getD_eq_getElem?_getD, List.getElem?_replicate, if_pos hj]
  rfl
/-- A row of slices just made. -/
theorem rs_alloc (W : World) (us : List Value) (ls : List (List Nat))
    (h : ∀ j, j < ls.length → ∃ Y c, us[j]? = some (.slice Y (ls.getD j []).length c) ∧ RB W W.heap.size Y (ls.getD j []).length (ls.getD j []) ∧ (ls.getD j []).length ≤ c ∧ Crc.Bytes (ls.getD j []) ∧ (ls.getD j []).length ≤ 65536) :
    RS (W.alloc (.cells us.toArray 22)) (W.heap.size + 1) (some ⟨W.heap.size, 0, none⟩) ls.length ls := by
  refine ⟨rfl, fun j hj => ?_, fun _ => ⟨_, rfl, Nat.lt_succ_self _, fun j hj => ?_⟩⟩
  · obtain ⟨_, _, _, _, _, h1, h2⟩ := h j hj
    exact ⟨h1, h2⟩
  · obtain ⟨Y, c, h1, h2, h3, _⟩ := h j hj
    refine ⟨Y, c, ?_, Reads.more (RB.below h2 ((Below.refl _ _).alloc (Nat.le_refl _) _)) (by omega), h3⟩
    rw [add_zero_block, (Blk.new W 22 us.toArray).cell]
    simpa using h1
theorem rc_two (W : World) (Y0 Y1 : Option Addr) (n0 c0 n1 c1 : Nat) (l0 l1 : List (List Nat)) (h0 : RS W W.heap.size Y0 n0 l0) (h1 : RS W W.heap.size Y1 n1 l1) (hn0 : n0 ≤ 65536) (hn1 : n1 ≤ 65536) :
    RC (W.alloc (.cells #[.slice Y0 n0 c0, .slice Y1 n1 c1] 25)) (W.heap.size + 1) (some ⟨W.heap.size, 0, none⟩) 2 [l0, l1] := by
  have hb : Below W.heap.size W (W.alloc (.cells #[.slice Y0 n0 c0, .slice Y1 n1 c1] 25)) := (Below.refl _ _).alloc (Nat.le_refl _) _
  have hm : ∀ {Y n l}, RS W W.heap.size Y n l → RS (W.alloc (.cells #[.slice Y0 n0 c0, .slice Y1 n1 c1] 25)) (W.heap.size + 1) Y n l := fun h => by
    have h2 := h.below hb
    exact ⟨h2.1, h2.2.1, fun z => by
      obtain ⟨ad, e, hlt, hc⟩ := h2.2.2 z
      refine ⟨ad, e, by omega, fun j hj => ?_⟩
      obtain ⟨Y, c, k1, k2, k3⟩ := hc j hj
      exact ⟨Y, c, k1, Reads.more k2 (by omega), k3⟩⟩
  refine ⟨rfl, fun _ => ⟨_, rfl, Nat.lt_succ_self _, fun j hj => ?_⟩⟩
  rw [add_zero_block]
  match j, hj with
  | 0, _ => exact ⟨Y0, n0, c0, (Blk.new W 25 #[.slice Y0 n0 c0, .slice Y1 n1 c1]).cell 0, hm h0, by omega⟩
  | 1, _ => exact ⟨Y1, n1, c1, (Blk.new W 25 #[.slice Y0 n0 c0, .slice Y1 n1 c1]).cell 1, hm h1, by omega⟩
/-- The example of the document. -/
def exB : List Nat := (List.replicate 40 0).set 35 9
theorem exB_bytes : Crc.Bytes exB := by
  intro b hb
  have h : ∀ x ∈ exB, x < 256 := by decide
  exact h b hb
theorem exM : Crc.chunkM exB.length = 2 := by decide
theorem ex_holds : Holds [[[], Crc.secB 3 1 2 (Crc.chunkOf exB 1)], [Crc.secB 3 0 2 (Crc.chunkOf exB 0), []]] exB 3 := by
  have hno : ∀ i gen (ls : List (List Nat)), ls.getD i [] = [] → usB ls i gen = true → False := fun i gen ls h hu => by
    have h2 := of_decide_eq_true (us_ok hu)
    rw [h] at h2
    simp at h2
  refine ⟨?_, ?_⟩
  · rw [exM]
    intro i hi
    match i, hi with
    | 0, _ => exact ⟨[Crc.secB 3 0 2 (Crc.chunkOf exB 0), []], by simp, by simp, rfl⟩
    | 1, _ => exact ⟨[[], Crc.secB 3 1 2 (Crc.chunkOf exB 1)], by simp, by simp, rfl⟩
  · rw [exM]
    intro ls hls i hu
    have hlt := us_lt hu
    rcases List.mem_cons.1 hls with rfl | hls
    · match i, hlt with
      | 0, _ => exact (hno 0 3 _ rfl hu).elim
      | 1, _ => exact ⟨by omega, rfl⟩
    · have := List.mem_singleton.1 hls
      subst this
      match i, hlt with
      | 0, _ => exact ⟨by omega, rfl⟩
      | 1, _ => exact (hno 1 3 _ rfl hu).elim

set_option maxHeartbeats 2000000 in
theorem awake_any (w : World) : Calls Try.prog 8 #[] w fun e w' => e = .returned (.bool true) ∧ Below w.heap.size w w' := by
  obtain ⟨MC, hMC⟩ : ∃ MC, MC = madeCells (Value.int .u8 0).cells (40 * 1) := ⟨_, rfl⟩
  have qM : ∀ W : World, (Instr.makeSlice 22 (.int .i64 40) (.int .i64 40)).run Try.prog W = .ok (.slice (some ⟨W.heap.size, 0, none⟩) 40 40) (W.alloc (.cells MC 5)) := fun W => by
    rw [hMC]
    exact run_made8 40 40 rfl (by omega)
  have hRow := made_row w 40
  rw [← hMC] at hRow
  have k0 : (w.alloc (.cells MC 5)).cell? ⟨w.heap.size, 35, none⟩ = some (.int .u8 0) := hRow.got 35 (by simp)
  have f0 : (w.alloc (.cells MC 5)).frozen? ⟨w.heap.size, 35, none⟩ = false := hRow.free 35
  obtain ⟨w1, hw1⟩ : ∃ w1, w1 = (w.alloc (.cells MC 5)).setCell ⟨w.heap.size, 35, none⟩ (.int .u8 9) := ⟨_, rfl⟩
  have hR1 : RowIs w1 w.heap.size 5 40 exB := by rw [hw1]; exact hRow.set 35 (by simp) 9 _ rfl
  have hB1 : Below w.heap.size w w1 := by rw [hw1]; exact ((Below.refl _ _).alloc (Nat.le_refl _) _).setCell (Nat.le_refl _) _
  have hRB1 : RB w1 w1.heap.size (some ⟨w.heap.size, 0, none⟩) 40 exB := hR1.rb
  have HR1 := Lib.hid hR1
  have HB1 := Lib.hid hB1
  have HRB1 := Lib.hid hRB1
  have Hw1 : Hid (w1 = w.alloc (.cells (MC.setIfInBounds 35 (.int .u8 9)) 5)) := Lib.hid (by rw [hw1, World.setCell_alloc_new])
  clear hMC hRow hw1 hR1 hB1 hRB1
  go_enter Try.func8, Try.ntmps8
  go_wp2_with fail
  rw [← Hw1.out]
  refine (chunks_any exB exB_bytes w1.heap.size 40 40 3 _ w1 HRB1.out (Nat.le_refl _) (by omega) (by omega)).mono ?_
  rintro e w2 ⟨v, vs, rfl, hSL, hb2⟩
  have hvl : vs.length = 2 := by rw [hSL.2.1, Crc.secs_length]; exact exM
  obtain ⟨gl, cl, rfl, hgl1, hgl2, hcl, _, hrow⟩ := hSL.1.row (by omega)
  match vs, hvl with
  | [u0, u1], _ =>
  have hu0 := hSL.2.2 0 (by rw [Crc.secs_length, exM]; omega)
  have hu1 := hSL.2.2 1 (by rw [Crc.secs_length, exM]; omega)
  rw [Crc.secs_get _ _ _ (by rw [exM]; omega), exM] at hu0 hu1
  have hu0 : OB w2 w1.heap.size 5 u0 (Crc.secB 3 0 2 (Crc.chunkOf exB 0)) := hu0
  have hu1 : OB w2 w1.heap.size 5 u1 (Crc.secB 3 1 2 (Crc.chunkOf exB 1)) := hu1
  have l0 : (Crc.secB 3 0 2 (Crc.chunkOf exB 0)).length = 57 := by rw [Crc.secB_length]; rfl
  have l1 : (Crc.secB 3 1 2 (Crc.chunkOf exB 1)).length = 33 := by rw [Crc.secB_length]; rfl
  obtain ⟨X0, c0, rfl, hr0, hc0, _⟩ := hu0.form' l0
  obtain ⟨X1, c1, rfl, hr1, hc1, _⟩ := hu1.form' l1
  have HB2 := Lib.hid (HB1.out.trans (hb2.mono HB1.out.size))
  have HRB2 := Lib.hid (HRB1.out.below hb2)
  have hz2 := hb2.size
  have t0 : w2.cell? ⟨gl, 0, none⟩ = some (.slice X0 57 c0) := hrow.got 0 _ rfl
  have t1 : w2.cell? ⟨gl, 1, none⟩ = some (.slice X1 33 c1) := hrow.got 1 _ rfl
  have HRow := Lib.hid hrow
  have Hr0 := Lib.hid hr0
  have Hr1 := Lib.hid hr1
  clear hSL hb2 hu0 hu1 hrow hr0 hr1
  obtain ⟨T, HT'⟩ : ∃ T : World → Prop, ∀ W, T W ↔ (Below w2.heap.size w2 W ∧ w2.heap.size ≤ W.heap.size) := ⟨_, fun _ => Iff.rfl⟩
  have HTa : Hid (∀ W o, T W → T (W.alloc o)) := Lib.hid (fun W o h => (HT' _).2 ⟨((HT' W).1 h).1.alloc ((HT' W).1 h).2 o, by have := ((HT' W).1 h).2; simp; omega⟩)
  have HT2 : Hid (T w2) := Lib.hid ((HT' _).2 ⟨Below.refl _ _, Nat.le_refl _⟩)
  have HL : Hid (∀ W, T W → W.cell? ⟨gl, 0, none⟩ = some (.slice X0 57 c0) ∧ W.cell? ⟨gl, 1, none⟩ = some (.slice X1 33 c1) ∧ T W) := Lib.hid (fun W h => ⟨(((HT' W).1 h).1.cell (p := ⟨gl, 0, none⟩) hgl2).trans t0, (((HT' W).1 h).1.cell (p := ⟨gl, 1, none⟩) hgl2).trans t1, h⟩)
  have HTd : Hid (∀ W, T W → W.drew.cell? ⟨gl, 0, none⟩ = some (.slice X0 57 c0) ∧ W.drew.cell? ⟨gl, 1, none⟩ = some (.slice X1 33 c1) ∧ T W.drew) := Lib.hid (fun W h => HL.out _ ((HT' _).2 ⟨((HT' W).1 h).1.drew, ((HT' W).1 h).2⟩))
  have HGa : Hid (∀ (A : Option Addr) (W : World), RC W W.heap.size A 2 [[[], Crc.secB 3 1 2 (Crc.chunkOf exB 1)], [Crc.secB 3 0 2 (Crc.chunkOf exB 0), []]] → T W → Calls Try.prog 10 #[.slice A 2 2, .int .u64 3] W fun e w' => ∃ X cc, e = .returned (.tuple #[.slice X 40 cc, .int .i64 0]) ∧ RB w' w'.heap.size X 40 exB ∧ T w') := Lib.hid (fun A W hrc hT => by
    refine (gather_any _ W.heap.size 2 2 3 A W hrc (Nat.le_refl _) (by omega) (fun j hj => ?_)).mono ?_
    · match j, hj with
      | 0, _ => simp
      | 1, _ => simp
    · rintro e w' ⟨h1, h2⟩
      rw [holds_gath ex_holds (by omega) exB_bytes (by rw [exM]; omega)] at h1
      obtain ⟨X, cc, h3, h4, h5⟩ := h1
      exact ⟨X, cc, h3, h4, (HT' _).2 ⟨((HT' W).1 hT).1.trans (h2.mono ((HT' W).1 hT).2), by have := ((HT' W).1 hT).2; have := h2.size; omega⟩⟩)
  have hrs1 : ∀ W, T W → RS (W.alloc (.cells #[.slice none 0 0, .slice X1 33 c1] 22)) (W.heap.size + 1) (some ⟨W.heap.size, 0, none⟩) 2 [[], Crc.secB 3 1 2 (Crc.chunkOf exB 1)] := fun W hT => by
    refine rs_alloc W [.slice none 0 0, .slice X1 33 c1] [[], Crc.secB 3 1 2 (Crc.chunkOf exB 1)] (fun j hj => ?_)
    match j, hj with
    | 0, _ => exact ⟨none, 0, rfl, rb_nil _ _ _, Nat.le_refl _, fun b hb => (by cases hb), Nat.zero_le _⟩
    | 1, _ =>
      refine ⟨X1, c1, ?_, ?_, ?_, Crc.secB_bytes (Crc.chunkOf_bytes exB_bytes 1), ?_⟩
      · show some (Value.slice X1 33 c1) = some (.slice X1 (Crc.secB 3 1 2 (Crc.chunkOf exB 1)).length c1)
        rw [l1]
      · show RB W W.heap.size X1 (Crc.secB 3 1 2 (Crc.chunkOf exB 1)).length (Crc.secB 3 1 2 (Crc.chunkOf exB 1))
        rw [l1]
        exact Reads.more (RB.below Hr1.out ((HT' W).1 hT).1) ((HT' W).1 hT).2
      · show (Crc.secB 3 1 2 (Crc.chunkOf exB 1)).length ≤ c1
        omega
      · show (Crc.secB 3 1 2 (Crc.chunkOf exB 1)).length ≤ 65536
        omega
  have hrs0 : ∀ W, T W → RS (W.alloc (.cells #[.slice X0 57 c0, .slice none 0 0] 22)) (W.heap.size + 1) (some ⟨W.heap.size, 0, none⟩) 2 [Crc.secB 3 0 2 (Crc.chunkOf exB 0), []] := fun W hT => by
    refine rs_alloc W [.slice X0 57 c0, .slice none 0 0] [Crc.secB 3 0 2 (Crc.chunkOf exB 0), []] (fun j hj => ?_)
    match j, hj with
    | 0, _ =>
      refine ⟨X0, c0, ?_, ?_, ?_, Crc.secB_bytes (Crc.chunkOf_bytes exB_bytes 0), ?_⟩
      · show some (Value.slice X0 57 c0) = some (.slice X0 (Crc.secB 3 0 2 (Crc.chunkOf exB 0)).length c0)
        rw [l0]
      · show RB W W.heap.size X0 (Crc.secB 3 0 2 (Crc.chunkOf exB 0)).length (Crc.secB 3 0 2 (Crc.chunkOf exB 0))
        rw [l0]
        exact Reads.more (RB.below Hr0.out ((HT' W).1 hT).1) ((HT' W).1 hT).2
      · show (Crc.secB 3 0 2 (Crc.chunkOf exB 0)).length ≤ c0
        omega
      · show (Crc.secB 3 0 2 (Crc.chunkOf exB 0)).length ≤ 65536
        omega
    | 1, _ => exact ⟨none, 0, rfl, rb_nil _ _ _, Nat.le_refl _, fun b hb => (by cases hb), Nat.zero_le _⟩
  have hup : ∀ {W : World} {n : Nat} {A : Option Addr} {ls : List (List Nat)} (o : Obj), RS W W.heap.size A n ls → RS (W.alloc o) (W.alloc o).heap.size A n ls := fun {W} {n} {A} {ls} o h => by
    have h2 := h.below ((Below.refl _ W).alloc (Nat.le_refl _) o)
    have hsz : W.heap.size ≤ (W.alloc o).heap.size := by simp
    exact ⟨h2.1, h2.2.1, fun z => by
      obtain ⟨ad, e, hlt, hc⟩ := h2.2.2 z
      refine ⟨ad, e, by omega, fun j hj => ?_⟩
      obtain ⟨Y, c, k1, k2, k3⟩ := hc j hj
      exact ⟨Y, c, k1, Reads.more k2 hsz, k3⟩⟩
  have hsz1 : ∀ (W : World) (C : Array Value) (t : TypeId), (W.alloc (.cells C t)).heap.size = W.heap.size + 1 := fun W C t => by simp
  have HG1 : Hid (Calls Try.prog 10 #[.slice (some ⟨w2.heap.size + 1 + 1, 0, none⟩) 2 2, .int .u64 3] (((w2.alloc (.cells #[.slice none 0 0, .slice X1 33 c1] 22)).alloc (.cells #[.slice X0 57 c0, .slice none 0 0] 22)).alloc (.cells #[.slice (some ⟨w2.heap.size, 0, none⟩) 2 2, .slice (some ⟨w2.heap.size + 1, 0, none⟩) 2 2] 25)).drew fun e w' => ∃ X cc, e = .returned (.tuple #[.slice X 40 cc, .int .i64 0]) ∧ RB w' w'.heap.size X 40 exB ∧ T w') := Lib.hid (by
    have a1 := hrs1 w2 HT2.out
    have a1' := hup (.cells #[.slice X0 57 c0, .slice none 0 0] 22) (by rw [hsz1]; exact a1)
    have a0 := hrs0 (w2.alloc (.cells #[.slice none 0 0, .slice X1 33 c1] 22)) (HTa.out _ _ HT2.out)
    rw [hsz1] at a0
    have a2 := rc_two _ _ _ 2 2 2 2 _ _ a1' (by rw [hsz1, hsz1]; exact a0) (by omega) (by omega)
    rw [hsz1, hsz1] at a2
    exact HGa.out _ _ (by rw [show ((((w2.alloc (.cells #[.slice none 0 0, .slice X1 33 c1] 22)).alloc (.cells #[.slice X0 57 c0, .slice none 0 0] 22)).alloc (.cells #[.slice (some ⟨w2.heap.size, 0, none⟩) 2 2, .slice (some ⟨w2.heap.size + 1, 0, none⟩) 2 2] 25)).drew).heap.size = w2.heap.size + 1 + 1 + 1 by simp]; exact a2) (HTd.out _ (HTa.out _ _ (HTa.out _ _ (HTa.out _ _ HT2.out)))).2.2)
  have HG2 : Hid (Calls Try.prog 10 #[.slice (some ⟨w2.heap.size + 1 + 1, 0, none⟩) 2 2, .int .u64 3] (((w2.alloc (.cells #[.slice X0 57 c0, .slice none 0 0] 22)).alloc (.cells #[.slice none 0 0, .slice X1 33 c1] 22)).alloc (.cells #[.slice (some ⟨w2.heap.size + 1, 0, none⟩) 2 2, .slice (some ⟨w2.heap.size, 0, none⟩) 2 2] 25)).drew fun e w' => ∃ X cc, e = .returned (.tuple #[.slice X 40 cc, .int .i64 0]) ∧ RB w' w'.heap.size X 40 exB ∧ T w') := Lib.hid (by
    have a1 := hrs0 w2 HT2.out
    have a1' := hup (.cells #[.slice none 0 0, .slice X1 33 c1] 22) (by rw [hsz1]; exact a1)
    have a0 := hrs1 (w2.alloc (.cells #[.slice X0 57 c0, .slice none 0 0] 22)) (HTa.out _ _ HT2.out)
    rw [hsz1] at a0
    have a2 := rc_two _ _ _ 2 2 2 2 _ _ (by rw [hsz1, hsz1]; exact a0) a1' (by omega) (by omega)
    rw [hsz1, hsz1] at a2
    exact HGa.out _ _ (by rw [show ((((w2.alloc (.cells #[.slice X0 57 c0, .slice none 0 0] 22)).alloc (.cells #[.slice none 0 0, .slice X1 33 c1] 22)).alloc (.cells #[.slice (some ⟨w2.heap.size + 1, 0, none⟩) 2 2, .slice (some ⟨w2.heap.size, 0, none⟩) 2 2] 25)).drew).heap.size = w2.heap.size + 1 + 1 + 1 by simp]; exact a2) (HTd.out _ (HTa.out _ _ (HTa.out _ _ (HTa.out _ _ HT2.out)))).2.2)
  have HFin : Hid (∀ W, T W → Below w.heap.size w W ∧ RB W w1.heap.size (some ⟨w.heap.size, 0, none⟩) 40 exB) := Lib.hid (fun W h => ⟨HB2.out.trans (((HT' W).1 h).1.mono HB2.out.size), HRB2.out.below (((HT' W).1 h).1.mono hz2)⟩)
  clear HT' hrs1 hrs0 hup hsz1 HGa
  go_wp2_with fail
  go_region_held3 (fun W => W.cell? ⟨gl, 0, none⟩ = some (.slice X0 57 c0) ∧ W.cell? ⟨gl, 1, none⟩ = some (.slice X1 33 c1) ∧ T W)
    (with_reducible first | exact HTd.out _ HT2.out | exact HTd.out _ (HTa.out _ _ HT2.out) | exact HTd.out _ (HTa.out _ _ (HTa.out _ _ HT2.out)) | exact HTd.out _ (HTa.out _ _ (HTa.out _ _ (HTa.out _ _ HT2.out))) | exact HL.out _ (by assumption))
    (first
      | (go_at_call 10; (with_reducible first | refine HG1.out.mono ?_ | refine HG2.out.mono ?_); rintro e w4 ⟨X, cc, rfl, hRX, hT4⟩))
  all_goals
    obtain ⟨hBf, hRf⟩ := HFin.out _ hT4
    have HBf := Lib.hid hBf
    have qc1 := run_convert_rb (P := Try.prog) 22 5 9 cc Try.underlying22 Try.underlying5 Try.underlying9 hRX
    have qc2 := run_convert_rb (P := Try.prog) 22 5 9 40 Try.underlying22 Try.underlying5 Try.underlying9 hRf
    clear hBf hRf hRX hT4
    go_wp2
    go_ret
    exact ⟨rfl, HBf.out⟩

end Go.Proofs.Ytijhmopejadpdaa

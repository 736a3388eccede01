/- Walks over both sums of a piece. -/
import Derived.Test.YtejhfollfmdmpaaP1
import Derived.Test.YtejhfollfmdmpaaStep
namespace Go.Proofs.Ytejhfollfmdmpaa
open Go.RowKit

theorem rb_of_blk {w : World} {g t off : Nat} {cs : Array Value} {l : List Nat} (h : Blk w g t cs) (hc : ∀ j, j < l.length → cs[off + j]? = some (bv (l.getD j 0))) : RB w w.heap.size (some ⟨g, off, none⟩) l.length l := by
  refine ⟨by simp, fun _ => ⟨_, rfl, h.lt, fun j u hu => ?_⟩⟩
  have hj : j < l.length := by
    rcases Nat.lt_or_ge j l.length with hlt | hge
    · exact hlt
    · rw [List.getElem?_eq_none (by simpa using hge)] at hu; cases hu
  have e : (⟨g, off, none⟩ : Addr).add j = ⟨g, off + j, none⟩ := by
    unfold Addr.add
    split
    · rename_i h0; rw [h0]; rfl
    · rfl
  rw [e, h.cell, hc j hj, ← hu, List.getElem?_map, List.getElem?_eq_getElem hj, List.getD_eq_getElem?_getD, List.getElem?_eq_getElem hj]
  rfl
def blkCells (x0 x1 x2 x3 x4 x5 x6 x7 : Nat) : Array Value := #[bv x0, bv x1, bv x2, bv x3, bv x4, bv x5, bv x6, bv x7]
theorem blk_rb {w : World} {g t x0 x1 x2 x3 x4 x5 x6 x7 : Nat} (h : Blk w g t (blkCells x0 x1 x2 x3 x4 x5 x6 x7)) : RB w w.heap.size (some ⟨g, 0, none⟩) 8 [x0, x1, x2, x3, x4, x5, x6, x7] :=
  rb_of_blk (off := 0) h fun j hj => by
    simp only [List.length_cons, List.length_nil] at hj
    have : j = 0 ∨ j = 1 ∨ j = 2 ∨ j = 3 ∨ j = 4 ∨ j = 5 ∨ j = 6 ∨ j = 7 := by omega
    rcases this with rfl | rfl | rfl | rfl | rfl | rfl | rfl | rfl <;> rfl
theorem Fill.splice {w' : World} {g N off : Nat} {t : TypeId} {f : Nat → Value} {cs : Array Value} (hs : cs.size = N) (hc : ∀ j, j < off → cs[j]? = some (f j)) (xs : List Value) (hx : ∀ j, j < xs.length → xs[j]? = some (f (off + j))) (hN : off + xs.length ≤ N)
    (h : w'.heap[g]? = some (.cells (Go.splice cs.toList off xs).toArray t (0, 0))) : Fill w' g t N (off + xs.length) f := by
  refine ⟨_, h, ?_, fun j hj => ?_⟩
  · rw [List.size_toArray, length_splice _ _ _ (by simp; omega)]; simpa using hs
  · unfold Go.splice
    rw [List.getElem?_toArray]
    by_cases h1 : j < off
    · rw [List.getElem?_append_left (by simp; omega), List.getElem?_take_of_lt h1]
      simpa using hc j h1
    · rw [List.getElem?_append_right (by simp; omega), List.length_take, Nat.min_eq_left (by simp; omega), List.getElem?_append_left (by omega), hx _ (by omega), show off + (j - off) = j by omega]

set_option maxHeartbeats 800000 in
theorem psum_any (group piece : Int) (ver x0 x1 x2 x3 x4 x5 x6 x7 : Nat) (hx : Crc.Bytes [x0, x1, x2, x3, x4, x5, x6, x7]) (w : World) :
    Calls Try.prog 11 #[.int .i64 group, .int .i64 piece, .int .u64 (ver : Int), .agg #[bv x0, bv x1, bv x2, bv x3, bv x4, bv x5, bv x6, bv x7]] w fun e w' =>
      e = .returned (.int .u64 ((Crc.psum group piece ver [x0, x1, x2, x3, x4, x5, x6, x7] : Nat) : Int)) ∧ Below w.heap.size w w' := by
  obtain ⟨f, hf⟩ : ∃ f : Nat → Value, ∀ j, f j = bv ((Crc.pieceB group piece ver [x0, x1, x2, x3, x4, x5, x6, x7]).getD j 0) := ⟨_, fun _ => rfl⟩
  have hbyte : ∀ n k i, i < k → bv ((Crc.leb k n).getD i 0) = .int .u8 ((n : Int) / 2 ^ (8 * i) % 256) := fun n k i h => by rw [Crc.leb_get k n i h, byte_of]; rfl
  have HF1 : Hid (∀ i, i < 4 → f (0 + i) = .int .u8 (((Crc.u6 group : Nat) : Int) / 2 ^ (8 * i) % 256)) := Lib.hid fun i hi => by
    rw [hf, ← hbyte _ 4 i hi]
    have := Crc.app_get [] (Crc.leb 4 (Crc.u6 group)) (Crc.leb 4 (Crc.u6 piece) ++ Crc.leb 8 ver ++ [x0, x1, x2, x3, x4, x5, x6, x7]) 0 i rfl (by rw [Crc.leb_length]; exact hi)
    simp only [List.nil_append, List.append_assoc] at this
    unfold Crc.pieceB
    simp only [List.append_assoc]
    rw [this]
  have HF2 : Hid (∀ i, i < 4 → f (4 + i) = .int .u8 (((Crc.u6 piece : Nat) : Int) / 2 ^ (8 * i) % 256)) := Lib.hid fun i hi => by
    rw [hf, ← hbyte _ 4 i hi]
    have := Crc.app_get (Crc.leb 4 (Crc.u6 group)) (Crc.leb 4 (Crc.u6 piece)) (Crc.leb 8 ver ++ [x0, x1, x2, x3, x4, x5, x6, x7]) 4 i (Crc.leb_length _ _) (by rw [Crc.leb_length]; exact hi)
    simp only [List.append_assoc] at this
    unfold Crc.pieceB
    simp only [List.append_assoc]
    rw [this]
  have HF3 : Hid (∀ i, i < 8 → f (8 + i) = .int .u8 ((ver : Int) / 2 ^ (8 * i) % 256)) := Lib.hid fun i hi => by
    rw [hf, ← hbyte _ 8 i hi]
    have := Crc.app_get (Crc.leb 4 (Crc.u6 group) ++ Crc.leb 4 (Crc.u6 piece)) (Crc.leb 8 ver) [x0, x1, x2, x3, x4, x5, x6, x7] 8 i (by simp [Crc.leb_length]) (by rw [Crc.leb_length]; exact hi)
    unfold Crc.pieceB
    rw [this]
  have HF4 : Hid (∀ i, i < 8 → some (f (16 + i)) = ([x0, x1, x2, x3, x4, x5, x6, x7].map bv)[i]?) := Lib.hid fun i hi => by
    rw [hf]
    have := Crc.app_get (Crc.leb 4 (Crc.u6 group) ++ Crc.leb 4 (Crc.u6 piece) ++ Crc.leb 8 ver) [x0, x1, x2, x3, x4, x5, x6, x7] [] 16 i (by simp [Crc.leb_length]) hi
    rw [List.append_nil] at this
    unfold Crc.pieceB
    rw [this, List.getElem?_map, List.getElem?_eq_getElem hi, List.getD_eq_getElem?_getD, List.getElem?_eq_getElem hi]
    rfl
  have HFd := Lib.hid hf
  have HX := Lib.hid hx
  have hw1 := Crc.u6_wrap group
  have hw2 := Crc.u6_wrap piece
  have hD0 : Blk (w.alloc (.cells #[bv x0, bv x1, bv x2, bv x3, bv x4, bv x5, bv x6, bv x7] 24)) w.heap.size 24 (blkCells x0 x1 x2 x3 x4 x5 x6 x7) := Blk.new _ _ _
  obtain ⟨w0, hw0⟩ : ∃ w0, w0 = w.alloc (.cells #[bv x0, bv x1, bv x2, bv x3, bv x4, bv x5, bv x6, bv x7] 24) := ⟨_, rfl⟩
  rw [← hw0] at hD0
  have hB0 : Below w.heap.size w w0 := by rw [hw0]; exact (Below.refl _ _).alloc (Nat.le_refl _) _
  have hz0 : w.heap.size + 1 = w0.heap.size := by rw [hw0]; simp
  have HD0 := Lib.hid hD0
  have HB0 := Lib.hid hB0
  have Hw0 := Lib.hid hw0
  clear hD0 hB0 hw0 hf hx hbyte
  go_enter Try.func11, Try.ntmps11
  go_wp2_with fail
  rw [← Hw0.out]
  have HA0 := Lib.hid (Fill.start w0 52 #[.int .u8 0, .int .u8 0, .int .u8 0, .int .u8 0, .int .u8 0, .int .u8 0, .int .u8 0, .int .u8 0, .int .u8 0, .int .u8 0, .int .u8 0, .int .u8 0, .int .u8 0, .int .u8 0, .int .u8 0, .int .u8 0, .int .u8 0, .int .u8 0, .int .u8 0, .int .u8 0, .int .u8 0, .int .u8 0, .int .u8 0, .int .u8 0] 24 f rfl)
  refine (put_fill w0.heap.size 24 0 4 24 52 f (Crc.u6 group) HF1.out (by omega) (by omega) _ HA0.out).mono ?_
  rintro e w1 ⟨rfl, hF, hB⟩
  have hl0 : w0.heap.size < (w0.alloc (.cells #[.int .u8 0, .int .u8 0, .int .u8 0, .int .u8 0, .int .u8 0, .int .u8 0, .int .u8 0, .int .u8 0, .int .u8 0, .int .u8 0, .int .u8 0, .int .u8 0, .int .u8 0, .int .u8 0, .int .u8 0, .int .u8 0, .int .u8 0, .int .u8 0, .int .u8 0, .int .u8 0, .int .u8 0, .int .u8 0, .int .u8 0, .int .u8 0] 52)).heap.size := by simp
  have HF1 := Lib.hid hF
  have HD1 := Lib.hid ((HD0.out.alloc (.cells #[.int .u8 0, .int .u8 0, .int .u8 0, .int .u8 0, .int .u8 0, .int .u8 0, .int .u8 0, .int .u8 0, .int .u8 0, .int .u8 0, .int .u8 0, .int .u8 0, .int .u8 0, .int .u8 0, .int .u8 0, .int .u8 0, .int .u8 0, .int .u8 0, .int .u8 0, .int .u8 0, .int .u8 0, .int .u8 0, .int .u8 0, .int .u8 0] 52)).below hB (by omega))
  have HB1 := Lib.hid ((HB0.out.alloc (by omega) (.cells #[.int .u8 0, .int .u8 0, .int .u8 0, .int .u8 0, .int .u8 0, .int .u8 0, .int .u8 0, .int .u8 0, .int .u8 0, .int .u8 0, .int .u8 0, .int .u8 0, .int .u8 0, .int .u8 0, .int .u8 0, .int .u8 0, .int .u8 0, .int .u8 0, .int .u8 0, .int .u8 0, .int .u8 0, .int .u8 0, .int .u8 0, .int .u8 0] 52)).trans (hB.mono (by omega)))
  clear hF hB hl0
  go_wp2_with fail
  refine (put_fill w0.heap.size 24 4 4 20 52 f (Crc.u6 piece) HF2.out (by omega) (by omega) _ HF1.out).mono ?_
  rintro e w2 ⟨rfl, hF, hB⟩
  have HF2 := Lib.hid hF
  have HD2 := Lib.hid (HD1.out.below hB (by omega))
  have HB2 := Lib.hid (HB1.out.trans (hB.mono (by omega)))
  clear hF hB
  go_wp2_with fail
  refine (put_fill w0.heap.size 24 8 8 16 52 f ver HF3.out (by omega) (by omega) _ HF2.out).mono ?_
  rintro e w3 ⟨rfl, hF, hB⟩
  have HF3 := Lib.hid hF
  have HD3 := Lib.hid (HD2.out.below hB (by omega))
  have HB3 := Lib.hid (HB2.out.trans (hB.mono (by omega)))
  clear hF hB
  go_wp2_with fail
  refine wp_region_still_tail 2 (by kernel_rfl) (by kernel_rfl) ?_
  simp only [List.take_succ_cons, List.take_zero, List.drop_succ_cons, List.drop_zero]
  change wpStill _ _ w3.drew _ _ _
  repeat still_step
  refine wpStill_nil ?_
  change wpList _ _ _ _ _ w3.drew
  obtain ⟨cs, hb, hs, hc⟩ := HF3.out
  have HC := Lib.hid hc
  have HS := Lib.hid hs
  clear hc hs
  refine wpList_copy_splice rfl (.tmp 21) (.tmp 22) _ _ rfl 5 Try.underlying54 (by kernel_rfl) _ _ 8 8 8 8 rfl rfl w0.heap.size 16 cs.toList 52 (by rw [Array.toArray_toList]; exact hb) ([x0, x1, x2, x3, x4, x5, x6, x7].map bv) rfl
    (fun _ => ⟨rfl, _, rfl, ?_⟩) (by simp; have := HS.out; omega) (by intro v hv; obtain ⟨b, _, rfl⟩ := List.mem_map.1 hv; rfl) w0.heap.size w3.drew (Below.refl _ _) (Nat.le_refl _) ?_
  · intro j v hv
    obtain ⟨ad, e, _, h⟩ := (blk_rb HD3.out).2 (by omega)
    injection e with e
    subst e
    exact h j v hv
  · intro w4 hh hB
    have hF : Fill w4 w0.heap.size 52 24 (16 + 8) f := Fill.splice HS.out HC.out ([x0, x1, x2, x3, x4, x5, x6, x7].map bv) (fun j hj => (HF4.out j (by simpa using hj)).symm) (by simp) hh.out
    have HR := Lib.hid (Fill.rb (hF.congr (f' := fun j => bv ((Crc.pieceB group piece ver [x0, x1, x2, x3, x4, x5, x6, x7]).getD j 0)) (fun j _ => HFd.out j)) (Crc.pieceB_length rfl))
    have HB4 := Lib.hid (HB3.out.drew.trans (hB.mono (by omega)))
    clear hh hB hF
    go_wp2_with fail
    refine (sum_any _ (Crc.pieceB_bytes HX.out) _ _ _ _ _ HR.out (by unfold maxLen; omega)).mono ?_
    rintro e w' ⟨rfl, rfl⟩
    go_wp2
    go_ret
    exact ⟨rfl, HB4.out⟩

set_option maxHeartbeats 800000 in
theorem rpsum_any (group piece : Int) (ver x0 x1 x2 x3 x4 x5 x6 x7 : Nat) (hx : Crc.Bytes [x0, x1, x2, x3, x4, x5, x6, x7]) (w : World) :
    Calls Try.prog 12 #[.int .i64 group, .int .i64 piece, .int .u64 (ver : Int), .agg #[bv x0, bv x1, bv x2, bv x3, bv x4, bv x5, bv x6, bv x7]] w fun e w' =>
      e = .returned (.int .u64 ((Crc.psum group piece ver [x0, x1, x2, x3, x4, x5, x6, x7] : Nat) : Int)) ∧ Below w.heap.size w w' := by
  obtain ⟨i0, hi0, hz0, hz1, hz2⟩ := info_parts byteInfo
  have HX := Lib.hid hx
  have hw1 := Crc.u6_wrap group
  have hw2 := Crc.u6_wrap piece
  obtain ⟨w0, hw0⟩ : ∃ w0, w0 = w.alloc (.cells #[bv x0, bv x1, bv x2, bv x3, bv x4, bv x5, bv x6, bv x7] 24) := ⟨_, rfl⟩
  have HD0 : Hid (Blk w0 w.heap.size 24 (blkCells x0 x1 x2 x3 x4 x5 x6 x7)) := Lib.hid (by rw [hw0]; exact Blk.new _ _ _)
  have HB0 : Hid (Below w.heap.size w w0) := Lib.hid (by rw [hw0]; exact (Below.refl _ _).alloc (Nat.le_refl _) _)
  have hz0' : w.heap.size < w0.heap.size := HD0.out.lt
  have Hw0 := Lib.hid hw0
  clear hw0 hx
  go_enter Try.func12, Try.ntmps12
  go_wp2_with fail
  rw [← Hw0.out]
  refine (rput_any [] 0 0 0 none (Crc.u6 group) 4 (by omega) (by omega) w0 (rb_nil _ _ _) (Nat.zero_le _) (by omega)).mono ?_
  rintro e w1 ⟨v1, rfl, hO, hB⟩
  obtain ⟨A1, c1, rfl, hr1, _, _⟩ := hO.form' (n := 4) (by simp [Crc.leb_length])
  have HR1 := Lib.hid hr1
  have HD1 := Lib.hid (HD0.out.below hB hz0')
  have HB1 := Lib.hid (HB0.out.trans (hB.mono (by omega)))
  have hz1' : w.heap.size < w1.heap.size := HD1.out.lt
  clear hO hB hr1
  go_wp2_with fail
  refine (rput_any _ _ 4 c1 A1 (Crc.u6 piece) 4 (by omega) (by omega) w1 HR1.out (Nat.le_refl _) (by omega)).mono ?_
  rintro e w2 ⟨v2, rfl, hO, hB⟩
  obtain ⟨A2, c2, rfl, hr2, _, _⟩ := hO.form' (n := 8) (by simp [Crc.leb_length])
  have HR2 := Lib.hid hr2
  have HD2 := Lib.hid (HD1.out.below hB hz1')
  have HB2 := Lib.hid (HB1.out.trans (hB.mono (by omega)))
  have hz2' : w.heap.size < w2.heap.size := HD2.out.lt
  clear hO hB hr2
  go_wp2_with fail
  obtain ⟨St, HSt⟩ : ∃ St : World → Prop, ∀ W, St W ↔ (Blk W w.heap.size 24 (blkCells x0 x1 x2 x3 x4 x5 x6 x7) ∧ Below w.heap.size w W ∧ RB W w2.heap.size A2 8 ([] ++ Crc.leb (4 : Int).toNat (Crc.u6 group) ++ Crc.leb (4 : Int).toNat (Crc.u6 piece)) ∧ w2.heap.size ≤ W.heap.size) := ⟨_, fun _ => Iff.rfl⟩
  have HP : Hid (∀ W, St W → Calls Try.prog 28 #[.slice A2 8 c2, .int .u64 (ver : Int), .int .i64 8] W fun e w3 => ∃ v3, e = .returned v3 ∧ OB w3 w2.heap.size 5 v3 ([] ++ Crc.leb (4 : Int).toNat (Crc.u6 group) ++ Crc.leb (4 : Int).toNat (Crc.u6 piece) ++ Crc.leb (8 : Int).toNat ver) ∧ St w3) := Lib.hid (by
    intro W h
    obtain ⟨h1, h2, h3, h4⟩ := (HSt W).1 h
    refine (rput_any _ _ 8 c2 A2 ver 8 (by omega) (by omega) W h3 h4 (by omega)).mono ?_
    rintro e w3 ⟨v3, rfl, hO, hb⟩
    exact ⟨v3, rfl, hO.le h4, (HSt w3).2 ⟨h1.below hb h1.lt, h2.trans (hb.mono h2.size), h3.below (hb.mono h4), Nat.le_trans h4 hb.size⟩⟩)
  have hS2 : St w2.drew := (HSt _).2 ⟨HD2.out, HB2.out.drew, HR2.out.drew, Nat.le_refl _⟩
  have HS := Lib.hid HSt
  have HS2 := Lib.hid hS2
  have hL : ([] ++ Crc.leb (4 : Int).toNat (Crc.u6 group) ++ Crc.leb (4 : Int).toNat (Crc.u6 piece) ++ Crc.leb (8 : Int).toNat ver).length = 16 := by simp [Crc.leb_length]
  have HL := Lib.hid hL
  clear HSt hS2 hL
  go_region_held3 (fun _ => True) (exact trivial)
    (first
      | (go_at_call 28; (with_reducible refine (HP.out _ HS2.out).mono ?_); rintro e w3 ⟨v3, rfl, hO, hS⟩; have HS3 := Lib.hid hS; have HO3 := Lib.hid hO; clear hO hS)
      | (refine step_append_rb rfl (.tmp 18) (.tmp 19) _ rfl w2.heap.size 5 i0 Try.underlying54 hi0 hz0 hz1 hz2 v3 ([] ++ Crc.leb (4 : Int).toNat (Crc.u6 group) ++ Crc.leb (4 : Int).toNat (Crc.u6 piece) ++ Crc.leb (8 : Int).toNat ver) rfl HO3.out _ _ 8 8 [x0, x1, x2, x3, x4, x5, x6, x7] rfl (blk_rb ((HS.out w3).1 HS3.out).1) (by rw [HL.out]; omega) ((HS.out w3).1 HS3.out).2.2.2 ?_; intro v4 w4 hO hg hat; have hb : Below w2.heap.size w3 w4 := below_grown HO3.out hg (Nat.le_refl _) ((HS.out w3).1 HS3.out).2.2.2; clear hg hat; obtain ⟨A4, c4, rfl, hr4, _, _⟩ := hO.form' (n := 24) (by rw [List.length_append, HL.out]; rfl); have HR4 := Lib.hid hr4; have HB4 := Lib.hid (((HS.out w3).1 HS3.out).2.1.trans (hb.mono (by omega))); clear hO hb hr4)
      | (go_at_call 29; (with_reducible refine (rsum_any _ (Crc.pieceB_bytes (group := group) (piece := piece) (ver := ver) HX.out) _ _ _ _ _ HR4.out (by unfold maxLen; omega)).mono ?_); rintro e w' ⟨rfl, rfl⟩))
  go_wp2
  go_ret
  exact ⟨rfl, HB4.out⟩

end Go.Proofs.Ytejhfollfmdmpaa

/- Walks over both encodings of an entry. -/
import Derived.Test.YtibmigeikkmofaaE2
import Derived.Test.YtibmigeikkmofaaEnt
namespace Go.Proofs.Ytibmigeikkmofaa
open Go.RowKit

theorem rb_of_blk {w : World} {g t off : Nat} {cs : Array Value} {l : List Nat} (h : Blk w g t cs) (hc : ∀ j, j < l.length → cs[off + j]? = some (bv (l.getD j 0))) : RB w w.heap.size (some ⟨g, off, none⟩) l.length l := by
  refine ⟨by simp, fun _ => ⟨_, rfl, h.lt, fun j u hu => ?_⟩⟩
  have hj : j < l.length := by
    rcases Nat.lt_or_ge j l.length with hlt | hge
    · exact hlt
    · rw [List.getElem?_eq_none (by simpa using hge)] at hu; cases hu
  have e : (⟨g, off, none⟩ : Addr).add j = ⟨g, off + j, none⟩ := by
    unfold Addr.add
    split
    · rename_i h0; rw [h0]; rfl
    · rfl
  rw [e, h.cell, hc j hj, ← hu, List.getElem?_map, List.getElem?_eq_getElem hj, List.getD_eq_getElem?_getD, List.getElem?_eq_getElem hj]
  rfl
/-- Block g holds an entry. -/
def entCells (kd bl : Int) (ver x0 x1 x2 x3 x4 x5 x6 x7 : Nat) : Array Value := #[.int .i64 kd, .int .i64 bl, .int .u64 (ver : Int), bv x0, bv x1, bv x2, bv x3, bv x4, bv x5, bv x6, bv x7]
theorem ent_rb {w : World} {g : Nat} {kd bl : Int} {ver x0 x1 x2 x3 x4 x5 x6 x7 : Nat} (h : Blk w g 26 (entCells kd bl ver x0 x1 x2 x3 x4 x5 x6 x7)) : RB w w.heap.size (some ⟨g, 3, none⟩) 8 [x0, x1, x2, x3, x4, x5, x6, x7] :=
  rb_of_blk (off := 3) h fun j hj => by
    simp only [List.length_cons, List.length_nil] at hj
    have : j = 0 ∨ j = 1 ∨ j = 2 ∨ j = 3 ∨ j = 4 ∨ j = 5 ∨ j = 6 ∨ j = 7 := by omega
    rcases this with rfl | rfl | rfl | rfl | rfl | rfl | rfl | rfl <;> rfl

set_option maxHeartbeats 1000000 in
theorem encode_yes (k b ver x0 x1 x2 x3 x4 x5 x6 x7 time : Nat) (hk : k < 256) (hb : b < 65536) (hx : Crc.Bytes [x0, x1, x2, x3, x4, x5, x6, x7])
    (hv : validB (k : Int) (b : Int) ver [x0, x1, x2, x3, x4, x5, x6, x7] = true) (w : World) :
    Calls Try.prog 9 #[.agg #[.int .i64 (k : Int), .int .i64 (b : Int), .int .u64 (ver : Int), bv x0, bv x1, bv x2, bv x3, bv x4, bv x5, bv x6, bv x7], .int .u64 (time : Int)] w fun e w' =>
      ∃ v, e = .returned (.tuple #[v, .int .i64 0]) ∧ OB w' w.heap.size 5 v (Crc.encB k b ver [x0, x1, x2, x3, x4, x5, x6, x7] time) ∧ Below w.heap.size w w' := by
  obtain ⟨i0, hi0, hz0, hz1, hz2⟩ := info_parts byteInfo
  have HV := Lib.hid hv
  have HX := Lib.hid hx
  clear hv hx
  go_enter Try.func9, Try.ntmps9
  go_wp2_with fail
  refine (valid_any (k : Int) (b : Int) ver x0 x1 x2 x3 x4 x5 x6 x7 _).mono ?_
  rintro e w1 ⟨rfl, hb1⟩
  rw [HV.out]
  have hE1 : Blk w1 w.heap.size 26 (entCells k b ver x0 x1 x2 x3 x4 x5 x6 x7) := (Blk.new w 26 (entCells k b ver x0 x1 x2 x3 x4 x5 x6 x7)).below hb1 (by simp)
  have HB1 := Lib.hid (((Below.refl _ w).alloc (Nat.le_refl _) (.cells (entCells k b ver x0 x1 x2 x3 x4 x5 x6 x7) 26)).trans (hb1.mono (by simp)))
  have HBase : w.heap.size + 1 ≤ w1.heap.size := by have := hb1.size; simpa using this
  have c0 : w1.cell? ⟨w.heap.size, 0, none⟩ = some (.int .i64 (k : Int)) := hE1.cell 0
  have HE1 := Lib.hid hE1
  clear hE1 hb1
  go_wp2_with fail
  refine (put_any (w.heap.size + 1) _ [] k _ (by omega) (by omega) _ (ob_nil _ _ _) (by simp) HBase).mono ?_
  rintro e w2 ⟨v2, rfl, hO, hb⟩
  have HO2 := Lib.hid hO
  have HB2 := Lib.hid (HB1.out.trans (hb.mono (by simp)))
  have HE2 := Lib.hid (HE1.out.below hb (by simp))
  have HBase2 : w.heap.size + 1 ≤ w2.heap.size := by have := hb.size; omega
  have c2 : w2.cell? ⟨w.heap.size, 1, none⟩ = some (.int .i64 (b : Int)) := HE2.out.cell 1
  clear hO hb c0
  go_wp2_with fail
  refine (put_any (w.heap.size + 1) _ ([] ++ Crc.leb (1 : Int).toNat k) b _ (by omega) (by omega) _ HO2.out (by simp [Crc.leb_length]) HBase2).mono ?_
  rintro e w3 ⟨v3, rfl, hO, hb⟩
  have HO3 := Lib.hid hO
  have HB3 := Lib.hid (HB2.out.trans (hb.mono (by simp)))
  have HE3 := Lib.hid (HE2.out.below hb (by simp))
  have HBase3 : w.heap.size + 1 ≤ w3.heap.size := by have := hb.size; omega
  have c3 : w3.cell? ⟨w.heap.size, 2, none⟩ = some (.int .u64 (ver : Int)) := HE3.out.cell 2
  clear hO hb c2
  go_wp2_with fail
  refine (put_any (w.heap.size + 1) _ ([] ++ Crc.leb (1 : Int).toNat k ++ Crc.leb (4 : Int).toNat b) ver _ (by omega) (by omega) _ HO3.out (by simp [Crc.leb_length]) HBase3).mono ?_
  rintro e w4 ⟨v4, rfl, hO, hb⟩
  have HO4 := Lib.hid hO
  have HB4 := Lib.hid (HB3.out.trans (hb.mono (by simp)))
  have HE4 := Lib.hid (HE3.out.below hb (by simp))
  have HBase4 : w.heap.size + 1 ≤ w4.heap.size := by have := hb.size; omega
  clear hO hb c3
  have HX4 := Lib.hid (ent_rb HE4.out)
  go_wp2_with (at_builtin; refine wpList_append_rb _ rfl (.tmp 23) (.tmp 25) _ rfl (w.heap.size + 1) 5 i0 Try.underlying27 hi0 hz0 hz1 hz2 v4 ([] ++ Crc.leb (1 : Int).toNat k ++ Crc.leb (4 : Int).toNat b ++ Crc.leb (8 : Int).toNat ver) rfl HO4.out _ _ 8 8 [x0, x1, x2, x3, x4, x5, x6, x7] rfl HX4.out (by simp [Crc.leb_length]) HBase4 ?_; intro v5 w5 hO hg hat; have hb : Below (w.heap.size + 1) w4 w5 := below_grown HO4.out hg (Nat.le_refl _) HBase4; clear hg hat; have HO5 := Lib.hid hO; have HB5 := Lib.hid (HB4.out.trans (hb.mono (by simp))); have HBase5 : w.heap.size + 1 ≤ w5.heap.size := (by have := hb.size; omega); clear hO hb)
  refine (put_any (w.heap.size + 1) _ (([] ++ Crc.leb (1 : Int).toNat k ++ Crc.leb (4 : Int).toNat b ++ Crc.leb (8 : Int).toNat ver) ++ [x0, x1, x2, x3, x4, x5, x6, x7]) time _ (by omega) (by omega) _ HO5.out (by simp [Crc.leb_length]) HBase5).mono ?_
  rintro e w6 ⟨v6, rfl, hO, hb⟩
  have hlist : ([] ++ Crc.leb (1 : Int).toNat k ++ Crc.leb (4 : Int).toNat b ++ Crc.leb (8 : Int).toNat ver) ++ [x0, x1, x2, x3, x4, x5, x6, x7] ++ Crc.leb (8 : Int).toNat time = Crc.bodyB k b ver [x0, x1, x2, x3, x4, x5, x6, x7] time := rfl
  rw [hlist] at hO
  obtain ⟨A6, c6, rfl, hr6, _, _⟩ := hO.form' (Crc.bodyB_length rfl)
  have HO6 := Lib.hid hO
  have HR6 := Lib.hid hr6
  have HB6 := Lib.hid (HB5.out.trans (hb.mono (by simp)))
  have HBase6 : w.heap.size + 1 ≤ w6.heap.size := by have := hb.size; omega
  clear hO hb hr6 hlist
  go_wp2_with fail
  refine (sum_any _ (Crc.bodyB_bytes HX.out) _ _ _ _ _ HR6.out (by unfold maxLen; omega)).mono ?_
  rintro e w' ⟨rfl, rfl⟩
  go_wp2_with fail
  refine (put_any (w.heap.size + 1) _ (Crc.bodyB k b ver [x0, x1, x2, x3, x4, x5, x6, x7] time) _ _ (by omega) (by omega) _ HO6.out (by rw [Crc.bodyB_length rfl]; omega) HBase6).mono ?_
  rintro e w7 ⟨v7, rfl, hO, hb⟩
  have HO7 := Lib.hid hO
  have HB7 := Lib.hid (HB6.out.trans (hb.mono (by simp)))
  clear hO hb
  go_wp2_with fail
  go_ret2
  exact ⟨v7, rfl, HO7.out.le (by simp), HB7.out⟩

set_option maxHeartbeats 400000 in
theorem encode_no (kd bl : Int) (ver x0 x1 x2 x3 x4 x5 x6 x7 time : Nat) (hv : validB kd bl ver [x0, x1, x2, x3, x4, x5, x6, x7] = false) (w : World) :
    Calls Try.prog 9 #[.agg #[.int .i64 kd, .int .i64 bl, .int .u64 (ver : Int), bv x0, bv x1, bv x2, bv x3, bv x4, bv x5, bv x6, bv x7], .int .u64 (time : Int)] w fun e w' =>
      e = .returned (.tuple #[.slice none 0 0, .int .i64 1]) ∧ Below w.heap.size w w' := by
  have HV := Lib.hid hv
  clear hv
  go_enter Try.func9, Try.ntmps9
  go_wp2_with fail
  refine (valid_any kd bl ver x0 x1 x2 x3 x4 x5 x6 x7 _).mono ?_
  rintro e w1 ⟨rfl, hb1⟩
  rw [HV.out]
  have HB1 := Lib.hid (((Below.refl _ w).alloc (Nat.le_refl _) (.cells #[.int .i64 kd, .int .i64 bl, .int .u64 (ver : Int), bv x0, bv x1, bv x2, bv x3, bv x4, bv x5, bv x6, bv x7] 26)).trans (hb1.mono (by simp)))
  clear hb1
  go_wp2_with fail
  go_ret2
  exact ⟨rfl, HB1.out⟩

set_option maxHeartbeats 400000 in
theorem rencode_no (kd bl : Int) (ver x0 x1 x2 x3 x4 x5 x6 x7 time : Nat) (hv : validB kd bl ver [x0, x1, x2, x3, x4, x5, x6, x7] = false) (w : World) :
    Calls Try.prog 10 #[.agg #[.int .i64 kd, .int .i64 bl, .int .u64 (ver : Int), bv x0, bv x1, bv x2, bv x3, bv x4, bv x5, bv x6, bv x7], .int .u64 (time : Int)] w fun e w' =>
      e = .returned (.tuple #[.slice none 0 0, .int .i64 1]) ∧ Below w.heap.size w w' := by
  have HV := Lib.hid hv
  clear hv
  go_enter Try.func10, Try.ntmps10
  go_wp2_with fail
  refine (rvalid_any kd bl ver x0 x1 x2 x3 x4 x5 x6 x7 _).mono ?_
  rintro e w1 ⟨rfl, hb1⟩
  rw [HV.out]
  have HB1 := Lib.hid (((Below.refl _ w).alloc (Nat.le_refl _) (.cells #[.int .i64 kd, .int .i64 bl, .int .u64 (ver : Int), bv x0, bv x1, bv x2, bv x3, bv x4, bv x5, bv x6, bv x7] 26)).trans (hb1.mono (by simp)))
  clear hb1
  go_wp2_with fail
  go_ret2
  exact ⟨rfl, HB1.out⟩

end Go.Proofs.Ytibmigeikkmofaa

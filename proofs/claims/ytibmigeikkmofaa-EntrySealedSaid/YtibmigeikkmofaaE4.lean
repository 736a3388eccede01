/- The walk over the reference's encoding of a valid entry. -/
import Derived.Test.YtibmigeikkmofaaE3
namespace Go.Proofs.Ytibmigeikkmofaa
open Go.RowKit

set_option maxHeartbeats 200000 in
theorem rencode_yes (k b ver x0 x1 x2 x3 x4 x5 x6 x7 time : Nat) (hk : k < 256) (hb : b < 65536) (hx : Crc.Bytes [x0, x1, x2, x3, x4, x5, x6, x7])
    (hv : validB (k : Int) (b : Int) ver [x0, x1, x2, x3, x4, x5, x6, x7] = true) (w : World) :
    Calls Try.prog 10 #[.agg #[.int .i64 (k : Int), .int .i64 (b : Int), .int .u64 (ver : Int), bv x0, bv x1, bv x2, bv x3, bv x4, bv x5, bv x6, bv x7], .int .u64 (time : Int)] w fun e w' =>
      ∃ v, e = .returned (.tuple #[v, .int .i64 0]) ∧ OB w' w.heap.size 5 v (Crc.encB k b ver [x0, x1, x2, x3, x4, x5, x6, x7] time) ∧ Below w.heap.size w w' := by
  obtain ⟨i0, hi0, hz0, hz1, hz2⟩ := info_parts byteInfo
  have HV := Lib.hid hv
  have HX := Lib.hid hx
  clear hv hx
  go_enter Try.func10, Try.ntmps10
  go_wp2_with fail
  refine (rvalid_any (k : Int) (b : Int) ver x0 x1 x2 x3 x4 x5 x6 x7 _).mono ?_
  rintro e w1 ⟨rfl, hb1⟩
  rw [HV.out]
  have hE1 : Blk w1 w.heap.size 26 (entCells k b ver x0 x1 x2 x3 x4 x5 x6 x7) := (Blk.new w 26 (entCells k b ver x0 x1 x2 x3 x4 x5 x6 x7)).below hb1 (by simp)
  have HB1 := Lib.hid (((Below.refl _ w).alloc (Nat.le_refl _) (.cells (entCells k b ver x0 x1 x2 x3 x4 x5 x6 x7) 26)).trans (hb1.mono (by simp)))
  have HBase : w.heap.size + 1 ≤ w1.heap.size := by have := hb1.size; simpa using this
  have c0 : w1.cell? ⟨w.heap.size, 0, none⟩ = some (.int .i64 (k : Int)) := hE1.cell 0
  have c1 : w1.cell? ⟨w.heap.size, 1, none⟩ = some (.int .i64 (b : Int)) := hE1.cell 1
  have c2 : w1.cell? ⟨w.heap.size, 2, none⟩ = some (.int .u64 (ver : Int)) := hE1.cell 2
  have n0 := World.new_ne w1 _ c0
  have n1 := World.new_ne w1 _ c1
  have n2 := World.new_ne w1 _ c2
  have HE1 := Lib.hid hE1
  clear hE1 hb1
  go_wp2_with fail
  have hw8 : IntKind.u8.wrap (k : Int) = (k : Int) := IntWalk.u8_in _ (by omega)
  have hw64 : IntKind.u64.wrap (b : Int) = (b : Int) := IntWalk.u64_in _ (by omega)
  have hsz : (w1.alloc (.cells #[.int .u8 (k : Int)] 5)).drew.heap.size = w1.heap.size + 1 := by simp
  have hput := rput_any [k] (w1.heap.size + 1) 1 1 (some ⟨w1.heap.size, 0, none⟩) b 4 (by omega) (by omega) ((w1.alloc (.cells #[.int .u8 (k : Int)] 5)).drew) (RB.drew (rb_alloc w1 #[.int .u8 (k : Int)] 5 (0, 0) [k] rfl)) (by rw [hsz]; exact Nat.le_refl _) (by omega)
  rw [hsz] at hput
  obtain ⟨St, HSt⟩ : ∃ St : World → Prop, ∀ W, St W ↔ (Blk W w.heap.size 26 (entCells k b ver x0 x1 x2 x3 x4 x5 x6 x7) ∧ Below w.heap.size w W ∧ w.heap.size + 1 ≤ W.heap.size) := ⟨_, fun _ => Iff.rfl⟩
  have HP1 : Hid (Calls Try.prog 19 #[.slice (some ⟨w1.heap.size, 0, none⟩) 1 1, .int .u64 (b : Int), .int .i64 4] ((w1.alloc (.cells #[.int .u8 (k : Int)] 5)).drew) fun e w2 => ∃ A2 d2, e = .returned (.slice A2 5 d2) ∧ St w2 ∧ RB w2 w2.heap.size A2 5 ([k] ++ Crc.leb (4 : Int).toNat b)) := Lib.hid (by
    refine hput.mono ?_
    rintro e w2 ⟨v2, rfl, hO, hb2⟩
    obtain ⟨A2, d2, rfl, hr2, _, _⟩ := hO.form' (n := 5) (by simp [Crc.leb_length])
    refine ⟨A2, d2, rfl, (HSt w2).2 ⟨(HE1.out.alloc (.cells #[.int .u8 (k : Int)] 5)).drew.below hb2 (by omega), HB1.out.trans ((((Below.refl _ w1).alloc (Nat.le_refl _) (.cells #[.int .u8 (k : Int)] 5)).drew.trans (hb2.mono (by omega))).mono (by omega)), ?_⟩, hr2⟩
    have := hb2.size
    simp at this
    omega)
  have HP2 : Hid (∀ (W : World) (A : Option Addr) (c : Nat), St W → RB W W.heap.size A 5 ([k] ++ Crc.leb (4 : Int).toNat b) → Calls Try.prog 19 #[.slice A 5 c, .int .u64 (ver : Int), .int .i64 8] W fun e w3 => ∃ v3, e = .returned v3 ∧ OB w3 (w.heap.size + 1) 5 v3 ([k] ++ Crc.leb (4 : Int).toNat b ++ Crc.leb (8 : Int).toNat ver) ∧ St w3) :=
    Lib.hid (by
      intro W A c hS hr
      refine (rput_any _ _ 5 c A ver 8 (by omega) (by omega) W hr (Nat.le_refl _) (by omega)).mono ?_
      rintro e w3 ⟨v3, rfl, hO, hb3⟩
      obtain ⟨hE, hB, hz⟩ := (HSt W).1 hS
      refine ⟨v3, rfl, hO.le hz, (HSt w3).2 ⟨hE.below hb3 (by omega), hB.trans (hb3.mono (by omega)), ?_⟩⟩
      have := hb3.size
      omega)
  have HSc := Lib.hid HSt
  clear hsz hput HSt
  have hw8 : IntKind.u8.wrap (k : Int) = (k : Int) := IntWalk.u8_in _ (by omega)
  have hw64 : IntKind.u64.wrap (b : Int) = (b : Int) := IntWalk.u64_in _ (by omega)
  go_region_held3 (fun W => W.cell? ⟨w.heap.size, 0, none⟩ = some (.int .i64 (k : Int)) ∧ W.cell? ⟨w.heap.size, 1, none⟩ = some (.int .i64 (b : Int)) ∧ W.cell? ⟨w.heap.size, 2, none⟩ = some (.int .u64 (ver : Int))) (go_keep)
    (first
      | (go_at_call 19; (with_reducible refine HP1.out.mono ?_); rintro e w2 ⟨A2, d2, rfl, hS, hr⟩; have c0' : w2.cell? ⟨w.heap.size, 0, none⟩ = some (.int .i64 (k : Int)) := ((HSc.out w2).1 hS).1.cell 0; have c1' : w2.cell? ⟨w.heap.size, 1, none⟩ = some (.int .i64 (b : Int)) := ((HSc.out w2).1 hS).1.cell 1; have c2' : w2.cell? ⟨w.heap.size, 2, none⟩ = some (.int .u64 (ver : Int)) := ((HSc.out w2).1 hS).1.cell 2; have HS2 := Lib.hid hS; have HR2 := Lib.hid hr; clear hS hr)
      | (go_at_call 19; (with_reducible refine (HP2.out _ _ _ HS2.out HR2.out).mono ?_); rintro e w3 ⟨v3, rfl, hO, hS⟩; have c0'' : w3.cell? ⟨w.heap.size, 0, none⟩ = some (.int .i64 (k : Int)) := ((HSc.out w3).1 hS).1.cell 0; have c1'' : w3.cell? ⟨w.heap.size, 1, none⟩ = some (.int .i64 (b : Int)) := ((HSc.out w3).1 hS).1.cell 1; have c2'' : w3.cell? ⟨w.heap.size, 2, none⟩ = some (.int .u64 (ver : Int)) := ((HSc.out w3).1 hS).1.cell 2; have HS3 := Lib.hid hS; have HO3 := Lib.hid hO; clear hO hS))
  obtain ⟨hE3, hB3, hz3⟩ := (HSc.out w3).1 HS3.out
  have HE3 := Lib.hid (ent_rb hE3)
  have HB3 := Lib.hid hB3
  clear hE3 hB3 c0 c1 c2 c0' c1' c2' c0'' c1'' c2'' n0 n1 n2 hw8 hw64
  go_wp2_with (at_builtin; refine wpList_append_rb _ rfl (.tmp 21) (.tmp 23) _ rfl (w.heap.size + 1) 5 i0 Try.underlying27 hi0 hz0 hz1 hz2 v3 ([k] ++ Crc.leb (4 : Int).toNat b ++ Crc.leb (8 : Int).toNat ver) rfl HO3.out _ _ 8 8 [x0, x1, x2, x3, x4, x5, x6, x7] rfl HE3.out (by simp [Crc.leb_length]) hz3 ?_; intro v4 w4 hO hg hat; have hb : Below (w.heap.size + 1) w3 w4 := below_grown HO3.out hg (Nat.le_refl _) hz3; clear hg hat; obtain ⟨A4, c4, rfl, hr4, _, _⟩ := hO.form' (n := 21) (by simp [Crc.leb_length]); have HR4 := Lib.hid hr4; have HB4 := Lib.hid (HB3.out.trans (hb.mono (by omega))); have HBase4 : w.heap.size + 1 ≤ w4.heap.size := (by have := hb.size; omega); clear hO hb hr4)
  refine (rput_any _ _ 21 c4 A4 time 8 (by omega) (by omega) w4 HR4.out (Nat.le_refl _) (by omega)).mono ?_
  rintro e w5 ⟨v5, rfl, hO, hb⟩
  have hlist : ([k] ++ Crc.leb (4 : Int).toNat b ++ Crc.leb (8 : Int).toNat ver) ++ [x0, x1, x2, x3, x4, x5, x6, x7] ++ Crc.leb (8 : Int).toNat time = Crc.bodyB k b ver [x0, x1, x2, x3, x4, x5, x6, x7] time := by
    have e1 : [k] = Crc.leb 1 k := by simp [Crc.leb, Nat.mod_eq_of_lt hk]
    rw [e1]; rfl
  rw [hlist] at hO
  obtain ⟨A5, c5, rfl, hr5, _, _⟩ := hO.form' (Crc.bodyB_length rfl)
  have HR5 := Lib.hid hr5
  have HB5 := Lib.hid (HB4.out.trans (hb.mono (by omega)))
  have HBase5 : w.heap.size + 1 ≤ w5.heap.size := by have := hb.size; omega
  clear hO hb hr5 hlist
  go_wp2_with fail
  refine (rseal_any _ (Crc.bodyB_bytes HX.out) _ 29 c5 A5 w5 HR5.out (Nat.le_refl _) (by omega)).mono ?_
  rintro e w6 ⟨v6, rfl, hO, hb⟩
  have HO6 := Lib.hid hO
  have HB6 := Lib.hid (HB5.out.trans (hb.mono (by omega)))
  clear hO hb
  go_wp2_with fail
  go_ret2
  exact ⟨v6, rfl, HO6.out.le (by omega), HB6.out⟩

end Go.Proofs.Ytibmigeikkmofaa

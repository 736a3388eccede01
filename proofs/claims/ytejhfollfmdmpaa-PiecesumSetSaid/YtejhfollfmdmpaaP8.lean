/- Walks over both lists of the bad pieces. -/
import Derived.Test.YtejhfollfmdmpaaP4
namespace Go.Proofs.Ytejhfollfmdmpaa
open Go.RowKit

theorem add_pos (a : Addr) (k : Nat) (h : 0 < k) : a.add k = ⟨a.block, a.off + k, none⟩ := by
  unfold Addr.add
  rw [if_neg (by omega)]
theorem add_nil (a : Addr) : a.add 0 = a := by
  unfold Addr.add
  rw [if_pos rfl]
/-- A list of blocks. -/
def RD (w : World) (B : Nat) (A : Option Addr) (n : Nat) (ds : List (List Nat)) : Prop :=
  ds.length = n ∧ (∀ i, i < n → ∃ x0 x1 x2 x3 x4 x5 x6 x7 : Nat, ds.getD i [] = [x0, x1, x2, x3, x4, x5, x6, x7] ∧ Crc.Bytes [x0, x1, x2, x3, x4, x5, x6, x7]) ∧
    (0 < n → ∃ ad, A = some ad ∧ ad.block < B ∧ ∀ i j, i < n → j < 8 → w.cell? ((ad.add (i * 8)).add j) = some (bv ((ds.getD i []).getD j 0)))
theorem RD.below {w w' : World} {B n : Nat} {A : Option Addr} {ds : List (List Nat)} (h : RD w B A n ds) (hb : Below B w w') : RD w' B A n ds :=
  ⟨h.1, h.2.1, fun h0 => by
    obtain ⟨ad, e, hlt, hc⟩ := h.2.2 h0
    exact ⟨ad, e, hlt, fun i j hi hj => (hb.cell (by rw [block_of_add, block_of_add]; exact hlt)).trans (hc i j hi hj)⟩⟩
/-- The version and the block that a piece is judged with. -/
def verAt (vs : List Nat) (ps : List Bool) (i : Nat) : Nat := if ps.getD i false = true ∧ i < vs.length then vs.getD i 0 else 0
def blkAt (ds : List (List Nat)) (ps : List Bool) (i : Nat) : List Nat := if ps.getD i false = true ∧ i < ds.length then ds.getD i [] else [0, 0, 0, 0, 0, 0, 0, 0]
def badB (l1 l2 : List Nat) (group : Int) (vs : List Nat) (ds : List (List Nat)) (ps : List Bool) (i : Nat) : Bool := !goodB l1 l2 group (i : Int) (verAt vs ps i) (blkAt ds ps i)
def badL (l1 l2 : List Nat) (group : Int) (vs : List Nat) (ds : List (List Nat)) (ps : List Bool) (n : Nat) : List Bool := (List.range n).map (badB l1 l2 group vs ds ps)
theorem badL_succ (l1 l2 : List Nat) (group : Int) (vs : List Nat) (ds : List (List Nat)) (ps : List Bool) (n : Nat) : (badL l1 l2 group vs ds ps (n + 1)).map Value.bool = (badL l1 l2 group vs ds ps n).map Value.bool ++ [.bool (badB l1 l2 group vs ds ps n)] := by
  unfold badL
  rw [List.range_succ, List.map_append, List.map_append]
  rfl
theorem badL_length (l1 l2 : List Nat) (group : Int) (vs : List Nat) (ds : List (List Nat)) (ps : List Bool) (n : Nat) : (badL l1 l2 group vs ds ps n).length = n := by simp [badL]
theorem boolInfo : (Try.prog.info? 4).map (fun i => (i.zero, i.size, i.bytes)) = some (some (.bool false), 1, 1) := by kernel_rfl

set_option maxHeartbeats 1000000 in
theorem bad_any (l1 l2 vs : List Nat) (ds : List (List Nat)) (ps : List Bool) (B n1 c1 n2 c2 n3 c3 n4 c4 n5 c5 : Nat) (A1 A2 A3 A4 A5 : Option Addr) (group : Int) (w : World) (hr1 : RU w B A1 n1 l1) (hr2 : RU w B A2 n2 l2) (hr3 : RU w B A3 n3 vs) (hr4 : RD w B A4 n4 ds) (hr5 : RL w B A5 n5 ps) (hB : B ≤ w.heap.size) (hn : min n1 n2 ≤ 65536) :
    Calls Try.prog 18 #[.agg #[.slice A1 n1 c1, .slice A2 n2 c2], .int .i64 group, .slice A3 n3 c3, .slice A4 n4 c4, .slice A5 n5 c5] w fun e w' => ∃ v, e = .returned v ∧ OV w' w.heap.size 4 v ((badL l1 l2 group vs ds ps (min n1 n2)).map Value.bool) ∧ Below w.heap.size w w' := by
  obtain ⟨i0, hi0, hz0, hz1, hz2'⟩ := info_parts boolInfo
  obtain ⟨q, hq⟩ : ∃ q, q = min n1 n2 := ⟨_, rfl⟩
  rw [← hq] at hn ⊢
  obtain ⟨w0, hw0⟩ : ∃ w0, w0 = w.alloc (.cells #[.slice A1 n1 c1, .slice A2 n2 c2] 32) := ⟨_, rfl⟩
  have hE0 : Blk w0 w.heap.size 32 #[.slice A1 n1 c1, .slice A2 n2 c2] := by rw [hw0]; exact Blk.new _ _ _
  have hB0 : Below w.heap.size w w0 := by rw [hw0]; exact (Below.refl _ _).alloc (Nat.le_refl _) _
  have hz := hE0.lt
  have HG : Hid (∀ (ver x0 x1 x2 x3 x4 x5 x6 x7 i : Nat), Crc.Bytes [x0, x1, x2, x3, x4, x5, x6, x7] → ∀ W, Below w.heap.size w W → Calls Try.prog 22 #[.agg #[.slice A1 n1 c1, .slice A2 n2 c2], .int .i64 group, .int .i64 (i : Int), .int .u64 (ver : Int), .agg #[bv x0, bv x1, bv x2, bv x3, bv x4, bv x5, bv x6, bv x7]] W fun e w' => e = .returned (.bool (goodB l1 l2 group i ver [x0, x1, x2, x3, x4, x5, x6, x7])) ∧ Below W.heap.size W w') := Lib.hid (fun ver x0 x1 x2 x3 x4 x5 x6 x7 i hx W hb =>
    good_any l1 l2 B n1 c1 n2 c2 A1 A2 group i ver x0 x1 x2 x3 x4 x5 x6 x7 hx W (hr1.below (hb.mono hB)) (hr2.below (hb.mono hB)) (by have := hb.size; omega))
  have HG0 : Hid (∀ (ver i : Nat), ∀ W, Below w.heap.size w W → Calls Try.prog 22 #[.agg #[.slice A1 n1 c1, .slice A2 n2 c2], .int .i64 group, .int .i64 (i : Int), .int .u64 (ver : Int), .agg #[.int .u8 0, .int .u8 0, .int .u8 0, .int .u8 0, .int .u8 0, .int .u8 0, .int .u8 0, .int .u8 0]] W fun e w' => e = .returned (.bool (goodB l1 l2 group i ver [0, 0, 0, 0, 0, 0, 0, 0])) ∧ Below W.heap.size W w') := Lib.hid (fun ver i W hb => HG.out ver 0 0 0 0 0 0 0 0 i z_bytes W hb)
  have HG00 : Hid (∀ (i : Nat), ∀ W, Below w.heap.size w W → Calls Try.prog 22 #[.agg #[.slice A1 n1 c1, .slice A2 n2 c2], .int .i64 group, .int .i64 (i : Int), .int .u64 0, .agg #[.int .u8 0, .int .u8 0, .int .u8 0, .int .u8 0, .int .u8 0, .int .u8 0, .int .u8 0, .int .u8 0]] W fun e w' => e = .returned (.bool (goodB l1 l2 group i 0 [0, 0, 0, 0, 0, 0, 0, 0])) ∧ Below W.heap.size W w') := Lib.hid (fun i W hb => HG0.out 0 i W hb)
  have HG1 : Hid (∀ (x0 x1 x2 x3 x4 x5 x6 x7 i : Nat), Crc.Bytes [x0, x1, x2, x3, x4, x5, x6, x7] → ∀ W, Below w.heap.size w W → Calls Try.prog 22 #[.agg #[.slice A1 n1 c1, .slice A2 n2 c2], .int .i64 group, .int .i64 (i : Int), .int .u64 0, .agg #[bv x0, bv x1, bv x2, bv x3, bv x4, bv x5, bv x6, bv x7]] W fun e w' => e = .returned (.bool (goodB l1 l2 group i 0 [x0, x1, x2, x3, x4, x5, x6, x7])) ∧ Below W.heap.size W w') := Lib.hid (fun x0 x1 x2 x3 x4 x5 x6 x7 i hx W hb => HG.out 0 x0 x1 x2 x3 x4 x5 x6 x7 i hx W hb)
  have hv3 := hr3.len
  have hv4 := hr4.1
  have hv5 := hr5.len
  have HR3 := Lib.hid hr3
  have HR4 := Lib.hid hr4
  have HR5 := Lib.hid hr5
  have HE0 := Lib.hid hE0
  have HB0 := Lib.hid hB0
  have Hw0 := Lib.hid hw0
  have Hq := Lib.hid hq
  have HV3 := Lib.hid hv3
  have HV4 := Lib.hid hv4
  have HV5 := Lib.hid hv5
  clear hr1 hr2 hr3 hr4 hr5 hE0 hB0 hw0 hq hv3 hv4 hv5
  go_enter Try.func18, Try.ntmps18
  have g0 : w0.cell? ⟨w.heap.size, 0, none⟩ = some (.slice A1 n1 c1) := HE0.out.cell 0
  have g1 : w0.cell? ⟨w.heap.size, 1, none⟩ = some (.slice A2 n2 c2) := HE0.out.cell 1
  go_wp2_with fail
  rw [← Hw0.out]
  refine (pieces_any A1 A2 n1 c1 n2 c2 w0).mono ?_
  rintro e w1 ⟨rfl, hb⟩
  rw [← Hq.out]
  have HE1 := Lib.hid (HE0.out.below hb hz)
  have HB1 := Lib.hid (HB0.out.trans (hb.mono (by omega)))
  clear hb g0 g1
  go_wp2_with fail
  go_loopw [17, 11] (fun s17 s11 wr => ∃ (i : Nat) (v : Value), i ≤ q ∧ s17 = .int .i64 (i : Int) ∧ v = s11 ∧ Blk wr w.heap.size 32 #[.slice A1 n1 c1, .slice A2 n2 c2] ∧ OV wr (w.heap.size + 1) 4 v ((badL l1 l2 group vs ds ps i).map Value.bool) ∧ Below w.heap.size w wr) (fun s17 _ _ => q - (intOf s17).toNat)
  case atStart => exact ⟨0, _, by omega, rfl, rfl, HE1.out, ov_nil _ _ _, HB1.out⟩
  case round =>
    obtain ⟨i, v, hi, rfl, rfl, hE, hO, hB'⟩ := hrel
    have e0 : wr.cell? ⟨w.heap.size, 0, none⟩ = some (.slice A1 n1 c1) := hE.cell 0
    have e1 : wr.cell? ⟨w.heap.size, 1, none⟩ = some (.slice A2 n2 c2) := hE.cell 1
    have hzr := hE.lt
    have HE := Lib.hid hE
    have HO := Lib.hid hO
    have HBr := Lib.hid hB'
    clear hE hO hB'
    by_cases hlt : i < q
    · by_cases h5 : i < n5
      · obtain ⟨ad5, rfl, _, hc5⟩ := (RL.below HR5.out (HBr.out.mono hB)).at_ h5
        obtain ⟨pv, hpv⟩ : ∃ pv, pv = ps.getD i false := ⟨_, rfl⟩
        rw [← hpv] at hc5
        have HPV := Lib.hid hpv
        clear hpv
        have hc5a : ∀ o : Obj, (wr.alloc o).cell? (ad5.add i) = some (.bool pv) := fun o => (World.cell?_alloc_lt wr o _ (block_lt_of_cell hc5)).trans hc5
        cases pv with
        | false => 
          go_wp2_with fail
          refine (HG00.out i _ (HBr.out.alloc (by omega) _)).mono ?_
          rintro e w2 ⟨rfl, hb⟩
          have HO2 := Lib.hid ((HO.out.alloc _).below hb)
          have HE2 := Lib.hid ((HE.out.alloc _).below hb (by simp; omega))
          have HB2 := Lib.hid ((HBr.out.alloc (by omega) _).trans (hb.mono (by simp; omega)))
          have hz2 : w.heap.size < w2.heap.size := HE2.out.lt
          obtain ⟨gb, hgb⟩ : ∃ gb, gb = goodB l1 l2 group i 0 [0, 0, 0, 0, 0, 0, 0, 0] := ⟨_, rfl⟩
          rw [← hgb]
          have Hbd : Hid (badB l1 l2 group vs ds ps i = !gb) := Lib.hid (by rw [hgb]; unfold badB; unfold verAt blkAt; rw [← HPV.out]; simp)
          clear hb hgb
          go_wp2_with (at_builtin; refine wpList_append_ov _ rfl (.tmp 46) (.tmp 54) _ rfl (w.heap.size + 1) 4 i0 _ 1 Try.underlying36 hi0 hz0 hz1 hz2' rfl v ((badL l1 l2 group vs ds ps i).map Value.bool) rfl (HO2.out.alloc _) _ _ 1 1 [.bool (!gb)] rfl (reads_alloc w2 #[.bool (!gb)] 4 (0, 0) [.bool (!gb)] rfl) (by simp; rfl) (by unfold maxLen; simp [badL_length]; omega) (by simp [badL_length]; omega) (by simp; omega) ?_; intro v3 w3 hown hg hat; have hlt2 : ∀ k, k < w.heap.size + 1 → some k ≠ v.ownBlock := (fun k hk e => by have := (HO2.out.lt e.symm).1; omega); have HE3 := Lib.hid ((HE2.out.alloc _).grown hg (hlt2 _ (by omega))); have HB3 := Lib.hid ((HB2.out.alloc (by omega) _).trans (below_grown_ov (HO2.out.alloc _) hg (by omega) (by simp; omega))); have HO3 := Lib.hid hown; clear hown hg hat hlt2)
          go_roundw
          case rel => exact ⟨i + 1, v3, by omega, by go_num, rfl, HE3.out, by rw [badL_succ, Hbd.out]; exact HO3.out, HB3.out⟩
          case measure => simp [intOf]; omega
        | true => 
          by_cases h3 : i < n3
          · obtain ⟨ad3, rfl, _, hc3⟩ := (RU.below HR3.out (HBr.out.mono hB)).at_ h3
            have hc3a : ∀ o : Obj, (wr.alloc o).cell? (ad3.add i) = some (.int .u64 ((vs.getD i 0 : Nat) : Int)) := fun o => (World.cell?_alloc_lt wr o _ (block_lt_of_cell hc3)).trans hc3
            by_cases h4 : i < n4
            · obtain ⟨hd1, hd2, hd3⟩ := RD.below HR4.out (HBr.out.mono hB)
              obtain ⟨ad4, rfl, _, hc4⟩ := hd3 (by omega)
              obtain ⟨x0, x1, x2, x3, x4, x5, x6, x7, hD, hX⟩ := hd2 i h4
              have k0 := hc4 i 0 h4 (by omega)
              have k1 := hc4 i 1 h4 (by omega)
              have k2 := hc4 i 2 h4 (by omega)
              have k3 := hc4 i 3 h4 (by omega)
              have k4 := hc4 i 4 h4 (by omega)
              have k5 := hc4 i 5 h4 (by omega)
              have k6 := hc4 i 6 h4 (by omega)
              have k7 := hc4 i 7 h4 (by omega)
              rw [hD] at k0 k1 k2 k3 k4 k5 k6 k7
              rw [add_nil] at k0
              have k0a : ∀ o : Obj, (wr.alloc o).cell? (ad4.add (i * 8)) = some (bv x0) := fun o => (World.cell?_alloc_lt wr o _ (block_lt_of_cell k0)).trans k0
              rw [add_pos _ _ (by omega)] at k1
              have k1a : ∀ o : Obj, (wr.alloc o).cell? ⟨(ad4.add (i * 8)).block, (ad4.add (i * 8)).off + 1, none⟩ = some (bv x1) := fun o => (World.cell?_alloc_lt wr o _ (block_lt_of_cell k1)).trans k1
              rw [add_pos _ _ (by omega)] at k2
              have k2a : ∀ o : Obj, (wr.alloc o).cell? ⟨(ad4.add (i * 8)).block, (ad4.add (i * 8)).off + 2, none⟩ = some (bv x2) := fun o => (World.cell?_alloc_lt wr o _ (block_lt_of_cell k2)).trans k2
              rw [add_pos _ _ (by omega)] at k3
              have k3a : ∀ o : Obj, (wr.alloc o).cell? ⟨(ad4.add (i * 8)).block, (ad4.add (i * 8)).off + 3, none⟩ = some (bv x3) := fun o => (World.cell?_alloc_lt wr o _ (block_lt_of_cell k3)).trans k3
              rw [add_pos _ _ (by omega)] at k4
              have k4a : ∀ o : Obj, (wr.alloc o).cell? ⟨(ad4.add (i * 8)).block, (ad4.add (i * 8)).off + 4, none⟩ = some (bv x4) := fun o => (World.cell?_alloc_lt wr o _ (block_lt_of_cell k4)).trans k4
              rw [add_pos _ _ (by omega)] at k5
              have k5a : ∀ o : Obj, (wr.alloc o).cell? ⟨(ad4.add (i * 8)).block, (ad4.add (i * 8)).off + 5, none⟩ = some (bv x5) := fun o => (World.cell?_alloc_lt wr o _ (block_lt_of_cell k5)).trans k5
              rw [add_pos _ _ (by omega)] at k6
              have k6a : ∀ o : Obj, (wr.alloc o).cell? ⟨(ad4.add (i * 8)).block, (ad4.add (i * 8)).off + 6, none⟩ = some (bv x6) := fun o => (World.cell?_alloc_lt wr o _ (block_lt_of_cell k6)).trans k6
              rw [add_pos _ _ (by omega)] at k7
              have k7a : ∀ o : Obj, (wr.alloc o).cell? ⟨(ad4.add (i * 8)).block, (ad4.add (i * 8)).off + 7, none⟩ = some (bv x7) := fun o => (World.cell?_alloc_lt wr o _ (block_lt_of_cell k7)).trans k7
              have HD := Lib.hid hD
              have HX := Lib.hid hX
              clear hd1 hd2 hd3 hc4 hD hX
              have hbv : ∀ b : Nat, bv b = Value.int .u8 (b : Int) := fun _ => rfl
              obtain ⟨vv, hvv⟩ : ∃ vv, vv = vs.getD i 0 := ⟨_, rfl⟩
              rw [← hvv] at hc3
              rw [← hvv] at hc3a
              have HVV := Lib.hid hvv
              clear hvv k0 k1 k2 k3 k4 k5 k6 k7
              go_wp2_with fail
              refine (HG.out vv x0 x1 x2 x3 x4 x5 x6 x7 i HX.out _ (HBr.out.alloc (by omega) _)).mono ?_
              rintro e w2 ⟨rfl, hb⟩
              have HO2 := Lib.hid ((HO.out.alloc _).below hb)
              have HE2 := Lib.hid ((HE.out.alloc _).below hb (by simp; omega))
              have HB2 := Lib.hid ((HBr.out.alloc (by omega) _).trans (hb.mono (by simp; omega)))
              have hz2 : w.heap.size < w2.heap.size := HE2.out.lt
              obtain ⟨gb, hgb⟩ : ∃ gb, gb = goodB l1 l2 group i vv [x0, x1, x2, x3, x4, x5, x6, x7] := ⟨_, rfl⟩
              rw [← hgb]
              have Hbd : Hid (badB l1 l2 group vs ds ps i = !gb) := Lib.hid (by rw [hgb]; unfold badB; unfold verAt blkAt; rw [← HPV.out, HV3.out, HV4.out, if_pos ⟨rfl, h3⟩, if_pos ⟨rfl, h4⟩, HD.out, ← HVV.out])
              clear hb hgb
              go_wp2_with (at_builtin; refine wpList_append_ov _ rfl (.tmp 46) (.tmp 54) _ rfl (w.heap.size + 1) 4 i0 _ 1 Try.underlying36 hi0 hz0 hz1 hz2' rfl v ((badL l1 l2 group vs ds ps i).map Value.bool) rfl (HO2.out.alloc _) _ _ 1 1 [.bool (!gb)] rfl (reads_alloc w2 #[.bool (!gb)] 4 (0, 0) [.bool (!gb)] rfl) (by simp; rfl) (by unfold maxLen; simp [badL_length]; omega) (by simp [badL_length]; omega) (by simp; omega) ?_; intro v3 w3 hown hg hat; have hlt2 : ∀ k, k < w.heap.size + 1 → some k ≠ v.ownBlock := (fun k hk e => by have := (HO2.out.lt e.symm).1; omega); have HE3 := Lib.hid ((HE2.out.alloc _).grown hg (hlt2 _ (by omega))); have HB3 := Lib.hid ((HB2.out.alloc (by omega) _).trans (below_grown_ov (HO2.out.alloc _) hg (by omega) (by simp; omega))); have HO3 := Lib.hid hown; clear hown hg hat hlt2)
              go_roundw
              case rel => exact ⟨i + 1, v3, by omega, by go_num, rfl, HE3.out, by rw [badL_succ, Hbd.out]; exact HO3.out, HB3.out⟩
              case measure => simp [intOf]; omega
            · obtain ⟨vv, hvv⟩ : ∃ vv, vv = vs.getD i 0 := ⟨_, rfl⟩
              rw [← hvv] at hc3
              rw [← hvv] at hc3a
              have HVV := Lib.hid hvv
              clear hvv
              go_wp2_with fail
              refine (HG0.out vv i _ (HBr.out.alloc (by omega) _)).mono ?_
              rintro e w2 ⟨rfl, hb⟩
              have HO2 := Lib.hid ((HO.out.alloc _).below hb)
              have HE2 := Lib.hid ((HE.out.alloc _).below hb (by simp; omega))
              have HB2 := Lib.hid ((HBr.out.alloc (by omega) _).trans (hb.mono (by simp; omega)))
              have hz2 : w.heap.size < w2.heap.size := HE2.out.lt
              obtain ⟨gb, hgb⟩ : ∃ gb, gb = goodB l1 l2 group i vv [0, 0, 0, 0, 0, 0, 0, 0] := ⟨_, rfl⟩
              rw [← hgb]
              have Hbd : Hid (badB l1 l2 group vs ds ps i = !gb) := Lib.hid (by rw [hgb]; unfold badB; unfold verAt blkAt; rw [← HPV.out, HV3.out, HV4.out, if_pos ⟨rfl, h3⟩, if_neg (fun h => h4 h.2), ← HVV.out])
              clear hb hgb
              go_wp2_with (at_builtin; refine wpList_append_ov _ rfl (.tmp 46) (.tmp 54) _ rfl (w.heap.size + 1) 4 i0 _ 1 Try.underlying36 hi0 hz0 hz1 hz2' rfl v ((badL l1 l2 group vs ds ps i).map Value.bool) rfl (HO2.out.alloc _) _ _ 1 1 [.bool (!gb)] rfl (reads_alloc w2 #[.bool (!gb)] 4 (0, 0) [.bool (!gb)] rfl) (by simp; rfl) (by unfold maxLen; simp [badL_length]; omega) (by simp [badL_length]; omega) (by simp; omega) ?_; intro v3 w3 hown hg hat; have hlt2 : ∀ k, k < w.heap.size + 1 → some k ≠ v.ownBlock := (fun k hk e => by have := (HO2.out.lt e.symm).1; omega); have HE3 := Lib.hid ((HE2.out.alloc _).grown hg (hlt2 _ (by omega))); have HB3 := Lib.hid ((HB2.out.alloc (by omega) _).trans (below_grown_ov (HO2.out.alloc _) hg (by omega) (by simp; omega))); have HO3 := Lib.hid hown; clear hown hg hat hlt2)
              go_roundw
              case rel => exact ⟨i + 1, v3, by omega, by go_num, rfl, HE3.out, by rw [badL_succ, Hbd.out]; exact HO3.out, HB3.out⟩
              case measure => simp [intOf]; omega
          · by_cases h4 : i < n4
            · obtain ⟨hd1, hd2, hd3⟩ := RD.below HR4.out (HBr.out.mono hB)
              obtain ⟨ad4, rfl, _, hc4⟩ := hd3 (by omega)
              obtain ⟨x0, x1, x2, x3, x4, x5, x6, x7, hD, hX⟩ := hd2 i h4
              have k0 := hc4 i 0 h4 (by omega)
              have k1 := hc4 i 1 h4 (by omega)
              have k2 := hc4 i 2 h4 (by omega)
              have k3 := hc4 i 3 h4 (by omega)
              have k4 := hc4 i 4 h4 (by omega)
              have k5 := hc4 i 5 h4 (by omega)
              have k6 := hc4 i 6 h4 (by omega)
              have k7 := hc4 i 7 h4 (by omega)
              rw [hD] at k0 k1 k2 k3 k4 k5 k6 k7
              rw [add_nil] at k0
              have k0a : ∀ o : Obj, (wr.alloc o).cell? (ad4.add (i * 8)) = some (bv x0) := fun o => (World.cell?_alloc_lt wr o _ (block_lt_of_cell k0)).trans k0
              rw [add_pos _ _ (by omega)] at k1
              have k1a : ∀ o : Obj, (wr.alloc o).cell? ⟨(ad4.add (i * 8)).block, (ad4.add (i * 8)).off + 1, none⟩ = some (bv x1) := fun o => (World.cell?_alloc_lt wr o _ (block_lt_of_cell k1)).trans k1
              rw [add_pos _ _ (by omega)] at k2
              have k2a : ∀ o : Obj, (wr.alloc o).cell? ⟨(ad4.add (i * 8)).block, (ad4.add (i * 8)).off + 2, none⟩ = some (bv x2) := fun o => (World.cell?_alloc_lt wr o _ (block_lt_of_cell k2)).trans k2
              rw [add_pos _ _ (by omega)] at k3
              have k3a : ∀ o : Obj, (wr.alloc o).cell? ⟨(ad4.add (i * 8)).block, (ad4.add (i * 8)).off + 3, none⟩ = some (bv x3) := fun o => (World.cell?_alloc_lt wr o _ (block_lt_of_cell k3)).trans k3
              rw [add_pos _ _ (by omega)] at k4
              have k4a : ∀ o : Obj, (wr.alloc o).cell? ⟨(ad4.add (i * 8)).block, (ad4.add (i * 8)).off + 4, none⟩ = some (bv x4) := fun o => (World.cell?_alloc_lt wr o _ (block_lt_of_cell k4)).trans k4
              rw [add_pos _ _ (by omega)] at k5
              have k5a : ∀ o : Obj, (wr.alloc o).cell? ⟨(ad4.add (i * 8)).block, (ad4.add (i * 8)).off + 5, none⟩ = some (bv x5) := fun o => (World.cell?_alloc_lt wr o _ (block_lt_of_cell k5)).trans k5
              rw [add_pos _ _ (by omega)] at k6
              have k6a : ∀ o : Obj, (wr.alloc o).cell? ⟨(ad4.add (i * 8)).block, (ad4.add (i * 8)).off + 6, none⟩ = some (bv x6) := fun o => (World.cell?_alloc_lt wr o _ (block_lt_of_cell k6)).trans k6
              rw [add_pos _ _ (by omega)] at k7
              have k7a : ∀ o : Obj, (wr.alloc o).cell? ⟨(ad4.add (i * 8)).block, (ad4.add (i * 8)).off + 7, none⟩ = some (bv x7) := fun o => (World.cell?_alloc_lt wr o _ (block_lt_of_cell k7)).trans k7
              have HD := Lib.hid hD
              have HX := Lib.hid hX
              clear hd1 hd2 hd3 hc4 hD hX
              have hbv : ∀ b : Nat, bv b = Value.int .u8 (b : Int) := fun _ => rfl
              clear k0 k1 k2 k3 k4 k5 k6 k7
              go_wp2_with fail
              refine (HG1.out x0 x1 x2 x3 x4 x5 x6 x7 i HX.out _ (HBr.out.alloc (by omega) _)).mono ?_
              rintro e w2 ⟨rfl, hb⟩
              have HO2 := Lib.hid ((HO.out.alloc _).below hb)
              have HE2 := Lib.hid ((HE.out.alloc _).below hb (by simp; omega))
              have HB2 := Lib.hid ((HBr.out.alloc (by omega) _).trans (hb.mono (by simp; omega)))
              have hz2 : w.heap.size < w2.heap.size := HE2.out.lt
              obtain ⟨gb, hgb⟩ : ∃ gb, gb = goodB l1 l2 group i 0 [x0, x1, x2, x3, x4, x5, x6, x7] := ⟨_, rfl⟩
              rw [← hgb]
              have Hbd : Hid (badB l1 l2 group vs ds ps i = !gb) := Lib.hid (by rw [hgb]; unfold badB; unfold verAt blkAt; rw [← HPV.out, HV3.out, HV4.out, if_neg (fun h => h3 h.2), if_pos ⟨rfl, h4⟩, HD.out])
              clear hb hgb
              go_wp2_with (at_builtin; refine wpList_append_ov _ rfl (.tmp 46) (.tmp 54) _ rfl (w.heap.size + 1) 4 i0 _ 1 Try.underlying36 hi0 hz0 hz1 hz2' rfl v ((badL l1 l2 group vs ds ps i).map Value.bool) rfl (HO2.out.alloc _) _ _ 1 1 [.bool (!gb)] rfl (reads_alloc w2 #[.bool (!gb)] 4 (0, 0) [.bool (!gb)] rfl) (by simp; rfl) (by unfold maxLen; simp [badL_length]; omega) (by simp [badL_length]; omega) (by simp; omega) ?_; intro v3 w3 hown hg hat; have hlt2 : ∀ k, k < w.heap.size + 1 → some k ≠ v.ownBlock := (fun k hk e => by have := (HO2.out.lt e.symm).1; omega); have HE3 := Lib.hid ((HE2.out.alloc _).grown hg (hlt2 _ (by omega))); have HB3 := Lib.hid ((HB2.out.alloc (by omega) _).trans (below_grown_ov (HO2.out.alloc _) hg (by omega) (by simp; omega))); have HO3 := Lib.hid hown; clear hown hg hat hlt2)
              go_roundw
              case rel => exact ⟨i + 1, v3, by omega, by go_num, rfl, HE3.out, by rw [badL_succ, Hbd.out]; exact HO3.out, HB3.out⟩
              case measure => simp [intOf]; omega
            · go_wp2_with fail
              refine (HG00.out i _ (HBr.out.alloc (by omega) _)).mono ?_
              rintro e w2 ⟨rfl, hb⟩
              have HO2 := Lib.hid ((HO.out.alloc _).below hb)
              have HE2 := Lib.hid ((HE.out.alloc _).below hb (by simp; omega))
              have HB2 := Lib.hid ((HBr.out.alloc (by omega) _).trans (hb.mono (by simp; omega)))
              have hz2 : w.heap.size < w2.heap.size := HE2.out.lt
              obtain ⟨gb, hgb⟩ : ∃ gb, gb = goodB l1 l2 group i 0 [0, 0, 0, 0, 0, 0, 0, 0] := ⟨_, rfl⟩
              rw [← hgb]
              have Hbd : Hid (badB l1 l2 group vs ds ps i = !gb) := Lib.hid (by rw [hgb]; unfold badB; unfold verAt blkAt; rw [← HPV.out, HV3.out, HV4.out, if_neg (fun h => h3 h.2), if_neg (fun h => h4 h.2)])
              clear hb hgb
              go_wp2_with (at_builtin; refine wpList_append_ov _ rfl (.tmp 46) (.tmp 54) _ rfl (w.heap.size + 1) 4 i0 _ 1 Try.underlying36 hi0 hz0 hz1 hz2' rfl v ((badL l1 l2 group vs ds ps i).map Value.bool) rfl (HO2.out.alloc _) _ _ 1 1 [.bool (!gb)] rfl (reads_alloc w2 #[.bool (!gb)] 4 (0, 0) [.bool (!gb)] rfl) (by simp; rfl) (by unfold maxLen; simp [badL_length]; omega) (by simp [badL_length]; omega) (by simp; omega) ?_; intro v3 w3 hown hg hat; have hlt2 : ∀ k, k < w.heap.size + 1 → some k ≠ v.ownBlock := (fun k hk e => by have := (HO2.out.lt e.symm).1; omega); have HE3 := Lib.hid ((HE2.out.alloc _).grown hg (hlt2 _ (by omega))); have HB3 := Lib.hid ((HB2.out.alloc (by omega) _).trans (below_grown_ov (HO2.out.alloc _) hg (by omega) (by simp; omega))); have HO3 := Lib.hid hown; clear hown hg hat hlt2)
              go_roundw
              case rel => exact ⟨i + 1, v3, by omega, by go_num, rfl, HE3.out, by rw [badL_succ, Hbd.out]; exact HO3.out, HB3.out⟩
              case measure => simp [intOf]; omega
      · have hps : ps.getD i false = false := by rw [List.getD_eq_getElem?_getD, List.getElem?_eq_none (by rw [HV5.out]; omega)]; rfl
        have HPV := Lib.hid hps
        clear hps
        go_wp2_with fail
        refine (HG00.out i _ (HBr.out.alloc (by omega) _)).mono ?_
        rintro e w2 ⟨rfl, hb⟩
        have HO2 := Lib.hid ((HO.out.alloc _).below hb)
        have HE2 := Lib.hid ((HE.out.alloc _).below hb (by simp; omega))
        have HB2 := Lib.hid ((HBr.out.alloc (by omega) _).trans (hb.mono (by simp; omega)))
        have hz2 : w.heap.size < w2.heap.size := HE2.out.lt
        obtain ⟨gb, hgb⟩ : ∃ gb, gb = goodB l1 l2 group i 0 [0, 0, 0, 0, 0, 0, 0, 0] := ⟨_, rfl⟩
        rw [← hgb]
        have Hbd : Hid (badB l1 l2 group vs ds ps i = !gb) := Lib.hid (by rw [hgb]; unfold badB; unfold verAt blkAt; rw [HPV.out]; simp)
        clear hb hgb
        go_wp2_with (at_builtin; refine wpList_append_ov _ rfl (.tmp 46) (.tmp 54) _ rfl (w.heap.size + 1) 4 i0 _ 1 Try.underlying36 hi0 hz0 hz1 hz2' rfl v ((badL l1 l2 group vs ds ps i).map Value.bool) rfl (HO2.out.alloc _) _ _ 1 1 [.bool (!gb)] rfl (reads_alloc w2 #[.bool (!gb)] 4 (0, 0) [.bool (!gb)] rfl) (by simp; rfl) (by unfold maxLen; simp [badL_length]; omega) (by simp [badL_length]; omega) (by simp; omega) ?_; intro v3 w3 hown hg hat; have hlt2 : ∀ k, k < w.heap.size + 1 → some k ≠ v.ownBlock := (fun k hk e => by have := (HO2.out.lt e.symm).1; omega); have HE3 := Lib.hid ((HE2.out.alloc _).grown hg (hlt2 _ (by omega))); have HB3 := Lib.hid ((HB2.out.alloc (by omega) _).trans (below_grown_ov (HO2.out.alloc _) hg (by omega) (by simp; omega))); have HO3 := Lib.hid hown; clear hown hg hat hlt2)
        go_roundw
        case rel => exact ⟨i + 1, v3, by omega, by go_num, rfl, HE3.out, by rw [badL_succ, Hbd.out]; exact HO3.out, HB3.out⟩
        case measure => simp [intOf]; omega
    · have e : i = q := by omega
      subst e
      go_wp2_with fail
      go_ret
      exact ⟨_, rfl, HO.out.le (by omega), HBr.out⟩

end Go.Proofs.Ytejhfollfmdmpaa

/- The walk over the statement ReplicaRestores. -/
import Derived.Test.YtijhmopejadpdaaR11
namespace Go.Proofs.Ytijhmopejadpdaa
open Go.RowKit

set_option maxHeartbeats 2000000 in
theorem ReplicaRestores_walk (blob : List Nat) (hbl : Crc.Bytes blob) (A : Option Addr) (n c gen : Nat) (hgen : gen < 18446744073709551616) (wh : List Nat) (hwb : Crc.Bytes wh) (A2 : Option Addr) (n2 c2 : Nat) (w : World)
    (hr : RB w w.heap.size A n blob) (hnc : n ≤ c) (hr2 : RB w w.heap.size A2 n2 wh) (hn2 : n2 ≤ maxLen) :
    Calls Try.prog 3 #[.slice A n c, .int .u64 (gen : Int), .slice A2 n2 c2] w (True1 w) := by
  have hn2' : (n2 : Int) ≤ 9223372036854775807 := by have h := hn2; unfold maxLen at h; omega
  have HR := Lib.hid hr
  have HR2 := Lib.hid hr2
  have HBl := Lib.hid hbl
  have HWb := Lib.hid hwb
  have hl := hr.len
  clear hr hr2 hbl hwb hn2
  unfold True1
  go_enter Try.func3, Try.ntmps3
  go_wp2_with fail
  refine (awake_any w).mono ?_
  rintro e w1 ⟨rfl, hb1⟩
  have HB1 := Lib.hid hb1
  clear hb1
  by_cases h1 : (n : Int) > 600
  · go_wp2_with fail
    refine (awake_any w1).mono ?_
    rintro e w2 ⟨rfl, hb2⟩
    have HB2 := Lib.hid (HB1.out.trans (hb2.mono HB1.out.size))
    clear hb2
    go_wp2
    go_ret
    exact ⟨rfl, HB2.out⟩
  obtain ⟨m, hm⟩ : ∃ m, m = Crc.chunkM n := ⟨_, rfl⟩
  have hm1 : 1 ≤ m := by rw [hm]; unfold Crc.chunkM; omega
  have hm2 : m ≤ 19 := by rw [hm]; unfold Crc.chunkM; omega
  have hmb : m = Crc.chunkM blob.length := by rw [hm, hl]
  have Hl := Lib.hid hl
  have Hmb := Lib.hid hmb
  clear hm hmb hl
  have HR1 := Lib.hid (HR.out.below HB1.out)
  have HW1 := Lib.hid (HR2.out.below HB1.out)
  have hz1 := HB1.out.size
  have HC : Hid (Calls Try.prog 9 #[.slice A n c, .int .u64 (gen : Int)] w1 fun e w' => ∃ v vs, e = .returned (.tuple #[v, .int .i64 0]) ∧ SL w' w1.heap.size v vs (Crc.secs blob gen) ∧ Below w1.heap.size w1 w') := Lib.hid (chunks_any blob HBl.out w.heap.size n c gen A w1 HR1.out hz1 (by omega) hnc)
  go_wp2_with fail
  refine HC.out.mono ?_
  rintro e w3 ⟨v, vs, rfl, hSL, hb3⟩
  have hvl : vs.length = m := by rw [hSL.2.1, Crc.secs_length, Hmb.out]
  obtain ⟨gl, cl, rfl, hgl1, hgl2, hcl, _, hrow⟩ := hSL.1.row (by omega)
  rw [hvl] at hcl ⊢
  have hu : ∀ j, j < m → ∃ Y d, vs.getD j undef = .slice Y ((Crc.secs blob gen).getD j []).length d ∧ RB w3 w3.heap.size Y ((Crc.secs blob gen).getD j []).length ((Crc.secs blob gen).getD j []) ∧ ((Crc.secs blob gen).getD j []).length ≤ d ∧ Crc.Bytes ((Crc.secs blob gen).getD j []) ∧ ((Crc.secs blob gen).getD j []).length ≤ 65536 := fun j hj => by
    have h := hSL.2.2 j (by rw [Crc.secs_length, ← Hmb.out]; exact hj)
    obtain ⟨Y, d, h1, h2, h3, _⟩ := h.form
    have hbs : Crc.Bytes ((Crc.secs blob gen).getD j []) := by rw [Crc.secs_get _ _ _ (by rw [← Hmb.out]; exact hj)]; exact Crc.secB_bytes (Crc.chunkOf_bytes HBl.out j)
    have hln : ((Crc.secs blob gen).getD j []).length ≤ 65536 := by
      rw [Crc.secs_get _ _ _ (by rw [← Hmb.out]; exact hj), Crc.secB_length]
      have := Crc.chunkOf_le blob j
      omega
    exact ⟨Y, d, h1, h2, h3, hbs, hln⟩
  have HU := Lib.hid hu
  have HRow := Lib.hid hrow
  have HB3 := Lib.hid (HB1.out.trans (hb3.mono hz1))
  have hz3 : w1.heap.size ≤ w3.heap.size := hb3.size
  have HB3x := Lib.hid (hb3.mono hz1)
  clear hSL hb3 hu hrow HC
  obtain ⟨b, hb⟩ : ∃ b, b = w3.heap.size := ⟨_, rfl⟩
  obtain ⟨KC, hKC⟩ : ∃ KC, KC = madeCells (Value.slice none 0 0).cells (3 * 1) := ⟨_, rfl⟩
  obtain ⟨MC, hMC⟩ : ∃ MC, MC = madeCells (Value.slice none 0 0).cells (m * 1) := ⟨_, rfl⟩
  have qK : ∀ W : World, (Instr.makeSlice 29 (.int .i64 3) (.int .i64 3)).run Try.prog W = .ok (.slice (some ⟨W.heap.size, 0, none⟩) 3 3) (W.alloc (.cells KC 25)) := fun W => by
    rw [hKC]; exact run_makeC
  have qM : ∀ W : World, (Instr.makeSlice 25 (.int .i64 (m : Int)) (.int .i64 (m : Int))).run Try.prog W = .ok (.slice (some ⟨W.heap.size, 0, none⟩) m m) (W.alloc (.cells MC 22)) := fun W => by
    rw [hMC]; exact run_makeR m m rfl (by omega)
  obtain ⟨w4, hw4⟩ : ∃ w4, w4 = w3.alloc (.cells KC 25) := ⟨_, rfl⟩
  have HS4 : Hid (Rows3 w4 b m 0 MC ∧ Below b w3 w4) := Lib.hid (by
    rw [hw4, hb]
    exact ⟨Rows3.start w3 m KC MC (by rw [hKC, madeS_size]), (Below.refl _ _).alloc (Nat.le_refl _) _⟩)
  have HMC : Hid (MC.size = m ∧ ∀ j, j < m → MC[j]? = some (.slice none 0 0)) := Lib.hid ⟨by rw [hMC, madeS_size], fun j hj => by rw [hMC]; exact madeS m j hj⟩
  have Hb := Lib.hid hb
  have Hw4 := Lib.hid hw4
  clear hb hw4 hKC hMC
  go_wp2_with fail
  rw [← Hw4.out, ← Hb.out]
  go_loopw [10] (fun s10 wr => ∃ i : Nat, i ≤ 3 ∧ s10 = .int .i64 (i : Int) ∧ Rows3 wr b m i MC ∧ Below b w3 wr) (fun s10 _ => 3 - (intOf s10).toNat)
  case atStart => exact ⟨0, by omega, rfl, HS4.out.1, HS4.out.2⟩
  case round =>
    obtain ⟨i, hi, rfl, hS, hB⟩ := hrel
    by_cases hlt : i < 3
    · obtain ⟨u0, q0⟩ := hS.cell hlt
      have f0 := hS.free
      have HN := Lib.hid (hS.next hlt)
      have HBn := Lib.hid ((hB.alloc (by rw [Hb.out]; exact hB.size) (.cells MC 22)))
      clear hS hB
      go_wp2_with fail
      go_roundw
      case rel => exact ⟨i + 1, by omega, by go_num, HN.out, HBn.out.setCell (Nat.le_refl _) _⟩
      case measure => simp [intOf]; omega
    · have e3 : i = 3 := by omega
      subst e3
      have HG0 := Lib.hid (hS.grid HMC.out.1 HMC.out.2)
      have HB4 := Lib.hid hB
      have hzr : b ≤ wr.heap.size := by rw [Hb.out]; exact hB.size
      have hglb : gl < b := by rw [Hb.out]; exact hgl2
      obtain ⟨wf, hwf⟩ : ∃ wf : Nat → Nat, wf = fun j => if j < n2 then wh.getD j 0 % 3 else 0 := ⟨_, rfl⟩
      have HWf : Hid (∀ j, (wf j = if j < n2 then wh.getD j 0 % 3 else 0) ∧ wf j < 3) := Lib.hid (fun j => by
        rw [hwf]
        refine ⟨rfl, ?_⟩
        show (if j < n2 then wh.getD j 0 % 3 else 0) < 3
        split <;> omega)
      clear hS hB hwf qK qM
      go_wp2_with fail
      go_loopw [11] (fun s11 wx => ∃ i : Nat, i ≤ m ∧ s11 = .int .i64 (i : Int) ∧ Grid wx b m (fun c j => if (decide (j < i) && decide (wf j = c)) then vs.getD j undef else .slice none 0 0) ∧ Below b w3 wx) (fun s11 _ => m - (intOf s11).toNat)
      case atStart => exact ⟨0, by omega, rfl, HG0.out.congr (fun c j _ _ => by simp), HB4.out⟩
      case round =>
        obtain ⟨i, hi, rfl, hG, hB⟩ := hrel
        by_cases hlt2 : i < m
        · have HGr := Lib.hid hG
          have HBr := Lib.hid hB
          clear hG hB
          go_upto_if 55 with fail
          go_cut [12, 11] from 46 to 71 (fun s12 s11 wy => s12 = .int .i64 ((wf i : Nat) : Int) ∧ s11 = .int .i64 (i : Int) ∧ wr = wy)
          case first =>
            obtain ⟨e1, e2⟩ := HWf.out i
            by_cases hin : i < n2
            · obtain ⟨ad2, rfl, hadb, hcell⟩ := HW1.out.at_ hin
              have hcr := ((HB3x.out.trans (HBr.out.mono (by omega))).cell (p := ad2.add i) (by rw [block_of_add]; omega)).trans hcell
              rw [if_pos hin] at e1
              have hx : wh.getD i 0 < 256 := bytes_getD HWb.out i
              generalize wh.getD i 0 = x at hcr e1 hx hcell
              have HE := Lib.hid e1
              clear e1 e2 hcell
              go_wp2_with fail
              go_meet
              exact ⟨by rw [HE.out, Int.natCast_emod]; rfl, rfl, rfl⟩
            · rw [if_neg hin] at e1
              have HE := Lib.hid e1
              clear e1 e2
              go_wp2_with fail
              go_meet
              exact ⟨by rw [HE.out]; rfl, rfl, rfl⟩
          case rest =>
            obtain ⟨rfl, rfl, rfl⟩ := hcut
            have hc3 := (HWf.out i).2
            obtain ⟨cc, hcc⟩ : ∃ cc, cc = wf i := ⟨_, rfl⟩
            rw [← hcc] at hc3 ⊢
            obtain ⟨Y, d, eu, _⟩ := HU.out i hlt2
            have q0 := HGr.out.row cc hc3
            have q1 : wr.cell? ⟨gl, i, none⟩ = some (vs.getD i undef) := (HBr.out.cell (p := ⟨gl, i, none⟩) hglb).trans (HRow.out.got i _ (by rw [List.getD_eq_getElem?_getD, List.getElem?_eq_getElem (show i < vs.length by omega)]; rfl))
            have q2 := HGr.out.cell cc i hc3 hlt2
            have f2 := HGr.out.free cc i hc3
            have HGn := Lib.hid (HGr.out.set_ cc i hlt2 (vs.getD i undef))
            have HBn := Lib.hid (HBr.out.setCell (p := ⟨b + 1 + cc, i, none⟩) (by show b ≤ b + 1 + cc; omega) (vs.getD i undef))
            have Hcc := Lib.hid hcc
            generalize hui : vs.getD i undef = ui at eu q1 q2 HGn HBn
            subst eu
            generalize ((Crc.secs blob gen).getD i []).length = k at q1 q2 HGn HBn hui
            have Hui := Lib.hid hui
            clear hcc hui
            go_wp2_with fail
            go_region
            go_wp2_with fail
            go_roundw
            case rel =>
              refine ⟨i + 1, by omega, by go_num, ?_, HBn.out.drew⟩
              refine (HGn.out.drew).congr (fun c' j' hc' hj' => ?_)
              by_cases ej : j' = i
              · subst ej
                by_cases ec : c' = cc
                · subst ec
                  have e6 := Hui.out
                  rw [if_pos ⟨rfl, rfl⟩, if_pos (by simp [← Hcc.out]), e6]
                · simp [ec, ← Hcc.out, Ne.symm ec]
              · have e5 : (j' < i + 1) = (j' < i) := propext ⟨fun _ => by omega, fun _ => by omega⟩
                simp [ej, e5]
            case measure => simp [intOf]; omega
        · have e4 : i = m := by omega
          rw [e4] at hG
          have HG5 := Lib.hid (hG.congr (F' := fun c j => if (decide (wf j = c)) then vs.getD j undef else .slice none 0 0) (fun c j _ hj => by simp [hj]))
          have HB5 := Lib.hid hB
          clear hG hB e4
          have HGa : Hid (∀ (W : World) (p : Nat → Nat → Bool), Grid W b m (fun c j => if p c j then vs.getD j undef else .slice none 0 0) → Below b w3 W → Calls Try.prog 10 #[.slice (some ⟨b, 0, none⟩) 3 3, .int .u64 (gen : Int)] W fun e w' => GathIs w' e (gathG (gcs m (Crc.secs blob gen) p) gen) ∧ Grid w' b m (fun c j => if p c j then vs.getD j undef else .slice none 0 0) ∧ Below b w3 w') := Lib.hid (fun W p hg hb => by
            have hbz : b ≤ W.heap.size := by rw [Hb.out]; exact hb.size
            refine (gather_any _ W.heap.size 3 3 gen _ W (hg.rc (B := b) (L := Crc.secs blob gen) (fun j hj => ?_) hbz (by omega)) (Nat.le_refl _) (by omega) (fun j hj => ?_)).mono ?_
            · obtain ⟨Y, d, h1, h2, h3⟩ := HU.out j hj
              exact ⟨Y, d, h1, RB.below (by rw [Hb.out]; exact h2) hb, h3⟩
            · have e : (gcs m (Crc.secs blob gen) p).getD j [] = (List.range m).map fun i => gcell (Crc.secs blob gen) p j i := by
                unfold gcs
                rw [List.getD_eq_getElem?_getD, List.getElem?_map, List.getElem?_range hj]; rfl
              rw [e, List.length_map, List.length_range]
              omega
            · rintro e w' ⟨h1, h2⟩
              exact ⟨h1, hg.below h2, hb.trans (h2.mono hbz)⟩)
          have HG1 : Hid (Calls Try.prog 10 #[.slice (some ⟨b, 0, none⟩) 3 3, .int .u64 (gen : Int)] wr fun e w' => (∃ X cc, e = .returned (.tuple #[.slice X n cc, .int .i64 0]) ∧ RB w' w'.heap.size X n blob) ∧ Grid w' b m (fun c j => if (decide (wf j = c)) then vs.getD j undef else .slice none 0 0) ∧ Below b w3 w') := Lib.hid (by
            refine (HGa.out wr (fun c j => decide (wf j = c)) HG5.out HB5.out).mono ?_
            rintro e w' ⟨h1, h2, h3⟩
            refine ⟨?_, h2, h3⟩
            rw [Hmb.out, holds_gath (grid_holds (fun i _ => ⟨wf i, (HWf.out i).2, by simp⟩)) hgen HBl.out (by rw [← Hmb.out]; omega)] at h1
            obtain ⟨X, cc, h4, h5, _⟩ := h1
            rw [Hl.out] at h4 h5
            exact ⟨X, cc, h4, h5⟩)
          go_wp2_with fail
          refine HG1.out.mono ?_
          rintro e w6 ⟨⟨X, cc, rfl, hX⟩, hG6, hB6⟩
          have hb6 := HB3x.out.trans (hB6.mono (by omega))
          have hRf := HR1.out.below hb6
          have qc1 := run_convert_rb (P := Try.prog) 22 5 9 cc Try.underlying22 Try.underlying5 Try.underlying9 hX
          have qc2 := run_convert_rb (P := Try.prog) 22 5 9 c Try.underlying22 Try.underlying5 Try.underlying9 hRf
          have HG6 := Lib.hid hG6
          have HB6 := Lib.hid hB6
          clear hG6 hB6 hX hRf hb6
          obtain ⟨q, hq⟩ : ∃ q, q = n2 % m := ⟨_, rfl⟩
          have hqm : q < m := by rw [hq]; exact Nat.mod_lt _ (by omega)
          have tq : (n2 : Int) % (m : Int) = (q : Int) := by rw [hq]; exact (Int.natCast_emod _ _).symm
          have Hq := Lib.hid hq
          clear hq
          go_wp2_with fail
          go_loopw [16] (fun s16 wx => ∃ i : Nat, i ≤ 3 ∧ s16 = .int .i64 (i : Int) ∧ Grid wx b m (fun c j => if (decide (wf j = c) && !(decide (c < i) && decide (j = q))) then vs.getD j undef else .slice none 0 0) ∧ Below b w3 wx) (fun s16 _ => 3 - (intOf s16).toNat)
          case atStart => exact ⟨0, by omega, rfl, HG6.out.congr (fun c j _ _ => by simp), HB6.out⟩
          case round =>
            obtain ⟨i, hi, rfl, hG, hB⟩ := hrel
            by_cases hlt3 : i < 3
            · have q0 := hG.row i hlt3
              have q2 := hG.cell i q hlt3 hqm
              have f2 := hG.free i q hlt3
              have HGn := Lib.hid (hG.set_ i q hqm (.slice none 0 0))
              have HBn := Lib.hid (hB.setCell (p := ⟨b + 1 + i, q, none⟩) (by show b ≤ b + 1 + i; omega) (.slice none 0 0))
              generalize (if (decide (wf q = i) && !(decide (i < i) && decide (q = q))) = true then vs.getD q undef else .slice none 0 0) = u2 at q2
              clear hG hB
              go_wp2_with fail
              go_roundw
              case rel =>
                refine ⟨i + 1, by omega, by go_num, ?_, HBn.out⟩
                refine HGn.out.congr (fun c' j' hc' hj' => ?_)
                by_cases ej : j' = q
                · subst ej
                  by_cases ec : c' = i
                  · subst ec
                    simp
                  · have e5 : (c' < i + 1) = (c' < i) := propext ⟨fun _ => by omega, fun _ => by omega⟩
                    simp [ec, e5]
                · simp [ej]
              case measure => simp [intOf]; omega
            · have e4 : i = 3 := by omega
              rw [e4] at hG
              have HG7 := Lib.hid hG
              have HB7 := Lib.hid hB
              clear hG hB e4
              have HG8 : Hid (Calls Try.prog 10 #[.slice (some ⟨b, 0, none⟩) 3 3, .int .u64 (gen : Int)] wr fun e w' => e = .returned (.tuple #[.slice none 0 0, .int .i64 12]) ∧ Below b w3 w') := Lib.hid (by
                refine (HGa.out wr (fun c j => (decide (wf j = c) && !(decide (c < 3) && decide (j = q)))) HG7.out HB7.out).mono ?_
                rintro e w' ⟨h1, h2, h3⟩
                refine ⟨?_, h3⟩
                rw [Hmb.out, grid_lost (lost := q) hgen HBl.out (by rw [← Hmb.out]; omega) (by rw [← Hmb.out]; exact hqm) (fun c hc => by simp [hc])] at h1
                exact h1)
              go_wp2_with fail
              refine HG8.out.mono ?_
              rintro e w8 ⟨rfl, hB8⟩
              have HB8 := Lib.hid (HB3.out.trans (hB8.mono (by omega)))
              clear hB8
              go_wp2
              go_ret
              exact ⟨rfl, HB8.out⟩

end Go.Proofs.Ytijhmopejadpdaa

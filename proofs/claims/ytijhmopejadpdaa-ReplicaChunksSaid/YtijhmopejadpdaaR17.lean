/- The walk over the statement ReplicaChunks. -/
import Derived.Test.YtijhmopejadpdaaR16
namespace Go.Proofs.Ytijhmopejadpdaa
open Go.RowKit

/-- A list of byte strings of known lengths, all of it the call's own. -/
def Own (w : World) (base : Nat) (v : Value) (vs : List Value) (Ln : Nat → Nat) : Prop :=
  OV w base 22 v vs ∧ ∀ j, j < vs.length → ∃ l : List Nat, l.length = Ln j ∧ OB w base 5 (vs.getD j undef) l
theorem Own.of_sl {w : World} {base : Nat} {v : Value} {vs : List Value} {ls : List (List Nat)} (h : SL w base v vs ls) : Own w base v vs (fun j => (ls.getD j []).length) :=
  ⟨h.1, fun j hj => ⟨ls.getD j [], rfl, h.2.2 j (by rw [← h.2.1]; exact hj)⟩⟩
theorem OV.rowv {w : World} {base g n cap : Nat} {e : TypeId} {xs : List Value} (h : OV w base e (.slice (some ⟨g, 0, none⟩) n cap) xs) (h0 : 0 < xs.length) : RowV w g e cap xs := by
  obtain ⟨g', c', e1, _, _, _, _, hr⟩ := h.row h0
  injection e1 with e1 e2 e3
  injection e1 with e1
  injection e1 with e1
  subst e1 e3
  exact hr
theorem Own.set_ {w : World} {base g n cap q x : Nat} {v : Value} {vs : List Value} {Ln : Nat → Nat} {l : List Nat} (h : Own w base v vs Ln) (ho : OB w base 5 (.slice (some ⟨g, 0, none⟩) n cap) l) (u : Value) (hu : u = bv x) : Own (w.setCell ⟨g, q, none⟩ u) base v vs Ln := by
  refine ⟨h.1.other (fun g' hg' => ?_) u, fun j hj => ?_⟩
  · intro e
    have e : g' = g := e
    subst e
    exact own_apart ho h.1 g' rfl hg'.symm
  · obtain ⟨l', h1, h2⟩ := h.2 j hj
    generalize vs.getD j undef = vj at h2
    by_cases e : vj.ownBlock = some g
    · obtain ⟨A, c, e1, _⟩ := h2.form
      subst e1
      rcases h2.2 with ⟨e2, _⟩ | ⟨g', cap', cur, e2, _⟩
      · injection e2 with e2 _ _
        subst e2
        cases e
      · injection e2 with e2 e3 e4
        subst e2 e4
        injection e with e
        have e : g' = g := e
        subst e
        exact ⟨l'.set q x, by rw [List.length_set]; exact h1, h2.set_ q x u hu⟩
    · exact ⟨l', h1, h2.other (fun g' hg' e' => e (by have e' : g' = g := e'; rw [← e']; exact hg')) u⟩

set_option maxRecDepth 4000 in
set_option maxHeartbeats 2000000 in
theorem ReplicaChunks_walk (blob : List Nat) (hbl : Crc.Bytes blob) (A : Option Addr) (n c gen : Nat) (w : World)
    (hr : RB w w.heap.size A n blob) (hnc : n ≤ c) :
    Calls Try.prog 5 #[.slice A n c, .int .u64 (gen : Int)] w (True1 w) := by
  obtain ⟨i0, hi0, hz0, hz1, hz2⟩ := info_parts byteInfo
  have HR := Lib.hid hr
  have HBl := Lib.hid hbl
  have hl := hr.len
  clear hr hbl
  unfold True1
  go_enter Try.func5, Try.ntmps5
  go_wp2_with fail
  refine (awake_any w).mono ?_
  rintro e w1 ⟨rfl, hb1⟩
  have HB1 := Lib.hid hb1
  clear hb1
  by_cases h1 : (n : Int) > 1000
  · go_wp2_with fail
    refine (awake_any w1).mono ?_
    rintro e w2 ⟨rfl, hb2⟩
    have HB2 := Lib.hid (HB1.out.trans (hb2.mono HB1.out.size))
    clear hb2
    go_wp2
    go_ret
    exact ⟨rfl, HB2.out⟩
  obtain ⟨m, hm⟩ : ∃ m, m = Crc.chunkM n := ⟨_, rfl⟩
  have hm1 : 1 ≤ m := by rw [hm]; unfold Crc.chunkM; omega
  have hm2 : m ≤ 32 := by rw [hm]; unfold Crc.chunkM; omega
  have hmb : m = Crc.chunkM blob.length := by rw [hm, hl]
  have Hl := Lib.hid hl
  have Hmb := Lib.hid hmb
  clear hm hmb hl
  have hz1' := HB1.out.size
  have HR1 := Lib.hid (HR.out.below HB1.out)
  have HEm := Lib.hid (ob_empty w1 5)
  have HR1' : Hid (RB (w1.alloc (.cells #[] 5)) w.heap.size A n blob) := Lib.hid (HR1.out.alloc (by omega) _)
  have HLn : Hid ((0 : Nat) + n ≤ 1099511627776) := Lib.hid (by omega)
  have HSz : Hid (w1.heap.size ≤ (w1.alloc (.cells #[] 5)).heap.size) := Lib.hid (by simp)
  go_wp2_with (at_builtin; refine wpList_append_rb _ rfl (.tmp 22) (.tmp 23) _ rfl w1.heap.size 5 i0 Try.underlying22 hi0 hz0 hz1 hz2 (.slice (some ⟨w1.heap.size, 0, none⟩) 0 0) [] rfl HEm.out w.heap.size A n c blob rfl HR1'.out HLn.out HSz.out ?_; intro v4 w4 hown hg _; have hb4 : Below w1.heap.size w1 w4 := ((Below.refl _ w1).alloc (Nat.le_refl _) _).trans (below_grown HEm.out hg (Nat.le_refl _) HSz.out); rw [List.nil_append] at hown; obtain ⟨Ao, co, rfl, hro, hco, _⟩ := hown.form' Hl.out; have HO4 := Lib.hid hro; have HB4 := Lib.hid hb4; clear hown hg hb4 hro)
  have HB4w := Lib.hid (HB1.out.trans (HB4.out.mono hz1'))
  have HR4 := Lib.hid (HR1.out.below (HB4.out.mono hz1'))
  have hz4 := HB4w.out.size
  clear HR1' HEm HLn HSz
  have HC : Hid (∀ W, Below w4.heap.size w4 W → Calls Try.prog 9 #[.slice Ao n co, .int .u64 (gen : Int)] W fun e w' => ∃ X cc vs, e = .returned (.tuple #[.slice X m cc, .int .i64 0]) ∧ SL w' W.heap.size (.slice X m cc) vs (Crc.secs blob gen) ∧ Below W.heap.size W w') := Lib.hid (fun W hW => by
    refine (chunks_any blob HBl.out w4.heap.size n co gen Ao W (HO4.out.below hW) hW.size (by omega) hco).mono ?_
    rintro e w' ⟨v, vs, rfl, hSL, hb⟩
    obtain ⟨X, cc, rfl, _⟩ := hSL.1.form' (n := m) (by rw [hSL.2.1, Crc.secs_length, Hmb.out])
    exact ⟨X, cc, vs, rfl, hSL, hb⟩)
  refine (HC.out w4 (Below.refl _ _)).mono ?_
  rintro e w5 ⟨Xa, ca, vs, rfl, hSL, hb5⟩
  have hvl : vs.length = m := by rw [hSL.2.1, Crc.secs_length, Hmb.out]
  obtain ⟨gl, cl, e5, hgl1, hgl2, hcl, _, _⟩ := hSL.1.row (by omega)
  injection e5 with e51 e52 e53
  subst e51 e53
  have hLn : ∀ j, j < m → 25 ≤ ((Crc.secs blob gen).getD j []).length ∧ ((Crc.secs blob gen).getD j []).length ≤ 57 := fun j hj => by
    have h := Crc.secs_each (gen := gen) HBl.out (show j < Crc.chunkM blob.length by rw [← Hmb.out]; exact hj)
    exact ⟨h.2.2, h.2.1⟩
  have hOw := Own.of_sl hSL
  obtain ⟨Ln, hLnE⟩ : ∃ Ln : Nat → Nat, Ln = fun j => ((Crc.secs blob gen).getD j []).length := ⟨_, rfl⟩
  rw [← hLnE] at hOw
  have HLn : Hid (∀ j, j < m → 25 ≤ Ln j ∧ Ln j ≤ 57) := Lib.hid (by rw [hLnE]; exact hLn)
  have HOw := Lib.hid hOw
  have HB5 := Lib.hid hb5
  clear hSL hb5 hLn hLnE hOw e52
  go_wp2_with fail
  go_loopw [8] (fun s8 wr => ∃ i : Nat, i ≤ m ∧ s8 = .int .i64 (i : Int) ∧ Own wr w4.heap.size (.slice (some ⟨gl, 0, none⟩) m ca) vs Ln ∧ Below w4.heap.size w4 wr) (fun s8 _ => m - (intOf s8).toNat)
  case atStart => exact ⟨0, by omega, rfl, HOw.out, HB5.out⟩
  case round =>
    obtain ⟨i, hi, rfl, hO, hb⟩ := hrel
    by_cases hlt : i < m
    · obtain ⟨l0, hl0, ho0⟩ := hO.2 i (by omega)
      obtain ⟨h25, h57⟩ := HLn.out i hlt
      obtain ⟨g, cap, hvi, hg1, hg2, hcap, _, _⟩ := ho0.row (by omega)
      rw [hl0] at hvi hcap
      have Hvi := Lib.hid hvi
      have HO0 := Lib.hid hO
      have HBr := Lib.hid hb
      obtain ⟨k, hk⟩ : ∃ k, k = Ln i := ⟨_, rfl⟩
      rw [← hk] at h25 h57 hcap
      have Hk := Lib.hid hk
      clear hO hb ho0 hl0 hvi hk
      go_wp2_with fail
      go_loopw [9] (fun s9 wr => ∃ j : Nat, j ≤ k ∧ s9 = .int .i64 (j : Int) ∧ Own wr w4.heap.size (.slice (some ⟨gl, 0, none⟩) m ca) vs Ln ∧ Below w4.heap.size w4 wr) (fun s9 _ => k - (intOf s9).toNat)
      case atStart => exact ⟨0, by omega, rfl, HO0.out, HBr.out⟩
      case round =>
        obtain ⟨j, hj, rfl, hO, hb⟩ := hrel
        obtain ⟨l1, hl1, ho1⟩ := hO.2 i (by omega)
        rw [Hvi.out, ← Hk.out] at ho1
        have q1 := (OV.rowv hO.1 (by omega)).got i (vs.getD i undef) (by rw [List.getD_eq_getElem?_getD, List.getElem?_eq_getElem (show i < vs.length by omega)]; rfl)
        rw [Hvi.out, ← Hk.out] at q1
        by_cases hlt2 : j < k
        · obtain ⟨g', c', e1, _, _, _, _, hrw⟩ := ho1.row (by rw [hl1, ← Hk.out]; omega)
          injection e1 with e11 e12 e13
          injection e11 with e11
          injection e11 with e11
          subst e11 e13
          have q2 := hrw.got j (by rw [hl1, ← Hk.out]; exact hlt2)
          have f2 := hrw.free j
          generalize l1.getD j 0 = y at q2
          have HOn := Lib.hid (hO.set_ (q := j) (x := (y + 1) % 256) ho1 (.int .u8 (((y : Int) + 1) % 256)) (by unfold bv; rw [show (((y : Int) + 1) % 256) = (((y + 1) % 256 : Nat) : Int) by omega]))
          have HBn := Lib.hid (hb.setCell (p := ⟨g, j, none⟩) hg1 (.int .u8 (((y : Int) + 1) % 256)))
          clear hO hb ho1 hrw e12
          go_wp2_with fail
          go_roundw
          case rel => exact ⟨j + 1, by omega, by go_num, HOn.out, HBn.out⟩
          case measure => simp [intOf]; omega
        · have HOn := Lib.hid hO
          have HBn := Lib.hid hb
          have e2 : j = k := by omega
          clear hO hb ho1
          go_wp2_with fail
          go_roundw
          case rel => exact ⟨i + 1, by omega, by go_num, HOn.out, HBn.out⟩
          case measure => simp [intOf]; omega
    · have HBn := Lib.hid hb
      clear hO hb
      go_wp2_with fail
      refine (HC.out wr HBn.out).mono ?_
      rintro e w6 ⟨Xc, cc, us, rfl, hSL6, hb6⟩
      have hz6 := HBn.out.size
      have hb46 := HBn.out.trans (hb6.mono hz6)
      have HSL6 := Lib.hid hSL6
      have HB6 := Lib.hid hb46
      have HR6 := Lib.hid (HR4.out.below (hb46.mono hz4))
      have hz66 := hb46.size
      clear hSL6 hb6 hb46
      have HRC : Hid (Calls Try.prog 11 #[.slice A n c, .int .u64 (gen : Int)] w6 fun e w' => ∃ X dd vs, e = .returned (.tuple #[.slice X m dd, .int .i64 0]) ∧ SL w' w6.heap.size (.slice X m dd) vs (Crc.secs blob gen) ∧ Below w6.heap.size w6 w') := Lib.hid (by
        refine (rchunks_any blob HBl.out w.heap.size n c gen A w6 HR6.out (by omega) (by omega) hnc).mono ?_
        rintro e w' ⟨v, vs, rfl, hSL, hb⟩
        obtain ⟨X, dd, rfl, _⟩ := hSL.1.form' (n := m) (by rw [hSL.2.1, Crc.secs_length, Hmb.out])
        exact ⟨X, dd, vs, rfl, hSL, hb⟩)
      go_wp2_with fail
      refine HRC.out.mono ?_
      rintro e w7 ⟨Xb, cb, ts, rfl, hSL7, hb7⟩
      have hB7 := HB6.out.trans (hb7.mono hz66)
      have hls : ∀ j, j < (Crc.secs blob gen).length → Crc.Bytes ((Crc.secs blob gen).getD j []) ∧ ((Crc.secs blob gen).getD j []).length ≤ 65536 := fun j hj => by
        rw [Crc.secs_length] at hj
        have h := Crc.secs_each (gen := gen) HBl.out hj
        exact ⟨h.1, by omega⟩
      have hrs1 : RS w7 w7.heap.size Xc m (Crc.secs blob gen) := BL.rs (b := wr.heap.size) (base := wr.heap.size) (HSL6.out.below hb7) hls
      have hrs2 : RS w7 w7.heap.size Xb m (Crc.secs blob gen) := BL.rs (b := w6.heap.size) (base := w6.heap.size) hSL7 hls
      have HSm : Hid (Calls Try.prog 12 #[.slice Xc m cc, .slice Xb m cb] w7 fun e w' => e = .returned (.bool true) ∧ Below w7.heap.size w7 w') := Lib.hid (same_any (Crc.secs blob gen) w7.heap.size m cc cb Xc Xb w7 hrs1 hrs2 (Nat.le_refl _) (by omega))
      have HB7 := Lib.hid hB7
      have hz7 := hB7.size
      clear hSL7 hb7 hB7 hls hrs1 hrs2
      go_wp2_with fail
      refine HSm.out.mono ?_
      rintro e w8 ⟨rfl, hb8⟩
      have hB8 := HB7.out.trans (hb8.mono hz7)
      have qc1 := run_convert_rb (P := Try.prog) 22 5 9 co Try.underlying22 Try.underlying5 Try.underlying9 (HO4.out.below hB8)
      have qc2 := run_convert_rb (P := Try.prog) 22 5 9 c Try.underlying22 Try.underlying5 Try.underlying9 (HR4.out.below (hB8.mono hz4))
      have HB8 := Lib.hid (HB4w.out.trans (hB8.mono hz4))
      clear hb8 hB8
      go_wp2
      go_ret
      exact ⟨rfl, HB8.out⟩

end Go.Proofs.Ytijhmopejadpdaa

/- The walk over the reference's decoding of an entry whose sum is right. -/
import Derived.Test.YtibmigeikkmofaaE10
namespace Go.Proofs.Ytibmigeikkmofaa
open Go.RowKit

set_option maxHeartbeats 800000 in
theorem rdecode_rest (l : List Nat) (hl : Crc.Bytes l) (B c : Nat) (A : Option Addr) (w : World) (hr : RB w B A 37 l) (hB : B ≤ w.heap.size) (hc : 37 ≤ c) (hs : Crc.num ((l.drop 29).take 8) = Crc.sumS (l.take 29))
    (k f1 f2 f3 x0 x1 x2 x3 x4 x5 x6 x7 : Nat) (hk : l.getD 0 0 = k) (h1 : Crc.num ((l.drop 1).take 4) = f1) (h2 : Crc.num ((l.drop 5).take 8) = f2) (h3 : Crc.num ((l.drop 21).take 8) = f3)
    (hx : (l.drop 13).take 8 = [x0, x1, x2, x3, x4, x5, x6, x7]) (ok : Bool) (hok : validB (k : Int) (f1 : Int) f2 [x0, x1, x2, x3, x4, x5, x6, x7] = ok) :
    Calls Try.prog 13 #[.slice A 37 c] w fun e w' => (e = .returned (.tuple (if ok then #[.agg (entCells k f1 f2 x0 x1 x2 x3 x4 x5 x6 x7), .int .u64 (f3 : Int), .int .i64 0] else #[noEnt, .int .u64 0, .int .i64 5]))) ∧ Below w.heap.size w w' := by
  obtain ⟨ad, rfl, hbl, _⟩ := hr.at_ (k := 0) (by omega)
  have h29 : ¬ c = 29 := by omega
  have hlen := hr.len
  have hne : Crc.sealB (l.take 29) = l := (seal_iff hl hlen).2 hs
  have t : ((bstr (Crc.sealB (l.take 29))).toList == (bstr l).toList) = true := by rw [hne]; exact beq_self_eq_true _
  obtain ⟨w0, hw0⟩ : ∃ w0, w0 = w.alloc (.cells #[.int .i64 0, .int .i64 0, .int .u64 0, .int .u8 0, .int .u8 0, .int .u8 0, .int .u8 0, .int .u8 0, .int .u8 0, .int .u8 0, .int .u8 0] 26) := ⟨_, rfl⟩
  obtain ⟨St, HSt⟩ : ∃ St : World → Prop, ∀ W, St W ↔ (RB W B (some ad) 37 l ∧ Blk W w.heap.size 26 #[.int .i64 0, .int .i64 0, .int .u64 0, .int .u8 0, .int .u8 0, .int .u8 0, .int .u8 0, .int .u8 0, .int .u8 0, .int .u8 0, .int .u8 0] ∧ Below w.heap.size w W) := ⟨_, fun _ => Iff.rfl⟩
  have hS0 : St w0 := (HSt w0).2 ⟨by rw [hw0]; exact Reads.alloc hr hB _, by rw [hw0]; exact Blk.new _ _ _, by rw [hw0]; exact (Below.refl _ _).alloc (Nat.le_refl _) _⟩
  have hS0d : St w0.drew := (HSt _).2 ⟨((HSt w0).1 hS0).1.drew, ((HSt w0).1 hS0).2.1, ((HSt w0).1 hS0).2.2.drew⟩
  have hcv : ∀ W, St W → (convert 27 9 (.slice (some ad) 37 c)).run Try.prog W = .ok (.string (bstr l)) W := fun W h => run_convert_rb 27 5 9 c Try.underlying27 Try.underlying5 Try.underlying9 ((HSt W).1 h).1
  have HSeal : Hid (∀ W, St W → Calls Try.prog 14 #[.slice (some ad) 29 c] W fun e w' => ∃ A' c', e = .returned (.slice A' 37 c') ∧ St w' ∧ RB w' w'.heap.size A' 37 (Crc.sealB (l.take 29))) := Lib.hid (by
    intro W h
    obtain ⟨h1, h2, h3⟩ := (HSt W).1 h
    refine (rseal_any (l.take 29) (bytes_take hl 29) B 29 c (some ad) W (h1.take 29 (by omega)) (by have := h3.size; omega) (by omega)).mono ?_
    rintro e w' ⟨v, rfl, hO, hb⟩
    obtain ⟨A', c', rfl, hr', _, _⟩ := hO.form' (n := 37) (by rw [List.length_append, Crc.leb_length, List.length_take]; omega)
    refine ⟨A', c', rfl, (HSt w').2 ⟨h1.below (hb.mono (by have := h3.size; omega)), h2.below hb h2.lt, h3.trans (hb.mono h3.size)⟩, hr'⟩)
  have HS := Lib.hid HSt
  have q29 : (29 : Int) ≤ (c : Int) := by omega
  have hcv1 := hcv w0.drew hS0d
  have HCV := Lib.hid hcv
  have Hw0 := Lib.hid hw0
  have HL := Lib.hid hl
  have HK := Lib.hid hk
  have HX := Lib.hid hx
  have HOK := Lib.hid hok
  have HF1 := Lib.hid h1
  have HF2 := Lib.hid h2
  have HF3 := Lib.hid h3
  clear hr hl hs hw0 hne hlen HSt hcv hk hx hok h1 h2 h3
  go_enter Try.func13, Try.ntmps13
  go_upto_region 3 with fail
  rw [← Hw0.out]
  go_cut [17] (fun s17 wx => s17 = .bool false ∧ St wx)
  case first =>
    go_region_with (go_at_call 14; (with_reducible refine (HSeal.out _ (by assumption)).mono ?_); rintro e w2 ⟨A', c', rfl, hS, hr⟩; have hcv2 := HCV.out w2 hS; have hcs := run_convert_rb (P := Try.prog) 27 5 9 c' Try.underlying27 Try.underlying5 Try.underlying9 hr)
    all_goals (go_wp2_with fail; go_meet; exact ⟨rfl, hS⟩)
  case rest =>
    obtain ⟨rfl, hS⟩ := hcut
    clear hcv1 hS0 hS0d
    go_upto_region 5 with fail
    obtain ⟨hr, hE, hBw⟩ := (HS.out wc).1 hS
    have hBz : B ≤ wc.heap.size := by have := hBw.size; omega
    obtain ⟨adx, ea, _, hcell⟩ := hr.at_ (k := 0) (by omega)
    injection ea with ea
    subst ea
    rw [HK.out] at hcell
    have hcell' : wc.cell? ad = some (.int .u8 (k : Int)) := by
      have e : ad.add 0 = ad := by unfold Addr.add; rw [if_pos rfl]
      rwa [e] at hcell
    clear hcell
    have q5 : (5 : Int) ≤ (c : Int) := by omega
    have q13 : (13 : Int) ≤ (c : Int) := by omega
    have q1' : ¬ c = 1 := by omega
    have q5' : ¬ c = 5 := by omega
    have hk256 : k < 256 := by rw [← HK.out]; exact bytes_getD HL.out 0
    have hwk : IntKind.i64.wrap (k : Int) = (k : Int) := IntWalk.i64_in _ (by omega)
    have hn1 : f1 < 4294967296 := by rw [← HF1.out]; exact num_take_lt (bytes_drop HL.out 1) 4
    have hw1 : IntKind.i64.wrap (f1 : Int) = (f1 : Int) := IntWalk.i64_in _ (by omega)
    have HG1 : Hid (∀ W, RB W B (some ad) 37 l → Calls Try.prog 21 #[.slice (some ⟨ad.block, ad.off + 1, none⟩) 4 (c - 1)] W fun e w' => e = .returned (.int .u64 (f1 : Int)) ∧ W = w') := Lib.hid (fun W h => by
      rw [← HF1.out]; exact rget_any _ (bytes_take (bytes_drop HL.out 1) 4) B 4 (c - 1) _ W (h.cut' 1 4 (by omega) (by omega)) (by omega))
    have HG2 : Hid (∀ W, RB W B (some ad) 37 l → Calls Try.prog 21 #[.slice (some ⟨ad.block, ad.off + 5, none⟩) 8 (c - 5)] W fun e w' => e = .returned (.int .u64 (f2 : Int)) ∧ W = w') := Lib.hid (fun W h => by
      rw [← HF2.out]; exact rget_any _ (bytes_take (bytes_drop HL.out 5) 8) B 8 (c - 5) _ W (h.cut' 5 8 (by omega) (by omega)) (by omega))
    have HRc := Lib.hid hr
    have HEc := Lib.hid hE
    have HBc := Lib.hid hBw
    have hca : ∀ o : Obj, (wc.alloc o).cell? ad = some (.int .u8 (k : Int)) := fun o => (World.cell?_alloc_lt wc o ad (by omega)).trans hcell'
    clear hr hE hBw hS
    obtain ⟨S2, HS2⟩ : ∃ S2 : World → Prop, ∀ W, S2 W ↔ (W.cell? ad = some (.int .u8 (k : Int)) ∧ RB W B (some ad) 37 l ∧ B ≤ W.heap.size) := ⟨_, fun _ => Iff.rfl⟩
    have HKa : Hid (∀ (W : World) (o : Obj), (W.cell? ad = some (.int .u8 (k : Int)) ∧ S2 W) → ((W.alloc o).cell? ad = some (.int .u8 (k : Int)) ∧ S2 (W.alloc o))) := Lib.hid (fun W o ⟨h1, h2⟩ => by
      obtain ⟨_, h3, h4⟩ := (HS2 W).1 h2
      have h5 : (W.alloc o).cell? ad = some (.int .u8 (k : Int)) := (World.cell?_alloc_lt W o ad (by omega)).trans h1
      exact ⟨h5, (HS2 _).2 ⟨h5, Reads.alloc h3 h4 _, by simp; omega⟩⟩)
    have hSd : wc.drew.cell? ad = some (.int .u8 (k : Int)) ∧ S2 wc.drew := ⟨hcell', (HS2 _).2 ⟨hcell', HRc.out.drew, hBz⟩⟩
    have HG1' : Hid (∀ W, S2 W → Calls Try.prog 21 #[.slice (some ⟨ad.block, ad.off + 1, none⟩) 4 (c - 1)] W fun e w' => e = .returned (.int .u64 (f1 : Int)) ∧ W = w') := Lib.hid (fun W h => HG1.out W ((HS2 W).1 h).2.1)
    have HG2' : Hid (∀ W, S2 W → Calls Try.prog 21 #[.slice (some ⟨ad.block, ad.off + 5, none⟩) 8 (c - 5)] W fun e w' => e = .returned (.int .u64 (f2 : Int)) ∧ W = w') := Lib.hid (fun W h => HG2.out W ((HS2 W).1 h).2.1)
    have HSd := Lib.hid hSd
    have HKf : Hid (∀ o : Obj, (wc.alloc o).drew.cell? ad = some (.int .u8 (k : Int)) ∧ S2 ((wc.alloc o).drew)) := Lib.hid (fun o => by
      have h5 : (wc.alloc o).drew.cell? ad = some (.int .u8 (k : Int)) := hca o
      exact ⟨h5, (HS2 _).2 ⟨h5, (Reads.alloc HRc.out hBz o).drew, by simp; omega⟩⟩)
    clear HS2 hSd hca
    go_cut [5] (fun s5 wx => s5 = .pointer (some ⟨wc.heap.size, 0, none⟩) ∧ wx = (wc.alloc (.cells #[.int .i64 (k : Int), .int .i64 (f1 : Int), .int .u64 (f2 : Int), .int .u8 0, .int .u8 0, .int .u8 0, .int .u8 0, .int .u8 0, .int .u8 0, .int .u8 0, .int .u8 0] 26)).drew)
    case first =>
      go_region_held3 (fun W => W.cell? ad = some (.int .u8 (k : Int)) ∧ S2 W) (first | assumption | exact HSd.out | exact HKf.out _ | exact HKa.out _ _ (by assumption))
        (first
          | (go_at_call 21; (with_reducible refine (HG1'.out _ (And.right (by assumption))).mono ?_); rintro e w' ⟨rfl, rfl⟩)
          | (go_at_call 21; (with_reducible refine (HG2'.out _ (And.right (by assumption))).mono ?_); rintro e w' ⟨rfl, rfl⟩))
      all_goals (go_wp2_with fail; go_meet; exact ⟨rfl, rfl⟩)
    case rest =>
      obtain ⟨rfl, rfl⟩ := hcut
      go_wp2_with fail
      have hlD := HL.out
      obtain ⟨f, hf⟩ : ∃ f : Nat → Value, ∀ j, f j = (entCells k f1 f2 x0 x1 x2 x3 x4 x5 x6 x7).getD j (.bool false) := ⟨_, fun _ => rfl⟩
      have hF0 : Fill (wc.alloc (.cells #[.int .i64 (k : Int), .int .i64 (f1 : Int), .int .u64 (f2 : Int), .int .u8 0, .int .u8 0, .int .u8 0, .int .u8 0, .int .u8 0, .int .u8 0, .int .u8 0, .int .u8 0] 26)).drew wc.heap.size 26 11 (3 + 0) f :=
        ⟨_, Blk.new _ _ _, rfl, fun j hj => by
          rw [hf]
          have : j = 0 ∨ j = 1 ∨ j = 2 := by omega
          rcases this with rfl | rfl | rfl <;> rfl⟩
      have hfd : ∀ i, i < 8 → f (3 + i) = bv (l.getD (13 + i) 0) := fun i hi => by
        have hx := HX.out
        have e : l.getD (13 + i) 0 = ((l.drop 13).take 8).getD i 0 := by
          rw [List.getD_eq_getElem?_getD, List.getD_eq_getElem?_getD, List.getElem?_take_of_lt hi, List.getElem?_drop]
        rw [hf, e, hx]
        have : i = 0 ∨ i = 1 ∨ i = 2 ∨ i = 3 ∨ i = 4 ∨ i = 5 ∨ i = 6 ∨ i = 7 := by omega
        rcases this with rfl | rfl | rfl | rfl | rfl | rfl | rfl | rfl <;> rfl
      have HFD := Lib.hid hfd
      have HFE := Lib.hid hf
      have hwlt : w.heap.size < wc.heap.size := HEc.out.lt
      clear hfd hf hlD
      go_loopw [6] (fun s6 wr => ∃ i : Nat, i ≤ 8 ∧ s6 = .int .i64 (i : Int) ∧ Fill wr wc.heap.size 26 11 (3 + i) f ∧ Below wc.heap.size wc wr) (fun s6 _ => 8 - (intOf s6).toNat)
      case atStart => exact ⟨0, by omega, rfl, hF0, ((Below.refl _ _).alloc (Nat.le_refl _) _).drew⟩
      case round =>
        obtain ⟨i, hi, rfl, hF, hB⟩ := hrel
        by_cases hlt : i < 8
        · obtain ⟨ad', ea, _, hca⟩ := RB.at_ (RB.below HRc.out (hB.mono hBz)) (show 13 + i < 37 by omega)
          injection ea with ea
          subst ea
          obtain ⟨old, hold⟩ := hF.cell (3 + i) (by omega)
          have hfree := hF.free (3 + i)
          have HF := Lib.hid hF
          have HBr := Lib.hid hB
          clear hF hB
          go_wp2
          go_roundw
          case rel => exact ⟨i + 1, by omega, by go_num, HF.out.set (by omega) _ (HFD.out i hlt).symm, HBr.out.setCell (Nat.le_refl _) _⟩
          case measure => simp [intOf]; omega
        · have ei : i = 8 := by omega
          obtain ⟨W2, hW2⟩ : ∃ W2, W2 = wr := ⟨_, rfl⟩
          have g0 : wr.cell? ⟨wc.heap.size, 0, none⟩ = some (.int .i64 (k : Int)) := by rw [hF.got 0 (by omega), HFE.out]; rfl
          have g1 : wr.cell? ⟨wc.heap.size, 1, none⟩ = some (.int .i64 (f1 : Int)) := by rw [hF.got 1 (by omega), HFE.out]; rfl
          have g2 : wr.cell? ⟨wc.heap.size, 2, none⟩ = some (.int .u64 (f2 : Int)) := by rw [hF.got 2 (by omega), HFE.out]; rfl
          have g3 : wr.cell? ⟨wc.heap.size, 3, none⟩ = some (bv x0) := by rw [hF.got 3 (by omega), HFE.out]; rfl
          have g4 : wr.cell? ⟨wc.heap.size, 4, none⟩ = some (bv x1) := by rw [hF.got 4 (by omega), HFE.out]; rfl
          have g5 : wr.cell? ⟨wc.heap.size, 5, none⟩ = some (bv x2) := by rw [hF.got 5 (by omega), HFE.out]; rfl
          have g6 : wr.cell? ⟨wc.heap.size, 6, none⟩ = some (bv x3) := by rw [hF.got 6 (by omega), HFE.out]; rfl
          have g7 : wr.cell? ⟨wc.heap.size, 7, none⟩ = some (bv x4) := by rw [hF.got 7 (by omega), HFE.out]; rfl
          have g8 : wr.cell? ⟨wc.heap.size, 8, none⟩ = some (bv x5) := by rw [hF.got 8 (by omega), HFE.out]; rfl
          have g9 : wr.cell? ⟨wc.heap.size, 9, none⟩ = some (bv x6) := by rw [hF.got 9 (by omega), HFE.out]; rfl
          have g10 : wr.cell? ⟨wc.heap.size, 10, none⟩ = some (bv x7) := by rw [hF.got 10 (by omega), HFE.out]; rfl
          have HEr := Lib.hid ((HEc.out).below hB hwlt)
          have HBr := Lib.hid (HBc.out.trans (hB.mono HBc.out.size))
          have HRr := Lib.hid (RB.below HRc.out (hB.mono hBz))
          have hsz : wc.heap.size < wr.heap.size := hF.lt
          have HF := Lib.hid hF
          clear hB
          go_wp2_with fail
          refine (rvalid_any (k : Int) (f1 : Int) f2 x0 x1 x2 x3 x4 x5 x6 x7 _).mono ?_
          rintro e w4 ⟨rfl, hb4⟩
          rw [HOK.out]
          have hF4 := HF.out.below hb4 hsz
          have hE4 := HEr.out.below hb4 (by omega)
          have HB4 := Lib.hid (HBr.out.trans (hb4.mono (by omega)))
          have HR4 := Lib.hid (RB.below HRr.out (hb4.mono (by omega)))
          clear hb4 g0 g1 g2 g3 g4 g5 g6 g7 g8 g9 g10
          have e0 : w4.cell? ⟨wc.heap.size, 0, none⟩ = some (.int .i64 (k : Int)) := by rw [hF4.got 0 (by omega), HFE.out]; rfl
          have e1 : w4.cell? ⟨wc.heap.size, 1, none⟩ = some (.int .i64 (f1 : Int)) := by rw [hF4.got 1 (by omega), HFE.out]; rfl
          have e2 : w4.cell? ⟨wc.heap.size, 2, none⟩ = some (.int .u64 (f2 : Int)) := by rw [hF4.got 2 (by omega), HFE.out]; rfl
          have e3 : w4.cell? ⟨wc.heap.size, 3, none⟩ = some (bv x0) := by rw [hF4.got 3 (by omega), HFE.out]; rfl
          have e4 : w4.cell? ⟨wc.heap.size, 4, none⟩ = some (bv x1) := by rw [hF4.got 4 (by omega), HFE.out]; rfl
          have e5 : w4.cell? ⟨wc.heap.size, 5, none⟩ = some (bv x2) := by rw [hF4.got 5 (by omega), HFE.out]; rfl
          have e6 : w4.cell? ⟨wc.heap.size, 6, none⟩ = some (bv x3) := by rw [hF4.got 6 (by omega), HFE.out]; rfl
          have e7 : w4.cell? ⟨wc.heap.size, 7, none⟩ = some (bv x4) := by rw [hF4.got 7 (by omega), HFE.out]; rfl
          have e8 : w4.cell? ⟨wc.heap.size, 8, none⟩ = some (bv x5) := by rw [hF4.got 8 (by omega), HFE.out]; rfl
          have e9 : w4.cell? ⟨wc.heap.size, 9, none⟩ = some (bv x6) := by rw [hF4.got 9 (by omega), HFE.out]; rfl
          have e10 : w4.cell? ⟨wc.heap.size, 10, none⟩ = some (bv x7) := by rw [hF4.got 10 (by omega), HFE.out]; rfl
          have g0 : w4.cell? ⟨w.heap.size, 0, none⟩ = some (.int .i64 0) := hE4.cell 0
          have z0 := hE4.frozen 0
          have g1 : w4.cell? ⟨w.heap.size, 1, none⟩ = some (.int .i64 0) := hE4.cell 1
          have z1 := hE4.frozen 1
          have g2 : w4.cell? ⟨w.heap.size, 2, none⟩ = some (.int .u64 0) := hE4.cell 2
          have z2 := hE4.frozen 2
          have g3 : w4.cell? ⟨w.heap.size, 3, none⟩ = some (.int .u8 0) := hE4.cell 3
          have z3 := hE4.frozen 3
          have g4 : w4.cell? ⟨w.heap.size, 4, none⟩ = some (.int .u8 0) := hE4.cell 4
          have z4 := hE4.frozen 4
          have g5 : w4.cell? ⟨w.heap.size, 5, none⟩ = some (.int .u8 0) := hE4.cell 5
          have z5 := hE4.frozen 5
          have g6 : w4.cell? ⟨w.heap.size, 6, none⟩ = some (.int .u8 0) := hE4.cell 6
          have z6 := hE4.frozen 6
          have g7 : w4.cell? ⟨w.heap.size, 7, none⟩ = some (.int .u8 0) := hE4.cell 7
          have z7 := hE4.frozen 7
          have g8 : w4.cell? ⟨w.heap.size, 8, none⟩ = some (.int .u8 0) := hE4.cell 8
          have z8 := hE4.frozen 8
          have g9 : w4.cell? ⟨w.heap.size, 9, none⟩ = some (.int .u8 0) := hE4.cell 9
          have z9 := hE4.frozen 9
          have g10 : w4.cell? ⟨w.heap.size, 10, none⟩ = some (.int .u8 0) := hE4.cell 10
          have z10 := hE4.frozen 10
          clear hF hF4 hE4
          cases ok with
          | false =>
            clear e0 e1 e2 e3 e4 e5 e6 e7 e8 e9 e10
            go_wp2_with fail
            refine bodyPost_ret (v := .tuple #[noEnt, .int .u64 0, .int .i64 5]) (by simp [results, Try.results13, go_sem, noEnt, g0, g1, g2, g3, g4, g5, g6, g7, g8, g9, g10]) rfl ⟨rfl, ?_⟩
            exact below_11 (Nat.le_refl _) HB4.out _ _ _ _ _ _ _ _ _ _ _
          | true =>
            have q21 : (21 : Int) ≤ (c : Int) := by omega
            have q29 : (29 : Int) ≤ (c : Int) := by omega
            have q21' : ¬ c = 21 := by omega
            go_wp2_with fail
            refine wp_region_still_tail 4 (by kernel_rfl) (by kernel_rfl) ?_
            simp only [List.take_succ_cons, List.take_zero, List.drop_succ_cons, List.drop_zero]
            change wpStill _ _ w4.drew _ _ _
            have hget3 := rget_any _ (bytes_take (bytes_drop HL.out 21) 8) B 8 (c - 21) _ w4.drew (HR4.out.drew.cut' 21 8 (by omega) (by omega)) (by omega)
            rw [HF3.out] at hget3
            have HG3 := Lib.hid hget3
            clear hget3
            repeat still_step
            still_call (still_left HG3.out)
            refine wpStill_nil ?_
            change wpList _ _ _ _ _ w4.drew
            have hbv : ∀ b : Nat, bv b = Value.int .u8 (b : Int) := fun _ => rfl
            clear e0 e1 e2 e3 e4 e5 e6 e7 e8 e9 e10
            go_wp2_with fail
            refine bodyPost_ret (v := .tuple #[.agg (entCells k f1 f2 x0 x1 x2 x3 x4 x5 x6 x7), .int .u64 (f3 : Int), .int .i64 0]) (by simp [results, Try.results13, go_sem, entCells, hbv, g0, g1, g2, g3, g4, g5, g6, g7, g8, g9, g10]) rfl ⟨rfl, ?_⟩
            exact (below_11 (Nat.le_refl _) HB4.out _ _ _ _ _ _ _ _ _ _ _).drew

end Go.Proofs.Ytibmigeikkmofaa

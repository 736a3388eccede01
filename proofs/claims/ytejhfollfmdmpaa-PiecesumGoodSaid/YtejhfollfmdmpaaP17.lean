/- The reference's sum of a leaf: the walk. -/
import Derived.Test.YtejhfollfmdmpaaP16
namespace Go.Proofs.Ytejhfollfmdmpaa
open Go.RowKit

set_option maxHeartbeats 1000000 in
theorem rleafsum_any (l1 l2 : List Nat) (B n1 c1 n2 c2 n : Nat) (A1 A2 : Option Addr) (group : Int) (w : World) (hr1 : RU w B A1 n1 l1) (hr2 : RU w B A2 n2 l2) (hB : B ≤ w.heap.size) (hn : n = min n1 n2) (h40 : n ≤ 4000) :
    Calls Try.prog 25 #[.int .i64 group, .agg #[.slice A1 n1 c1, .slice A2 n2 c2]] w fun e w' => e = .returned (.int .u64 ((Crc.leafS group n l1 l2 : Nat) : Int)) ∧ Below w.heap.size w w' := by
  obtain ⟨w0, hw0⟩ : ∃ w0, w0 = w.alloc (.cells #[.slice A1 n1 c1, .slice A2 n2 c2] 32) := ⟨_, rfl⟩
  have hE0 : Blk w0 w.heap.size 32 #[.slice A1 n1 c1, .slice A2 n2 c2] := by rw [hw0]; exact Blk.new _ _ _
  have hB0 : Below w.heap.size w w0 := by rw [hw0]; exact (Below.refl _ _).alloc (Nat.le_refl _) _
  obtain ⟨T, HT'⟩ : ∃ T : World → Prop, ∀ W, T W ↔ (Blk W w.heap.size 32 #[.slice A1 n1 c1, .slice A2 n2 c2] ∧ Below w.heap.size w W) := ⟨_, fun _ => Iff.rfl⟩
  have HTb : Hid (∀ W W', T W → Below W.heap.size W W' → T W') := Lib.hid (fun W W' h hb => (HT' W').2 ⟨((HT' W).1 h).1.below hb ((HT' W).1 h).1.lt, ((HT' W).1 h).2.trans (hb.mono ((HT' W).1 h).2.size)⟩)
  have HL : Hid (∀ W, T W → W.cell? ⟨w.heap.size, 0, none⟩ = some (.slice A1 n1 c1) ∧ W.cell? ⟨w.heap.size, 1, none⟩ = some (.slice A2 n2 c2) ∧ T W) := Lib.hid (fun W h => ⟨((HT' W).1 h).1.cell 0, ((HT' W).1 h).1.cell 1, h⟩)
  have HW : Hid (∀ W, T W → Calls Try.prog 31 #[.agg #[.slice A1 n1 c1, .slice A2 n2 c2]] W fun e w' => e = .returned (.int .i64 (n : Int)) ∧ T w' ∧ Below W.heap.size W w') := Lib.hid (fun W h => by
    refine (width_any A1 A2 n1 c1 n2 c2 W).mono ?_
    rintro e w' ⟨h1, h2⟩
    rw [← hn] at h1
    exact ⟨h1, HTb.out _ _ h h2, h2⟩)
  have HPu : Hid (∀ (W : World) (A : Option Addr) (c m v k : Nat) (L : List Nat), T W → RB W W.heap.size A m L → m ≤ 65536 → k ≤ 8 → Calls Try.prog 28 #[.slice A m c, .int .u64 (v : Int), .int .i64 (k : Int)] W fun e w' => ∃ A' c', e = .returned (.slice A' (m + k) c') ∧ T w' ∧ RB w' w'.heap.size A' (m + k) (L ++ Crc.leb k v) ∧ Below W.heap.size W w') := Lib.hid (fun W A c m v k L hT hr hm hk => by
    refine (rput_any L W.heap.size m c A v (k : Int) (by omega) (by omega) W hr (Nat.le_refl _) hm).mono ?_
    rintro e w' ⟨v', rfl, hO, hb⟩
    obtain ⟨A', c', rfl, hr', _, _⟩ := hO.form' (n := m + k) (by rw [List.length_append, hr.len, Int.toNat_natCast, Crc.leb_length])
    rw [Int.toNat_natCast] at hr'
    exact ⟨A', c', rfl, HTb.out _ _ hT hb, hr', hb⟩)
  have HP1 : Hid (∀ W, T W → Calls Try.prog 28 #[.slice none 0 0, .int .u64 ((Crc.u6 group : Nat) : Int), .int .i64 4] W fun e w' => ∃ A' c', e = .returned (.slice A' 4 c') ∧ T w' ∧ RB w' w'.heap.size A' 4 (Crc.leb 4 (Crc.u6 group)) ∧ Below W.heap.size W w') := Lib.hid (fun W hT => by
    refine (HPu.out W none 0 0 (Crc.u6 group) 4 [] hT (rb_nil _ _ _) (by omega) (by omega)).mono ?_
    rintro e w' ⟨A', c', h1, h2, h3, h4⟩
    rw [Nat.zero_add, List.nil_append] at *
    exact ⟨A', c', h1, h2, h3, h4⟩)
  have HP2 : Hid (∀ (W : World) (A : Option Addr) (c : Nat), T W → RB W W.heap.size A 4 (Crc.leb 4 (Crc.u6 group)) → Calls Try.prog 28 #[.slice A 4 c, .int .u64 (n : Int), .int .i64 4] W fun e w' => ∃ A' c', e = .returned (.slice A' 8 c') ∧ T w' ∧ RB w' w'.heap.size A' 8 (Crc.leafP group n l1 l2 0)) := Lib.hid (fun W A c hT hr => by
    refine (HPu.out W A c 4 n 4 _ hT hr (by omega) (by omega)).mono ?_
    rintro e w' ⟨A', c', h1, h2, h3, _⟩
    refine ⟨A', c', h1, h2, ?_⟩
    unfold Crc.leafP Crc.leafR
    rw [List.append_nil]
    exact h3)
  have HP3 : Hid (∀ (W : World) (A : Option Addr) (c m v : Nat) (L : List Nat), T W → RB W W.heap.size A m L → m ≤ 65536 → Calls Try.prog 28 #[.slice A m c, .int .u64 (v : Int), .int .i64 8] W fun e w' => ∃ A' c' m', m' = m + 8 ∧ e = .returned (.slice A' m' c') ∧ T w' ∧ RB w' w'.heap.size A' m' (L ++ Crc.leb 8 v)) := Lib.hid (fun W A c m v L hT hr hm => by
    refine (HPu.out W A c m v 8 L hT hr hm (by omega)).mono ?_
    rintro e w' ⟨A', c', h1, h2, h3, _⟩
    exact ⟨A', c', m + 8, rfl, h1, h2, h3⟩)
  have HRB : Hid (∀ (W W' : World) (A : Option Addr) (m : Nat) (L : List Nat), RB W W.heap.size A m L → Below W.heap.size W W' → RB W' W'.heap.size A m L) := Lib.hid (fun W W' A m L hr hb => Reads.more (RB.below hr hb) hb.size)
  have HS0 : Hid (T w0) := Lib.hid ((HT' _).2 ⟨hE0, hB0⟩)
  have HSd : Hid (T w0.drew) := Lib.hid ((HT' _).2 ⟨hE0, hB0.drew⟩)
  have HTd : Hid (∀ W, T W → T W.drew) := Lib.hid (fun W h => (HT' _).2 ⟨((HT' W).1 h).1, ((HT' W).1 h).2.drew⟩)
  have HTB : Hid (∀ W, T W → Below w.heap.size w W) := Lib.hid (fun W h => ((HT' W).1 h).2)
  have hw1 := Crc.u6_wrap group
  have hw2 : IntKind.u64.wrap (n : Int) = (n : Int) := by rw [IntKind.wrap_u64]; omega
  have HR1 := Lib.hid hr1
  have HR2 := Lib.hid hr2
  have Hw0 := Lib.hid hw0
  have Hn := Lib.hid hn
  clear hr1 hr2 hE0 hB0 hw0 hn HT' HPu
  go_enter Try.func25, Try.ntmps25
  go_upto_region 1 with fail
  rw [← Hw0.out]
  go_cut [5] (fun s5 wx => ∃ A c, s5 = .slice A 8 c ∧ RB wx wx.heap.size A 8 (Crc.leafP group n l1 l2 0) ∧ T wx)
  case first =>
    go_region_held3 (fun W => W.cell? ⟨w.heap.size, 0, none⟩ = some (.slice A1 n1 c1) ∧ W.cell? ⟨w.heap.size, 1, none⟩ = some (.slice A2 n2 c2) ∧ T W) (with_reducible first | exact HL.out _ HSd.out | exact HL.out _ (by assumption))
      (first
        | (go_at_call 31; (with_reducible refine (HW.out _ (by first | assumption | exact HSd.out)).mono ?_); rintro e w1 ⟨rfl, hS1, hb1⟩)
        | (go_at_call 28; (with_reducible first
            | refine (HP2.out _ _ _ (by assumption) (by assumption)).mono ?_
            | refine (HP2.out _ _ _ (by assumption) (HRB.out _ _ _ _ _ r2 hb1)).mono ?_); rintro e w3 ⟨A3, c3, rfl, hS3, r3⟩)
        | (go_at_call 28; (with_reducible refine (HP1.out _ (by first | assumption | exact HSd.out)).mono ?_); rintro e w2 ⟨A2', c2', rfl, hS2, r2, hb2⟩))
    all_goals (go_wp2_with fail)
    all_goals go_meet
    all_goals exact ⟨_, _, rfl, r3, hS3⟩
  case rest =>
    obtain ⟨A, c, rfl, hr, hT⟩ := hcut
    have HR0 := Lib.hid hr
    have HT0 := Lib.hid hT
    clear hr hT HP1 HP2
    go_wp2_with fail
    go_loopw [5, 6] (fun s5 s6 wr => ∃ (i : Nat) (m : Nat) (A : Option Addr) (c : Nat), i ≤ n ∧ m = 8 + 16 * i ∧ s5 = .slice A m c ∧ s6 = .int .i64 (i : Int) ∧ RB wr wr.heap.size A m (Crc.leafP group n l1 l2 i) ∧ T wr) (fun _ s6 _ => n - (intOf s6).toNat)
    case atStart => exact ⟨0, 8, _, _, by omega, rfl, rfl, rfl, HR0.out, HT0.out⟩
    case round =>
      obtain ⟨i, m, A, c, hi, hm, rfl, rfl, hr, hT⟩ := hrel
      have HM := Lib.hid hm
      have HRr := Lib.hid hr
      have HTr := Lib.hid hT
      obtain ⟨g0, g1, _⟩ := HL.out _ hT
      clear hm hr hT
      go_wp2_with fail
      refine (HW.out _ HTr.out).mono ?_
      clear g0 g1
      rintro e w1 ⟨rfl, hT1, hb1⟩
      have HT1 := Lib.hid hT1
      have HR1' := Lib.hid (HRB.out _ _ _ _ _ HRr.out hb1)
      clear hT1 hb1
      by_cases hlt : i < n
      · obtain ⟨ad1, rfl, hb1, hk1⟩ := HR1.out.at_ (show i < n1 by have := Hn.out; omega)
        obtain ⟨ad2, rfl, hb2, hk2⟩ := HR2.out.at_ (show i < n2 by have := Hn.out; omega)
        have b1 : (i : Int) < (n1 : Int) := by have := Hn.out; omega
        have b2 : (i : Int) < (n2 : Int) := by have := Hn.out; omega
        have HX : Hid (∀ W, T W → W.cell? ⟨w.heap.size, 0, none⟩ = some (.slice (some ad1) n1 c1) ∧ W.cell? ⟨w.heap.size, 1, none⟩ = some (.slice (some ad2) n2 c2) ∧ W.cell? (ad1.add i) = some (.int .u64 ((l1.getD i 0 : Nat) : Int)) ∧ W.cell? (ad2.add i) = some (.int .u64 ((l2.getD i 0 : Nat) : Int)) ∧ T W) := Lib.hid (fun W h =>
          ⟨(HL.out _ h).1, (HL.out _ h).2.1, ((HTB.out _ h).cell (by rw [block_of_add]; omega)).trans hk1, ((HTB.out _ h).cell (by rw [block_of_add]; omega)).trans hk2, h⟩)
        have HLp := Lib.hid (Crc.leafP_succ group n l1 l2 i)
        have HTs := Lib.hid (HTd.out _ HT1.out)
        have HRs : Hid (RB w1.drew w1.drew.heap.size A m (Crc.leafP group n l1 l2 i)) := Lib.hid HR1'.out.drew
        generalize l1.getD i 0 = va at HX HLp
        generalize l2.getD i 0 = vb at HX HLp
        clear hk1 hk2 hb1 hb2
        go_wp2_with fail
        go_region_held3 (fun W => W.cell? ⟨w.heap.size, 0, none⟩ = some (.slice (some ad1) n1 c1) ∧ W.cell? ⟨w.heap.size, 1, none⟩ = some (.slice (some ad2) n2 c2) ∧ W.cell? (ad1.add i) = some (.int .u64 (va : Int)) ∧ W.cell? (ad2.add i) = some (.int .u64 (vb : Int)) ∧ T W) (with_reducible first | exact HX.out _ HTs.out | exact HX.out _ (by assumption))
          (first
            | (go_at_call 28; (with_reducible refine (HP3.out _ _ _ _ _ _ HTs.out HRs.out (by have := HM.out; omega)).mono ?_); rintro e w2 ⟨A2', c2', m2, hm2, rfl, hT2, hr2⟩; have HM2 := Lib.hid hm2; clear hm2)
            | (go_at_call 28; (with_reducible refine (HP3.out _ _ _ _ _ _ hT2 hr2 (by have := HM.out; have := HM2.out; omega)).mono ?_); rintro e w3 ⟨A3, c3, m3, hm3, rfl, hT3, hr3⟩; have HM3 := Lib.hid hm3; clear hm3))
        have HT3 := Lib.hid hT3
        have HR3 := Lib.hid hr3
        clear hT3 hr3 hT2 hr2
        go_wp2_with fail
        go_roundw
        case rel => exact ⟨i + 1, m3, _, _, by omega, by have := HM.out; have := HM2.out; have := HM3.out; omega, rfl, by go_num, by rw [HLp.out]; exact HR3.out, HT3.out⟩
        case measure => simp [intOf]; omega
      · have e : i = n := by omega
        subst e
        have hT1 := HT1.out
        clear HT1
        go_wp2_with fail
        refine (rsum_any _ (Crc.leafP_bytes _ _ _ _ _) _ _ _ _ _ HR1'.out (by have := HM.out; unfold maxLen; omega)).mono ?_
        rintro e w' ⟨rfl, rfl⟩
        go_wp2
        go_ret
        exact ⟨rfl, HTB.out _ hT1⟩

end Go.Proofs.Ytejhfollfmdmpaa

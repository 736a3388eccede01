/- The sum of a leaf: its bytes, and the program's walk. -/
import Derived.Test.YtejhfollfmdmpaaP3
import Derived.Laws.MakeOwn
namespace Go.Proofs.Ytejhfollfmdmpaa
open Go.RowKit
namespace Crc
def leafR (l1 l2 : List Nat) : Nat → List Nat
  | 0 => []
  | i + 1 => leafR l1 l2 i ++ (leb 8 (l1.getD i 0) ++ leb 8 (l2.getD i 0))
def leafP (group : Int) (n : Nat) (l1 l2 : List Nat) (i : Nat) : List Nat := leb 4 (u6 group) ++ leb 4 n ++ leafR l1 l2 i
def leafS (group : Int) (n : Nat) (l1 l2 : List Nat) : Nat := sumS (leafP group n l1 l2 n)
theorem leafR_length (l1 l2 : List Nat) (i : Nat) : (leafR l1 l2 i).length = 16 * i := by
  induction i with
  | zero => rfl
  | succ i ih => rw [leafR, List.length_append, List.length_append, leb_length, leb_length, ih]; omega
theorem leafR_bytes (l1 l2 : List Nat) (i : Nat) : Bytes (leafR l1 l2 i) := by
  induction i with
  | zero => intro b hb; cases hb
  | succ i ih => exact bytes_append ih (bytes_append (leb_bytes _ _) (leb_bytes _ _))
theorem leafP_length (group : Int) (n : Nat) (l1 l2 : List Nat) (i : Nat) : (leafP group n l1 l2 i).length = 8 + 16 * i := by
  unfold leafP; rw [List.length_append, List.length_append, leb_length, leb_length, leafR_length]
theorem leafP_bytes (group : Int) (n : Nat) (l1 l2 : List Nat) (i : Nat) : Bytes (leafP group n l1 l2 i) := bytes_append (bytes_append (leb_bytes _ _) (leb_bytes _ _)) (leafR_bytes _ _ _)
theorem leafR_part (l1 l2 : List Nat) (i n : Nat) (h : i < n) : ∃ c, leafR l1 l2 n = leafR l1 l2 i ++ (leb 8 (l1.getD i 0) ++ leb 8 (l2.getD i 0)) ++ c := by
  induction n with
  | zero => omega
  | succ n ih =>
    by_cases e : i = n
    · subst e; exact ⟨[], by rw [List.append_nil]; rfl⟩
    · obtain ⟨c, hc⟩ := ih (by omega)
      exact ⟨c ++ (leb 8 (l1.getD n 0) ++ leb 8 (l2.getD n 0)), by rw [leafR, hc, List.append_assoc]⟩
theorem leafP_succ (group : Int) (n : Nat) (l1 l2 : List Nat) (i : Nat) : leafP group n l1 l2 (i + 1) = leafP group n l1 l2 i ++ leb 8 (l1.getD i 0) ++ leb 8 (l2.getD i 0) := by
  unfold leafP; rw [leafR]; simp only [List.append_assoc]
theorem leafP_ver (group : Int) (n : Nat) (l1 l2 : List Nat) (i k : Nat) (h : i < n) (hk : k < 8) : (leafP group n l1 l2 n).getD (8 + 16 * i + k) 0 = (leb 8 (l1.getD i 0)).getD k 0 := by
  obtain ⟨c, hc⟩ := leafR_part l1 l2 i n h
  have := app_get (leafP group n l1 l2 i) (leb 8 (l1.getD i 0)) (leb 8 (l2.getD i 0) ++ c) (8 + 16 * i) k (leafP_length _ _ _ _ _) (by rw [leb_length]; exact hk)
  rw [← this]
  unfold leafP
  rw [hc]
  simp only [List.append_assoc]
theorem leafP_sum (group : Int) (n : Nat) (l1 l2 : List Nat) (i k : Nat) (h : i < n) (hk : k < 8) : (leafP group n l1 l2 n).getD (16 + 16 * i + k) 0 = (leb 8 (l2.getD i 0)).getD k 0 := by
  obtain ⟨c, hc⟩ := leafR_part l1 l2 i n h
  have := app_get (leafP group n l1 l2 i ++ leb 8 (l1.getD i 0)) (leb 8 (l2.getD i 0)) c (16 + 16 * i) k (by rw [List.length_append, leafP_length, leb_length]; omega) (by rw [leb_length]; exact hk)
  rw [← this]
  unfold leafP
  rw [hc]
  simp only [List.append_assoc]
theorem leafP_head (group : Int) (n : Nat) (l1 l2 : List Nat) (k : Nat) (hk : k < 4) : (leafP group n l1 l2 n).getD (0 + k) 0 = (leb 4 (u6 group)).getD k 0 := by
  have := app_get [] (leb 4 (u6 group)) (leb 4 n ++ leafR l1 l2 n) 0 k rfl (by rw [leb_length]; exact hk)
  rw [← this]
  unfold leafP
  simp only [List.nil_append, List.append_assoc]
theorem leafP_num (group : Int) (n : Nat) (l1 l2 : List Nat) (k : Nat) (hk : k < 4) : (leafP group n l1 l2 n).getD (4 + k) 0 = (leb 4 n).getD k 0 := by
  have := app_get (leb 4 (u6 group)) (leb 4 n) (leafR l1 l2 n) 4 k (leb_length _ _) (by rw [leb_length]; exact hk)
  rw [← this]
  unfold leafP
  rfl
end Crc

theorem run_made8 {w : World} (n : Nat) (z : Int) (hz : z = (n : Int)) (hn : n ≤ 16777216) : (Instr.makeSlice 54 (.int .i64 z) (.int .i64 z)).run Try.prog w = .ok (.slice (some ⟨w.heap.size, 0, none⟩) n n) (w.alloc (.cells (madeCells (Value.int .u8 0).cells (n * 1)) 5)) := by
  subst hz
  obtain ⟨i0, hi0, hz0, hz1, hz2⟩ := info_parts byteInfo
  have h := run_make (P := Try.prog) w 54 5 i0 (.int .u8 0) Try.underlying54 hi0 hz0 .i64 .i64 (n : Int) (n : Int) (by omega) (Int.le_refl _) (by rw [hz2]; omega) (by omega)
  rw [Int.toNat_natCast, hz1] at h
  exact h

set_option maxHeartbeats 1000000 in
theorem leafsum_any (l1 l2 : List Nat) (B n1 c1 n2 c2 n : Nat) (A1 A2 : Option Addr) (group : Int) (w : World) (hr1 : RU w B A1 n1 l1) (hr2 : RU w B A2 n2 l2) (hB : B ≤ w.heap.size) (hn : n = min n1 n2) (h40 : n ≤ 65536) :
    Calls Try.prog 24 #[.int .i64 group, .agg #[.slice A1 n1 c1, .slice A2 n2 c2]] w fun e w' => e = .returned (.int .u64 ((Crc.leafS group n l1 l2 : Nat) : Int)) ∧ Below w.heap.size w w' := by
  obtain ⟨f, hf⟩ : ∃ f : Nat → Value, ∀ j, f j = bv ((Crc.leafP group n l1 l2 n).getD j 0) := ⟨_, fun _ => rfl⟩
  have hbyte : ∀ n k i, i < k → bv ((Crc.leb k n).getD i 0) = .int .u8 ((n : Int) / 2 ^ (8 * i) % 256) := fun n k i h => by rw [Crc.leb_get k n i h, byte_of]; rfl
  have HF1 : Hid (∀ i, i < 4 → f (0 + i) = .int .u8 (((Crc.u6 group : Nat) : Int) / 2 ^ (8 * i) % 256)) := Lib.hid fun i hi => by rw [hf, ← hbyte _ 4 i hi, Crc.leafP_head _ _ _ _ _ hi]
  have HF2 : Hid (∀ i, i < 4 → f (4 + i) = .int .u8 ((n : Int) / 2 ^ (8 * i) % 256)) := Lib.hid fun i hi => by rw [hf, ← hbyte _ 4 i hi, Crc.leafP_num _ _ _ _ _ hi]
  have HF3 : Hid (∀ j, j < n → ∀ i, i < 8 → f (8 + 16 * j + i) = .int .u8 (((l1.getD j 0 : Nat) : Int) / 2 ^ (8 * i) % 256)) := Lib.hid fun j hj i hi => by rw [hf, ← hbyte _ 8 i hi, Crc.leafP_ver _ _ _ _ _ _ hj hi]
  have HF4 : Hid (∀ j, j < n → ∀ i, i < 8 → f (16 + 16 * j + i) = .int .u8 (((l2.getD j 0 : Nat) : Int) / 2 ^ (8 * i) % 256)) := Lib.hid fun j hj i hi => by rw [hf, ← hbyte _ 8 i hi, Crc.leafP_sum _ _ _ _ _ _ hj hi]
  have HFd := Lib.hid hf
  obtain ⟨w0, hw0⟩ : ∃ w0, w0 = w.alloc (.cells #[.slice A1 n1 c1, .slice A2 n2 c2] 32) := ⟨_, rfl⟩
  have hE0 : Blk w0 w.heap.size 32 #[.slice A1 n1 c1, .slice A2 n2 c2] := by rw [hw0]; exact Blk.new _ _ _
  have hB0 : Below w.heap.size w w0 := by rw [hw0]; exact (Below.refl _ _).alloc (Nat.le_refl _) _
  have e0 : w0.cell? ⟨w.heap.size, 0, none⟩ = some (.slice A1 n1 c1) := hE0.cell 0
  have e1 : w0.cell? ⟨w.heap.size, 1, none⟩ = some (.slice A2 n2 c2) := hE0.cell 1
  have hw1 := Crc.u6_wrap group
  have hw2 : IntKind.u64.wrap (n : Int) = (n : Int) := by rw [IntKind.wrap_u64]; omega
  have HR1 := Lib.hid hr1
  have HR2 := Lib.hid hr2
  have HE0 := Lib.hid hE0
  have HB0 := Lib.hid hB0
  have Hw0 := Lib.hid hw0
  have Hn := Lib.hid hn
  clear hr1 hr2 hE0 hB0 hw0 hf hbyte hn
  go_enter Try.func24, Try.ntmps24
  go_wp2_with fail
  rw [← Hw0.out]
  refine (pieces_any A1 A2 n1 c1 n2 c2 w0).mono ?_
  rintro e w1 ⟨rfl, hb⟩
  rw [← Hn.out]
  have HE1 := Lib.hid (HE0.out.below hb HE0.out.lt)
  have HB1 := Lib.hid (HB0.out.trans (hb.mono HB0.out.size))
  clear hb e0 e1
  obtain ⟨N, hN⟩ : ∃ N, N = 8 + 16 * n := ⟨_, rfl⟩
  obtain ⟨MC, hMC⟩ : ∃ MC, MC = madeCells (Value.int .u8 0).cells (N * 1) := ⟨_, rfl⟩
  have hMs : MC.size = N := by rw [hMC, size_madeCells, Nat.mul_one]
  have qM : ∀ W : World, (Instr.makeSlice 54 (.int .i64 (8 + 16 * (n : Int))) (.int .i64 (8 + 16 * (n : Int)))).run Try.prog W = .ok (.slice (some ⟨W.heap.size, 0, none⟩) N N) (W.alloc (.cells MC 5)) := fun W => by
    rw [hMC]
    exact run_made8 N _ (by omega) (by omega)
  have q4 : (4 : Int) ≤ (N : Int) := by omega
  have q8 : (8 : Int) ≤ (N : Int) := by omega
  have HN := Lib.hid hN
  have HA := Lib.hid (Fill.start w1 5 MC N f hMs)
  have HE2 := Lib.hid (HE1.out.alloc (.cells MC 5))
  have HB2 := Lib.hid (HB1.out.alloc HB1.out.size (.cells MC 5))
  have hz1 : w.heap.size < w1.heap.size := HE1.out.lt
  obtain ⟨w2, hw2'⟩ : ∃ w2, w2 = w1.alloc (.cells MC 5) := ⟨_, rfl⟩
  rw [← hw2'] at HA HE2 HB2
  have Hw2 := Lib.hid hw2'
  clear hN hMC hMs hw2'
  go_wp2_with fail
  rw [← Hw2.out]
  refine (put_fill w1.heap.size N 0 4 N 5 f (Crc.u6 group) HF1.out (by omega) (by omega) _ HA.out).mono ?_
  rintro e w3 ⟨rfl, hF, hb⟩
  have HF3' := Lib.hid hF
  have HE3 := Lib.hid (HE2.out.below hb hz1)
  have HB3 := Lib.hid (HB2.out.trans (hb.mono (by omega)))
  clear hF hb
  go_wp2_with fail
  refine (put_fill w1.heap.size N 4 4 (N - 4) 5 f n HF2.out (by omega) (by omega) _ HF3'.out).mono ?_
  rintro e w4 ⟨rfl, hF, hb⟩
  have HF4' := Lib.hid hF
  have HE4 := Lib.hid (HE3.out.below hb hz1)
  have HB4 := Lib.hid (HB3.out.trans (hb.mono (by omega)))
  clear hF hb
  go_wp2_with fail
  go_loopw [25] (fun s25 wr => ∃ i : Nat, i ≤ n ∧ s25 = .int .i64 (i : Int) ∧ Fill wr w1.heap.size 5 N (8 + 16 * i) f ∧ Blk wr w.heap.size 32 #[.slice A1 n1 c1, .slice A2 n2 c2] ∧ Below w.heap.size w wr) (fun s25 _ => n - (intOf s25).toNat)
  case atStart => exact ⟨0, by omega, rfl, HF4'.out, HE4.out, HB4.out⟩
  case round =>
    obtain ⟨i, hi, rfl, hF, hE, hB'⟩ := hrel
    by_cases hlt : i < n
    · obtain ⟨ad1, rfl, hb1, hk1⟩ := HR1.out.at_ (show i < n1 by have := Hn.out; omega)
      obtain ⟨ad2, rfl, hb2, hk2⟩ := HR2.out.at_ (show i < n2 by have := Hn.out; omega)
      have b1 : (i : Int) < (n1 : Int) := by have := Hn.out; omega
      have b2 : (i : Int) < (n2 : Int) := by have := Hn.out; omega
      have b3 : (8 : Int) + 16 * (i : Int) ≤ 16 + 16 * (i : Int) := by omega
      have b4 : (16 : Int) + 16 * (i : Int) ≤ (N : Int) := by have := HN.out; omega
      have b5 : (16 : Int) + 16 * (i : Int) ≤ 24 + 16 * (i : Int) := by omega
      have b6 : (24 : Int) + 16 * (i : Int) ≤ (N : Int) := by have := HN.out; omega
      have b7 : (0 : Int) ≤ 8 + 16 * (i : Int) := by omega
      have b8 : (0 : Int) ≤ 16 + 16 * (i : Int) := by omega
      have r0 : IntKind.i64.wrap (16 * (i : Int)) = 16 * (i : Int) := by rw [IntKind.wrap_i64]; omega
      have r1 : IntKind.i64.wrap (8 + 16 * (i : Int)) = 8 + 16 * (i : Int) := by rw [IntKind.wrap_i64]; omega
      have r2 : IntKind.i64.wrap (16 + 16 * (i : Int)) = 16 + 16 * (i : Int) := by rw [IntKind.wrap_i64]; omega
      have r3 : IntKind.i64.wrap (24 + 16 * (i : Int)) = 24 + 16 * (i : Int) := by rw [IntKind.wrap_i64]; omega
      have HVa := Lib.hid (HF3.out i hlt)
      have HVb := Lib.hid (HF4.out i hlt)
      generalize l1.getD i 0 = va at hk1 HVa
      generalize l2.getD i 0 = vb at hk2 HVb
      obtain ⟨T, HT'⟩ : ∃ T : World → Prop, ∀ W, T W ↔ (Blk W w.heap.size 32 #[.slice (some ad1) n1 c1, .slice (some ad2) n2 c2] ∧ Below w.heap.size w W) := ⟨_, fun _ => Iff.rfl⟩
      have HT := Lib.hid HT'
      have HL1 : Hid (∀ W, T W → W.cell? ⟨w.heap.size, 0, none⟩ = some (.slice (some ad1) n1 c1) ∧ W.cell? (ad1.add i) = some (.int .u64 (va : Int)) ∧ T W) := Lib.hid (fun W h => ⟨((HT' W).1 h).1.cell 0, (((HT' W).1 h).2.cell (by rw [block_of_add]; omega)).trans hk1, h⟩)
      have HL2 : Hid (∀ W, T W → W.cell? ⟨w.heap.size, 1, none⟩ = some (.slice (some ad2) n2 c2) ∧ W.cell? (ad2.add i) = some (.int .u64 (vb : Int)) ∧ T W) := Lib.hid (fun W h => ⟨((HT' W).1 h).1.cell 1, (((HT' W).1 h).2.cell (by rw [block_of_add]; omega)).trans hk2, h⟩)
      have HTb : Hid (∀ W W', T W → Below w1.heap.size W W' → T W') := Lib.hid (fun W W' h hb => (HT' W').2 ⟨((HT' W).1 h).1.below hb hz1, ((HT' W).1 h).2.trans (hb.mono (by omega))⟩)
      have HP1 : Hid (∀ W, Fill W w1.heap.size 5 N (8 + 16 * i) f → T W → Calls Try.prog 26 #[.slice (if N = (8 + 16 * (i : Int)).toNat then some ⟨w1.heap.size, 0, none⟩ else some ⟨w1.heap.size, (8 + 16 * (i : Int)).toNat, none⟩) ((16 + 16 * (i : Int)).toNat - (8 + 16 * (i : Int)).toNat) (N - (8 + 16 * (i : Int)).toNat), .int .u64 (va : Int)] W
          fun e w' => e = .returned (.tuple #[]) ∧ Fill w' w1.heap.size 5 N (16 + 16 * i) f ∧ T w') := Lib.hid (fun W hF hT => by
        have t1 : (8 + 16 * (i : Int)).toNat = 8 + 16 * i := by omega
        have t2 : (16 + 16 * (i : Int)).toNat = 16 + 16 * i := by omega
        rw [t1, t2, if_neg (by omega), show 16 + 16 * i - (8 + 16 * i) = 8 by omega]
        refine (put_fill w1.heap.size N (8 + 16 * i) 8 _ 5 f va HVa.out (by omega) (by omega) W hF).mono ?_
        rintro e w' ⟨h1, h2, h3⟩
        rw [show 8 + 16 * i + 8 = 16 + 16 * i by omega] at h2
        exact ⟨h1, h2, HTb.out _ _ hT h3⟩)
      have HP2 : Hid (∀ W, Fill W w1.heap.size 5 N (16 + 16 * i) f → T W → Calls Try.prog 26 #[.slice (if N = (16 + 16 * (i : Int)).toNat then some ⟨w1.heap.size, 0, none⟩ else some ⟨w1.heap.size, (16 + 16 * (i : Int)).toNat, none⟩) ((24 + 16 * (i : Int)).toNat - (16 + 16 * (i : Int)).toNat) (N - (16 + 16 * (i : Int)).toNat), .int .u64 (vb : Int)] W
          fun e w' => e = .returned (.tuple #[]) ∧ Fill w' w1.heap.size 5 N (8 + 16 * (i + 1)) f ∧ T w') := Lib.hid (fun W hF hT => by
        have t1 : (16 + 16 * (i : Int)).toNat = 16 + 16 * i := by omega
        have t2 : (24 + 16 * (i : Int)).toNat = 24 + 16 * i := by omega
        rw [t1, t2, if_neg (by omega), show 24 + 16 * i - (16 + 16 * i) = 8 by omega]
        refine (put_fill w1.heap.size N (16 + 16 * i) 8 _ 5 f vb HVb.out (by omega) (by omega) W hF).mono ?_
        rintro e w' ⟨h1, h2, h3⟩
        rw [show 16 + 16 * i + 8 = 8 + 16 * (i + 1) by omega] at h2
        exact ⟨h1, h2, HTb.out _ _ hT h3⟩)
      have HFr := Lib.hid hF.drew
      have HTr : Hid (T wr.drew) := Lib.hid ((HT' _).2 ⟨hE, hB'.drew⟩)
      clear hF hE hB' HT' hk1 hk2
      go_wp2_with fail
      go_region_held3 (fun W => W.cell? ⟨w.heap.size, 0, none⟩ = some (.slice (some ad1) n1 c1) ∧ W.cell? (ad1.add i) = some (.int .u64 (va : Int)) ∧ T W) (with_reducible first | exact HL1.out _ HTr.out | exact HL1.out _ (by assumption))
        (first
          | (go_at_call 26; (with_reducible refine (HP1.out _ HFr.out HTr.out).mono ?_); rintro e w5 ⟨rfl, hF5, hT5⟩))
      have HF5 := Lib.hid hF5.drew
      have HT5 : Hid (T w5.drew) := Lib.hid ((HT.out _).2 ⟨((HT.out _).1 hT5).1, ((HT.out _).1 hT5).2.drew⟩)
      clear hF5 hT5
      go_wp2_with fail
      go_region_held3 (fun W => W.cell? ⟨w.heap.size, 1, none⟩ = some (.slice (some ad2) n2 c2) ∧ W.cell? (ad2.add i) = some (.int .u64 (vb : Int)) ∧ T W) (with_reducible first | exact HL2.out _ HT5.out | exact HL2.out _ (by assumption))
        (first
          | (go_at_call 26; (with_reducible refine (HP2.out _ HF5.out HT5.out).mono ?_); rintro e w6 ⟨rfl, hF6, hT6⟩))
      have HF6 := Lib.hid hF6
      have HT6 := Lib.hid ((HT.out _).1 hT6)
      clear hF6 hT6
      go_wp2_with fail
      go_roundw
      case rel => exact ⟨i + 1, by omega, by go_num, HF6.out, HT6.out.1, HT6.out.2⟩
      case measure => simp [intOf]; omega
    · have e : i = n := by omega
      subst e
      have hN' := HN.out
      rw [show 8 + 16 * i = N by omega] at hF
      have HR := Lib.hid (Fill.rb (hF.congr (f' := fun j => bv ((Crc.leafP group i l1 l2 i).getD j 0)) (fun j _ => HFd.out j)) (by rw [Crc.leafP_length]; omega))
      have HBr := Lib.hid hB'
      clear hF hE hB' hN'
      go_wp2_with fail
      refine (sum_any _ (Crc.leafP_bytes _ _ _ _ _) _ _ _ _ _ HR.out (by have := HN.out; unfold maxLen; omega)).mono ?_
      rintro e w' ⟨rfl, rfl⟩
      go_wp2
      go_ret
      exact ⟨rfl, HBr.out⟩

end Go.Proofs.Ytejhfollfmdmpaa

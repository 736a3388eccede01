/- Walks over both zero leaves. -/
import Derived.Test.YtejhfollfmdmpaaP3
namespace Go.Proofs.Ytejhfollfmdmpaa
open Go.RowKit

/-- The zero leaf's two rows. -/
def zL (n : Nat) : List Nat := List.replicate n 0
def zS (group : Int) (n : Nat) : List Nat := (List.range n).map fun (i : Nat) => Crc.psum group (i : Int) 0 [0, 0, 0, 0, 0, 0, 0, 0]
theorem zL_succ (n : Nat) : (zL (n + 1)).map uv = (zL n).map uv ++ [uv 0] := by
  unfold zL
  rw [List.replicate_succ', List.map_append]
  rfl
theorem zS_succ (group : Int) (n : Nat) : (zS group (n + 1)).map uv = (zS group n).map uv ++ [uv (Crc.psum group n 0 [0, 0, 0, 0, 0, 0, 0, 0])] := by
  unfold zS
  rw [List.range_succ, List.map_append, List.map_append]
  rfl
theorem zL_length (n : Nat) : (zL n).length = n := by simp [zL]
theorem zS_length (group : Int) (n : Nat) : (zS group n).length = n := by simp [zS]
/-- How many pieces. -/
def zN (width : Int) : Nat := if 1 ≤ width ∧ width ≤ 16 then width.toNat else 0
theorem zN_no {width : Int} (h : ¬ (1 ≤ width ∧ width ≤ 16)) : zN width = 0 := if_neg h
theorem zN_yes {n : Nat} (h1 : 1 ≤ n) (h2 : n ≤ 16) : zN (n : Int) = n := by
  unfold zN
  rw [if_pos ⟨by omega, by omega⟩, Int.toNat_natCast]

/-- What the loops keep: the leaf under way in block b; its rows lie behind it, apart. -/
def Zst (w wr : World) (b4 b : Nat) (group : Int) (i : Nat) : Prop :=
  ∃ A1 c1 A2 c2, Blk wr b4 32 #[.slice none 0 0, .slice none 0 0] ∧ Blk wr b 32 #[.slice A1 i c1, .slice A2 i c2] ∧ OV wr (b + 1) 22 (.slice A1 i c1) ((zL i).map uv) ∧ OV wr (b + 1) 22 (.slice A2 i c2) ((zS group i).map uv) ∧
    (∀ g, Value.ownBlock (.slice A1 i c1) = some g → Value.ownBlock (.slice A2 i c2) ≠ some g) ∧ Below w.heap.size w wr
theorem z_bytes : Crc.Bytes [0, 0, 0, 0, 0, 0, 0, 0] := by
  intro b hb
  simp at hb
  omega

set_option maxHeartbeats 800000 in
theorem zero_any (group width : Int) (w : World) :
    Calls Try.prog 14 #[.int .i64 group, .int .i64 width] w fun e w' =>
      ∃ A1 c1 A2 c2, e = .returned (.agg #[.slice A1 (zN width) c1, .slice A2 (zN width) c2]) ∧ RU w' w'.heap.size A1 (zN width) (zL (zN width)) ∧ RU w' w'.heap.size A2 (zN width) (zS group (zN width)) ∧ Below w.heap.size w w' ∧ zN width ≤ c1 ∧ zN width ≤ c2 := by
  obtain ⟨i0, hi0, hz0, hz1, hz2⟩ := info_parts numInfo
  obtain ⟨w0, hw0⟩ : ∃ w0, w0 = w.alloc (.cells #[.slice none 0 0, .slice none 0 0] 32) := ⟨_, rfl⟩
  have hE0 : Blk w0 w.heap.size 32 #[.slice none 0 0, .slice none 0 0] := by rw [hw0]; exact Blk.new _ _ _
  have hB0 : Below w.heap.size w w0 := by rw [hw0]; exact (Below.refl _ _).alloc (Nat.le_refl _) _
  have hz : w.heap.size < w0.heap.size := hE0.lt
  have HE0 := Lib.hid hE0
  have HB0 := Lib.hid hB0
  have Hw0 := Lib.hid hw0
  clear hE0 hB0 hw0
  by_cases h : 1 ≤ width ∧ width ≤ 16
  · obtain ⟨n, rfl⟩ := Int.eq_ofNat_of_zero_le (show 0 ≤ width by omega)
    rw [zN_yes (by omega) (by omega)]
    obtain ⟨h1, h2⟩ := h
    have t1 : ¬ (n : Int) < 1 := by omega
    have t2 : ¬ (n : Int) > 16 := by omega
    go_enter Try.func14, Try.ntmps14
    go_wp2_with fail
    rw [← Hw0.out]
    have hZ0 : Zst w (w0.alloc (.cells #[.slice none 0 0, .slice none 0 0] 32)) w.heap.size (w.heap.size + 1) group 0 := by
      have h := Blk.new w0 32 #[.slice none 0 0, .slice none 0 0]
      have e : w0.heap.size = w.heap.size + 1 := by rw [Hw0.out]; simp
      rw [e] at h
      exact ⟨none, 0, none, 0, HE0.out.alloc _, h, ov_nil _ _ _, ov_nil _ _ _, fun g hg => (by cases hg), HB0.out.alloc (by omega) _⟩
    have HZ0 := Lib.hid hZ0
    clear hZ0
    go_loopw [15] (fun s15 wr => ∃ i : Nat, i ≤ n ∧ s15 = .int .i64 (i : Int) ∧ Zst w wr w.heap.size (w.heap.size + 1) group i) (fun s15 _ => n - (intOf s15).toNat)
    case atStart => exact ⟨0, by omega, rfl, HZ0.out⟩
    case round =>
      obtain ⟨i, hi, rfl, A1, c1, A2, c2, hE4, hE5, hO1, hO2, hap, hB⟩ := hrel
      by_cases hlt : i < n
      · have g0 : wr.cell? ⟨w.heap.size + 1, 0, none⟩ = some (.slice A1 i c1) := hE5.cell 0
        have hzr : w.heap.size + 1 < wr.heap.size := hE5.lt
        have HE4 := Lib.hid hE4
        have HE5 := Lib.hid hE5
        have HO1 := Lib.hid hO1
        have HO2 := Lib.hid hO2
        have HAp := Lib.hid hap
        have HBr := Lib.hid hB
        clear hE4 hE5 hO1 hO2 hap hB
        go_wp2_with (at_builtin; refine wpList_append_ov _ rfl (.tmp 19) (.tmp 20) _ rfl (w.heap.size + 1 + 1) 22 i0 _ 8 Try.underlying30 hi0 hz0 hz1 hz2 rfl (.slice A1 i c1) ((zL i).map uv) rfl (HO1.out.alloc _) _ _ 1 1 [uv 0] rfl (reads_alloc wr #[.int .u64 0] 22 (0, 0) [uv 0] rfl) (by simp [uv]; rfl) (by unfold maxLen; simp [zL_length]; omega) (by simp [zL_length]; omega) (by simp; omega) ?_; intro v1 w2 hown hg hat; obtain ⟨A1', c1', rfl, _, _, _⟩ := hown.form' (n := i + 1) (by simp [zL_length]); have hne : ∀ k, k < w.heap.size + 2 → some k ≠ Value.ownBlock (.slice A1 i c1) := (fun k hk e => by have := (HO1.out.lt e.symm).1; omega); have hE5' : Blk w2 (w.heap.size + 1) 32 #[.slice A1 i c1, .slice A2 i c2] := (HE5.out.alloc _).grown hg (hne _ (by omega)); have hE4' : Blk w2 w.heap.size 32 #[.slice none 0 0, .slice none 0 0] := (HE4.out.alloc _).grown hg (hne _ (by omega)); have hO2' : OV w2 (w.heap.size + 1 + 1) 22 (.slice A2 i c2) ((zS group i).map uv) := (HO2.out.alloc _).grown hg (fun g h2 e => HAp.out g e.symm h2); have hB' : Below w.heap.size w w2 := (HBr.out.alloc (by omega) _).trans (below_grown_ov (HO1.out.alloc _) hg (by omega) (by simp; omega)); have hap' : ∀ g, Value.ownBlock (.slice A1' (i + 1) c1') = some g → Value.ownBlock (.slice A2 i c2) ≠ some g := (fun g h1 h2 => by rcases hat with e | e; exact HAp.out g (e.symm.trans h1) h2; rw [e] at h1; injection h1 with h1; have := (HO2.out.lt h2).2; simp at h1; omega); have k0 : w2.cell? ⟨w.heap.size + 1, 0, none⟩ = some (.slice A1 i c1) := hE5'.cell 0; have kz := hE5'.frozen 0; have HE4' := Lib.hid hE4'; have HE5' := Lib.hid hE5'; have HO1' := Lib.hid hown; have HO2' := Lib.hid hO2'; have HAp' := Lib.hid hap'; have HB' := Lib.hid hB'; clear hown hg hat hne hE5' hE4' hO2' hB' hap')
        have hS1 : Blk (w2.setCell ⟨w.heap.size + 1, 0, none⟩ (.slice A1' (i + 1) c1')) (w.heap.size + 1) 32 #[.slice A1' (i + 1) c1', .slice A2 i c2] := HE5'.out.set_ 0 _
        have hS0 : Blk (w2.setCell ⟨w.heap.size + 1, 0, none⟩ (.slice A1' (i + 1) c1')) w.heap.size 32 #[.slice none 0 0, .slice none 0 0] := HE4'.out.far (by simp) _
        have hS2 := HO1'.out.other (p := ⟨w.heap.size + 1, 0, none⟩) (fun g hg e => by have := (HO1'.out.lt hg).1; simp at e; omega) (.slice A1' (i + 1) c1')
        have hS3 := HO2'.out.other (p := ⟨w.heap.size + 1, 0, none⟩) (fun g hg e => by have := (HO2'.out.lt hg).1; simp at e; omega) (.slice A1' (i + 1) c1')
        have hS4 := HB'.out.setCell (p := ⟨w.heap.size + 1, 0, none⟩) (Nat.le_succ _) (.slice A1' (i + 1) c1')
        generalize w2.setCell ⟨w.heap.size + 1, 0, none⟩ (.slice A1' (i + 1) c1') = w3 at hS0 hS1 hS2 hS3 hS4 ⊢
        clear k0 kz g0 HE4' HE5' HO1' HO2' HB' HE4 HE5 HO1 HO2 HAp HBr
        obtain ⟨St, HSt⟩ : ∃ St : World → Prop, ∀ W, St W ↔ (Blk W w.heap.size 32 #[.slice none 0 0, .slice none 0 0] ∧ Blk W (w.heap.size + 1) 32 #[.slice A1' (i + 1) c1', .slice A2 i c2] ∧ OV W (w.heap.size + 1 + 1) 22 (.slice A1' (i + 1) c1') ((zL i).map uv ++ [uv 0]) ∧ OV W (w.heap.size + 1 + 1) 22 (.slice A2 i c2) ((zS group i).map uv) ∧ Below w.heap.size w W) := ⟨_, fun _ => Iff.rfl⟩
        obtain ⟨X, hX⟩ : ∃ X, X = Crc.psum group i 0 [0, 0, 0, 0, 0, 0, 0, 0] := ⟨_, rfl⟩
        have HP : Hid (∀ W, St W → Calls Try.prog 11 #[.int .i64 group, .int .i64 (i : Int), .int .u64 0, .agg #[.int .u8 0, .int .u8 0, .int .u8 0, .int .u8 0, .int .u8 0, .int .u8 0, .int .u8 0, .int .u8 0]] W fun e w' => e = .returned (.int .u64 (X : Int)) ∧ St w') := Lib.hid (by
          intro W h
          obtain ⟨h1, h2, h3, h4, h5⟩ := (HSt W).1 h
          refine Calls.mono (psum_any group i 0 0 0 0 0 0 0 0 0 z_bytes W) ?_
          rintro e w' ⟨rfl, hb⟩
          exact ⟨by rw [hX], (HSt w').2 ⟨h1.below hb h1.lt, h2.below hb h2.lt, h3.below hb, h4.below hb, h5.trans (hb.mono h5.size)⟩⟩)
        have HS3 : Hid (St w3.drew) := Lib.hid ((HSt _).2 ⟨hS0, hS1, hS2, hS3, hS4.drew⟩)
        have HS := Lib.hid HSt
        have HX := Lib.hid hX
        have l3 : w3.cell? ⟨w.heap.size + 1, 1, none⟩ = some (.slice A2 i c2) := hS1.cell 1
        clear hS0 hS1 hS2 hS3 hS4 HSt hX
        go_region_law (first
          | (refine step_append_ov rfl (.tmp 24) (.tmp 29) _ rfl (w.heap.size + 1 + 1) 22 i0 _ 8 Try.underlying30 hi0 hz0 hz1 hz2 rfl (.slice A2 i c2) ((zS group i).map uv) rfl (((HS.out _).1 HS4.out).2.2.2.1.alloc _) _ _ 1 1 [uv X] rfl (reads_alloc w4 #[.int .u64 (X : Int)] 22 (0, 0) [uv X] rfl) (by simp [uv]; rfl) (by unfold maxLen; simp [zS_length]; omega) (by simp [zS_length]; omega) (by have := ((HS.out _).1 HS4.out).2.1.lt; simp; omega) ?_; intro v2 w5 hown hg hat; obtain ⟨A2', c2', rfl, _, _, _⟩ := hown.form' (n := i + 1) (by simp [zS_length]); obtain ⟨j0, j1, j2, j3, j4⟩ := (HS.out _).1 HS4.out; have hne : ∀ k, k < w.heap.size + 2 → some k ≠ Value.ownBlock (.slice A2 i c2) := (fun k hk e => by have := (j3.lt e.symm).1; omega); have hE5'' : Blk w5 (w.heap.size + 1) 32 #[.slice A1' (i + 1) c1', .slice A2 i c2] := (j1.alloc _).grown hg (hne _ (by omega)); have hE4'' : Blk w5 w.heap.size 32 #[.slice none 0 0, .slice none 0 0] := (j0.alloc _).grown hg (hne _ (by omega)); have hO1'' : OV w5 (w.heap.size + 1 + 1) 22 (.slice A1' (i + 1) c1') ((zL i).map uv ++ [uv 0]) := (j2.alloc _).grown hg (fun g h1 e => HAp'.out g h1 e.symm); have hB'' : Below w.heap.size w w5 := (j4.alloc j4.size _).trans (below_grown_ov (j3.alloc _) hg (by omega) (by have := j4.size; simp; omega)); have hap'' : ∀ g, Value.ownBlock (.slice A1' (i + 1) c1') = some g → Value.ownBlock (.slice A2' (i + 1) c2') ≠ some g := (fun g h1 h2 => by rcases hat with e | e; exact HAp'.out g h1 (e.symm.trans h2); rw [e] at h2; injection h2 with h2; have := (j2.lt h1).2; simp at h2; omega); have m1 : w5.cell? ⟨w.heap.size + 1, 1, none⟩ = some (.slice A2 i c2) := hE5''.cell 1; have mz := hE5''.frozen 1; have HE4'' := Lib.hid hE4''; have HE5'' := Lib.hid hE5''; have HO1'' := Lib.hid hO1''; have HO2'' := Lib.hid hown; have HAp'' := Lib.hid hap''; have HB'' := Lib.hid hB''; clear hown hg hat hne hE5'' hE4'' hO1'' hB'' hap'' j0 j1 j2 j3 j4)
          | (go_simp; go_at_call 11; (with_reducible refine (HP.out _ HS3.out).mono ?_); rintro e w4 ⟨rfl, hS⟩; have l4 : w4.cell? ⟨w.heap.size + 1, 1, none⟩ = some (.slice A2 i c2) := ((HS.out _).1 hS).2.1.cell 1; have l5 : ∀ o, (w4.alloc o).cell? ⟨w.heap.size + 1, 1, none⟩ = some (.slice A2 i c2) := (fun o => (((HS.out _).1 hS).2.1.alloc o).cell 1); have HS4 := Lib.hid hS; clear hS))
        all_goals go_wp2
        all_goals go_roundw
        all_goals first
          | (case rel => exact ⟨i + 1, by omega, by go_num, A1', c1', A2', c2', HE4''.out.far (by simp) _, HE5''.out.set_ 1 _, by rw [zL_succ]; exact HO1''.out.other (fun g hg e => by have := (HO1''.out.lt hg).1; simp at e; omega) _, by rw [zS_succ, ← HX.out]; exact HO2''.out.other (fun g hg e => by have := (HO2''.out.lt hg).1; simp at e; omega) _, HAp''.out, HB''.out.setCell (Nat.le_succ _) _⟩)
          | (case measure => simp [intOf]; omega)
          | skip
      · have e : i = n := by omega
        subst e
        have g0 : wr.cell? ⟨w.heap.size, 0, none⟩ = some (.slice none 0 0) := hE4.cell 0
        have g1 : wr.cell? ⟨w.heap.size, 1, none⟩ = some (.slice none 0 0) := hE4.cell 1
        have z0 := hE4.frozen 0
        have z1 := hE4.frozen 1
        have d0 : wr.cell? ⟨w.heap.size + 1, 0, none⟩ = some (.slice A1 i c1) := hE5.cell 0
        have d1 : wr.cell? ⟨w.heap.size + 1, 1, none⟩ = some (.slice A2 i c2) := hE5.cell 1
        have HO1 := Lib.hid hO1
        have HO2 := Lib.hid hO2
        have HBr := Lib.hid hB
        clear hE4 hE5 hO1 hO2 hap hB
        go_wp2_with fail
        refine bodyPost_ret (v := .agg #[.slice A1 i c1, .slice A2 i c2]) (by simp [results, Try.results14, go_sem, g0, g1]) rfl ⟨A1, c1, A2, c2, rfl, ?_, ?_, ?_, HO1.out.cap, HO2.out.cap⟩
        · exact ((HO1.out.other (fun g hg e => by have := (HO1.out.lt hg).1; simp at e; omega) _).other (fun g hg e => by have := (HO1.out.lt hg).1; simp at e; omega) _).reads
        · exact ((HO2.out.other (fun g hg e => by have := (HO2.out.lt hg).1; simp at e; omega) _).other (fun g hg e => by have := (HO2.out.lt hg).1; simp at e; omega) _).reads
        · exact (HBr.out.setCell (Nat.le_refl _) _).setCell (Nat.le_refl _) _
  · rw [zN_no h]
    have g0 : w0.cell? ⟨w.heap.size, 0, none⟩ = some (.slice none 0 0) := HE0.out.cell 0
    have g1 : w0.cell? ⟨w.heap.size, 1, none⟩ = some (.slice none 0 0) := HE0.out.cell 1
    have e0 : w0.heap.size = w.heap.size + 1 := by rw [Hw0.out]; simp
    by_cases h1 : width < 1
    · go_enter Try.func14, Try.ntmps14
      go_wp2_with fail
      first | exact bodyPost_ret (v := .agg #[.slice none 0 0, .slice none 0 0]) (by simp [results, Try.results14, go_sem]) rfl ⟨none, 0, none, 0, rfl, ru_nil _ _ _, ru_nil _ _ _, ((Below.refl _ _).alloc (Nat.le_refl _) _).alloc (by simp) _, Nat.le_refl _, Nat.le_refl _⟩ | exact bodyPost_ret (v := .agg #[.slice none 0 0, .slice none 0 0]) (by simp [results, Try.results14, go_sem]) rfl ⟨none, 0, none, ⟨0, rfl⟩, ru_nil _ _ _, ru_nil _ _ _, ((Below.refl _ _).alloc (Nat.le_refl _) _).alloc (by simp) _⟩ | exact bodyPost_ret (v := .agg #[.slice none 0 0, .slice none 0 0]) (by simp [results, Try.results14, go_sem]) rfl ⟨none, 0, none, 0, rfl, ru_nil _ _ _, ru_nil _ _ _, ((Below.refl _ _).alloc (Nat.le_refl _) _).alloc (by simp) _⟩
    · have h2 : width > 16 := by omega
      have h3 : 16 < width := by omega
      go_enter Try.func14, Try.ntmps14
      go_wp2_with fail
      first | exact bodyPost_ret (v := .agg #[.slice none 0 0, .slice none 0 0]) (by simp [results, Try.results14, go_sem]) rfl ⟨none, 0, none, 0, rfl, ru_nil _ _ _, ru_nil _ _ _, ((Below.refl _ _).alloc (Nat.le_refl _) _).alloc (by simp) _, Nat.le_refl _, Nat.le_refl _⟩ | exact bodyPost_ret (v := .agg #[.slice none 0 0, .slice none 0 0]) (by simp [results, Try.results14, go_sem]) rfl ⟨none, 0, none, ⟨0, rfl⟩, ru_nil _ _ _, ru_nil _ _ _, ((Below.refl _ _).alloc (Nat.le_refl _) _).alloc (by simp) _⟩ | exact bodyPost_ret (v := .agg #[.slice none 0 0, .slice none 0 0]) (by simp [results, Try.results14, go_sem]) rfl ⟨none, 0, none, 0, rfl, ru_nil _ _ _, ru_nil _ _ _, ((Below.refl _ _).alloc (Nat.le_refl _) _).alloc (by simp) _⟩

set_option maxHeartbeats 800000 in
theorem rzero_any (group width : Int) (w : World) :
    Calls Try.prog 15 #[.int .i64 group, .int .i64 width] w fun e w' =>
      ∃ A1 c1 A2 c2, e = .returned (.agg #[.slice A1 (zN width) c1, .slice A2 (zN width) c2]) ∧ RU w' w'.heap.size A1 (zN width) (zL (zN width)) ∧ RU w' w'.heap.size A2 (zN width) (zS group (zN width)) ∧ Below w.heap.size w w' ∧ zN width ≤ c1 ∧ zN width ≤ c2 := by
  obtain ⟨i0, hi0, hz0, hz1, hz2⟩ := info_parts numInfo
  obtain ⟨w0, hw0⟩ : ∃ w0, w0 = w.alloc (.cells #[.slice none 0 0, .slice none 0 0] 32) := ⟨_, rfl⟩
  have hE0 : Blk w0 w.heap.size 32 #[.slice none 0 0, .slice none 0 0] := by rw [hw0]; exact Blk.new _ _ _
  have hB0 : Below w.heap.size w w0 := by rw [hw0]; exact (Below.refl _ _).alloc (Nat.le_refl _) _
  have hz : w.heap.size < w0.heap.size := hE0.lt
  have HE0 := Lib.hid hE0
  have HB0 := Lib.hid hB0
  have Hw0 := Lib.hid hw0
  clear hE0 hB0 hw0
  by_cases h : 1 ≤ width ∧ width ≤ 16
  · obtain ⟨n, rfl⟩ := Int.eq_ofNat_of_zero_le (show 0 ≤ width by omega)
    rw [zN_yes (by omega) (by omega)]
    obtain ⟨h1, h2⟩ := h
    have t1 : ¬ (n : Int) < 1 := by omega
    have t2 : (n : Int) ≤ 16 := by omega
    go_enter Try.func15, Try.ntmps15
    go_wp2_with fail
    rw [← Hw0.out]
    have hZ0 : Zst w (w0.alloc (.cells #[.slice none 0 0, .slice none 0 0] 32)) w.heap.size (w.heap.size + 1) group 0 := by
      have h := Blk.new w0 32 #[.slice none 0 0, .slice none 0 0]
      have e : w0.heap.size = w.heap.size + 1 := by rw [Hw0.out]; simp
      rw [e] at h
      exact ⟨none, 0, none, 0, HE0.out.alloc _, h, ov_nil _ _ _, ov_nil _ _ _, fun g hg => (by cases hg), HB0.out.alloc (by omega) _⟩
    have HZ0 := Lib.hid hZ0
    clear hZ0
    go_loopw [6] (fun s6 wr => ∃ i : Nat, i ≤ n ∧ s6 = .int .i64 (i : Int) ∧ Zst w wr w.heap.size (w.heap.size + 1) group i) (fun s6 _ => n - (intOf s6).toNat)
    case atStart => exact ⟨0, by omega, rfl, HZ0.out⟩
    case round =>
      obtain ⟨i, hi, rfl, A1, c1, A2, c2, hE4, hE5, hO1, hO2, hap, hB⟩ := hrel
      by_cases hlt : i < n
      · have g0 : wr.cell? ⟨w.heap.size + 1, 0, none⟩ = some (.slice A1 i c1) := hE5.cell 0
        have hzr : w.heap.size + 1 < wr.heap.size := hE5.lt
        have HE4 := Lib.hid hE4
        have HE5 := Lib.hid hE5
        have HO1 := Lib.hid hO1
        have HO2 := Lib.hid hO2
        have HAp := Lib.hid hap
        have HBr := Lib.hid hB
        clear hE4 hE5 hO1 hO2 hap hB
        go_wp2_with (at_builtin; refine wpList_append_ov _ rfl (.tmp 17) (.tmp 18) _ rfl (w.heap.size + 1 + 1) 22 i0 _ 8 Try.underlying30 hi0 hz0 hz1 hz2 rfl (.slice A1 i c1) ((zL i).map uv) rfl (HO1.out.alloc _) _ _ 1 1 [uv 0] rfl (reads_alloc wr #[.int .u64 0] 22 (0, 0) [uv 0] rfl) (by simp [uv]; rfl) (by unfold maxLen; simp [zL_length]; omega) (by simp [zL_length]; omega) (by simp; omega) ?_; intro v1 w2 hown hg hat; obtain ⟨A1', c1', rfl, _, _, _⟩ := hown.form' (n := i + 1) (by simp [zL_length]); have hne : ∀ k, k < w.heap.size + 2 → some k ≠ Value.ownBlock (.slice A1 i c1) := (fun k hk e => by have := (HO1.out.lt e.symm).1; omega); have hE5' : Blk w2 (w.heap.size + 1) 32 #[.slice A1 i c1, .slice A2 i c2] := (HE5.out.alloc _).grown hg (hne _ (by omega)); have hE4' : Blk w2 w.heap.size 32 #[.slice none 0 0, .slice none 0 0] := (HE4.out.alloc _).grown hg (hne _ (by omega)); have hO2' : OV w2 (w.heap.size + 1 + 1) 22 (.slice A2 i c2) ((zS group i).map uv) := (HO2.out.alloc _).grown hg (fun g h2 e => HAp.out g e.symm h2); have hB' : Below w.heap.size w w2 := (HBr.out.alloc (by omega) _).trans (below_grown_ov (HO1.out.alloc _) hg (by omega) (by simp; omega)); have hap' : ∀ g, Value.ownBlock (.slice A1' (i + 1) c1') = some g → Value.ownBlock (.slice A2 i c2) ≠ some g := (fun g h1 h2 => by rcases hat with e | e; exact HAp.out g (e.symm.trans h1) h2; rw [e] at h1; injection h1 with h1; have := (HO2.out.lt h2).2; simp at h1; omega); have k0 : w2.cell? ⟨w.heap.size + 1, 0, none⟩ = some (.slice A1 i c1) := hE5'.cell 0; have kz := hE5'.frozen 0; have HE4' := Lib.hid hE4'; have HE5' := Lib.hid hE5'; have HO1' := Lib.hid hown; have HO2' := Lib.hid hO2'; have HAp' := Lib.hid hap'; have HB' := Lib.hid hB'; clear hown hg hat hne hE5' hE4' hO2' hB' hap')
        have hS1 : Blk (w2.setCell ⟨w.heap.size + 1, 0, none⟩ (.slice A1' (i + 1) c1')) (w.heap.size + 1) 32 #[.slice A1' (i + 1) c1', .slice A2 i c2] := HE5'.out.set_ 0 _
        have hS0 : Blk (w2.setCell ⟨w.heap.size + 1, 0, none⟩ (.slice A1' (i + 1) c1')) w.heap.size 32 #[.slice none 0 0, .slice none 0 0] := HE4'.out.far (by simp) _
        have hS2 := HO1'.out.other (p := ⟨w.heap.size + 1, 0, none⟩) (fun g hg e => by have := (HO1'.out.lt hg).1; simp at e; omega) (.slice A1' (i + 1) c1')
        have hS3 := HO2'.out.other (p := ⟨w.heap.size + 1, 0, none⟩) (fun g hg e => by have := (HO2'.out.lt hg).1; simp at e; omega) (.slice A1' (i + 1) c1')
        have hS4 := HB'.out.setCell (p := ⟨w.heap.size + 1, 0, none⟩) (Nat.le_succ _) (.slice A1' (i + 1) c1')
        generalize w2.setCell ⟨w.heap.size + 1, 0, none⟩ (.slice A1' (i + 1) c1') = w3 at hS0 hS1 hS2 hS3 hS4 ⊢
        clear k0 kz g0 HE4' HE5' HO1' HO2' HB' HE4 HE5 HO1 HO2 HAp HBr
        obtain ⟨St, HSt⟩ : ∃ St : World → Prop, ∀ W, St W ↔ (Blk W w.heap.size 32 #[.slice none 0 0, .slice none 0 0] ∧ Blk W (w.heap.size + 1) 32 #[.slice A1' (i + 1) c1', .slice A2 i c2] ∧ OV W (w.heap.size + 1 + 1) 22 (.slice A1' (i + 1) c1') ((zL i).map uv ++ [uv 0]) ∧ OV W (w.heap.size + 1 + 1) 22 (.slice A2 i c2) ((zS group i).map uv) ∧ Below w.heap.size w W) := ⟨_, fun _ => Iff.rfl⟩
        obtain ⟨X, hX⟩ : ∃ X, X = Crc.psum group i 0 [0, 0, 0, 0, 0, 0, 0, 0] := ⟨_, rfl⟩
        have HP : Hid (∀ W, St W → Calls Try.prog 12 #[.int .i64 group, .int .i64 (i : Int), .int .u64 0, .agg #[.int .u8 0, .int .u8 0, .int .u8 0, .int .u8 0, .int .u8 0, .int .u8 0, .int .u8 0, .int .u8 0]] W fun e w' => e = .returned (.int .u64 (X : Int)) ∧ St w') := Lib.hid (by
          intro W h
          obtain ⟨h1, h2, h3, h4, h5⟩ := (HSt W).1 h
          refine Calls.mono (rpsum_any group i 0 0 0 0 0 0 0 0 0 z_bytes W) ?_
          rintro e w' ⟨rfl, hb⟩
          exact ⟨by rw [hX], (HSt w').2 ⟨h1.below hb h1.lt, h2.below hb h2.lt, h3.below hb, h4.below hb, h5.trans (hb.mono h5.size)⟩⟩)
        have HS3 : Hid (St w3.drew) := Lib.hid ((HSt _).2 ⟨hS0, hS1, hS2, hS3, hS4.drew⟩)
        have HS := Lib.hid HSt
        have HX := Lib.hid hX
        have l3 : w3.cell? ⟨w.heap.size + 1, 1, none⟩ = some (.slice A2 i c2) := hS1.cell 1
        clear hS0 hS1 hS2 hS3 hS4 HSt hX
        go_region_law (first
          | (refine step_append_ov rfl (.tmp 22) (.tmp 27) _ rfl (w.heap.size + 1 + 1) 22 i0 _ 8 Try.underlying30 hi0 hz0 hz1 hz2 rfl (.slice A2 i c2) ((zS group i).map uv) rfl (((HS.out _).1 HS4.out).2.2.2.1.alloc _) _ _ 1 1 [uv X] rfl (reads_alloc w4 #[.int .u64 (X : Int)] 22 (0, 0) [uv X] rfl) (by simp [uv]; rfl) (by unfold maxLen; simp [zS_length]; omega) (by simp [zS_length]; omega) (by have := ((HS.out _).1 HS4.out).2.1.lt; simp; omega) ?_; intro v2 w5 hown hg hat; obtain ⟨A2', c2', rfl, _, _, _⟩ := hown.form' (n := i + 1) (by simp [zS_length]); obtain ⟨j0, j1, j2, j3, j4⟩ := (HS.out _).1 HS4.out; have hne : ∀ k, k < w.heap.size + 2 → some k ≠ Value.ownBlock (.slice A2 i c2) := (fun k hk e => by have := (j3.lt e.symm).1; omega); have hE5'' : Blk w5 (w.heap.size + 1) 32 #[.slice A1' (i + 1) c1', .slice A2 i c2] := (j1.alloc _).grown hg (hne _ (by omega)); have hE4'' : Blk w5 w.heap.size 32 #[.slice none 0 0, .slice none 0 0] := (j0.alloc _).grown hg (hne _ (by omega)); have hO1'' : OV w5 (w.heap.size + 1 + 1) 22 (.slice A1' (i + 1) c1') ((zL i).map uv ++ [uv 0]) := (j2.alloc _).grown hg (fun g h1 e => HAp'.out g h1 e.symm); have hB'' : Below w.heap.size w w5 := (j4.alloc j4.size _).trans (below_grown_ov (j3.alloc _) hg (by omega) (by have := j4.size; simp; omega)); have hap'' : ∀ g, Value.ownBlock (.slice A1' (i + 1) c1') = some g → Value.ownBlock (.slice A2' (i + 1) c2') ≠ some g := (fun g h1 h2 => by rcases hat with e | e; exact HAp'.out g h1 (e.symm.trans h2); rw [e] at h2; injection h2 with h2; have := (j2.lt h1).2; simp at h2; omega); have m1 : w5.cell? ⟨w.heap.size + 1, 1, none⟩ = some (.slice A2 i c2) := hE5''.cell 1; have mz := hE5''.frozen 1; have HE4'' := Lib.hid hE4''; have HE5'' := Lib.hid hE5''; have HO1'' := Lib.hid hO1''; have HO2'' := Lib.hid hown; have HAp'' := Lib.hid hap''; have HB'' := Lib.hid hB''; clear hown hg hat hne hE5'' hE4'' hO1'' hB'' hap'' j0 j1 j2 j3 j4)
          | (go_simp; go_at_call 12; (with_reducible refine (HP.out _ HS3.out).mono ?_); rintro e w4 ⟨rfl, hS⟩; have l4 : w4.cell? ⟨w.heap.size + 1, 1, none⟩ = some (.slice A2 i c2) := ((HS.out _).1 hS).2.1.cell 1; have l5 : ∀ o, (w4.alloc o).cell? ⟨w.heap.size + 1, 1, none⟩ = some (.slice A2 i c2) := (fun o => (((HS.out _).1 hS).2.1.alloc o).cell 1); have HS4 := Lib.hid hS; clear hS))
        all_goals go_wp2
        all_goals go_roundw
        all_goals first
          | (case rel => exact ⟨i + 1, by omega, by go_num, A1', c1', A2', c2', HE4''.out.far (by simp) _, HE5''.out.set_ 1 _, by rw [zL_succ]; exact HO1''.out.other (fun g hg e => by have := (HO1''.out.lt hg).1; simp at e; omega) _, by rw [zS_succ, ← HX.out]; exact HO2''.out.other (fun g hg e => by have := (HO2''.out.lt hg).1; simp at e; omega) _, HAp''.out, HB''.out.setCell (Nat.le_succ _) _⟩)
          | (case measure => simp [intOf]; omega)
          | skip
      · have e : i = n := by omega
        subst e
        have g0 : wr.cell? ⟨w.heap.size, 0, none⟩ = some (.slice none 0 0) := hE4.cell 0
        have g1 : wr.cell? ⟨w.heap.size, 1, none⟩ = some (.slice none 0 0) := hE4.cell 1
        have z0 := hE4.frozen 0
        have z1 := hE4.frozen 1
        have d0 : wr.cell? ⟨w.heap.size + 1, 0, none⟩ = some (.slice A1 i c1) := hE5.cell 0
        have d1 : wr.cell? ⟨w.heap.size + 1, 1, none⟩ = some (.slice A2 i c2) := hE5.cell 1
        have HO1 := Lib.hid hO1
        have HO2 := Lib.hid hO2
        have HBr := Lib.hid hB
        clear hE4 hE5 hO1 hO2 hap hB
        go_wp2_with fail
        refine bodyPost_ret (v := .agg #[.slice A1 i c1, .slice A2 i c2]) (by simp [results, Try.results15, go_sem, g0, g1]) rfl ⟨A1, c1, A2, c2, rfl, ?_, ?_, ?_, HO1.out.cap, HO2.out.cap⟩
        · exact ((HO1.out.other (fun g hg e => by have := (HO1.out.lt hg).1; simp at e; omega) _).other (fun g hg e => by have := (HO1.out.lt hg).1; simp at e; omega) _).reads
        · exact ((HO2.out.other (fun g hg e => by have := (HO2.out.lt hg).1; simp at e; omega) _).other (fun g hg e => by have := (HO2.out.lt hg).1; simp at e; omega) _).reads
        · exact (HBr.out.setCell (Nat.le_refl _) _).setCell (Nat.le_refl _) _
  · rw [zN_no h]
    go_enter Try.func15, Try.ntmps15
    go_wp2_with fail
    obtain ⟨W, hW⟩ : ∃ W, W = (w.alloc (.cells #[.slice none 0 0, .slice none 0 0] 32)).alloc (.cells #[.slice none 0 0, .slice none 0 0] 32) := ⟨_, rfl⟩
    rw [← hW]
    have HW := Lib.hid hW
    clear hW
    go_loopw [6] (fun s6 wr => s6 = .int .i64 0 ∧ wr = W) (fun _ _ => 0)
    case atStart => exact ⟨rfl, rfl⟩
    case round =>
      obtain ⟨rfl, rfl⟩ := hrel
      rw [HW.out]
      by_cases h1 : (0 : Int) < width
      · have h2 : ¬ width ≤ 16 := by omega
        go_wp2_with fail
        first | exact bodyPost_ret (v := .agg #[.slice none 0 0, .slice none 0 0]) (by simp [results, Try.results15, go_sem]) rfl ⟨none, 0, none, 0, rfl, ru_nil _ _ _, ru_nil _ _ _, ((Below.refl _ _).alloc (Nat.le_refl _) _).alloc (by simp) _, Nat.le_refl _, Nat.le_refl _⟩ | exact bodyPost_ret (v := .agg #[.slice none 0 0, .slice none 0 0]) (by simp [results, Try.results15, go_sem]) rfl ⟨none, 0, none, ⟨0, rfl⟩, ru_nil _ _ _, ru_nil _ _ _, ((Below.refl _ _).alloc (Nat.le_refl _) _).alloc (by simp) _⟩ | exact bodyPost_ret (v := .agg #[.slice none 0 0, .slice none 0 0]) (by simp [results, Try.results15, go_sem]) rfl ⟨none, 0, none, 0, rfl, ru_nil _ _ _, ru_nil _ _ _, ((Below.refl _ _).alloc (Nat.le_refl _) _).alloc (by simp) _⟩
      · go_wp2_with fail
        first | exact bodyPost_ret (v := .agg #[.slice none 0 0, .slice none 0 0]) (by simp [results, Try.results15, go_sem]) rfl ⟨none, 0, none, 0, rfl, ru_nil _ _ _, ru_nil _ _ _, ((Below.refl _ _).alloc (Nat.le_refl _) _).alloc (by simp) _, Nat.le_refl _, Nat.le_refl _⟩ | exact bodyPost_ret (v := .agg #[.slice none 0 0, .slice none 0 0]) (by simp [results, Try.results15, go_sem]) rfl ⟨none, 0, none, ⟨0, rfl⟩, ru_nil _ _ _, ru_nil _ _ _, ((Below.refl _ _).alloc (Nat.le_refl _) _).alloc (by simp) _⟩ | exact bodyPost_ret (v := .agg #[.slice none 0 0, .slice none 0 0]) (by simp [results, Try.results15, go_sem]) rfl ⟨none, 0, none, 0, rfl, ru_nil _ _ _, ru_nil _ _ _, ((Below.refl _ _).alloc (Nat.le_refl _) _).alloc (by simp) _⟩


end Go.Proofs.Ytejhfollfmdmpaa

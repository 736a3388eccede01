/- Sectors of a blob: their bytes, and the program's walk. -/
import Derived.Test.YtijhmopejadpdaaR1
import Derived.Deep.CutRange
namespace Go.Proofs.Ytijhmopejadpdaa
open Go.RowKit
namespace Crc
/-- What is sealed in a sector; a sector; a chunk; how many; all. -/
def secH (gen i m : Nat) (chunk : List Nat) : List Nat := leb 8 gen ++ leb 4 i ++ leb 4 m ++ leb 1 chunk.length ++ chunk
def secB (gen i m : Nat) (chunk : List Nat) : List Nat := secH gen i m chunk ++ leb 8 (sumS (secH gen i m chunk))
def chunkOf (blob : List Nat) (i : Nat) : List Nat := (blob.drop (32 * i)).take 32
def chunkM (n : Nat) : Nat := max 1 ((n + 31) / 32)
def secs (blob : List Nat) (gen : Nat) : List (List Nat) := (List.range (chunkM blob.length)).map fun i => secB gen i (chunkM blob.length) (chunkOf blob i)
theorem chunkOf_bytes {blob : List Nat} (h : Bytes blob) (i : Nat) : Bytes (chunkOf blob i) := fun b hb => h b (List.mem_of_mem_drop (List.mem_of_mem_take hb))
theorem chunkOf_length (blob : List Nat) (i : Nat) : (chunkOf blob i).length = min 32 (blob.length - 32 * i) := by simp [chunkOf]
theorem chunkOf_le (blob : List Nat) (i : Nat) : (chunkOf blob i).length ≤ 32 := by rw [chunkOf_length]; omega
theorem secH_length (gen i m : Nat) (chunk : List Nat) : (secH gen i m chunk).length = 17 + chunk.length := by
  unfold secH; simp only [List.length_append, leb_length]
theorem secB_length (gen i m : Nat) (chunk : List Nat) : (secB gen i m chunk).length = 25 + chunk.length := by
  unfold secB; rw [List.length_append, leb_length, secH_length]; omega
theorem secH_bytes {gen i m : Nat} {chunk : List Nat} (h : Bytes chunk) : Bytes (secH gen i m chunk) := bytes_append (bytes_append (bytes_append (bytes_append (leb_bytes _ _) (leb_bytes _ _)) (leb_bytes _ _)) (leb_bytes _ _)) h
theorem secB_bytes {gen i m : Nat} {chunk : List Nat} (h : Bytes chunk) : Bytes (secB gen i m chunk) := bytes_append (secH_bytes h) (leb_bytes _ _)
theorem secs_length (blob : List Nat) (gen : Nat) : (secs blob gen).length = chunkM blob.length := by simp [secs]
theorem secs_get (blob : List Nat) (gen i : Nat) (h : i < chunkM blob.length) : (secs blob gen).getD i [] = secB gen i (chunkM blob.length) (chunkOf blob i) := by
  simp [secs, List.getD_eq_getElem?_getD, h]
end Crc
theorem sliceInfo : (Try.prog.info? 22).map (fun i => (i.zero, i.size, i.bytes)) = some (some (.slice none 0 0), 1, 24) := by kernel_rfl

/-- A list of byte strings, all of it the call's own. -/
def SL (w : World) (base : Nat) (v : Value) (vs : List Value) (ls : List (List Nat)) : Prop :=
  OV w base 22 v vs ∧ vs.length = ls.length ∧ ∀ j, j < ls.length → OB w base 5 (vs.getD j undef) (ls.getD j [])
section
variable {w w' : World} {base : Nat} {v : Value} {vs : List Value} {ls : List (List Nat)}
theorem SL.below (h : SL w base v vs ls) (hb : Below w.heap.size w w') : SL w' base v vs ls := ⟨h.1.below hb, h.2.1, fun j hj => (h.2.2 j hj).below hb⟩
theorem SL.drew (h : SL w base v vs ls) : SL w.drew base v vs ls := h
theorem SL.nil (w : World) (base : Nat) : SL w base (.slice none 0 0) [] [] := ⟨ov_nil _ _ _, rfl, fun _ hj => absurd hj (Nat.not_lt_zero _)⟩
theorem OB.grown {u : Value} {l : List Nat} (h : OB w base 5 u l) {row : Option Nat} (hg : w.grownBy w' row) (ha : ∀ g, u.ownBlock = some g → some g ≠ row) : OB w' base 5 u l := ((OB.ov h).grown hg ha).ob
/-- Rows of bytes and rows of slices are apart. -/
theorem own_apart {base' : Nat} {u : Value} {l : List Nat} (h : OB w base 5 u l) (hv : OV w base' 22 v vs) : ∀ g, u.ownBlock = some g → some g ≠ v.ownBlock := by
  intro g hg e
  rcases h.2 with ⟨rfl, _⟩ | ⟨g1, c1, r1, rfl, _, h1, _⟩
  · cases hg
  · rcases hv.2 with ⟨rfl, _⟩ | ⟨g2, c2, r2, rfl, _, h2, _⟩
    · cases e
    · injection hg with hg
      injection e with e
      subst hg e
      rw [h1] at h2
      injection h2 with h2
      injection h2 with _ h3
      exact absurd h3 (by decide)
theorem getD_append_left {α : Type} (a b : List α) (d : α) (j : Nat) (h : j < a.length) : (a ++ b).getD j d = a.getD j d := by
  rw [List.getD_eq_getElem?_getD, List.getElem?_append_left h, ← List.getD_eq_getElem?_getD]
theorem getD_append_last {α : Type} (a : List α) (b d : α) : (a ++ [b]).getD a.length d = b := by
  rw [List.getD_eq_getElem?_getD, List.getElem?_append_right (Nat.le_refl _), Nat.sub_self]; rfl
theorem SL.push {v' u : Value} {l : List Nat} (h : SL w base v vs ls) (hv : OV w' base 22 v' (vs ++ [u])) (hg : w.grownBy w' v.ownBlock) (hu : OB w base 5 u l) : SL w' base v' (vs ++ [u]) (ls ++ [l]) := by
  refine ⟨hv, by simp [h.2.1], fun j hj => ?_⟩
  rw [List.length_append, List.length_singleton] at hj
  by_cases e : j < ls.length
  · rw [getD_append_left _ _ _ _ (by rw [h.2.1]; exact e), getD_append_left _ _ _ _ e]
    exact OB.grown (h.2.2 j e) hg (own_apart (h.2.2 j e) h.1)
  · have e' : j = ls.length := by omega
    subst e'
    rw [getD_append_last, ← h.2.1, getD_append_last]
    exact OB.grown hu hg (own_apart hu h.1)
end

set_option maxHeartbeats 2000000 in
theorem chunks_any (blob : List Nat) (hbl : Crc.Bytes blob) (B n c gen : Nat) (A : Option Addr) (w : World) (hr : RB w B A n blob) (hB : B ≤ w.heap.size) (hn : n ≤ 1048576) (hnc : n ≤ c) :
    Calls Try.prog 9 #[.slice A n c, .int .u64 (gen : Int)] w fun e w' => ∃ v vs, e = .returned (.tuple #[v, .int .i64 0]) ∧ SL w' w.heap.size v vs (Crc.secs blob gen) ∧ Below w.heap.size w w' := by
  obtain ⟨i0, hi0, hz0, hz1, hz2⟩ := info_parts byteInfo
  obtain ⟨j0, hj0, hy0, hy1, hy2⟩ := info_parts sliceInfo
  have hl := hr.len
  obtain ⟨m, hm⟩ : ∃ m, m = Crc.chunkM n := ⟨_, rfl⟩
  have hm1 : 1 ≤ m := by rw [hm]; unfold Crc.chunkM; omega
  have hm2 : m ≤ 32768 := by rw [hm]; unfold Crc.chunkM; omega
  have hmi : ∀ i, i < m → 32 * i ≤ n := fun i hi => by rw [hm] at hi; unfold Crc.chunkM at hi; omega
  have hmax : ∀ (ts : Array TypeId) (t : TypeId) (W : World), (Builtin.max_ ts t #[.int .i64 1, .int .i64 (((n : Int) + 32 - 1) / 32)]).run Try.prog W = .ok (.int .i64 (m : Int)) W := fun ts t W => by
    rw [run_max_int2]
    congr 2
    rw [hm]; unfold Crc.chunkM
    split <;> omega
  have t0 : ¬ (n : Int) > 1048576 := by omega
  have HR := Lib.hid hr
  have Hm := Lib.hid hm
  have HMI := Lib.hid hmi
  have HBl := Lib.hid hbl
  clear hr hm hmi hbl
  go_enter Try.func9, Try.ntmps9
  go_wp2_with fail
  go_loopw [7, 22] (fun s7 s22 wr => ∃ (i : Nat) (v : Value) (vs : List Value), i ≤ m ∧ s22 = .int .i64 (i : Int) ∧ v = s7 ∧ SL wr w.heap.size v vs ((Crc.secs blob gen).take i) ∧ Below w.heap.size w wr) (fun _ s22 _ => m - (intOf s22).toNat)
  case atStart => exact ⟨0, _, [], by omega, rfl, rfl, by rw [List.take_zero]; exact SL.nil _ _, Below.refl _ _⟩
  case round =>
    obtain ⟨i, v, vs, hi, rfl, rfl, hS, hB'⟩ := hrel
    by_cases hlt : i < m
    · obtain ⟨hi', hhi⟩ : ∃ h : Nat, h = min (32 * (i + 1)) n := ⟨_, rfl⟩
      have h32 := HMI.out i hlt
      have e1 : (i : Int) * 32 = ((32 * i : Nat) : Int) := by omega
      have e2 : ((i : Int) + 1) * 32 = ((32 * (i + 1) : Nat) : Int) := by omega
      have t1 : ¬ (n : Int) < (i : Int) * 32 := by omega
      have hmin1 : ∀ (ts : Array TypeId) (t : TypeId) (W : World), (Builtin.min_ ts t #[.int .i64 ((i : Int) * 32), .int .i64 (n : Int)]).run Try.prog W = .ok (.int .i64 ((32 * i : Nat) : Int)) W := fun ts t W => by
        rw [run_min_int2, if_neg t1, e1]
      have hmin2 : ∀ (ts : Array TypeId) (t : TypeId) (W : World), (Builtin.min_ ts t #[.int .i64 (((i : Int) + 1) * 32), .int .i64 (n : Int)]).run Try.prog W = .ok (.int .i64 (hi' : Int)) W := fun ts t W => by
        rw [run_min_int2]
        congr 2
        split <;> omega
      obtain ⟨k, hk⟩ : ∃ k, hi' - 32 * i = k := ⟨_, rfl⟩
      have hk32 : k ≤ 32 := by omega
      have hch : (Crc.chunkOf blob i).length = k := by rw [Crc.chunkOf_length]; omega
      have hrk : Hid (∀ A' : Option Addr, (0 < k → A' = Option.map (fun x => x.add (32 * i)) A) → RB w B A' k (Crc.chunkOf blob i)) := Lib.hid (fun A' hA' => by
        rcases Nat.eq_zero_or_pos k with h0 | h0
        · rw [List.eq_nil_of_length_eq_zero (hch.trans h0), h0]; exact rb_nil _ _ _
        · obtain ⟨ad, rfl, _⟩ := HR.out.2 (by omega)
          have h := HR.out.cut (32 * i) k (by omega)
          have e : ((blob.drop (32 * i)).take k) = Crc.chunkOf blob i := by
            unfold Crc.chunkOf
            rw [← hch, Crc.chunkOf_length]
            rcases Nat.le_total 32 (blob.length - 32 * i) with h1 | h1
            · rw [Nat.min_eq_left h1]
            · rw [Nat.min_eq_right h1, List.take_of_length_le (by simp), List.take_of_length_le (by simp; omega)]
          rw [e] at h
          rw [hA' h0]
          exact h)
      obtain ⟨ch, hchd⟩ : ∃ ch, ch = Crc.chunkOf blob i := ⟨_, rfl⟩
      rw [← hchd] at hrk hch
      have b1 : 32 * (i : Int) ≤ (hi' : Int) := by omega
      have b2 : (hi' : Int) ≤ (c : Int) := by omega
      have b3 : 0 ≤ 32 * (i : Int) := by omega
      have Hhi := Lib.hid hhi
      have Hch := Lib.hid hchd
      have Hk := Lib.hid hk
      clear e1 e2 t1 hhi hchd hk
      have HSr := Lib.hid hS
      have HBr := Lib.hid hB'
      clear hS hB'
      go_upto_region 8 with fail
      go_cut [9, 22] from 22 to 66 (fun s9 s22 wx => ∃ A' c', s9 = .slice A' k c' ∧ s22 = .int .i64 (i : Int) ∧ RB w B A' k ch ∧ wr = wx)
      case first =>
        by_cases hcz : c = 32 * i
        · have hk0 : ¬ 0 < k := by have := Hk.out; have := Hhi.out; omega
          subst hcz
          go_wp2_with fail
          go_meet
          rw [Hk.out]
          exact ⟨_, _, rfl, rfl, hrk.out _ (fun h => absurd h hk0), rfl⟩
        · go_wp2_with fail
          all_goals go_meet
          all_goals rw [Hk.out]
          all_goals exact ⟨_, _, rfl, rfl, hrk.out _ (fun _ => rfl), rfl⟩
      case rest =>
        obtain ⟨A', c', rfl, rfl, hr', rfl⟩ := hcut
        have HR' := Lib.hid hr'
        have hBz := hB
        have hz := HBr.out.size
        obtain ⟨S, HS'⟩ : ∃ S : Option Addr → Nat → Nat → List Nat → World → Prop, ∀ X nn cc l W, S X nn cc l W ↔ (Blk W wr.heap.size 22 #[.slice X nn cc] ∧ OB W (wr.heap.size + 1) 5 (.slice X nn cc) l ∧ Below wr.heap.size wr W ∧ l.length = nn ∧ nn ≤ 100) := ⟨_, fun _ _ _ _ _ => Iff.rfl⟩
        have HClo : Hid (∀ X nn cc l W (x K : Nat), K ≤ 8 → nn + K ≤ 100 → S X nn cc l W → Calls Try.prog 15 #[.int .u64 (x : Int), .int .i64 (K : Int), .pointer (some ⟨wr.heap.size, 0, none⟩)] W fun e w' => e = .returned (.tuple #[]) ∧ ∃ Y dd, S Y (nn + K) dd (l ++ Crc.leb K x) w') := Lib.hid (fun X nn cc l W x K hK hnK h => by
          obtain ⟨h1, h2, h3, h4, h5⟩ := (HS' _ _ _ _ W).1 h
          refine (clo_any wr.heap.size (wr.heap.size + 1) x K hK _ l W h1 h2 (Nat.lt_succ_self _) (by omega) h1.lt).mono ?_
          rintro e w' ⟨h6, v', h7, h8, h9⟩
          obtain ⟨Y, dd, rfl, _⟩ := h8.form' (n := nn + K) (by rw [List.length_append, Crc.leb_length, h4])
          exact ⟨h6, Y, dd, (HS' _ _ _ _ _).2 ⟨h7, h8, h3.trans h9, by rw [List.length_append, Crc.leb_length, h4], by omega⟩⟩)
        have HC8 : Hid (∀ X nn cc l W (x : Nat), nn + 8 ≤ 100 → S X nn cc l W → Calls Try.prog 15 #[.int .u64 (x : Int), .int .i64 8, .pointer (some ⟨wr.heap.size, 0, none⟩)] W fun e w' => e = .returned (.tuple #[]) ∧ ∃ Y dd, S Y (nn + 8) dd (l ++ Crc.leb 8 x) w') := Lib.hid (fun X nn cc l W x h h' => HClo.out X nn cc l W x 8 (by omega) h h')
        have HC4 : Hid (∀ X nn cc l W (x : Nat), nn + 4 ≤ 100 → S X nn cc l W → Calls Try.prog 15 #[.int .u64 (x : Int), .int .i64 4, .pointer (some ⟨wr.heap.size, 0, none⟩)] W fun e w' => e = .returned (.tuple #[]) ∧ ∃ Y dd, S Y (nn + 4) dd (l ++ Crc.leb 4 x) w') := Lib.hid (fun X nn cc l W x h h' => HClo.out X nn cc l W x 4 (by omega) h h')
        have HC1 : Hid (∀ X nn cc l W (x : Nat), nn + 1 ≤ 100 → S X nn cc l W → Calls Try.prog 15 #[.int .u64 (x : Int), .int .i64 1, .pointer (some ⟨wr.heap.size, 0, none⟩)] W fun e w' => e = .returned (.tuple #[]) ∧ ∃ Y dd, S Y (nn + 1) dd (l ++ Crc.leb 1 x) w') := Lib.hid (fun X nn cc l W x h h' => HClo.out X nn cc l W x 1 (by omega) h h')
        obtain ⟨w1, hw1⟩ : ∃ w1, w1 = wr.alloc (.cells #[.slice none 0 0] 22) := ⟨_, rfl⟩
        have HS1 : Hid (S none 0 0 [] w1) := Lib.hid ((HS' _ _ _ _ _).2 ⟨by rw [hw1]; exact Blk.new _ _ _, ⟨rfl, .inl ⟨rfl, rfl⟩⟩, by rw [hw1]; exact (Below.refl _ _).alloc (Nat.le_refl _) _, rfl, by omega⟩)
        have HS := Lib.hid HS'
        have Hw1 := Lib.hid hw1
        clear HS' hw1 hr' HClo
        go_wp2_with fail
        rw [← Hw1.out]
        refine (HC8.out _ _ _ _ _ gen (by omega) HS1.out).mono ?_
        rintro e w2 ⟨rfl, X2, d2, hS⟩
        have HS2 := Lib.hid hS
        clear hS
        go_wp2_with fail
        refine (HC4.out _ _ _ _ _ i (by omega) HS2.out).mono ?_
        rintro e w3 ⟨rfl, X3, d3, hS⟩
        have HS3 := Lib.hid hS
        clear hS
        go_wp2_with fail
        refine (HC4.out _ _ _ _ _ m (by omega) HS3.out).mono ?_
        rintro e w4 ⟨rfl, X4, d4, hS⟩
        have HS4 := Lib.hid hS
        clear hS
        go_wp2_with fail
        refine (HC1.out _ _ _ _ _ k (by omega) HS4.out).mono ?_
        rintro e w5 ⟨rfl, X5, d5, hS⟩
        have hS : S X5 17 d5 (Crc.leb 8 gen ++ Crc.leb 4 i ++ Crc.leb 4 m ++ Crc.leb 1 k) w5 := by simpa using hS
        obtain ⟨hE5, hO5, hB5, hL5, _⟩ := (HS.out _ _ _ _ _).1 hS
        have k0 : w5.cell? ⟨wr.heap.size, 0, none⟩ = some (.slice X5 17 d5) := hE5.cell 0
        have HE5 := Lib.hid hE5
        have HO5 := Lib.hid hO5
        have HB5 := Lib.hid hB5
        have HL5 := Lib.hid hL5
        have hz5 := hE5.lt
        have HRc := Lib.hid (HR'.out.below ((HBr.out.trans (hB5.mono hz)).mono hB))
        obtain ⟨L, hL⟩ : ∃ L, L = Crc.leb 8 gen ++ Crc.leb 4 i ++ Crc.leb 4 m ++ Crc.leb 1 k := ⟨_, rfl⟩
        rw [← hL] at HO5 HL5
        have HLb : Hid (Crc.Bytes (L ++ ch)) := Lib.hid (by rw [hL, Hch.out]; exact Crc.bytes_append (Crc.bytes_append (Crc.bytes_append (Crc.bytes_append (Crc.leb_bytes _ _) (Crc.leb_bytes _ _)) (Crc.leb_bytes _ _)) (Crc.leb_bytes _ _)) (Crc.chunkOf_bytes HBl.out i))
        have HSec : Hid (L ++ ch ++ Crc.leb 8 (Crc.sumS (L ++ ch)) = Crc.secB gen i m (Crc.chunkOf blob i)) := Lib.hid (by
          have e : Crc.secH gen i m (Crc.chunkOf blob i) = L ++ ch := by unfold Crc.secH; rw [← Hch.out, hch, hL]
          unfold Crc.secB
          rw [e])
        clear hL
        clear hS hE5 hO5 hB5 hL5
        go_wp2_with (at_builtin; refine wpList_append_rb _ rfl (.tmp 55) (.tmp 56) _ rfl (wr.heap.size + 1) 5 i0 Try.underlying22 hi0 hz0 hz1 hz2 (.slice X5 17 d5) L rfl HO5.out B A' k c' ch rfl HRc.out (by have := HL5.out; omega) hz5 ?_; intro v6 w6 hown hg _; have hE6 := HE5.out.grown hg (fun e => by have := (OB.own HO5.out e.symm).1; omega); have hB6 : Below wr.heap.size wr w6 := HB5.out.trans (below_grown HO5.out hg (by omega) (by omega)); obtain ⟨X6, d6, rfl, _⟩ := hown.form' (n := 17 + k) (by rw [List.length_append, HL5.out, hch]); have q0 : w6.cell? ⟨wr.heap.size, 0, none⟩ = some (.slice X5 17 d5) := hE6.cell 0; have f0 : w6.frozen? ⟨wr.heap.size, 0, none⟩ = false := hE6.frozen 0; have HO6 := Lib.hid hown; have HE6 := Lib.hid hE6; have HB6 := Lib.hid hB6; clear hown hg hE6 hB6 k0)
        have hO7 := OB.other HO6.out (p := ⟨wr.heap.size, 0, none⟩) (fun g hg => by have := (OB.own HO6.out hg).1; simp; omega) (.slice X6 (17 + k) d6)
        have hlen7 : (L ++ ch).length = 17 + k := by rw [List.length_append, HL5.out, hch]
        have HS7 : Hid (S X6 (17 + k) d6 (L ++ ch) (w6.setCell ⟨wr.heap.size, 0, none⟩ (.slice X6 (17 + k) d6))) := Lib.hid ((HS.out _ _ _ _ _).2 ⟨HE6.out.set_ 0 _, hO7, HB6.out.setCell (Nat.le_refl _) _, hlen7, by omega⟩)
        obtain ⟨_, _, e7, hr7, _, _⟩ := hO7.form' (n := 17 + k) hlen7
        injection e7 with e71 _ e73
        subst e71 e73
        have Hr7 := Lib.hid hr7
        clear hO7 hlen7 hr7 q0 f0
        generalize w6.setCell ⟨wr.heap.size, 0, none⟩ (.slice X6 (17 + k) d6) = w7 at HS7 Hr7 ⊢
        refine (sum_any (L ++ ch) HLb.out _ _ _ _ _ Hr7.out (by unfold maxLen; omega)).mono ?_
        rintro e w' ⟨rfl, rfl⟩
        go_wp2_with fail
        refine (HC8.out _ _ _ _ _ _ (by omega) HS7.out).mono ?_
        rintro e w8 ⟨rfl, X8, d8, hS⟩
        rw [HSec.out] at hS
        obtain ⟨hE8, hO8, hB8, hL8, _⟩ := (HS.out _ _ _ _ _).1 hS
        have k0 : w8.cell? ⟨wr.heap.size, 0, none⟩ = some (.slice X8 (17 + k + 8) d8) := hE8.cell 0
        have HO8 := Lib.hid ((hO8.le (base' := w.heap.size) (by omega)).alloc (.cells #[.slice X8 (17 + k + 8) d8] 22))
        have HOut := Lib.hid ((HSr.out.below hB8).1.alloc (.cells #[.slice X8 (17 + k + 8) d8] 22))
        have HSL8 : Hid (SL (w8.alloc (.cells #[.slice X8 (17 + k + 8) d8] 22)) w.heap.size v vs ((Crc.secs blob gen).take i)) := Lib.hid ((HSr.out.below hB8).below ((Below.refl _ _).alloc (Nat.le_refl _) _))
        have hz8 := hB8.size
        have HB8 : Hid (Below w.heap.size w (w8.alloc (.cells #[.slice X8 (17 + k + 8) d8] 22))) := Lib.hid ((HBr.out.trans (hB8.mono hz)).alloc (by omega) _)
        have hvl : vs.length = i := by
          have h := HSr.out.2.1
          rw [h, List.length_take, Crc.secs_length, hl, ← Hm.out]; omega
        have HX8 : Hid (Reads (w8.alloc (.cells #[.slice X8 (17 + k + 8) d8] 22)) (w8.heap.size + 1) 1 (some ⟨w8.heap.size, 0, none⟩) 1 [.slice X8 (17 + k + 8) d8]) := Lib.hid (reads_alloc w8 #[.slice X8 (17 + k + 8) d8] 22 (0, 0) [.slice X8 (17 + k + 8) d8] rfl)
        have HOne : Hid (∀ u ∈ [Value.slice X8 (17 + k + 8) d8], u.oneCell' = true) := Lib.hid (by intro u hu; rw [List.mem_singleton.1 hu]; rfl)
        have HLn1 : Hid (vs.length + 1 ≤ maxLen) := Lib.hid (by unfold maxLen; omega)
        have HLn2 : Hid ((vs.length + 1) * 24 ≤ 140737488355328) := Lib.hid (by omega)
        have HLn3 : Hid (w.heap.size ≤ (w8.alloc (.cells #[.slice X8 (17 + k + 8) d8] 22)).heap.size) := Lib.hid (by simp; omega)
        clear hS hE8 hO8 hB8 hL8
        go_wp2_with (at_builtin; refine wpList_append_ov _ rfl (.tmp 62) (.tmp 64) _ rfl w.heap.size 22 j0 _ 24 Try.underlying25 hj0 hy0 hy1 hy2 rfl v vs rfl HOut.out _ _ 1 1 [.slice X8 (17 + k + 8) d8] rfl HX8.out HOne.out HLn1.out HLn2.out HLn3.out ?_; intro v9 w9 hown hg _; have HS9 := Lib.hid (HSL8.out.push hown hg HO8.out); have HB9 := Lib.hid (HB8.out.trans (below_grown_ov HOut.out hg (Nat.le_refl _) HLn3.out)); clear hown hg)
        go_roundw
        case rel =>
          refine ⟨i + 1, v9, vs ++ [.slice X8 (17 + k + 8) d8], by omega, by go_num, rfl, ?_, HB9.out⟩
          have h := HS9.out
          have e : (Crc.secs blob gen).take (i + 1) = (Crc.secs blob gen).take i ++ [Crc.secB gen i m (Crc.chunkOf blob i)] := by
            have hil : i < (Crc.secs blob gen).length := by rw [Crc.secs_length, hl, ← Hm.out]; exact hlt
            rw [List.take_succ_eq_append_getElem hil]
            congr 2
            have h2 := Crc.secs_get blob gen i (by rw [hl, ← Hm.out]; exact hlt)
            rw [List.getD_eq_getElem?_getD, List.getElem?_eq_getElem hil, hl, ← Hm.out] at h2
            exact h2
          rw [e]
          exact h
        case measure => simp [intOf]; omega
    · have e : i = m := by omega
      subst e
      go_wp2
      refine bodyPost_ret (v := .tuple #[v, .int .i64 0]) (by simp [results, Try.results9, go_sem]) rfl ⟨v, vs, rfl, ?_, hB'⟩
      rwa [List.take_of_length_le (by rw [Crc.secs_length, hl, ← Hm.out]; exact Nat.le_refl _)] at hS

end Go.Proofs.Ytijhmopejadpdaa

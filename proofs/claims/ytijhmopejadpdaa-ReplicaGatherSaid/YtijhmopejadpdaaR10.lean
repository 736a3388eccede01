/- The walks over the reference's sectors and chunks. -/
import Derived.Test.YtijhmopejadpdaaR9
namespace Go.Proofs.Ytijhmopejadpdaa
open Go.RowKit

theorem leb1 (k : Nat) (h : k < 256) : Crc.leb 1 k = [k] := by
  simp [Crc.leb]
  omega

set_option maxHeartbeats 1000000 in
theorem rsector_any (ch : List Nat) (hch : Crc.Bytes ch) (B k c gen i m : Nat) (X : Option Addr) (w : World) (hr : RB w B X k ch) (hB : B ≤ w.heap.size) (hk : k ≤ 200) (hi : i ≤ 4294967296) (hm : m ≤ 4294967296) :
    Calls Try.prog 18 #[.int .u64 (gen : Int), .int .i64 (i : Int), .int .i64 (m : Int), .slice X k c] w fun e w' => ∃ v, e = .returned v ∧ OB w' w.heap.size 5 v (Crc.secB gen i m ch) ∧ Below w.heap.size w w' := by
  obtain ⟨i0, hi0, hz0, hz1, hz2⟩ := info_parts byteInfo
  have hkl := hr.len
  obtain ⟨S, HS'⟩ : ∃ S : Option Addr → Nat → Nat → List Nat → World → Prop, ∀ Y nn cc l W, S Y nn cc l W ↔ (OB W w.heap.size 5 (.slice Y nn cc) l ∧ l.length = nn ∧ Below w.heap.size w W) := ⟨_, fun _ _ _ _ _ => Iff.rfl⟩
  have HPut : Hid (∀ Y nn cc l W (x K : Nat), K ≤ 8 → nn ≤ 1000 → S Y nn cc l W → Calls Try.prog 23 #[.slice Y nn cc, .int .u64 (x : Int), .int .i64 (K : Int)] W fun e w' => ∃ Z dd, e = .returned (.slice Z (nn + K) dd) ∧ S Z (nn + K) dd (l ++ Crc.leb K x) w') := Lib.hid (fun Y nn cc l W x K hK hn h => by
    obtain ⟨h1, h2, h3⟩ := (HS' _ _ _ _ W).1 h
    obtain ⟨_, _, e1, hrr, _⟩ := h1.form' (n := nn) h2
    injection e1 with e11 _ e13
    subst e11 e13
    refine (rput_any l W.heap.size nn _ _ x (K : Int) (by omega) (by omega) W hrr (Nat.le_refl _) (by omega)).mono ?_
    rintro e w' ⟨v', rfl, hO, hb⟩
    rw [Int.toNat_natCast] at hO
    have hlen : (l ++ Crc.leb K x).length = nn + K := by rw [List.length_append, Crc.leb_length, h2]
    obtain ⟨Z, dd, rfl, _⟩ := hO.form' hlen
    exact ⟨Z, dd, rfl, (HS' _ _ _ _ _).2 ⟨hO.le h3.size, hlen, h3.trans (hb.mono h3.size)⟩⟩)
  have HP8 : Hid (∀ (x : Nat), Calls Try.prog 23 #[.slice none 0 0, .int .u64 (x : Int), .int .i64 8] w fun e w' => ∃ Z dd, e = .returned (.slice Z 8 dd) ∧ S Z 8 dd (Crc.leb 8 x) w') := Lib.hid (fun x => by
    refine (HPut.out none 0 0 [] w x 8 (by omega) (by omega) ((HS' _ _ _ _ _).2 ⟨⟨rfl, .inl ⟨rfl, rfl⟩⟩, rfl, Below.refl _ _⟩)).mono ?_
    rintro e w' ⟨Z, dd, h1, h2⟩
    exact ⟨Z, dd, by rw [h1], by simpa using h2⟩)
  have HP4 : Hid (∀ Y nn cc l W (x : Nat), nn ≤ 1000 → S Y nn cc l W → Calls Try.prog 23 #[.slice Y nn cc, .int .u64 (x : Int), .int .i64 4] W fun e w' => ∃ Z dd, e = .returned (.slice Z (nn + 4) dd) ∧ S Z (nn + 4) dd (l ++ Crc.leb 4 x) w') := Lib.hid (fun Y nn cc l W x hn h => HPut.out Y nn cc l W x 4 (by omega) hn h)
  have HR := Lib.hid hr
  have HS := Lib.hid HS'
  have Hch := Lib.hid hch
  have Hkl := Lib.hid hkl
  clear hr HS' hch HPut hkl
  go_enter Try.func18, Try.ntmps18
  go_wp2_with fail
  refine (HP8.out gen).mono ?_
  rintro e w1 ⟨Z1, d1, rfl, hS1⟩
  have HS1 := Lib.hid hS1
  clear hS1
  go_wp2_with fail
  refine (HP4.out _ _ _ _ _ i (by omega) HS1.out).mono ?_
  rintro e w2 ⟨Z2, d2, rfl, hS2⟩
  have HS2 := Lib.hid hS2
  clear hS2
  go_wp2_with fail
  refine (HP4.out _ _ _ _ _ m (by omega) HS2.out).mono ?_
  rintro e w3 ⟨Z3, d3, rfl, hS3⟩
  have hS3 : S Z3 16 d3 (Crc.leb 8 gen ++ Crc.leb 4 i ++ Crc.leb 4 m) w3 := hS3
  obtain ⟨hO3, hL3, hB3⟩ := (HS.out _ _ _ _ _).1 hS3
  have HSec : Hid (Crc.leb 8 gen ++ Crc.leb 4 i ++ Crc.leb 4 m ++ [k] ++ ch = Crc.secH gen i m ch) := Lib.hid (by unfold Crc.secH; rw [Hkl.out, leb1 k (by omega)])
  generalize Crc.leb 8 gen ++ Crc.leb 4 i ++ Crc.leb 4 m = L at hO3 hL3 HSec
  have HO3 := Lib.hid (hO3.alloc (.cells #[.int .u8 (k : Int)] 5))
  have HB3 := Lib.hid (hB3.alloc hB3.size (.cells #[.int .u8 (k : Int)] 5))
  have HX3 : Hid (RB (w3.alloc (.cells #[.int .u8 (k : Int)] 5)) (w3.heap.size + 1) (some ⟨w3.heap.size, 0, none⟩) 1 [k]) := Lib.hid (rb_alloc w3 #[.int .u8 (k : Int)] 5 (0, 0) [k] rfl)
  have HR3 := Lib.hid (HR.out.below ((hB3.alloc hB3.size (.cells #[.int .u8 (k : Int)] 5)).mono hB))
  have HLn1 : Hid (L.length + 1 ≤ 1099511627776) := Lib.hid (by omega)
  have HLn2 : Hid (w.heap.size ≤ (w3.alloc (.cells #[.int .u8 (k : Int)] 5)).heap.size) := Lib.hid (by have := hB3.size; simp; omega)
  have HL3 := Lib.hid hL3
  clear hO3 hL3 hB3 hS3
  have HK1 : Hid (∀ v4 w4, OB w4 w.heap.size 5 v4 (L ++ [k]) → ∃ Z4 d4, v4 = .slice Z4 17 d4) := Lib.hid (fun v4 w4 h => by
    obtain ⟨Z4, d4, e, _⟩ := h.form' (n := 17) (by rw [List.length_append, HL3.out]; rfl)
    exact ⟨Z4, d4, e⟩)
  have HLm1 : Hid ((L ++ [k]).length + k ≤ 1099511627776) := Lib.hid (by rw [List.length_append, List.length_singleton, HL3.out]; omega)
  have HLb : Hid (Crc.Bytes (Crc.secH gen i m ch)) := Lib.hid (Crc.secH_bytes Hch.out)
  have HLl : Hid ((Crc.secH gen i m ch).length = 17 + k) := Lib.hid (by rw [Crc.secH_length, Hkl.out])
  go_wp2_with (at_builtin; first
    | (refine wpList_append_rb _ rfl (.tmp 18) (.tmp 22) _ rfl w.heap.size 5 i0 Try.underlying22 hi0 hz0 hz1 hz2 (.slice Z3 16 d3) L rfl HO3.out _ _ 1 1 [k] rfl HX3.out HLn1.out HLn2.out ?_; intro v4 w4 hown hg _; have HB4 := Lib.hid (HB3.out.trans (below_grown HO3.out hg (Nat.le_refl _) HLn2.out)); have HR4 := Lib.hid (HR3.out.below ((below_grown HO3.out hg (Nat.le_refl _) HLn2.out).mono hB)); have HO4 := Lib.hid hown; obtain ⟨Z4, d4, rfl⟩ := HK1.out _ _ hown; have HLm2 := Lib.hid HB4.out.size; clear hown hg)
    | (refine wpList_append_rb _ rfl (.tmp 23) (.tmp 24) _ rfl w.heap.size 5 i0 Try.underlying22 hi0 hz0 hz1 hz2 (.slice Z4 17 d4) (L ++ [k]) rfl HO4.out B X k c ch rfl HR4.out HLm1.out HLm2.out ?_; intro v5 w5 hown hg _; have HB5 := Lib.hid (HB4.out.trans (below_grown HO4.out hg (Nat.le_refl _) HLm2.out)); rw [HSec.out] at hown; obtain ⟨Z5, d5, rfl, hr5, _⟩ := hown.form' HLl.out; have HR5 := Lib.hid hr5; clear hown hg hr5))
  refine (rseal_any _ HLb.out _ _ _ _ _ HR5.out (Nat.le_refl _) (by omega)).mono ?_
  rintro e w6 ⟨v6, rfl, hO6, hB6⟩
  have HO6 := Lib.hid (hO6.le HB5.out.size)
  have HB6 := Lib.hid (HB5.out.trans (hB6.mono HB5.out.size))
  clear hO6 hB6
  go_wp2
  go_ret
  exact ⟨_, rfl, HO6.out, HB6.out⟩

end Go.Proofs.Ytijhmopejadpdaa

/- The walk over the reading of numbers in replica. -/
import Derived.Test.YtijhmopejadpdaaSeal
import Derived.Test.YtijhmopejadpdaaNew
namespace Go.Proofs.Ytijhmopejadpdaa
open Go.RowKit

section
variable {w w' : World} {base : Nat} {e : TypeId} {v : Value} {l : List Nat}
theorem OB.ov (h : OB w base e v l) : OV w base e v (l.map bv) := by unfold OV; rw [List.length_map]; exact h
theorem OV.ob (h : OV w base e v (l.map bv)) : OB w base e v l := by unfold OV at h; rw [List.length_map] at h; exact h
theorem OB.own (h : OB w base e v l) {g : Nat} (hg : v.ownBlock = some g) : base ≤ g ∧ g < w.heap.size := OV.lt (OB.ov h) hg
theorem OB.other (h : OB w base e v l) {p : Addr} (hp : ∀ g, v.ownBlock = some g → g ≠ p.block) (u : Value) : OB (w.setCell p u) base e v l := ((OB.ov h).other hp u).ob
end

set_option maxHeartbeats 400000 in
theorem number_any (l : List Nat) (hl : Crc.Bytes l) (B n c : Nat) (A : Option Addr) (w : World) (hr : RB w B A n l) (hn : n ≤ 8) :
    Calls Try.prog 30 #[.slice A n c] w fun e w' => e = .returned (.int .u64 ((Crc.num l : Nat) : Int)) ∧ w = w' := by
  have HL := Lib.hid hr.len
  have HR := Lib.hid hr
  have HB := Lib.hid hl
  clear hr hl
  go_enter Try.func30, Try.ntmps30
  go_wp2
  go_loop [3, 8] (fun x c => ∃ k : Nat, k ≤ n ∧ c = .int .i64 (k : Int) ∧ x = .int .u64 ((Crc.num (l.take k) : Nat) : Int)) (fun _ c => n - (intOf c).toNat)
  case atStart => exact ⟨0, Nat.zero_le _, rfl, rfl⟩
  case round =>
    obtain ⟨k, hk, rfl, rfl⟩ := hrel
    by_cases hlt : k < n
    · have HS := Lib.hid (Crc.num_take_succ l k (by rw [HL.out]; exact hlt))
      have hX := num_take_lt HB.out k
      obtain ⟨ad, rfl, _, hc⟩ := HR.out.at_ hlt
      have hb := bytes_getD HB.out k
      generalize l.getD k 0 = b at hb hc HS
      generalize Crc.num (l.take k) = X at hX HS ⊢
      go_wp2
      go_round
      case rel => exact ⟨k + 1, by omega, by go_num, by rw [HS.out, or_byte X b k hX hb (by omega)]⟩
      case measure => simp [intOf]; omega
    · obtain rfl : k = n := by omega
      go_wp2
      go_ret
      refine ⟨ret_u64 ?_, rfl⟩
      rw [List.take_of_length_le (by rw [HL.out]; exact Nat.le_refl _)]

set_option maxHeartbeats 800000 in
/-- The closure of Chunks: it appends a number's bytes to the slice in its variable. -/
theorem clo_any (gb base n K : Nat) (hK : K ≤ 8) (v : Value) (l : List Nat) (w : World) (h : Blk w gb 22 #[v]) (ho : OB w base 5 v l) (hgb : gb < base) (hlen : l.length ≤ 65536) (hbase : base ≤ w.heap.size) :
    Calls Try.prog 15 #[.int .u64 (n : Int), .int .i64 (K : Int), .pointer (some ⟨gb, 0, none⟩)] w fun e w' => e = .returned (.tuple #[]) ∧ ∃ v', Blk w' gb 22 #[v'] ∧ OB w' base 5 v' (l ++ Crc.leb K n) ∧ Below gb w w' := by
  obtain ⟨i0, hi0, hz0, hz1, hz2⟩ := info_parts byteInfo
  have Hh := Lib.hid h
  have Ho := Lib.hid ho
  clear h ho
  go_enter Try.func15, Try.ntmps15
  go_wp2_with fail
  go_loopw [7] (fun s7 wr => ∃ (i : Nat) (v' : Value), i ≤ K ∧ s7 = .int .i64 (i : Int) ∧ Blk wr gb 22 #[v'] ∧ OB wr base 5 v' (l ++ Crc.leb i n) ∧ Below gb w wr) (fun s7 _ => K - (intOf s7).toNat)
  case atStart => exact ⟨0, v, by omega, rfl, Hh.out, by rw [show Crc.leb 0 n = [] from rfl, List.append_nil]; exact Ho.out, Below.refl _ _⟩
  case round =>
    obtain ⟨i, v', hi, rfl, hE, hO, hB⟩ := hrel
    by_cases hlt : i < K
    · have r0 : IntKind.i64.wrap (8 * (i : Int)) = 8 * (i : Int) := by rw [IntKind.wrap_i64]; omega
      have hlen' : (l ++ Crc.leb i n).length ≤ 65536 + 8 := by rw [List.length_append, Crc.leb_length]; omega
      have g0 : wr.drew.cell? ⟨gb, 0, none⟩ = some v' := hE.cell 0
      have g1 : wr.cell? ⟨gb, 0, none⟩ = some v' := hE.cell 0
      have HEr := Lib.hid hE
      have HOr := Lib.hid hO
      have HBr := Lib.hid hB
      have hgz := hE.lt
      have hbr := hB.size
      clear hE hO hB
      obtain ⟨y, hy⟩ : ∃ y, y = n / 2 ^ (8 * i) % 256 := ⟨_, rfl⟩
      have rB : IntKind.u8.wrap ((n : Int) / 2 ^ (8 * (i : Int)).toNat) = (y : Int) := by
        rw [show (8 * (i : Int)).toNat = 8 * i by omega, IntKind.wrap_u8, hy]
        exact byte_of n (8 * i)
      have HO1 : Hid (OB (wr.alloc (.cells #[.int .u8 (y : Int)] 5)).drew base 5 v' (l ++ Crc.leb i n)) := Lib.hid ((HOr.out.alloc _).drew)
      have HE1 : Hid (Blk (wr.alloc (.cells #[.int .u8 (y : Int)] 5)).drew gb 22 #[v']) := Lib.hid ((HEr.out.alloc _).drew)
      have HB1 : Hid (Below gb w (wr.alloc (.cells #[.int .u8 (y : Int)] 5)).drew) := Lib.hid ((HBr.out.alloc (by omega) _).drew)
      have HX : Hid (RB (wr.alloc (.cells #[.int .u8 (y : Int)] 5)).drew (wr.heap.size + 1) (some ⟨wr.heap.size, 0, none⟩) 1 [y]) := Lib.hid (rb_alloc wr #[.int .u8 (y : Int)] 5 (0, 0) [y] rfl).drew
      have HNe : Hid (some gb ≠ v'.ownBlock) := Lib.hid (fun e => by have := (OB.own HOr.out e.symm).1; omega)
      have Hy := Lib.hid hy
      clear hy
      go_wp2_with fail
      go_region_law (first
        | (refine step_append_rb rfl (.tmp 10) (.tmp 16) _ rfl base 5 i0 Try.underlying22 hi0 hz0 hz1 hz2 v' (l ++ Crc.leb i n) rfl HO1.out _ _ 1 1 [y] rfl HX.out (by omega) (by simp; omega) ?_; intro v2 w2 hown hg _; have hE2 := HE1.out.grown hg HNe.out; have hB2 : Below gb w w2 := HB1.out.trans (below_grown HO1.out hg (by omega) (by simp; omega)); obtain ⟨A2, c2, rfl, _⟩ := hown.form' (n := l.length + i + 1) (by simp [Crc.leb_length]; omega); have k0 : w2.cell? ⟨gb, 0, none⟩ = some v' := hE2.cell 0; have f0 : w2.frozen? ⟨gb, 0, none⟩ = false := hE2.frozen 0; have HO2 := Lib.hid hown; have HE2 := Lib.hid hE2; have HB2 := Lib.hid hB2; clear hown hg hE2 hB2))
      all_goals go_wp2_with fail
      all_goals refine ⟨⟨i + 1, _, by omega, by go_num, HE2.out.set_ 0 _, ?_, HB2.out.setCell (Nat.le_refl _) _⟩, by simp [intOf]; omega⟩
      all_goals
        have h := OB.other HO2.out (p := ⟨gb, 0, none⟩) (fun g hg => by have := (OB.own HO2.out hg).1; simp; omega) (.slice A2 (l.length + i + 1) c2)
        rw [List.append_assoc, Hy.out] at h
        exact h
    · have e : i = K := by omega
      subst e
      go_wp2
      go_end0
      exact ⟨rfl, v', hE, hO, hB⟩

end Go.Proofs.Ytijhmopejadpdaa

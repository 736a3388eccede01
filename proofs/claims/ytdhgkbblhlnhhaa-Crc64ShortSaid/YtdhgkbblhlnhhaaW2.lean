/- Walks over the checksum's matrices: a matrix's product with a register, its square, and the combination of two sums. -/
import Derived.Test.YtdhgkbblhlnhhaaW1
namespace Go.Proofs.Ytdhgkbblhlnhhaa
open Go.RowKit

/-- Block g holds the matrix of k steps: the images of the single bits. -/
def Mat (w : World) (g k : Nat) : Prop := ∃ cs : Array Value, Blk w g 42 cs ∧ cs.size = 64 ∧ ∀ i, i < 64 → cs[i]? = some (.int .u64 ((Crc.stps k (2 ^ i) : Nat) : Int))
theorem Mat.cell {w : World} {g k : Nat} (h : Mat w g k) (i : Nat) (hi : i < 64) : w.cell? ⟨g, i, none⟩ = some (.int .u64 ((Crc.stps k (2 ^ i) : Nat) : Int)) := by
  obtain ⟨cs, hb, _, hc⟩ := h
  rw [hb.cell, hc i hi]
theorem pow_lt' (i : Nat) (hi : i < 64) : 2 ^ i < 18446744073709551616 := by
  rw [← lt64]; exact Nat.pow_lt_pow_right (by omega) hi
theorem shr_bound {i y : Nat} (h : y < 2 ^ (64 - i)) (h0 : y ≠ 0) : i < 64 ∧ y / 2 < 2 ^ (64 - (i + 1)) := by
  have hi : i < 64 := by
    by_cases e : i < 64
    · exact e
    · rw [show 64 - i = 0 by omega] at h; simp at h; exact absurd h h0
  refine ⟨hi, ?_⟩
  rw [show 64 - i = 64 - (i + 1) + 1 by omega, Nat.pow_succ] at h
  omega
theorem shr_lt {i y : Nat} (h : y < 2 ^ (64 - i)) : y < 18446744073709551616 := by
  rw [← lt64]; exact Nat.lt_of_lt_of_le h (Nat.pow_le_pow_right (by omega) (by omega))

set_option maxHeartbeats 400000 in
theorem apply_any (k g x : Nat) (hx : x < 18446744073709551616) (w : World) (hM : Mat w g k) :
    Calls Try.prog 22 #[.pointer (some ⟨g, 0, none⟩), .int .u64 (x : Int)] w fun e w' => e = .returned (.int .u64 ((Crc.stps k x : Nat) : Int)) ∧ w = w' := by
  go_enter Try.func22, Try.ntmps22
  go_wp2
  go_loop [1, 5, 6] (fun u o c => ∃ i y out : Nat, i ≤ 64 ∧ y < 2 ^ (64 - i) ∧ u = .int .u64 (y : Int) ∧ o = .int .u64 (out : Int) ∧ c = .int .i64 (i : Int) ∧ out < 18446744073709551616 ∧ Hid (out ^^^ Crc.stps k (2 ^ i * y) = Crc.stps k x)) (fun u _ _ => (intOf u).toNat)
  case atStart => exact ⟨0, x, 0, by omega, by rw [Nat.sub_zero, lt64]; exact hx, rfl, rfl, rfl, by omega, Lib.hid (by simp)⟩
  case round =>
    obtain ⟨i, y, out, hi, hy, rfl, rfl, rfl, ho, H⟩ := hrel
    have hy64 := shr_lt hy
    by_cases h0 : y = 0
    · subst h0
      go_wp2
      go_ret
      exact ⟨ret_u64 (by have := H.out; rw [Nat.mul_zero, Crc.stps_zero, Nat.xor_zero] at this; rw [this]), rfl⟩
    · obtain ⟨hi64, hy2⟩ := shr_bound hy h0
      have hcell := hM.cell i hi64
      have hv := stps_lt' k (pow_lt' i hi64)
      have hr := Crc.apply_round k i y out _ H.out
      generalize Crc.stps k (2 ^ i) = v at hcell hv hr
      have HRn := Lib.hid hr
      clear hr
      have hY := Lib.hid hy
      have hY2 := Lib.hid hy2
      clear hy hy2
      by_cases hodd : y % 2 = 1
      · have ht := odd_of hy64 hodd
        go_wp2
        go_round
        case rel =>
          refine ⟨i + 1, y / 2, out ^^^ v, by omega, hY2.out, by rw [half], by rw [bits_xor_u64_nat _ _ ho hv], by go_num, xor_lt' ho hv, Lib.hid ?_⟩
          have := HRn.out
          rwa [if_pos hodd] at this
        case measure => simp [intOf]; omega
      · have ht := odd_of_not hy64 hodd
        go_wp2
        go_round
        case rel =>
          refine ⟨i + 1, y / 2, out, by omega, hY2.out, by rw [half], rfl, by go_num, ho, Lib.hid ?_⟩
          have := HRn.out
          rwa [if_neg hodd] at this
        case measure => simp [intOf]; omega

/-- Block g is being filled with the matrix of k steps: i images stand. -/
def MatTo (w : World) (g k i : Nat) : Prop := ∃ cs : Array Value, Blk w g 42 cs ∧ cs.size = 64 ∧ ∀ j, j < i → cs[j]? = some (.int .u64 ((Crc.stps k (2 ^ j) : Nat) : Int))
theorem MatTo.mat {w : World} {g k : Nat} (h : MatTo w g k 64) : Mat w g k := h
theorem MatTo.cell {w : World} {g k i : Nat} (h : MatTo w g k i) (j : Nat) (hj : j < 64) : ∃ v, w.cell? ⟨g, j, none⟩ = some v := by
  obtain ⟨cs, hb, hs, _⟩ := h
  rw [hb.cell]
  exact ⟨cs[j], Array.getElem?_eq_getElem (by omega)⟩
theorem MatTo.free {w : World} {g k i : Nat} (h : MatTo w g k i) (j : Nat) : w.frozen? ⟨g, j, none⟩ = false := by
  obtain ⟨cs, hb, hs, _⟩ := h
  exact hb.frozen j
theorem MatTo.lt {w : World} {g k i : Nat} (h : MatTo w g k i) : g < w.heap.size := by
  obtain ⟨cs, hb, _, _⟩ := h
  exact hb.lt
theorem Mat.lt {w : World} {g k : Nat} (h : Mat w g k) : g < w.heap.size := MatTo.lt h
theorem MatTo.set {w : World} {g k i : Nat} (h : MatTo w g k i) (hi : i < 64) (v : Nat) (hv : v = Crc.stps k (2 ^ i)) : MatTo (w.setCell ⟨g, i, none⟩ (.int .u64 (v : Int))) g k (i + 1) := by
  obtain ⟨cs, hb, hs, hc⟩ := h
  refine ⟨_, hb.set_ i _, by simpa using hs, fun j hj => ?_⟩
  rw [Array.getElem?_setIfInBounds]
  by_cases e : i = j
  · subst e
    rw [if_pos rfl, if_pos (by omega), hv]
  · rw [if_neg e]
    exact hc j (by omega)
theorem Mat.below {w w' : World} {B g k : Nat} (h : Mat w g k) (hb : Below B w w') (hg : g < B) : Mat w' g k := by
  obtain ⟨cs, h1, h2⟩ := h
  exact ⟨cs, h1.below hb hg, h2⟩
theorem MatTo.drewN {w : World} {g k i : Nat} (h : MatTo w g k i) (n : Nat) : MatTo (w.drewN n) g k i := h
theorem MatTo.drew {w : World} {g k i : Nat} (h : MatTo w g k i) : MatTo w.drew g k i := h

/- The square of a matrix. -/
set_option maxHeartbeats 400000 in
theorem square_any (k g : Nat) (w : World) (hM : Mat w g k) :
    Calls Try.prog 21 #[.pointer (some ⟨g, 0, none⟩)] w fun e w' => ∃ g' : Nat, e = .returned (.pointer (some ⟨g', 0, none⟩)) ∧ Mat w' g' (2 * k) ∧ w.heap.size ≤ g' ∧ Below w.heap.size w w' := by
  have hg := hM.lt
  go_enter Try.func21, Try.ntmps21
  go_wp2
  go_loopw [5] (fun c wr => ∃ i : Nat, i ≤ 64 ∧ c = .int .i64 (i : Int) ∧ MatTo wr w.heap.size (2 * k) i ∧ Below w.heap.size w wr) (fun c _ => 64 - (intOf c).toNat)
  case atStart => exact ⟨0, by omega, rfl, ⟨_, Blk.new _ _ _, rfl, fun j hj => by omega⟩, (Below.refl _ _).alloc (Nat.le_refl _) _⟩
  case round =>
    obtain ⟨i, hi, rfl, hT, hB⟩ := hrel
    by_cases hlt : i < 64
    · have hM' := hM.below hB hg
      have hcell := hM'.cell i hlt
      have hv := stps_lt' k (pow_lt' i hlt)
      have e2 := Lib.hid (show Crc.stps k (Crc.stps k (2 ^ i)) = Crc.stps (2 * k) (2 ^ i) by rw [Nat.two_mul, Crc.stps_add])
      generalize Crc.stps k (2 ^ i) = v at hcell hv e2
      obtain ⟨old, hold⟩ := hT.cell i hlt
      have hfree := hT.free i
      have HT := Lib.hid hT
      have HM := Lib.hid hM'
      have HB := Lib.hid hB
      clear hT hM' hB
      go_wp2_with (go_at_call 22; refine (apply_any k g v hv _ HM.out).mono ?_; rintro e w' ⟨rfl, rfl⟩)
      go_roundw
      case rel => exact ⟨i + 1, by omega, by go_num, HT.out.set hlt _ e2.out, HB.out.setCell (Nat.le_refl _) _⟩
      case measure => simp [intOf]; omega
    · obtain rfl : i = 64 := by omega
      go_wp2
      go_ret
      exact ⟨_, rfl, hT.mat, Nat.le_refl _, hB⟩

end Go.Proofs.Ytdhgkbblhlnhhaa

/- What a recorded piece says: the plain laws of setting a piece. -/
import Derived.Test.YtejhfollfmdmpaaP3
namespace Go.Proofs.Ytejhfollfmdmpaa
namespace Crc
/-- Short strings behind the same sum. -/
theorem updS_short {a b : List Nat} (ha : Bytes a) (hb : Bytes b) (hl : a.length = b.length) (h8 : b.length ≤ 8) (s : Nat) (h : updS s a = updS s b) : a = b := by
  by_cases e : num a = num b
  · exact num_inj ha hb hl e
  · exfalso
    have h256 : (256 : Nat) ^ b.length ≤ 2 ^ 64 := by
      rw [show (256 : Nat) = 2 ^ 8 from rfl, ← Nat.pow_mul]
      exact Nat.pow_le_pow_right (by omega) (by omega)
    have la := num_lt a ha
    have lb := num_lt b hb
    rw [hl] at la
    exact updS_ne ha hb hl s 0 (num a ^^^ num b) (fun x => e (eq_of_xor x)) (Nat.xor_lt_two_pow (by omega) (by omega)) (by simp) (by omega) h
/-- Different sums stay different behind the same string. -/
theorem updS_start {s s' : Nat} {l : List Nat} (hl : Bytes l) (hs : s < 2 ^ 64) (hs' : s' < 2 ^ 64) (h : updS s l = updS s' l) : s = s' := by
  unfold updS at h
  rw [upd_eq l _ hl, upd_eq l _ hl] at h
  have ho : ones < 2 ^ 64 := by unfold ones; omega
  have h1 : stps (8 * l.length) ((s ^^^ ones ^^^ num l) ^^^ (s' ^^^ ones ^^^ num l)) = 0 := by
    rw [stps_xor]
    have h2 : stps (8 * l.length) (s ^^^ ones ^^^ num l) = stps (8 * l.length) (s' ^^^ ones ^^^ num l) := by
      have h3 := congrArg (· ^^^ ones) h
      simp only [Nat.xor_assoc, Nat.xor_self, Nat.xor_zero] at h3
      simpa only [Nat.xor_assoc] using h3
    rw [h2, Nat.xor_self]
  have h4 : (s ^^^ ones ^^^ num l) ^^^ (s' ^^^ ones ^^^ num l) = s ^^^ s' := by
    rw [Nat.xor_assoc s, Nat.xor_assoc s', Nat.xor_comm s (ones ^^^ num l), Nat.xor_assoc, ← Nat.xor_assoc s, Nat.xor_comm (s ^^^ s'), ← Nat.xor_assoc, Nat.xor_self, Nat.zero_xor]
  rw [h4] at h1
  by_cases e : s ^^^ s' = 0
  · exact eq_of_xor e
  · exact absurd h1 (stps_ne _ (Nat.xor_lt_two_pow hs hs') e)
theorem psum_data {g p : Int} {v : Nat} {D E : List Nat} (hD : Bytes D) (hE : Bytes E) (h8 : D.length = 8) (h8' : E.length = 8) (h : psum g p v D = psum g p v E) : D = E := by
  unfold psum sumS pieceB at h
  rw [← updS_append _ D, ← updS_append _ E] at h
  exact updS_short hD hE (by omega) (by omega) _ h
end Crc

section
variable {l1 l2 : List Nat} {n1 n2 q pn : Nat} {g : Int} {v : Nat} {X : List Nat}
theorem set_get {l : List Nat} {q i j x : Nat} (hj : j < q) (hq : q ≤ l.length) : ((l.take q).set i x).getD j 0 = if i = j then x else l.getD j 0 := by
  have hl : (l.take q).length = q := by simp; omega
  rw [List.getD_eq_getElem?_getD, List.getElem?_set]
  split
  · rw [if_pos (by omega)]; rfl
  · rw [List.getElem?_take, if_pos hj, List.getD_eq_getElem?_getD]
theorem set_good (h1 : l1.length = n1) (h2 : l2.length = n2) (hq : q = min n1 n2) (hp : pn < q) : goodB ((l1.take q).set pn v) ((l2.take q).set pn (Crc.psum g pn v X)) g pn v X = true := by
  unfold goodB
  refine decide_eq_true ⟨by omega, by simp; omega, ?_, ?_⟩
  · rw [Int.toNat_natCast, set_get hp (by omega), if_pos rfl]
  · rw [Int.toNat_natCast, set_get hp (by omega), if_pos rfl]
theorem set_data {Y : List Nat} (_h1 : l1.length = n1) (h2 : l2.length = n2) (hq : q = min n1 n2) (hp : pn < q) (hX : Crc.Bytes X) (hY : Crc.Bytes Y) (x8 : X.length = 8) (y8 : Y.length = 8) (hne : Y ≠ X) :
    goodB ((l1.take q).set pn v) ((l2.take q).set pn (Crc.psum g pn v X)) g pn v Y = false := by
  unfold goodB
  refine decide_eq_false fun h => hne ?_
  have h3 := h.2.2.2
  rw [Int.toNat_natCast, set_get hp (by omega), if_pos rfl] at h3
  exact (Crc.psum_data hX hY x8 y8 h3).symm
theorem set_ver {Y : List Nat} {v' : Nat} (h1 : l1.length = n1) (_h2 : l2.length = n2) (hq : q = min n1 n2) (hp : pn < q) (hne : v' ≠ v) :
    goodB ((l1.take q).set pn v) ((l2.take q).set pn (Crc.psum g pn v X)) g pn v' Y = false := by
  unfold goodB
  refine decide_eq_false fun h => hne ?_
  have h3 := h.2.2.1
  rw [Int.toNat_natCast, set_get hp (by omega), if_pos rfl] at h3
  exact h3.symm
theorem set_other {Y : List Nat} {v' : Nat} {g' p' : Int} (h1 : l1.length = n1) (h2 : l2.length = n2) (hq : q = min n1 n2) (hne : p' ≠ (pn : Int)) :
    goodB ((l1.take q).set pn v) ((l2.take q).set pn (Crc.psum g pn v X)) g' p' v' Y = goodB l1 l2 g' p' v' Y := by
  unfold goodB
  rw [decide_eq_decide]
  have e : min ((l1.take q).set pn v).length ((l2.take q).set pn (Crc.psum g pn v X)).length = min l1.length l2.length := by simp; omega
  rw [e]
  constructor
  · rintro ⟨k1, k2, k3, k4⟩
    rw [set_get (by omega) (by omega), if_neg (by omega)] at k3 k4
    exact ⟨k1, k2, k3, k4⟩
  · rintro ⟨k1, k2, k3, k4⟩
    refine ⟨k1, k2, ?_, ?_⟩
    · rw [set_get (by omega) (by omega), if_neg (by omega)]; exact k3
    · rw [set_get (by omega) (by omega), if_neg (by omega)]; exact k4
end

end Go.Proofs.Ytejhfollfmdmpaa

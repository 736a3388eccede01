/- Numbers as little-endian bytes. -/
import Derived.Test.YtijhmopejadpdaaMath
namespace Go.Proofs.Ytijhmopejadpdaa
namespace Crc
/-- The first k little-endian bytes of a number. -/
def leb : Nat → Nat → List Nat
  | 0, _ => []
  | k + 1, n => leb k n ++ [n / 2 ^ (8 * k) % 256]
theorem leb_length (k n : Nat) : (leb k n).length = k := by
  induction k with
  | zero => rfl
  | succ k ih => simp [leb, ih]
theorem leb_bytes (k n : Nat) : Bytes (leb k n) := by
  induction k with
  | zero => intro b h; cases h
  | succ k ih =>
    intro b h
    rcases List.mem_append.1 h with h | h
    · exact ih b h
    · simp at h; omega
theorem num_append : ∀ (a b : List Nat), num (a ++ b) = num a + 2 ^ (8 * a.length) * num b
  | [], b => by simp [num]
  | x :: r, b => by
    rw [List.cons_append, num, num, num_append r b, List.length_cons, show 8 * (r.length + 1) = 8 + 8 * r.length by omega, Nat.pow_add, Nat.mul_add, ← Nat.mul_assoc, show (2 : Nat) ^ 8 = 256 from rfl, Nat.add_assoc]
theorem num_leb (k n : Nat) : num (leb k n) = n % 2 ^ (8 * k) := by
  induction k with
  | zero => simp [leb, num, Nat.mod_one]
  | succ k ih =>
    have e : 2 ^ (8 * (k + 1)) = 2 ^ (8 * k) * 256 := by rw [show 8 * (k + 1) = 8 * k + 8 by omega, Nat.pow_add]
    rw [leb, num_append, ih, leb_length, e, Nat.mod_mul]
    simp [num]
theorem num_lt2 (l : List Nat) (h : Bytes l) : num l < 2 ^ (8 * l.length) := by
  have := num_lt l h
  rwa [show (256 : Nat) = 2 ^ 8 from rfl, ← Nat.pow_mul] at this
theorem leb_num (l : List Nat) (h : Bytes l) : leb l.length (num l) = l := by
  refine num_inj (leb_bytes _ _) h (leb_length _ _) ?_
  rw [num_leb, Nat.mod_eq_of_lt (num_lt2 l h)]
theorem num_snoc (l : List Nat) (b : Nat) : num (l ++ [b]) = num l + 2 ^ (8 * l.length) * b := by
  rw [num_append]; simp [num]
theorem num_take_succ (l : List Nat) (k : Nat) (h : k < l.length) : num (l.take (k + 1)) = num (l.take k) + 2 ^ (8 * k) * l.getD k 0 := by
  have e : l.take (k + 1) = l.take k ++ [l.getD k 0] := by
    rw [List.take_succ_eq_append_getElem h]; simp [List.getD, h]
  rw [e, num_snoc, List.length_take, Nat.min_eq_left (by omega)]
theorem or_add (a k b : Nat) (ha : a < 2 ^ k) : a ||| (2 ^ k * b) = a + 2 ^ k * b := by
  rw [Nat.or_comm, ← Nat.two_pow_add_eq_or_of_lt ha b, Nat.add_comm]
end Crc
end Go.Proofs.Ytijhmopejadpdaa

/- Plain arithmetic of the checksum: a register of natural numbers, one step, many steps, byte strings as numbers; linearity, invertibility, and what follows for sums. No program in sight. -/
import Derived.KernelRfl
namespace Go.Proofs.Ytijhmopejadpdaa
namespace Crc

def poly : Nat := 14514072000185962306
def ones : Nat := 18446744073709551615
/-- One step of the register. -/
def stp (x : Nat) : Nat := if x % 2 = 1 then (x / 2) ^^^ poly else x / 2
/-- Many steps. -/
def stps : Nat → Nat → Nat
  | 0, x => x
  | n + 1, x => stps n (stp x)
/-- A byte string as a number, the least significant byte first. -/
def num : List Nat → Nat
  | [] => 0
  | b :: r => b + 256 * num r
/-- The register after some bytes. -/
def upd (x : Nat) (l : List Nat) : Nat := l.foldl (fun x b => stps 8 (x ^^^ b)) x
theorem upd_nil (x : Nat) : upd x [] = x := rfl
theorem upd_cons (x b : Nat) (r : List Nat) : upd x (b :: r) = upd (stps 8 (x ^^^ b)) r := by unfold upd; rw [List.foldl_cons]
theorem stps_0 (x : Nat) : stps 0 x = x := rfl
theorem stps_succ (n x : Nat) : stps (n + 1) x = stps n (stp x) := rfl
attribute [irreducible] stps upd
theorem eq_of_xor {a b : Nat} (h : a ^^^ b = 0) : a = b := by
  have e : (a ^^^ b) ^^^ b = b := by rw [h, Nat.zero_xor]
  rwa [Nat.xor_assoc, Nat.xor_self, Nat.xor_zero] at e
def updS (s : Nat) (l : List Nat) : Nat := upd (s ^^^ ones) l ^^^ ones
def sumS (l : List Nat) : Nat := updS 0 l
def Bytes (l : List Nat) : Prop := ∀ b ∈ l, b < 256

theorem xor_div2 (x y : Nat) : (x ^^^ y) / 2 = (x / 2) ^^^ (y / 2) := by
  have := Nat.shiftRight_xor_distrib (a := x) (b := y) (i := 1)
  simpa [Nat.shiftRight_succ] using this
theorem xor_mod2 (x y : Nat) : (x ^^^ y) % 2 = (x % 2 + y % 2) % 2 := by
  have h := Nat.testBit_xor x y 0
  simp only [Nat.testBit_zero] at h
  rcases Nat.mod_two_eq_zero_or_one x with hx | hx <;> rcases Nat.mod_two_eq_zero_or_one y with hy | hy <;> rcases Nat.mod_two_eq_zero_or_one (x ^^^ y) with hz | hz <;> simp [hx, hy, hz] at h ⊢
theorem stp_xor (x y : Nat) : stp (x ^^^ y) = stp x ^^^ stp y := by
  unfold stp
  have h := xor_mod2 x y
  have hd := xor_div2 x y
  rcases Nat.mod_two_eq_zero_or_one x with hx | hx <;> rcases Nat.mod_two_eq_zero_or_one y with hy | hy <;> rw [hx, hy] at h <;> simp only [h, hx, hy, hd]
  · simp
  · simp [Nat.xor_assoc]
  · simp only [Nat.zero_ne_one, if_true, if_false]
    rw [Nat.xor_assoc, Nat.xor_comm (y / 2), ← Nat.xor_assoc]
  · simp only [if_true]
    have e : (x / 2 ^^^ poly) ^^^ (y / 2 ^^^ poly) = (x / 2 ^^^ y / 2) ^^^ (poly ^^^ poly) := by
      simp only [Nat.xor_assoc]
      rw [← Nat.xor_assoc poly (y / 2) poly, Nat.xor_comm poly (y / 2), Nat.xor_assoc]
    rw [e]
    simp
theorem stps_xor (n : Nat) : ∀ x y, stps n (x ^^^ y) = stps n x ^^^ stps n y := by
  induction n with
  | zero => intro x y; simp only [stps_0]
  | succ n ih => intro x y; simp only [stps_succ, stp_xor, ih]
theorem stps_add (m n x : Nat) : stps (m + n) x = stps n (stps m x) := by
  induction m generalizing x with
  | zero => simp [stps_0]
  | succ m ih => rw [Nat.add_right_comm, stps_succ, ih, stps_succ]
theorem stps_succ' (n x : Nat) : stps (n + 1) x = stp (stps n x) := by rw [stps_add n 1 x, stps_succ, stps_0]
theorem stps_zero (n : Nat) : stps n 0 = 0 := by
  induction n with
  | zero => rw [stps_0]
  | succ n ih => rw [stps_succ]; exact ih
theorem stp_double (y : Nat) : stp (2 * y) = y := by simp [stp]
theorem stps_shift (n y : Nat) : stps n (2 ^ n * y) = y := by
  induction n with
  | zero => simp [stps_0]
  | succ n ih => rw [stps_succ, show 2 ^ (n + 1) * y = 2 * (2 ^ n * y) by rw [Nat.pow_succ]; simp [Nat.mul_comm, Nat.mul_left_comm], stp_double, ih]
theorem stp_lt {x : Nat} (h : x < 2 ^ 64) : stp x < 2 ^ 64 := by
  unfold stp
  split
  · exact Nat.xor_lt_two_pow (by omega) (by unfold poly; omega)
  · omega
theorem stps_lt (n : Nat) : ∀ {x : Nat}, x < 2 ^ 64 → stps n x < 2 ^ 64 := by
  induction n with
  | zero => intro x h; rw [stps_0]; exact h
  | succ n ih => intro x h; rw [stps_succ]; exact ih (stp_lt h)
theorem stp_ne {x : Nat} (h : x < 2 ^ 64) (h0 : x ≠ 0) : stp x ≠ 0 := by
  unfold stp
  split
  · intro e
    have : x / 2 = poly := eq_of_xor e
    unfold poly at this; omega
  · omega
theorem stps_ne (n : Nat) : ∀ {x : Nat}, x < 2 ^ 64 → x ≠ 0 → stps n x ≠ 0 := by
  induction n with
  | zero => intro x _ h; rw [stps_0]; exact h
  | succ n ih => intro x h h0; rw [stps_succ]; exact ih (stp_lt h) (stp_ne h h0)

theorem add_eq_xor (b : Nat) (hb : b < 256) (m : Nat) : b + 256 * m = b ^^^ (256 * m) := by
  have := Nat.two_pow_add_eq_or_of_lt (i := 8) hb m
  rw [Nat.add_comm, show (256 : Nat) = 2 ^ 8 from rfl, this]
  apply Nat.eq_of_testBit_eq
  intro i
  rw [Nat.testBit_or, Nat.testBit_xor]
  rcases Nat.lt_or_ge i 8 with h | h
  · rw [Nat.testBit_two_pow_mul]; simp [show ¬ 8 ≤ i by omega]
  · rw [Nat.testBit_lt_two_pow (x := b) (Nat.lt_of_lt_of_le hb (by exact Nat.pow_le_pow_right (n := 2) (by omega) h))]; simp
theorem upd_eq : ∀ (l : List Nat) (x : Nat), Bytes l → upd x l = stps (8 * l.length) (x ^^^ num l)
  | [], x, _ => by simp [upd_nil, num, stps_0]
  | b :: r, x, h => by
    have hb : b < 256 := h b (by simp)
    rw [upd_cons, upd_eq r _ (fun c hc => h c (by simp [hc])), num, add_eq_xor b hb, ← Nat.xor_assoc, List.length_cons, show 8 * (r.length + 1) = 8 + 8 * r.length by omega, stps_add, stps_xor 8 (x ^^^ b),
      show 256 * num r = 2 ^ 8 * num r from rfl, stps_shift]
theorem num_lt : ∀ (l : List Nat), Bytes l → num l < 256 ^ l.length
  | [], _ => by simp [num]
  | b :: r, h => by
    have := num_lt r (fun c hc => h c (by simp [hc]))
    have hb : b < 256 := h b (by simp)
    rw [num, List.length_cons, Nat.pow_succ]
    omega
theorem upd_lt : ∀ (l : List Nat) {x : Nat}, Bytes l → x < 2 ^ 64 → upd x l < 2 ^ 64
  | [], _, _, hx => by rw [upd_nil]; exact hx
  | b :: r, x, h, hx => by
    have hb : b < 256 := h b (by simp)
    rw [upd_cons]
    exact upd_lt r (fun c hc => h c (by simp [hc])) (stps_lt 8 (Nat.xor_lt_two_pow hx (by omega)))
theorem updS_lt {l : List Nat} {s : Nat} (h : Bytes l) (hs : s < 2 ^ 64) : updS s l < 2 ^ 64 :=
  Nat.xor_lt_two_pow (upd_lt l h (Nat.xor_lt_two_pow hs (by unfold ones; omega))) (by unfold ones; omega)
theorem sumS_lt {l : List Nat} (h : Bytes l) : sumS l < 2 ^ 64 := updS_lt h (by omega)
theorem upd_append : ∀ (a b : List Nat) (x : Nat), upd x (a ++ b) = upd (upd x a) b
  | [], _, _ => by rw [upd_nil]; rfl
  | c :: r, b, x => by rw [List.cons_append, upd_cons, upd_append r b, upd_cons]
theorem upd_take (l : List Nat) (k : Nat) (h : k < l.length) (x : Nat) : upd x (l.take (k + 1)) = stps 8 (upd x (l.take k) ^^^ l.getD k 0) := by
  have e : l.take (k + 1) = l.take k ++ [l.getD k 0] := by
    rw [List.take_succ_eq_append_getElem h]; simp [List.getD, h]
  rw [e, upd_append, upd_cons, upd_nil]
/-- Continuing a sum. -/
theorem updS_append (a b : List Nat) (s : Nat) : updS (updS s a) b = updS s (a ++ b) := by
  unfold updS
  rw [Nat.xor_assoc, Nat.xor_self, Nat.xor_zero, upd_append]
theorem bytes_append {a b : List Nat} (ha : Bytes a) (hb : Bytes b) : Bytes (a ++ b) := fun c hc => by
  rcases List.mem_append.1 hc with h | h
  · exact ha c h
  · exact hb c h
/-- Combining two sums. -/
theorem combine_sum {a b : List Nat} (hb : Bytes b) : stps (8 * b.length) (sumS a) ^^^ sumS b = sumS (a ++ b) := by
  unfold sumS
  rw [← updS_append, show updS (updS 0 a) b = upd (updS 0 a ^^^ ones) b ^^^ ones from rfl, show updS 0 b = upd (0 ^^^ ones) b ^^^ ones from rfl, upd_eq b _ hb, upd_eq b _ hb, Nat.zero_xor]
  simp only [stps_xor, Nat.xor_assoc]
/-- The difference of two sums. -/
theorem updS_diff {a b : List Nat} (ha : Bytes a) (hb : Bytes b) (hl : a.length = b.length) (s : Nat) : updS s a ^^^ updS s b = stps (8 * b.length) (num a ^^^ num b) := by
  unfold updS
  rw [upd_eq a _ ha, upd_eq b _ hb, hl]
  generalize s ^^^ ones = x
  rw [show ∀ p q : Nat, (p ^^^ ones) ^^^ (q ^^^ ones) = p ^^^ q from fun p q => by
    rw [Nat.xor_comm q ones, Nat.xor_assoc, ← Nat.xor_assoc ones ones q, Nat.xor_self, Nat.zero_xor], ← stps_xor,
    show (x ^^^ num a) ^^^ (x ^^^ num b) = num a ^^^ num b by
      rw [Nat.xor_comm x (num a), Nat.xor_assoc, ← Nat.xor_assoc x x, Nat.xor_self, Nat.zero_xor]]
/-- A change within 64 consecutive bits changes the sum. -/
theorem updS_ne {a b : List Nat} (ha : Bytes a) (hb : Bytes b) (hl : a.length = b.length) (s first p : Nat) (hp0 : p ≠ 0) (hp : p < 2 ^ 64)
    (hd : num a ^^^ num b = 2 ^ first * p) (hf : first ≤ 8 * b.length) : updS s a ≠ updS s b := by
  intro e
  have h := updS_diff ha hb hl s
  rw [e, Nat.xor_self, hd, show 8 * b.length = first + (8 * b.length - first) by omega, stps_add, stps_shift] at h
  exact stps_ne _ hp hp0 h.symm
theorem num_inj : ∀ {a b : List Nat}, Bytes a → Bytes b → a.length = b.length → num a = num b → a = b
  | [], [], _, _, _, _ => rfl
  | [], _ :: _, _, _, h, _ => by simp at h
  | _ :: _, [], _, _, h, _ => by simp at h
  | x :: r, y :: t, ha, hb, hl, h => by
    have hx : x < 256 := ha x (by simp)
    have hy : y < 256 := hb y (by simp)
    simp only [num] at h
    have h1 : x = y := by omega
    have h2 : num r = num t := by omega
    rw [h1, num_inj (fun c hc => ha c (by simp [hc])) (fun c hc => hb c (by simp [hc])) (by simpa using hl) h2]
/-- Short byte strings: equal sums, equal strings. -/
theorem sumS_short {a b : List Nat} (ha : Bytes a) (hb : Bytes b) (hl : a.length = b.length) (h8 : b.length ≤ 8) : sumS a = sumS b ↔ a = b := by
  constructor
  · intro h
    by_cases e : num a = num b
    · exact num_inj ha hb hl e
    · exfalso
      have h256 : (256 : Nat) ^ b.length ≤ 2 ^ 64 := by
        rw [show (256 : Nat) = 2 ^ 8 from rfl, ← Nat.pow_mul]
        exact Nat.pow_le_pow_right (by omega) (by omega)
      have la := num_lt a ha
      have lb := num_lt b hb
      rw [hl] at la
      exact updS_ne ha hb hl 0 0 (num a ^^^ num b) (fun x => e (eq_of_xor x)) (Nat.xor_lt_two_pow (by omega) (by omega)) (by simp) (by omega) h
  · intro h; rw [h]
/-- Exclusive or, byte by byte. -/
theorem num_zip_xor : ∀ (a b : List Nat), Bytes a → Bytes b → a.length = b.length → num (List.zipWith (· ^^^ ·) a b) = num a ^^^ num b
  | [], [], _, _, _ => by simp [num]
  | [], _ :: _, _, _, h => by simp at h
  | _ :: _, [], _, _, h => by simp at h
  | x :: r, y :: t, ha, hb, hl => by
    have hx : x < 256 := ha x (by simp)
    have hy : y < 256 := hb y (by simp)
    have ih := num_zip_xor r t (fun c hc => ha c (by simp [hc])) (fun c hc => hb c (by simp [hc])) (by simpa using hl)
    have hxy : x ^^^ y < 256 := Nat.xor_lt_two_pow (n := 8) hx hy
    simp only [List.zipWith_cons_cons, num, ih]
    rw [add_eq_xor _ hxy, add_eq_xor _ hx, add_eq_xor _ hy]
    have e : 256 * (num r ^^^ num t) = 256 * num r ^^^ 256 * num t := by
      have := Nat.shiftLeft_xor_distrib (a := num r) (b := num t) (i := 8)
      simpa [Nat.shiftLeft_eq, Nat.mul_comm] using this
    rw [e]
    rw [Nat.xor_assoc, Nat.xor_assoc]
    congr 1
    rw [← Nat.xor_assoc, ← Nat.xor_assoc, Nat.xor_comm y]
theorem bytes_zip {a b : List Nat} (ha : Bytes a) (hb : Bytes b) : Bytes (List.zipWith (· ^^^ ·) a b) := by
  intro c hc
  obtain ⟨i, hi, rfl⟩ := List.getElem_of_mem hc
  rw [List.getElem_zipWith]
  exact Nat.xor_lt_two_pow (n := 8) (ha _ (List.getElem_mem _)) (hb _ (List.getElem_mem _))
/-- The sums of three byte strings of equal length. -/
theorem sumS_linear {a b c : List Nat} (ha : Bytes a) (hb : Bytes b) (hc : Bytes c) (hab : a.length = b.length) (hac : a.length = c.length) :
    sumS a ^^^ sumS b ^^^ sumS c = sumS (List.zipWith (· ^^^ ·) (List.zipWith (· ^^^ ·) a b) c) := by
  have hz := bytes_zip ha hb
  have lz : (List.zipWith (· ^^^ ·) a b).length = c.length := by simp; omega
  have h1 : sumS (List.zipWith (· ^^^ ·) (List.zipWith (· ^^^ ·) a b) c) ^^^ sumS c = stps (8 * c.length) (num a ^^^ num b) := by
    unfold sumS
    rw [updS_diff (bytes_zip hz hc) hc (by simp; omega) 0, num_zip_xor _ _ hz hc lz, num_zip_xor _ _ ha hb hab, Nat.xor_assoc, Nat.xor_self, Nat.xor_zero]
  have h2 : sumS a ^^^ sumS b = stps (8 * c.length) (num a ^^^ num b) := by
    unfold sumS; rw [updS_diff ha hb hab 0, ← hab, hac]
  rw [h2, ← h1, Nat.xor_assoc, Nat.xor_self, Nat.xor_zero]

/-- Bits below 2^(i+1): one bit and the rest. -/
theorem pow_split (i y : Nat) : 2 ^ i * y = (if y % 2 = 1 then 2 ^ i else 0) ^^^ (2 ^ (i + 1) * (y / 2)) := by
  have e : y = (if y % 2 = 1 then 1 else 0) ^^^ (2 * (y / 2)) := by
    apply Nat.eq_of_testBit_eq
    intro j
    rw [Nat.testBit_xor]
    cases j with
    | zero => rcases Nat.mod_two_eq_zero_or_one y with h | h <;> simp [h]
    | succ j =>
      rw [Nat.testBit_succ, Nat.testBit_succ (x := 2 * (y / 2)), Nat.mul_div_cancel_left _ (by omega)]
      have : (if y % 2 = 1 then 1 else 0 : Nat).testBit (j + 1) = false := by split <;> simp [Nat.testBit_succ]
      simp [this]
  have d : ∀ p q : Nat, 2 ^ i * (p ^^^ q) = 2 ^ i * p ^^^ 2 ^ i * q := fun p q => by
    have := Nat.shiftLeft_xor_distrib (a := p) (b := q) (i := i)
    simpa [Nat.shiftLeft_eq, Nat.mul_comm] using this
  have e2 : 2 ^ i * y = 2 ^ i * ((if y % 2 = 1 then 1 else 0) ^^^ (2 * (y / 2))) := congrArg _ e
  rw [e2, d]
  congr 1
  · split <;> simp
  · rw [Nat.pow_succ, Nat.mul_assoc]
/-- One round of a matrix's product with a register. -/
theorem apply_round (k i y out t : Nat) (h : out ^^^ stps k (2 ^ i * y) = t) : (if y % 2 = 1 then out ^^^ stps k (2 ^ i) else out) ^^^ stps k (2 ^ (i + 1) * (y / 2)) = t := by
  rw [pow_split, stps_xor, ← Nat.xor_assoc] at h
  rw [← h]
  split
  · rfl
  · rw [stps_zero, Nat.xor_zero]
/-- One round of the powers. -/
theorem power_round (k n a t : Nat) (h : stps (k * n) a = t) : stps (2 * k * (n / 2)) (if n % 2 = 1 then stps k a else a) = t := by
  rw [← h]
  have e := Nat.div_add_mod n 2
  rcases Nat.mod_two_eq_zero_or_one n with hn | hn <;> rw [hn] at e
  · rw [if_neg (by omega), show k * n = 2 * k * (n / 2) by rw [← e]; simp [Nat.mul_comm, Nat.mul_left_comm]]
  · rw [if_pos hn, show k * n = k + 2 * k * (n / 2) by
      have : k * n = k * (2 * (n / 2) + 1) := by rw [e]
      rw [this, Nat.mul_add, Nat.mul_one, Nat.add_comm]; simp [Nat.mul_comm, Nat.mul_left_comm], stps_add]

theorem mul_xor (k p q : Nat) : 2 ^ k * (p ^^^ q) = 2 ^ k * p ^^^ 2 ^ k * q := by
  have := Nat.shiftLeft_xor_distrib (a := p) (b := q) (i := k)
  simpa [Nat.shiftLeft_eq, Nat.mul_comm] using this
/-- One byte changed. -/
theorem num_set : ∀ (l : List Nat) (q t : Nat), Bytes l → q < l.length → t < 256 → num (l.set q (l.getD q 0 ^^^ t)) = num l ^^^ 2 ^ (8 * q) * t
  | [], _, _, _, h, _ => by simp at h
  | b :: r, 0, t, hl, _, ht => by
    have hb : b < 256 := hl b (by simp)
    have hbt : b ^^^ t < 256 := Nat.xor_lt_two_pow (n := 8) hb ht
    simp only [List.set_cons_zero, List.getD_cons_zero, num]
    rw [add_eq_xor _ hbt, add_eq_xor _ hb, Nat.xor_assoc, Nat.xor_assoc, Nat.xor_comm t]
    simp
  | b :: r, q + 1, t, hl, hq, ht => by
    have hb : b < 256 := hl b (by simp)
    have ih := num_set r q t (fun c hc => hl c (by simp [hc])) (by simpa using hq) ht
    simp only [List.set_cons_succ, List.getD_cons_succ, num, ih]
    rw [add_eq_xor _ hb, add_eq_xor _ hb, show (256 : Nat) = 2 ^ 8 from rfl, mul_xor, show 8 * (q + 1) = 8 + 8 * q by omega, Nat.pow_add, Nat.mul_assoc, Nat.xor_assoc]
theorem bytes_set {l : List Nat} (hl : Bytes l) (q x : Nat) (hx : x < 256) : Bytes (l.set q x) := fun b hb => by
  rcases List.mem_or_eq_of_mem_set hb with h | h
  · exact hl b h
  · omega
/-- The pattern's first i + 1 bits. -/
theorem mod_pow_succ (p i : Nat) : p % 2 ^ (i + 1) = (p % 2 ^ i) ^^^ 2 ^ i * (p / 2 ^ i % 2) := by
  apply Nat.eq_of_testBit_eq
  intro j
  rw [Nat.testBit_xor, Nat.testBit_mod_two_pow, Nat.testBit_mod_two_pow, Nat.testBit_two_pow_mul]
  rcases Nat.lt_trichotomy j i with h | h | h
  · simp [h, show j < i + 1 by omega, show ¬ i ≤ j by omega]
  · subst h
    simp only [Nat.lt_succ_self, decide_true, Bool.true_and, Nat.lt_irrefl, decide_false, Bool.false_and, ge_iff_le, Nat.le_refl, Nat.sub_self, Bool.false_xor]
    rw [Nat.testBit_eq_decide_div_mod_eq, Nat.testBit_zero, Nat.mod_mod]
  · have h1 : (p / 2 ^ i % 2).testBit (j - i) = false := by
      have : p / 2 ^ i % 2 < 2 ^ (j - i) := Nat.lt_of_lt_of_le (Nat.mod_lt _ (by omega)) (by
        have := Nat.pow_le_pow_right (n := 2) (by omega) (show 1 ≤ j - i by omega)
        simpa using this)
      exact Nat.testBit_lt_two_pow this
    simp [show ¬ j < i + 1 by omega, show ¬ j < i by omega, h1]
theorem burst_lt {x p i s : Nat} (hx : x < 256) : x ^^^ (p / 2 ^ i % 2 * 2 ^ (s % 8)) < 256 := by
  have hb : p / 2 ^ i % 2 < 2 := Nat.mod_lt _ (by omega)
  have h8 : 2 ^ (s % 8) ≤ 2 ^ 7 := Nat.pow_le_pow_right (by omega) (by omega)
  have ht : p / 2 ^ i % 2 * 2 ^ (s % 8) < 256 := by
    have : p / 2 ^ i % 2 * 2 ^ (s % 8) ≤ 1 * 2 ^ 7 := Nat.mul_le_mul (by omega) h8
    omega
  exact Nat.xor_lt_two_pow (n := 8) hx ht
/-- One bit of a burst. -/
theorem burst_step (l : List Nat) (hl : Bytes l) (first i p X : Nat) (hk : (first + i) / 8 < l.length) (h : num l = X ^^^ 2 ^ first * (p % 2 ^ i)) :
    num (l.set ((first + i) / 8) (l.getD ((first + i) / 8) 0 ^^^ (p / 2 ^ i % 2 * 2 ^ ((first + i) % 8)))) = X ^^^ 2 ^ first * (p % 2 ^ (i + 1)) := by
  have hb : p / 2 ^ i % 2 < 2 := Nat.mod_lt _ (by omega)
  have h8 : 2 ^ ((first + i) % 8) ≤ 2 ^ 7 := Nat.pow_le_pow_right (by omega) (by omega)
  have ht : p / 2 ^ i % 2 * 2 ^ ((first + i) % 8) < 256 := by
    have : p / 2 ^ i % 2 * 2 ^ ((first + i) % 8) ≤ 1 * 2 ^ 7 := Nat.mul_le_mul (by omega) h8
    omega
  rw [num_set l _ _ hl hk ht, h, Nat.xor_assoc, mod_pow_succ, mul_xor]
  congr 2
  rw [Nat.mul_comm (p / 2 ^ i % 2), ← Nat.mul_assoc, ← Nat.pow_add, ← Nat.mul_assoc, ← Nat.pow_add, show 8 * ((first + i) / 8) + (first + i) % 8 = first + i by omega]

end Crc
end Go.Proofs.Ytijhmopejadpdaa

/- Gathering sectors gives the blob: the plain law. -/
import Derived.Test.YtijhmopejadpdaaR6
namespace Go.Proofs.Ytijhmopejadpdaa
namespace Crc
section
variable {gen i m : Nat} {ch : List Nat}
theorem secB_split : secB gen i m ch = leb 8 gen ++ (leb 4 i ++ (leb 4 m ++ (leb 1 ch.length ++ (ch ++ leb 8 (sumS (secH gen i m ch)))))) := by
  unfold secB
  conv => lhs; unfold secH
  simp only [List.append_assoc]
  rfl
theorem sec_gen (hg : gen < 18446744073709551616) : num ((secB gen i m ch).take 8) = gen := by
  rw [secB_split, List.take_left' (leb_length 8 gen), num_leb, Nat.mod_eq_of_lt]
  exact hg
theorem sec_index (hi : i < 4294967296) : num (((secB gen i m ch).drop 8).take 4) = i := by
  rw [secB_split, List.drop_left' (leb_length 8 gen), List.take_left' (leb_length 4 i), num_leb, Nat.mod_eq_of_lt]
  exact hi
theorem sec_m (hm : m < 4294967296) : num (((secB gen i m ch).drop 12).take 4) = m := by
  rw [secB_split, ← List.append_assoc, List.drop_left' (by rw [List.length_append, leb_length, leb_length]), List.take_left' (leb_length 4 m), num_leb, Nat.mod_eq_of_lt]
  exact hm
theorem sec_chunk : chkOf (secB gen i m ch) = ch := by
  unfold chkOf
  rw [secB_length, secB_split, ← List.append_assoc, ← List.append_assoc, ← List.append_assoc, List.drop_left' (by simp only [List.length_append, leb_length]), List.take_left' (by omega)]
theorem sec_len (h : ch.length ≤ 32) : (secB gen i m ch).getD 16 0 = ch.length := by
  rw [secB_split, ← List.append_assoc, ← List.append_assoc, List.getD_eq_getElem?_getD, List.getElem?_append_right (by simp [leb_length])]
  simp [leb]
  omega
theorem sec_ok (hb : Bytes ch) (h : ch.length ≤ 32) : okB (secB gen i m ch) = true := by
  unfold okB
  refine decide_eq_true ⟨?_, ?_, ?_, ?_⟩
  · rw [secB_length]; omega
  · rw [sec_len h, secB_length]; omega
  · rw [secB_length]; omega
  · rw [show (secB gen i m ch).length - 8 = (secH gen i m ch).length by rw [secB_length, secH_length]; omega]
    unfold secB
    rw [List.drop_left' rfl, List.take_left' rfl, num_leb, Nat.mod_eq_of_lt]
    exact sumS_lt (secH_bytes hb)
end
theorem chunks_join (blob : List Nat) (k : Nat) : ∀ j, j ≤ k → ((List.range j).map (chunkOf blob)).flatten = blob.take (32 * j) := by
  intro j
  induction j with
  | zero => intro _; simp
  | succ j ih =>
    intro h
    rw [List.range_succ, List.map_append, List.flatten_append, ih (by omega)]
    simp only [List.map_cons, List.map_nil, List.flatten_cons, List.flatten_nil, List.append_nil]
    unfold chunkOf
    rw [show 32 * (j + 1) = 32 * j + 32 by omega, List.take_add]
theorem chunks_all (blob : List Nat) : ((List.range (chunkM blob.length)).map (chunkOf blob)).flatten = blob := by
  rw [chunks_join blob _ _ (Nat.le_refl _), List.take_of_length_le]
  unfold chunkM
  omega
end Crc

/-- Each sector of a blob lies in one of the copies, and nothing else is usable. -/
def Holds (cs : List (List (List Nat))) (blob : List Nat) (gen : Nat) : Prop :=
  (∀ i, i < Crc.chunkM blob.length → ∃ ls, ls ∈ cs ∧ i < ls.length ∧ ls.getD i [] = Crc.secB gen i (Crc.chunkM blob.length) (Crc.chunkOf blob i)) ∧
    ∀ ls, ls ∈ cs → ∀ i, usB ls i gen = true → i < Crc.chunkM blob.length ∧ ls.getD i [] = Crc.secB gen i (Crc.chunkM blob.length) (Crc.chunkOf blob i)
theorem Holds.has {cs : List (List (List Nat))} {blob : List Nat} {gen : Nat} (H : Holds cs blob gen) : ∀ i, i < Crc.chunkM blob.length → ∃ ls, ls ∈ cs ∧ i < ls.length ∧ ls.getD i [] = Crc.secB gen i (Crc.chunkM blob.length) (Crc.chunkOf blob i) := H.1
theorem Holds.only {cs : List (List (List Nat))} {blob : List Nat} {gen : Nat} (H : Holds cs blob gen) : ∀ ls, ls ∈ cs → ∀ i, usB ls i gen = true → i < Crc.chunkM blob.length ∧ ls.getD i [] = Crc.secB gen i (Crc.chunkM blob.length) (Crc.chunkOf blob i) := H.2
theorem us_sec {ls : List (List Nat)} {blob : List Nat} {gen i m : Nat} (hg : gen < 18446744073709551616) (hb : Crc.Bytes blob) (hm : m < 4294967296) (him : i < m) (hl : i < ls.length) (h : ls.getD i [] = Crc.secB gen i m (Crc.chunkOf blob i)) : usB ls i gen = true ∧ mOf ls i = m := by
  constructor
  · unfold usB
    rw [h, decide_eq_true hl, Crc.sec_ok (Crc.chunkOf_bytes hb i) (Crc.chunkOf_le _ _), Crc.sec_gen hg, Crc.sec_index (by omega), Crc.sec_m hm]
    simp [him]
  · unfold mOf
    rw [h, Crc.sec_m hm]
theorem longT_ge (cs : List (List (List Nat))) : ∀ j k, k < j → j ≤ cs.length → (cs.getD k []).length ≤ longT cs j
  | 0, _, h, _ => absurd h (Nat.not_lt_zero _)
  | j + 1, k, h, hj => by
    rw [longT]
    by_cases e : k = j
    · subst e; exact Nat.le_max_right _ _
    · exact Nat.le_trans (longT_ge cs j k (by omega) (by omega)) (Nat.le_max_left _ _)
theorem longT_mem {cs : List (List (List Nat))} {ls : List (List Nat)} (h : ls ∈ cs) : ls.length ≤ longT cs cs.length := by
  obtain ⟨k, hk, he⟩ := List.mem_iff_getElem.1 h
  have h2 := longT_ge cs cs.length k hk (Nat.le_refl _)
  rw [List.getD_eq_getElem?_getD, List.getElem?_eq_getElem hk, he] at h2
  exact h2
theorem holds_fst {cs : List (List (List Nat))} {blob : List Nat} {gen : Nat} (H : Holds cs blob gen) (hg : gen < 18446744073709551616) (hb : Crc.Bytes blob) (hM : Crc.chunkM blob.length < 4294967296) (i : Nat) (hi : i < Crc.chunkM blob.length) (m : Nat) (hm : m = 0 ∨ m = Crc.chunkM blob.length) :
    ∃ ls, fstC cs i gen m = some ls ∧ ls.getD i [] = Crc.secB gen i (Crc.chunkM blob.length) (Crc.chunkOf blob i) := by
  obtain ⟨l0, h1, h2, h3⟩ := H.has i hi
  have hu := us_sec hg hb hM hi h2 h3
  cases hf : fstC cs i gen m with
  | none =>
    have h4 := List.find?_eq_none.1 hf l0 h1
    exact absurd (by unfold serves; rw [hu.1, hu.2]; rcases hm with rfl | rfl <;> simp) h4
  | some ls => exact ⟨ls, rfl, (H.only ls (fst_mem hf) i (Bool.and_eq_true_iff.1 (fst_serves hf)).1).2⟩
theorem holds_coll {cs : List (List (List Nat))} {blob : List Nat} {gen : Nat} (H : Holds cs blob gen) (hg : gen < 18446744073709551616) (hb : Crc.Bytes blob) (hM : Crc.chunkM blob.length < 4294967296) :
    ∀ k, k ≤ Crc.chunkM blob.length → coll cs gen (Crc.chunkM blob.length) k = some ((List.range k).map (Crc.chunkOf blob)).flatten
  | 0, _ => rfl
  | k + 1, h => by
    obtain ⟨ls, h1, h2⟩ := holds_fst H hg hb hM k (by omega) _ (.inr rfl)
    rw [coll, holds_coll H hg hb hM k (by omega)]
    simp only [h1]
    rw [h2, Crc.sec_chunk, List.range_succ, List.map_append, List.flatten_append]
    simp
theorem holds_gath {cs : List (List (List Nat))} {blob : List Nat} {gen : Nat} (H : Holds cs blob gen) (hg : gen < 18446744073709551616) (hb : Crc.Bytes blob) (hM : Crc.chunkM blob.length < 4294967296) : gathG cs gen = some blob := by
  have hM0 : 0 < Crc.chunkM blob.length := by unfold Crc.chunkM; omega
  obtain ⟨ls, h1, h2⟩ := holds_fst H hg hb hM 0 hM0 0 (.inl rfl)
  have hlt : 0 < longT cs cs.length := Nat.lt_of_lt_of_le (us_lt (Bool.and_eq_true_iff.1 (fst_serves h1)).1) (longT_mem (fst_mem h1))
  rw [gath_at hlt (fun j hj => absurd hj (Nat.not_lt_zero _)) h1]
  have hm : mOf ls 0 = Crc.chunkM blob.length := by unfold mOf; rw [h2, Crc.sec_m hM]
  rw [hm, holds_coll H hg hb hM _ (Nat.le_refl _), Crc.chunks_all]

end Go.Proofs.Ytijhmopejadpdaa

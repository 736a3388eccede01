/- The sum of a leaf tells a change of one version or one sum: the plain law. -/
import Derived.Test.YtejhfollfmdmpaaP14
import Derived.Test.YtejhfollfmdmpaaP16
namespace Go.Proofs.Ytejhfollfmdmpaa
namespace Crc
theorem updS_mid {pre post a b : List Nat} (hp : Bytes pre) (hq : Bytes post) (ha : Bytes a) (hb : Bytes b) (hl : a.length = b.length) (h8 : b.length ≤ 8) (h : sumS (pre ++ (a ++ post)) = sumS (pre ++ (b ++ post))) : a = b := by
  unfold sumS at h
  rw [← updS_append pre, ← updS_append a, ← updS_append pre, ← updS_append b] at h
  have hs : updS 0 pre < 2 ^ 64 := updS_lt hp (by omega)
  exact updS_short ha hb hl h8 _ (updS_start hq (updS_lt ha hs) (updS_lt hb hs) h)
theorem leb8_inj {a b : Nat} (ha : a < 18446744073709551616) (hb : b < 18446744073709551616) (h : leb 8 a = leb 8 b) : a = b := by
  simp only [leb] at h
  simp at h
  omega
theorem leafR_low1 (l1 l2 : List Nat) (i v : Nat) : ∀ j, j ≤ i → leafR (l1.set i v) l2 j = leafR l1 l2 j
  | 0, _ => rfl
  | j + 1, h => by
    have e : (l1.set i v).getD j 0 = l1.getD j 0 := by rw [List.getD_eq_getElem?_getD, List.getElem?_set, if_neg (by omega), ← List.getD_eq_getElem?_getD]
    rw [leafR, leafR, leafR_low1 l1 l2 i v j (by omega), e]
theorem leafR_low2 (l1 l2 : List Nat) (i v : Nat) : ∀ j, j ≤ i → leafR l1 (l2.set i v) j = leafR l1 l2 j
  | 0, _ => rfl
  | j + 1, h => by
    have e : (l2.set i v).getD j 0 = l2.getD j 0 := by rw [List.getD_eq_getElem?_getD, List.getElem?_set, if_neg (by omega), ← List.getD_eq_getElem?_getD]
    rw [leafR, leafR, leafR_low2 l1 l2 i v j (by omega), e]
theorem leafR_set1 (l1 l2 : List Nat) (i : Nat) (hi : i < l1.length) (j : Nat) (hj : i < j) : ∃ T, Bytes T ∧ ∀ v, leafR (l1.set i v) l2 j = leafR l1 l2 i ++ (leb 8 v ++ (leb 8 (l2.getD i 0) ++ T)) := by
  induction j with
  | zero => omega
  | succ j ih =>
    by_cases e : i = j
    · subst e
      refine ⟨[], fun b hb => (by cases hb), fun v => ?_⟩
      have e1 : (l1.set i v).getD i 0 = v := by rw [List.getD_eq_getElem?_getD, List.getElem?_set, if_pos rfl, if_pos hi]; rfl
      rw [leafR, leafR_low1 l1 l2 i v i (Nat.le_refl _), e1, List.append_nil]
    · obtain ⟨T, hT, h⟩ := ih (by omega)
      refine ⟨T ++ (leb 8 (l1.getD j 0) ++ leb 8 (l2.getD j 0)), bytes_append hT (bytes_append (leb_bytes _ _) (leb_bytes _ _)), fun v => ?_⟩
      have e1 : (l1.set i v).getD j 0 = l1.getD j 0 := by rw [List.getD_eq_getElem?_getD, List.getElem?_set, if_neg e, ← List.getD_eq_getElem?_getD]
      rw [leafR, h v, e1]
      simp only [List.append_assoc]
theorem leafR_set2 (l1 l2 : List Nat) (i : Nat) (hi : i < l2.length) (j : Nat) (hj : i < j) : ∃ T, Bytes T ∧ ∀ v, leafR l1 (l2.set i v) j = (leafR l1 l2 i ++ leb 8 (l1.getD i 0)) ++ (leb 8 v ++ T) := by
  induction j with
  | zero => omega
  | succ j ih =>
    by_cases e : i = j
    · subst e
      refine ⟨[], fun b hb => (by cases hb), fun v => ?_⟩
      have e1 : (l2.set i v).getD i 0 = v := by rw [List.getD_eq_getElem?_getD, List.getElem?_set, if_pos rfl, if_pos hi]; rfl
      rw [leafR, leafR_low2 l1 l2 i v i (Nat.le_refl _), e1, List.append_nil, List.append_assoc]
    · obtain ⟨T, hT, h⟩ := ih (by omega)
      refine ⟨T ++ (leb 8 (l1.getD j 0) ++ leb 8 (l2.getD j 0)), bytes_append hT (bytes_append (leb_bytes _ _) (leb_bytes _ _)), fun v => ?_⟩
      have e1 : (l2.set i v).getD j 0 = l2.getD j 0 := by rw [List.getD_eq_getElem?_getD, List.getElem?_set, if_neg e, ← List.getD_eq_getElem?_getD]
      rw [leafR, h v, e1]
      simp only [List.append_assoc]
theorem set_self (l : List Nat) (i : Nat) : l.set i (l.getD i 0) = l := by
  refine List.ext_getElem? fun j => ?_
  rw [List.getElem?_set]
  split
  · rename_i e
    subst e
    split
    · rename_i h; rw [List.getD_eq_getElem?_getD, List.getElem?_eq_getElem h]; rfl
    · rename_i h; rw [List.getElem?_eq_none (by omega)]
  · rfl
theorem leafS_set1 (g : Int) (n : Nat) (l1 l2 : List Nat) (i v : Nat) (hi : i < l1.length) (hn : i < n) (hv : v < 18446744073709551616) (ho : l1.getD i 0 < 18446744073709551616) : leafS g n (l1.set i v) l2 = leafS g n l1 l2 ↔ l1.getD i 0 = v := by
  constructor
  · intro h
    obtain ⟨T, hT, hs⟩ := leafR_set1 l1 l2 i hi n hn
    have h2 := hs (l1.getD i 0)
    rw [set_self] at h2
    unfold leafS leafP at h
    rw [hs v, h2, ← List.append_assoc _ (leafR l1 l2 i), ← List.append_assoc _ (leafR l1 l2 i)] at h
    exact (leb8_inj hv ho (updS_mid (bytes_append (bytes_append (leb_bytes _ _) (leb_bytes _ _)) (leafR_bytes _ _ _)) (bytes_append (leb_bytes _ _) hT) (leb_bytes _ _) (leb_bytes _ _) (by rw [leb_length, leb_length]) (by rw [leb_length]; omega) h)).symm
  · intro h; rw [← h, set_self]
theorem leafS_set2 (g : Int) (n : Nat) (l1 l2 : List Nat) (i v : Nat) (hi : i < l2.length) (hn : i < n) (hv : v < 18446744073709551616) (ho : l2.getD i 0 < 18446744073709551616) : leafS g n l1 (l2.set i v) = leafS g n l1 l2 ↔ l2.getD i 0 = v := by
  constructor
  · intro h
    obtain ⟨T, hT, hs⟩ := leafR_set2 l1 l2 i hi n hn
    have h2 := hs (l2.getD i 0)
    rw [set_self] at h2
    unfold leafS leafP at h
    rw [hs v, h2, ← List.append_assoc _ (leafR l1 l2 i ++ _), ← List.append_assoc _ (leafR l1 l2 i ++ _)] at h
    exact (leb8_inj hv ho (updS_mid (bytes_append (bytes_append (leb_bytes _ _) (leb_bytes _ _)) (bytes_append (leafR_bytes _ _ _) (leb_bytes _ _))) hT (leb_bytes _ _) (leb_bytes _ _) (by rw [leb_length, leb_length]) (by rw [leb_length]; omega) h)).symm
  · intro h; rw [← h, set_self]
end Crc

end Go.Proofs.Ytejhfollfmdmpaa

/- An entry's encoding: what its parts are, and what becomes of a changed byte. -/
import Derived.Test.YtibmigeikkmofaaEnt
namespace Go.Proofs.Ytibmigeikkmofaa
namespace Crc
theorem cut_mid (a b c : List Nat) (n m : Nat) (ha : a.length = n) (hb : b.length = m) : ((a ++ b ++ c).drop n).take m = b := by
  subst ha hb
  simp
theorem enc_take {kd bl ver : Nat} {D : List Nat} {time : Nat} (hD : D.length = 8) : (encB kd bl ver D time).take 29 = bodyB kd bl ver D time := by
  unfold encB sealB
  rw [List.take_append_of_le_length (by rw [bodyB_length hD]; omega), List.take_of_length_le (by rw [bodyB_length hD]; omega)]
theorem enc_sum {kd bl ver : Nat} {D : List Nat} {time : Nat} (hD : D.length = 8) : ((encB kd bl ver D time).drop 29).take 8 = leb 8 (sumS (bodyB kd bl ver D time)) := by
  have := cut_mid (bodyB kd bl ver D time) (leb 8 (sumS (bodyB kd bl ver D time))) [] 29 8 (bodyB_length hD) (leb_length _ _)
  rwa [List.append_nil] at this
theorem enc_kd {kd bl ver : Nat} {D : List Nat} {time : Nat} : (encB kd bl ver D time).getD 0 0 = kd % 256 := by
  simp [encB, sealB, bodyB, leb]
theorem enc_bl {kd bl ver : Nat} {D : List Nat} {time : Nat} : ((encB kd bl ver D time).drop 1).take 4 = leb 4 bl := by
  have := cut_mid (leb 1 kd) (leb 4 bl) (leb 8 ver ++ D ++ leb 8 time ++ leb 8 (sumS (bodyB kd bl ver D time))) 1 4 (leb_length _ _) (leb_length _ _)
  simpa [encB, sealB, bodyB, List.append_assoc] using this
theorem enc_ver {kd bl ver : Nat} {D : List Nat} {time : Nat} : ((encB kd bl ver D time).drop 5).take 8 = leb 8 ver := by
  have := cut_mid (leb 1 kd ++ leb 4 bl) (leb 8 ver) (D ++ leb 8 time ++ leb 8 (sumS (bodyB kd bl ver D time))) 5 8 (by simp [leb_length]) (leb_length _ _)
  simpa [encB, sealB, bodyB, List.append_assoc] using this
theorem enc_D {kd bl ver : Nat} {D : List Nat} {time : Nat} (hD : D.length = 8) : ((encB kd bl ver D time).drop 13).take 8 = D := by
  have := cut_mid (leb 1 kd ++ leb 4 bl ++ leb 8 ver) D (leb 8 time ++ leb 8 (sumS (bodyB kd bl ver D time))) 13 8 (by simp [leb_length]) hD
  simpa [encB, sealB, bodyB, List.append_assoc] using this
theorem enc_time {kd bl ver : Nat} {D : List Nat} {time : Nat} (hD : D.length = 8) : ((encB kd bl ver D time).drop 21).take 8 = leb 8 time := by
  have := cut_mid (leb 1 kd ++ leb 4 bl ++ leb 8 ver ++ D) (leb 8 time) (leb 8 (sumS (bodyB kd bl ver D time))) 21 8 (by simp [leb_length, hD]) (leb_length _ _)
  simpa [encB, sealB, bodyB, List.append_assoc] using this
theorem num_leb8 {n : Nat} (h : n < 18446744073709551616) : num (leb 8 n) = n := by
  rw [num_leb]; exact Nat.mod_eq_of_lt (by simpa using h)
theorem num_leb4 {n : Nat} (h : n < 4294967296) : num (leb 4 n) = n := by
  rw [num_leb]; exact Nat.mod_eq_of_lt (by simpa using h)
theorem enc_sum_num {kd bl ver : Nat} {D : List Nat} {time : Nat} (hD : D.length = 8) (hb : Bytes D) : num (((encB kd bl ver D time).drop 29).take 8) = sumS ((encB kd bl ver D time).take 29) := by
  rw [enc_sum hD, enc_take hD]
  exact num_leb8 (by have := sumS_lt (bodyB_bytes (kd := kd) (bl := bl) (ver := ver) (time := time) hb); simpa using this)
/-- One byte of a sealed string is another one: the sum is wrong. -/
theorem changed_sum {l : List Nat} (hl : Bytes l) (h37 : l.length = 37) (hs : num ((l.drop 29).take 8) = sumS (l.take 29)) (q x : Nat) (hq : q < 37) (hx : x < 256) (hne : x ≠ l.getD q 0) :
    ¬ num (((l.set q x).drop 29).take 8) = sumS ((l.set q x).take 29) := by
  intro h
  have hD := fun (m : List Nat) (hm : Bytes m) k => (fun b hb => hm b (List.mem_of_mem_drop hb) : Bytes (m.drop k))
  have hT := fun (m : List Nat) (hm : Bytes m) k => (fun b hb => hm b (List.mem_of_mem_take hb) : Bytes (m.take k))
  by_cases h29 : q < 29
  · have e1 : (l.set q x).drop 29 = l.drop 29 := by
      rw [List.drop_set]; rw [if_pos h29]
    have e2 : (l.set q x).take 29 = (l.take 29).set q x := by rw [List.take_set]
    rw [e1, e2, hs] at h
    have hb : l.getD q 0 < 256 := by
      rw [List.getD_eq_getElem?_getD, List.getElem?_eq_getElem (by omega)]
      exact hl _ (List.getElem_mem _)
    have hg : (l.take 29).getD q 0 = l.getD q 0 := by
      rw [List.getD_eq_getElem?_getD, List.getD_eq_getElem?_getD, List.getElem?_take, if_pos h29]
    have ht : l.getD q 0 ^^^ x < 256 := Nat.xor_lt_two_pow (n := 8) hb hx
    have ht0 : l.getD q 0 ^^^ x ≠ 0 := fun e => hne (eq_of_xor e).symm
    have hset : (l.take 29).set q x = (l.take 29).set q ((l.take 29).getD q 0 ^^^ (l.getD q 0 ^^^ x)) := by
      rw [hg, ← Nat.xor_assoc, Nat.xor_self, Nat.zero_xor]
    have hn := num_set (l.take 29) q (l.getD q 0 ^^^ x) (hT l hl 29) (by rw [List.length_take]; omega) ht
    rw [hset] at h
    have hlen : (l.take 29).length = 29 := by rw [List.length_take]; omega
    have hbs : Bytes ((l.take 29).set q ((l.take 29).getD q 0 ^^^ (l.getD q 0 ^^^ x))) := bytes_set (hT l hl 29) _ _ (by rw [hg]; exact Nat.xor_lt_two_pow (n := 8) hb ht)
    exact updS_ne (hT l hl 29) hbs (by rw [List.length_set]) 0 (8 * q) (l.getD q 0 ^^^ x) ht0 (by omega) (by rw [hn, ← Nat.xor_assoc, Nat.xor_self, Nat.zero_xor]) (by rw [List.length_set, hlen]; omega) h
  · have e1 : (l.set q x).take 29 = l.take 29 := by
      rw [List.take_set]
      exact List.set_eq_of_length_le (by rw [List.length_take]; omega)
    have e2 : ((l.set q x).drop 29).take 8 = (((l.drop 29).take 8).set (q - 29) x) := by
      rw [List.drop_set, if_neg h29, List.take_set]
    rw [e1, ← hs, e2] at h
    have hb := hT _ (hD l hl 29) 8
    have h3 := num_inj (bytes_set hb _ _ hx) hb (by rw [List.length_set]) h
    have h4 : ((l.drop 29).take 8).length = 8 := by rw [List.length_take, List.length_drop]; omega
    have h5 : (((l.drop 29).take 8).set (q - 29) x)[q - 29]? = some x := by
      rw [List.getElem?_set, if_pos rfl, if_pos (by omega)]
    rw [h3, List.getElem?_take, if_pos (by omega), List.getElem?_drop, show 29 + (q - 29) = q by omega] at h5
    apply hne
    rw [List.getD_eq_getElem?_getD, h5]
    rfl
end Crc
end Go.Proofs.Ytibmigeikkmofaa

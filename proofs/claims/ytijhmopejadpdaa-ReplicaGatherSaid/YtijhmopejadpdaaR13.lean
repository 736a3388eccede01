/- Damaged sectors are of no use: the plain law, and a list of byte strings that grows. -/
import Derived.Test.YtijhmopejadpdaaR11
import Derived.Lib.AppendStr
namespace Go.Proofs.Ytijhmopejadpdaa
open Go.RowKit
namespace Crc
theorem changed_sumN {l : List Nat} {N : Nat} (hl : Bytes l) (hN : l.length = N + 8) (hs : num (l.drop N) = sumS (l.take N)) (q x : Nat) (hq : q < l.length) (hx : x < 256) (hne : x ≠ l.getD q 0) :
    ¬ num ((l.set q x).drop N) = sumS ((l.set q x).take N) := by
  intro h
  by_cases hqN : q < N
  · have e1 : (l.set q x).drop N = l.drop N := by rw [List.drop_set]; rw [if_pos hqN]
    have e2 : (l.set q x).take N = (l.take N).set q x := by rw [List.take_set]
    rw [e1, e2, hs] at h
    have hb : l.getD q 0 < 256 := by
      rw [List.getD_eq_getElem?_getD, List.getElem?_eq_getElem (by omega)]
      exact hl _ (List.getElem_mem _)
    have hT : Bytes (l.take N) := fun b hb => hl b (List.mem_of_mem_take hb)
    have hg : (l.take N).getD q 0 = l.getD q 0 := by
      rw [List.getD_eq_getElem?_getD, List.getD_eq_getElem?_getD, List.getElem?_take, if_pos hqN]
    have ht : l.getD q 0 ^^^ x < 256 := Nat.xor_lt_two_pow (n := 8) hb hx
    have ht0 : l.getD q 0 ^^^ x ≠ 0 := fun e => hne (eq_of_xor e).symm
    have hset : (l.take N).set q x = (l.take N).set q ((l.take N).getD q 0 ^^^ (l.getD q 0 ^^^ x)) := by
      rw [hg, ← Nat.xor_assoc, Nat.xor_self, Nat.zero_xor]
    have hlen : (l.take N).length = N := by rw [List.length_take]; omega
    have hn := num_set (l.take N) q (l.getD q 0 ^^^ x) hT (by rw [hlen]; exact hqN) ht
    rw [hset] at h
    have hbs : Bytes ((l.take N).set q ((l.take N).getD q 0 ^^^ (l.getD q 0 ^^^ x))) := bytes_set hT _ _ (by rw [hg]; exact Nat.xor_lt_two_pow (n := 8) hb ht)
    exact updS_ne hT hbs (by rw [List.length_set]) 0 (8 * q) (l.getD q 0 ^^^ x) ht0 (by omega) (by rw [hn, ← Nat.xor_assoc, Nat.xor_self, Nat.zero_xor]) (by rw [List.length_set, hlen]; omega) h
  · have e1 : (l.set q x).take N = l.take N := by
      rw [List.take_set]
      exact List.set_eq_of_length_le (by rw [List.length_take]; omega)
    have e2 : (l.set q x).drop N = (l.drop N).set (q - N) x := by rw [List.drop_set, if_neg hqN]
    rw [e1, ← hs, e2] at h
    have hb : Bytes (l.drop N) := fun b hb => hl b (List.mem_of_mem_drop hb)
    have h3 := num_inj (bytes_set hb _ _ hx) hb (by rw [List.length_set]) h
    have h5 : ((l.drop N).set (q - N) x)[q - N]? = some x := by
      rw [List.getElem?_set, if_pos rfl, if_pos (by rw [List.length_drop]; omega)]
    rw [h3, List.getElem?_drop, show N + (q - N) = q by omega] at h5
    apply hne
    rw [List.getD_eq_getElem?_getD, h5]
    rfl
theorem sec_changed {gen i m : Nat} {ch : List Nat} (hb : Bytes ch) (q x : Nat) (hq : q < (secB gen i m ch).length) (hx : x < 256) (hne : x ≠ (secB gen i m ch).getD q 0) : okB ((secB gen i m ch).set q x) = false := by
  have hlen : (secB gen i m ch).length = (secH gen i m ch).length + 8 := by rw [secB_length, secH_length]; omega
  refine decide_eq_false (fun h => ?_)
  have h4 := h.2.2.2
  rw [List.length_set, hlen, Nat.add_sub_cancel] at h4
  refine changed_sumN (secB_bytes hb) hlen ?_ q x hq hx hne h4
  unfold secB
  rw [List.drop_left' rfl, List.take_left' rfl, num_leb, Nat.mod_eq_of_lt]
  exact sumS_lt (secH_bytes hb)
/-- What the statement puts in the place of sector i. -/
def badOf (blob : List Nat) (gen x0 x1 x2 i : Nat) : List Nat :=
  if x0 % 3 = 0 then (secs (blob ++ [111, 108, 100]) ((gen + 1) % 18446744073709551616)).getD i []
  else if x0 % 3 = 1 then (if chunkM blob.length = 1 then [] else (secs blob gen).getD ((i + 1) % chunkM blob.length) [])
  else ((secs blob gen).getD i []).set (x1 % ((secs blob gen).getD i []).length) ((((secs blob gen).getD i []).getD (x1 % ((secs blob gen).getD i []).length) 0 + x2) % 256)
theorem old_le (blob : List Nat) : chunkM blob.length ≤ chunkM (blob ++ [111, 108, 100]).length := by
  unfold chunkM
  rw [List.length_append]
  simp only [List.length_cons, List.length_nil]
  omega
theorem old_bytes {blob : List Nat} (h : Bytes blob) : Bytes (blob ++ [111, 108, 100]) := bytes_append h (fun b hb => by
  have h : ∀ x ∈ [111, 108, 100], x < 256 := by decide
  exact h b hb)
theorem secs_each {blob : List Nat} {gen i : Nat} (hb : Bytes blob) (hi : i < chunkM blob.length) : Bytes ((secs blob gen).getD i []) ∧ ((secs blob gen).getD i []).length ≤ 57 ∧ 25 ≤ ((secs blob gen).getD i []).length := by
  rw [secs_get _ _ _ hi, secB_length]
  have := chunkOf_le blob i
  exact ⟨secB_bytes (chunkOf_bytes hb i), by omega, by omega⟩
theorem bad_each {blob : List Nat} {gen x0 x1 x2 i : Nat} (hb : Bytes blob) (hi : i < chunkM blob.length) : Bytes (badOf blob gen x0 x1 x2 i) ∧ (badOf blob gen x0 x1 x2 i).length ≤ 57 := by
  unfold badOf
  split
  · have h := secs_each (gen := (gen + 1) % 18446744073709551616) (old_bytes hb) (Nat.lt_of_lt_of_le hi (old_le blob))
    exact ⟨h.1, h.2.1⟩
  · split
    · split
      · exact ⟨fun b hb => (by cases hb), Nat.zero_le _⟩
      · have h := secs_each (gen := gen) hb (Nat.mod_lt (i + 1) (show 0 < chunkM blob.length by omega))
        exact ⟨h.1, h.2.1⟩
    · have h := secs_each (gen := gen) hb hi
      refine ⟨bytes_set h.1 _ _ (by omega), ?_⟩
      rw [List.length_set]
      exact h.2.1
end Crc
open Crc in
/-- No element of the bad copy is usable. -/
theorem bad_us {blob : List Nat} {gen x0 x1 x2 i : Nat} {ls : List (List Nat)} (hb : Bytes blob) (hM : chunkM blob.length < 4294967296) (hx : x2 ≠ 0) (hx2 : x2 < 256) (hi : i < chunkM blob.length) (h : ls.getD i [] = badOf blob gen x0 x1 x2 i) : usB ls i gen = false := by
  by_cases h0 : x0 % 3 = 0
  · have e : ls.getD i [] = secB ((gen + 1) % 18446744073709551616) i (chunkM (blob ++ [111, 108, 100]).length) (chunkOf (blob ++ [111, 108, 100]) i) := by
      rw [h, badOf, if_pos h0, secs_get _ _ _ (Nat.lt_of_lt_of_le hi (old_le blob))]
    unfold usB
    rw [e, sec_gen (Nat.mod_lt _ (by omega)), decide_eq_false (show ¬ (gen + 1) % 18446744073709551616 = gen by omega)]
    simp
  by_cases h1 : x0 % 3 = 1
  · by_cases hm : chunkM blob.length = 1
    · exact us_nil (by rw [h, badOf, if_neg h0, if_pos h1, if_pos hm])
    · have hj := Nat.mod_lt (i + 1) (show 0 < chunkM blob.length by omega)
      have e : ls.getD i [] = secB gen ((i + 1) % chunkM blob.length) (chunkM blob.length) (chunkOf blob ((i + 1) % chunkM blob.length)) := by
        rw [h, badOf, if_neg h0, if_pos h1, if_neg hm, secs_get _ _ _ hj]
      have hne : ¬ (i + 1) % chunkM blob.length = i := by
        by_cases hl : i + 1 = chunkM blob.length
        · rw [hl, Nat.mod_self]; omega
        · rw [Nat.mod_eq_of_lt (by omega)]; omega
      unfold usB
      rw [e, sec_index (by omega), decide_eq_false hne]
      simp
  · have h25 := (secs_each (gen := gen) hb hi).2.2
    have hq := Nat.mod_lt x1 (show 0 < ((secs blob gen).getD i []).length by omega)
    have hv := (secs_each (gen := gen) hb hi).1
    have hw := bytes_getD hv (x1 % ((secs blob gen).getD i []).length)
    have e : okB (ls.getD i []) = false := by
      rw [h, badOf, if_neg h0, if_neg h1]
      rw [secs_get _ _ _ hi] at hq hw ⊢
      exact sec_changed (chunkOf_bytes hb i) _ _ hq (by omega) (by omega)
    unfold usB
    rw [e]
    simp
/-- The bad copy. -/
def badL (blob : List Nat) (gen x0 x1 x2 i : Nat) : List (List Nat) := (List.range i).map (Crc.badOf blob gen x0 x1 x2)
theorem badL_get {blob : List Nat} {gen x0 x1 x2 i j : Nat} (h : j < i) : (badL blob gen x0 x1 x2 i).getD j [] = Crc.badOf blob gen x0 x1 x2 j := by
  unfold badL
  rw [List.getD_eq_getElem?_getD, List.getElem?_map, List.getElem?_range h]; rfl
theorem badL_len {blob : List Nat} {gen x0 x1 x2 i : Nat} : (badL blob gen x0 x1 x2 i).length = i := by simp [badL]
theorem badL_succ {blob : List Nat} {gen x0 x1 x2 i : Nat} : badL blob gen x0 x1 x2 (i + 1) = badL blob gen x0 x1 x2 i ++ [Crc.badOf blob gen x0 x1 x2 i] := by
  unfold badL
  rw [List.range_succ, List.map_append]; rfl
theorem bad_no {blob : List Nat} {gen x0 x1 x2 : Nat} (hb : Crc.Bytes blob) (hM : Crc.chunkM blob.length < 4294967296) (hx : x2 ≠ 0) (hx2 : x2 < 256) (i : Nat) : usB (badL blob gen x0 x1 x2 (Crc.chunkM blob.length)) i gen = false := by
  by_cases hi : i < Crc.chunkM blob.length
  · exact bad_us hb hM hx hx2 hi (badL_get hi)
  · exact us_nil (by rw [List.getD_eq_getElem?_getD, List.getElem?_eq_none (by rw [badL_len]; omega)]; rfl)
theorem bad_holds {blob : List Nat} {gen x0 x1 x2 : Nat} (hb : Crc.Bytes blob) (hM : Crc.chunkM blob.length < 4294967296) (hx : x2 ≠ 0) (hx2 : x2 < 256) : Holds [badL blob gen x0 x1 x2 (Crc.chunkM blob.length), Crc.secs blob gen] blob gen := by
  refine ⟨fun i hi => ⟨Crc.secs blob gen, by simp, by rw [Crc.secs_length]; exact hi, Crc.secs_get _ _ _ hi⟩, fun ls hls i hu => ?_⟩
  rcases List.mem_cons.1 hls with rfl | hls
  · rw [bad_no hb hM hx hx2 i] at hu
    cases hu
  · have := List.mem_singleton.1 hls
    subst this
    have hi := us_lt hu
    rw [Crc.secs_length] at hi
    exact ⟨hi, Crc.secs_get _ _ _ hi⟩
theorem bad_lost {blob : List Nat} {gen x0 x1 x2 : Nat} (hb : Crc.Bytes blob) (hM : Crc.chunkM blob.length < 4294967296) (hx : x2 ≠ 0) (hx2 : x2 < 256) : gathG [badL blob gen x0 x1 x2 (Crc.chunkM blob.length)] gen = none := by
  refine gath_none (fun j _ => List.find?_eq_none.2 (fun ls hls hs => ?_))
  rw [List.mem_singleton.1 hls] at hs
  have h := (Bool.and_eq_true_iff.1 hs).1
  rw [bad_no hb hM hx hx2 j] at h
  cases h

theorem OB.set_ {w : World} {base : Nat} {e : TypeId} {g n cap : Nat} {l : List Nat} (h : OB w base e (.slice (some ⟨g, 0, none⟩) n cap) l) (q x : Nat) (u : Value) (hu : u = bv x) : OB (w.setCell ⟨g, q, none⟩ u) base e (.slice (some ⟨g, 0, none⟩) n cap) (l.set q x) := by
  unfold OB at h ⊢
  refine ⟨by simp, ?_⟩
  rcases h.2 with ⟨h1, _⟩ | ⟨g', cap', cur, h1, h2, h3, h4, h5, h6, h7⟩
  · cases h1
  · injection h1 with e1 e2 e3
    injection e1 with e1
    injection e1 with e1
    subst e1 e2 e3
    refine .inr ⟨g, cap, cur.setIfInBounds q u, by rw [List.length_set], h2, ?_, by rw [List.length_set]; exact h4, h5, by rw [Array.size_setIfInBounds]; exact h6, ?_⟩
    · have hB : Blk w g e cur := h3
      exact hB.set_ q u
    · rw [List.length_set, Array.toList_setIfInBounds, List.take_set, h7, hu, List.map_set]
/-- A list of byte strings that grows in a row of its own. -/
def BL (w : World) (b base : Nat) (v : Value) (vs : List Value) (ls : List (List Nat)) : Prop :=
  OV w b 22 v vs ∧ vs.length = ls.length ∧ ∀ j, j < ls.length → OB w base 5 (vs.getD j undef) (ls.getD j [])
section
variable {w w' : World} {b base : Nat} {v : Value} {vs : List Value} {ls : List (List Nat)}
theorem BL.below (h : BL w b base v vs ls) (hb : Below w.heap.size w w') : BL w' b base v vs ls := ⟨h.1.below hb, h.2.1, fun j hj => (h.2.2 j hj).below hb⟩
theorem BL.nil (w : World) (b base : Nat) : BL w b base (.slice none 0 0) [] [] := ⟨ov_nil _ _ _, rfl, fun _ hj => absurd hj (Nat.not_lt_zero _)⟩
theorem BL.push {v' u : Value} {l : List Nat} (h : BL w b base v vs ls) (hv : OV w' b 22 v' (vs ++ [u])) (hg : w.grownBy w' v.ownBlock) (hu : OB w base 5 u l) : BL w' b base v' (vs ++ [u]) (ls ++ [l]) := by
  refine ⟨hv, by simp [h.2.1], fun j hj => ?_⟩
  rw [List.length_append, List.length_singleton] at hj
  by_cases e : j < ls.length
  · rw [getD_append_left _ _ _ _ (by rw [h.2.1]; exact e), getD_append_left _ _ _ _ e]
    exact OB.grown (h.2.2 j e) hg (own_apart (h.2.2 j e) h.1)
  · have e' : j = ls.length := by omega
    subst e'
    rw [getD_append_last, ← h.2.1, getD_append_last]
    exact OB.grown hu hg (own_apart hu h.1)
theorem BL.rs {A : Option Addr} {n c : Nat} (h : BL w b base (.slice A n c) vs ls) (hls : ∀ j, j < ls.length → Crc.Bytes (ls.getD j []) ∧ (ls.getD j []).length ≤ 65536) : RS w w.heap.size A n ls := by
  obtain ⟨A', c', e, hr, _⟩ := h.1.form
  injection e with e1 e2 e3
  subst e1 e2
  rw [h.2.1] at hr ⊢
  refine ⟨rfl, hls, fun h0 => ?_⟩
  obtain ⟨ad, e, hb, hc⟩ := hr.2 h0
  refine ⟨ad, e, hb, fun j hj => ?_⟩
  obtain ⟨Y, d, h1, h2, h3, _⟩ := (h.2.2 j hj).form
  refine ⟨Y, d, hc j _ ?_, h2, h3⟩
  have hjv : j < vs.length := by rw [h.2.1]; exact hj
  rw [List.getElem?_eq_getElem hjv, ← h1, List.getD_eq_getElem?_getD, List.getElem?_eq_getElem hjv]
  rfl
end
theorem RS.more {w : World} {B B' n : Nat} {A : Option Addr} {ls : List (List Nat)} (h : RS w B A n ls) (hB : B ≤ B') : RS w B' A n ls :=
  ⟨h.1, h.2.1, fun z => by
    obtain ⟨ad, e, hlt, hc⟩ := h.2.2 z
    refine ⟨ad, e, by omega, fun j hj => ?_⟩
    obtain ⟨Y, c, k1, k2, k3⟩ := hc j hj
    exact ⟨Y, c, k1, Reads.more k2 hB, k3⟩⟩
theorem rc_one (W : World) (Y : Option Addr) (n c : Nat) (l : List (List Nat)) (h : RS W W.heap.size Y n l) (hn : n ≤ 65536) :
    RC (W.alloc (.cells #[.slice Y n c] 25)) (W.heap.size + 1) (some ⟨W.heap.size, 0, none⟩) 1 [l] := by
  have h2 := h.below ((Below.refl W.heap.size W).alloc (Nat.le_refl _) (.cells #[.slice Y n c] 25))
  refine ⟨rfl, fun _ => ⟨_, rfl, Nat.lt_succ_self _, fun j hj => ?_⟩⟩
  rw [add_zero_block]
  match j, hj with
  | 0, _ =>
    refine ⟨Y, n, c, (Blk.new W 25 #[.slice Y n c]).cell 0, ⟨h2.1, h2.2.1, fun z => ?_⟩, by omega⟩
    obtain ⟨ad, e, hlt, hc⟩ := h2.2.2 z
    refine ⟨ad, e, by omega, fun j hj => ?_⟩
    obtain ⟨Y', c', k1, k2, k3⟩ := hc j hj
    exact ⟨Y', c', k1, Reads.more k2 (by omega), k3⟩

end Go.Proofs.Ytijhmopejadpdaa

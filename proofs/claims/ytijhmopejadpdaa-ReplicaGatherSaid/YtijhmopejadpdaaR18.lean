/- When the reference says that an element is usable: the plain law, and its walk. -/
import Derived.Test.YtijhmopejadpdaaR13
import Derived.Test.YtijhmopejadpdaaR10
import Derived.BigQuiet
namespace Go.Proofs.Ytijhmopejadpdaa
open Go.RowKit
namespace Crc
def rOk (b : List Nat) (gen i : Nat) : Bool := decide (25 ≤ b.length ∧ b.length ≤ 57 ∧ i < num ((b.drop 12).take 4) ∧ secB gen i (num ((b.drop 12).take 4)) (chkOf b) = b)
theorem chk_len (b : List Nat) : (chkOf b).length = b.length - 25 := by unfold chkOf; rw [List.length_take, List.length_drop]; omega
theorem chk_bytes {b : List Nat} (h : Bytes b) : Bytes (chkOf b) := bytes_take (bytes_drop h 17) _
theorem head_parts (b : List Nat) (h : 25 ≤ b.length) (h16 : b.getD 16 0 = b.length - 25) (h32 : b.length - 25 ≤ 32) (hb : Bytes b) :
    secH (num (b.take 8)) (num ((b.drop 8).take 4)) (num ((b.drop 12).take 4)) (chkOf b) = b.take (b.length - 8) := by
  have e8 : leb 8 (num (b.take 8)) = b.take 8 := by
    have h1 := leb_num (b.take 8) (bytes_take hb 8)
    rwa [List.length_take, Nat.min_eq_left (by omega)] at h1
  have e4 : ∀ k, k + 4 ≤ b.length → leb 4 (num ((b.drop k).take 4)) = (b.drop k).take 4 := fun k hk => by
    have h1 := leb_num ((b.drop k).take 4) (bytes_take (bytes_drop hb k) 4)
    rwa [List.length_take, List.length_drop, Nat.min_eq_left (by omega)] at h1
  have e1 : leb 1 (chkOf b).length = (b.drop 16).take 1 := by
    rw [chk_len, leb1 _ (by omega), ← h16, List.drop_eq_getElem_cons (by omega), List.getD_eq_getElem?_getD, List.getElem?_eq_getElem (by omega)]
    rfl
  unfold secH
  rw [e8, e4 8 (by omega), e4 12 (by omega), e1]
  unfold chkOf
  rw [show b.length - 8 = 8 + 4 + 4 + 1 + (b.length - 25) by omega, List.take_add, List.take_add (i := 8 + 4 + 4), List.take_add (i := 8 + 4), List.take_add (i := 8)]
theorem rOk_iff {b : List Nat} {gen i : Nat} (hb : Bytes b) (hg : gen < 18446744073709551616) (hi : i < 4294967296) :
    rOk b gen i = (okB b && (decide (num (b.take 8) = gen) && (decide (num ((b.drop 8).take 4) = i) && decide (num ((b.drop 8).take 4) < num ((b.drop 12).take 4))))) := by
  have hm : num ((b.drop 12).take 4) < 4294967296 := num_take_lt (bytes_drop hb 12) 4
  rw [Bool.eq_iff_iff]
  constructor
  · intro h
    obtain ⟨h1, h2, h3, e⟩ := of_decide_eq_true h
    have k1 := sec_ok (gen := gen) (i := i) (m := num ((b.drop 12).take 4)) (chk_bytes hb) (by rw [chk_len]; omega)
    have k2 := sec_gen (i := i) (m := num ((b.drop 12).take 4)) (ch := chkOf b) hg
    have k3 := sec_index (gen := gen) (m := num ((b.drop 12).take 4)) (ch := chkOf b) hi
    rw [e] at k1 k2 k3
    rw [k1, k2, k3, decide_eq_true rfl, decide_eq_true rfl, decide_eq_true h3]
    rfl
  · intro h
    obtain ⟨h1, h⟩ := Bool.and_eq_true_iff.1 h
    obtain ⟨h2, h⟩ := Bool.and_eq_true_iff.1 h
    obtain ⟨h3, h4⟩ := Bool.and_eq_true_iff.1 h
    have h2 := of_decide_eq_true h2
    have h3 := of_decide_eq_true h3
    have h4 := of_decide_eq_true h4
    obtain ⟨k1, k2, k3, k4⟩ := of_decide_eq_true h1
    refine decide_eq_true ⟨k1, by omega, by omega, ?_⟩
    have hd := head_parts b k1 k2 k3 hb
    rw [h2, h3] at hd
    unfold secB
    rw [hd, ← k4]
    have h5 := leb_num (b.drop (b.length - 8)) (bytes_drop hb _)
    rw [List.length_drop, show b.length - (b.length - 8) = 8 by omega] at h5
    rw [h5, List.take_append_drop]
end Crc
theorem rOk_us {ls : List (List Nat)} {gen i : Nat} (hb : Crc.Bytes (ls.getD i [])) (hl : i < ls.length) (hg : gen < 18446744073709551616) (hi : i < 4294967296) : usB ls i gen = Crc.rOk (ls.getD i []) gen i := by
  rw [Crc.rOk_iff hb hg hi]
  unfold usB
  rw [decide_eq_true hl]
  rfl

end Go.Proofs.Ytijhmopejadpdaa

/- Walks over piecesum's small functions and the sum of a piece. -/
import Derived.Test.YtejhfollfmdmpaaPut
import Derived.Test.YtejhfollfmdmpaaVal
import Derived.Test.YtejhfollfmdmpaaRef
import Derived.Laws.CopyOwn
import Derived.StillTailTactics
import Derived.Lib.SliceRun
namespace Go.Proofs.Ytejhfollfmdmpaa
open Go.RowKit

theorem numInfo : (Try.prog.info? 22).map (fun i => (i.zero, i.size, i.bytes)) = some (some (.int .u64 0), 1, 8) := by kernel_rfl
namespace Crc
def u6 (z : Int) : Nat := (z % 18446744073709551616).toNat
theorem u6_wrap (z : Int) : IntKind.u64.wrap z = ((u6 z : Nat) : Int) := by
  rw [IntKind.wrap_u64]; unfold u6; omega
theorem u6_lt (z : Int) : u6 z < 18446744073709551616 := by unfold u6; omega
/-- The bytes that a piece's sum is taken of. -/
def pieceB (group piece : Int) (ver : Nat) (D : List Nat) : List Nat := leb 4 (u6 group) ++ leb 4 (u6 piece) ++ leb 8 ver ++ D
theorem pieceB_length {group piece : Int} {ver : Nat} {D : List Nat} (h : D.length = 8) : (pieceB group piece ver D).length = 24 := by simp [pieceB, leb_length, h]
theorem pieceB_bytes {group piece : Int} {ver : Nat} {D : List Nat} (h : Bytes D) : Bytes (pieceB group piece ver D) :=
  bytes_append (bytes_append (bytes_append (leb_bytes _ _) (leb_bytes _ _)) (leb_bytes _ _)) h
def psum (group piece : Int) (ver : Nat) (D : List Nat) : Nat := sumS (pieceB group piece ver D)
theorem leb_get (k n i : Nat) (h : i < k) : (leb k n).getD i 0 = n / 2 ^ (8 * i) % 256 := by
  induction k with
  | zero => omega
  | succ k ih =>
    have hl := leb_length k n
    rw [leb, List.getD_eq_getElem?_getD]
    by_cases hi : i < k
    · rw [List.getElem?_append_left (by omega), ← List.getD_eq_getElem?_getD]
      exact ih hi
    · obtain rfl : i = k := by omega
      rw [List.getElem?_append_right (by omega), hl, Nat.sub_self]
      rfl
theorem app_get (a b c : List Nat) (k i : Nat) (hk : a.length = k) (hi : i < b.length) : (a ++ b ++ c).getD (k + i) 0 = b.getD i 0 := by
  subst hk
  rw [List.append_assoc, List.getD_eq_getElem?_getD, List.getD_eq_getElem?_getD, List.getElem?_append_right (by omega), Nat.add_sub_cancel_left, List.getElem?_append_left hi]
end Crc

set_option maxHeartbeats 400000 in
theorem put_fill (g N off m c : Nat) (t : TypeId) (f : Nat → Value) (n : Nat) (hf : ∀ i, i < m → f (off + i) = .int .u8 ((n : Int) / 2 ^ (8 * i) % 256)) (hm : m ≤ 8) (hN : off + m ≤ N) (w : World) (h : Fill w g t N off f) :
    Calls Try.prog 26 #[.slice (some ⟨g, off, none⟩) m c, .int .u64 (n : Int)] w fun e w' => e = .returned (.tuple #[]) ∧ Fill w' g t N (off + m) f ∧ Below g w w' := by
  have HF := Lib.hid h
  have HV := Lib.hid hf
  clear h hf
  go_enter Try.func26, Try.ntmps26
  go_wp2
  go_loopw [7] (fun s7 wr => ∃ i : Nat, i ≤ m ∧ s7 = .int .i64 (i : Int) ∧ Fill wr g t N (off + i) f ∧ Below g w wr) (fun s7 _ => m - (intOf s7).toNat)
  case atStart => exact ⟨0, by omega, rfl, HF.out, Below.refl _ _⟩
  case round =>
    obtain ⟨i, hi, rfl, hF, hB⟩ := hrel
    by_cases hlt : i < m
    · obtain ⟨old, hold⟩ := hF.cell (off + i) (by omega)
      have hfree := hF.free (off + i)
      have HF := Lib.hid hF
      have HBr := Lib.hid hB
      clear hF hB
      go_wp2
      go_roundw
      case rel => exact ⟨i + 1, by omega, by go_num, HF.out.set (by omega) _ (HV.out i hlt).symm, HBr.out.setCell (Nat.le_refl _) _⟩
      case measure => simp [intOf]; omega
    · have e : i = m := by omega
      subst e
      go_wp2
      go_end0
      exact ⟨rfl, hF, hB⟩

theorem pieces_any (A B : Option Addr) (n c m d : Nat) (w : World) :
    Calls Try.prog 30 #[.agg #[.slice A n c, .slice B m d]] w fun e w' => e = .returned (.int .i64 ((min n m : Nat) : Int)) ∧ Below w.heap.size w w' := by
  by_cases h : m < n
  · rw [show min n m = m by omega]
    go_enter Try.func30, Try.ntmps30
    go_wp2
    go_ret
    exact ⟨rfl, (Below.refl _ _).alloc (Nat.le_refl _) _⟩
  · rw [show min n m = n by omega]
    go_enter Try.func30, Try.ntmps30
    go_wp2
    go_ret
    exact ⟨rfl, (Below.refl _ _).alloc (Nat.le_refl _) _⟩
theorem width_any (A B : Option Addr) (n c m d : Nat) (w : World) :
    Calls Try.prog 31 #[.agg #[.slice A n c, .slice B m d]] w fun e w' => e = .returned (.int .i64 ((min n m : Nat) : Int)) ∧ Below w.heap.size w w' := by
  by_cases h : m < n
  · rw [show min n m = m by omega]
    go_enter Try.func31, Try.ntmps31
    go_wp2
    go_ret
    exact ⟨rfl, (Below.refl _ _).alloc (Nat.le_refl _) _⟩
  · rw [show min n m = n by omega]
    go_enter Try.func31, Try.ntmps31
    go_wp2
    go_ret
    exact ⟨rfl, (Below.refl _ _).alloc (Nat.le_refl _) _⟩
theorem ret_b {b c : Bool} (h : b = c) : Ending.returned (.bool b) = .returned (.bool c) := by rw [h]
theorem fair_any (A B : Option Addr) (n c m d : Nat) (w : World) :
    Calls Try.prog 16 #[.agg #[.slice A n c, .slice B m d]] w fun e w' => e = .returned (.bool (decide (n ≤ 40 ∧ m ≤ 40))) ∧ Below w.heap.size w w' := by
  by_cases h1 : n ≤ 40
  · go_enter Try.func16, Try.ntmps16
    go_wp2
    all_goals (go_ret; exact ⟨ret_b (by rw [decide_eq_decide]; omega), (Below.refl _ _).alloc (Nat.le_refl _) _⟩)
  · rw [decide_eq_false (fun h : n ≤ 40 ∧ m ≤ 40 => h1 h.1)]
    go_enter Try.func16, Try.ntmps16
    go_wp2
    all_goals (go_ret; exact ⟨rfl, (Below.refl _ _).alloc (Nat.le_refl _) _⟩)

/-- A slice's copy. -/
theorem clone_any (l : List Nat) (B n c : Nat) (A : Option Addr) (w : World) (hr : RU w B A n l) (hB : B ≤ w.heap.size) (hn : n ≤ 65536) :
    Calls Try.prog 32 #[.slice A n c] w fun e w' => ∃ v', e = .returned v' ∧ OV w' w.heap.size 22 v' (l.map uv) ∧ Below w.heap.size w w' := by
  have qT : ∀ (w : World) (a : Option Addr) (n c n' c' : Nat), (binOp .eql 30 (.slice a n c) (.slice none n' c')).run Try.prog w = .ok (.bool a.isNone) w := fun w a n c n' c' => Lib.run_eql_slice_nil w _ _ a n c n' c' Try.underlying30
  obtain ⟨i0, hi0, hz0, hz1, hz2⟩ := info_parts numInfo
  have hl := hr.len
  have HR := Lib.hid hr
  clear hr
  rcases A with _ | ad
  · have h0 : n = 0 := by
      rcases Nat.eq_zero_or_pos n with h0 | h0
      · exact h0
      · obtain ⟨ad, h, _⟩ := HR.out.2 h0
        cases h
    subst h0
    have : l = [] := List.eq_nil_of_length_eq_zero hl
    subst this
    go_enter Try.func32, Try.ntmps32
    go_wp2
    go_ret
    exact ⟨_, rfl, ov_nil _ _ _, Below.refl _ _⟩
  · go_enter Try.func32, Try.ntmps32
    go_wp2_with (at_builtin; refine wpList_append_ov _ rfl (.tmp 5) (.tmp 6) _ rfl w.heap.size 22 i0 _ 8 Try.underlying30 hi0 hz0 hz1 hz2 rfl (.slice (some ⟨w.heap.size, 0, none⟩) 0 0) [] rfl (ov_empty w _) B (some ad) n c (l.map uv) rfl (Reads.alloc HR.out hB _) (uv_one l) (by unfold maxLen; simp; omega) (by simp; omega) (by simp) ?_; intro v1 w1 hown1 hg1 hat1; have hb1 : Below w.heap.size w w1 := ((Below.refl _ w).alloc (Nat.le_refl _) _).trans (below_grown_ov (ov_empty w _) hg1 (Nat.le_refl _) (by simp)); clear hg1 hat1; rw [List.nil_append] at hown1; have HO := Lib.hid hown1; have HB0 := Lib.hid hb1; clear hown1 hb1)
    go_ret
    exact ⟨_, rfl, HO.out, HB0.out⟩

set_option maxHeartbeats 400000 in
theorem bools_any (l k : List Bool) (B n c m d : Nat) (A A' : Option Addr) (w : World) (hr : RL w B A n l) (hr' : RL w B A' m k) (hBw : B ≤ w.heap.size) (hn : n ≤ 65536) :
    Calls Try.prog 17 #[.slice A n c, .slice A' m d] w fun e w' => e = .returned (.bool (decide (l = k))) ∧ Below w.heap.size w w' := by
  have hl := hr.len
  have hk := hr'.len
  have HR := Lib.hid hr
  have HR' := Lib.hid hr'
  clear hr hr'
  by_cases hnm : n = m
  · subst hnm
    have t : ((n : Int) != n) = false := bne_self_eq_false _
    go_enter Try.func17, Try.ntmps17
    go_wp2
    go_loopw [5] (fun c wr => ∃ i : Nat, i ≤ n ∧ c = .int .i64 (i : Int) ∧ l.take i = k.take i ∧ Below w.heap.size w wr) (fun c _ => n - (intOf c).toNat)
    case atStart => exact ⟨0, Nat.zero_le _, rfl, rfl, Below.refl _ _⟩
    case round =>
      obtain ⟨i, hi, rfl, ht, hB⟩ := hrel
      by_cases hlt : i < n
      · obtain ⟨ad, rfl, _, hc⟩ := (RL.below HR.out (hB.mono hBw)).at_ hlt
        obtain ⟨ad', rfl, _, hc'⟩ := (RL.below HR'.out (hB.mono hBw)).at_ hlt
        have HT := Lib.hid ht
        have HBr := Lib.hid hB
        have hs1 : l.take (i + 1) = l.take i ++ [l.getD i false] := by rw [List.take_add_one, List.getD_eq_getElem?_getD, List.getElem?_eq_getElem (by omega)]; rfl
        have hs2 : k.take (i + 1) = k.take i ++ [k.getD i false] := by rw [List.take_add_one, List.getD_eq_getElem?_getD, List.getElem?_eq_getElem (by omega)]; rfl
        have Hs1 := Lib.hid hs1
        have Hs2 := Lib.hid hs2
        obtain ⟨x, hx⟩ : ∃ x, x = l.getD i false := ⟨_, rfl⟩
        obtain ⟨y, hy⟩ : ∃ y, y = k.getD i false := ⟨_, rfl⟩
        rw [← hx] at hc
        rw [← hy] at hc'
        have Hx := Lib.hid hx
        have Hy := Lib.hid hy
        clear ht hB hs1 hs2 hx hy
        by_cases hxy : x = y
        · subst hxy
          have t2 : (x != x) = false := bne_self_eq_false _
          go_wp2
          go_region
          go_wp2
          go_roundw
          case rel => exact ⟨i + 1, by omega, by go_num, by rw [Hs1.out, Hs2.out, HT.out, ← Hx.out, ← Hy.out], HBr.out.drew⟩
          case measure => simp [intOf]; omega
        · have t2 : (x != y) = true := bne_iff_ne.2 hxy
          have t3 : (x == y) = false := beq_eq_false_iff_ne.2 hxy
          have t4 : (!x == y) = true := by rw [t3]; rfl
          go_wp2
          go_region
          go_wp2
          go_ret
          exact ⟨ret_b (decide_eq_false (fun h => hxy (by rw [Hx.out, Hy.out, h]))).symm, HBr.out.drew⟩
      · have e1 : l = k := by
          have h1 := List.take_of_length_le (show l.length ≤ i by omega)
          have h2 := List.take_of_length_le (show k.length ≤ i by omega)
          rw [← h1, ← h2, ht]
        have e2 := Lib.hid (ret_b (decide_eq_true e1).symm)
        clear e1
        go_wp2
        go_ret
        exact ⟨e2.out, hB⟩
  · have t : ((n : Int) != m) = true := bne_iff_ne.2 (by omega)
    have e : decide (l = k) = false := decide_eq_false (fun h => hnm (by rw [← hl, ← hk, h]))
    rw [e]
    go_enter Try.func17, Try.ntmps17
    go_wp2
    go_ret
    exact ⟨rfl, Below.refl _ _⟩

end Go.Proofs.Ytejhfollfmdmpaa

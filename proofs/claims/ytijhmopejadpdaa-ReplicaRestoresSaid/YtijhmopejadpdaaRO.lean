/- Arguments: a []byte; copies of lists of byte strings. -/
import Derived.Test.YtijhmopejadpdaaR7
import Derived.Test.YtijhmopejadpdaaOpen
import Derived.OpenShut
import Derived.ProofKit
namespace Go.Proofs.Ytijhmopejadpdaa
open Go.RowKit Go.ChangeShapes Go.WideShapes

theorem cells8 : Try.prog.cellsOf 5 = 1 := by kernel_rfl
theorem cellsS : Try.prog.cellsOf 22 = 1 := by kernel_rfl
theorem cellsR : Try.prog.cellsOf 25 = 1 := by kernel_rfl
theorem cells3 : Try.prog.cellsOf 33 = 3 := by kernel_rfl
/-- A list of byte strings and a list of copies, of any lengths. -/
def RSo (w : World) (B : Nat) (A : Option Addr) (n : Nat) (ls : List (List Nat)) : Prop :=
  ls.length = n ∧ (∀ j, j < n → Crc.Bytes (ls.getD j [])) ∧
    (0 < n → ∃ ad, A = some ad ∧ ad.block < B ∧ ∀ j, j < n → ∃ Y c, w.cell? (ad.add j) = some (.slice Y (ls.getD j []).length c) ∧ RB w B Y (ls.getD j []).length (ls.getD j []) ∧ (ls.getD j []).length ≤ c)
def RCo (w : World) (B : Nat) (A : Option Addr) (nc : Nat) (cs : List (List (List Nat))) : Prop :=
  cs.length = nc ∧ (0 < nc → ∃ ad, A = some ad ∧ ad.block < B ∧ ∀ j, j < nc → ∃ Y c, w.cell? (ad.add j) = some (.slice Y (cs.getD j []).length c) ∧ RSo w B Y (cs.getD j []).length (cs.getD j []))
section
variable {H : Type} {enc : TypeId × Value → H} {P : Program} {w : World} {base : Nat} {spare : Nat → Bool} {held : Bool} {fuel : Nat} {t : TypeId} {cs : List Value} {x : DataW H × List MemPlace}
theorem trod_row {e : TypeId} (ht : P.underlying t = some (.slice e)) (h : DataW.trod enc P w base spare held fuel t cs = some x) :
    ∃ (A : Option Addr) (n c : Nat), cs = [.slice A n c] ∧ n ≤ c ∧ c ≤ maxLen ∧ (0 < n → ∃ a, A = some a) ∧
      ∀ a i, A = some a → i < n → ∃ (ys : List Value) (m : Nat) (y : DataW H × List MemPlace), w.cells? base (a.add (i * P.cellsOf e)) (P.cellsOf e) = some ys ∧ DataW.trod enc P w base spare held m e ys = some y := by
  rcases DataW.trod_slice ht h with ⟨rfl, _⟩ | ⟨a, len, cap, elems, rest, m, _, rfl, _, _, h1, h2, h3, h4, _⟩
  · exact ⟨none, 0, 0, rfl, Nat.le_refl _, Nat.zero_le _, fun h => absurd h (Nat.lt_irrefl 0), fun a i e => (by cases e)⟩
  · refine ⟨some a, len, cap, rfl, h1, h2, fun _ => ⟨a, rfl⟩, fun a' i e hi => ?_⟩
    injection e with e
    subst e
    have h5 := h4 i hi
    rw [List.getElem?_eq_getElem (show i < elems.length by omega)] at h5
    obtain ⟨ys, g1, g2⟩ := Option.bind_eq_some_iff.1 h5
    exact ⟨ys, m, _, g1, g2⟩
theorem block_of_cell {w : World} {a : Addr} {v : Value} (h : w.cell? a = some v) : a.block < w.heap.size := by
  rcases Nat.lt_or_ge a.block w.heap.size with h0 | h0
  · exact h0
  · unfold World.cell? at h
    rw [Array.getElem?_eq_none h0] at h
    cases h
/-- A choice for each index below n, as a list. -/
theorem list_of_all {α : Type} (d : α) (R : Nat → α → Prop) (n : Nat) (h : ∀ i, i < n → ∃ b, R i b) : ∃ l : List α, l.length = n ∧ ∀ i, i < n → R i (l.getD i d) := by
  induction n with
  | zero => exact ⟨[], rfl, fun i hi => absurd hi (Nat.not_lt_zero _)⟩
  | succ n ih =>
    obtain ⟨l, h1, h2⟩ := ih (fun i hi => h i (by omega))
    obtain ⟨b, hb⟩ := h n (by omega)
    refine ⟨l ++ [b], by simp [h1], fun i hi => ?_⟩
    by_cases e : i < n
    · rw [getD_append_left l [b] d i (by omega)]; exact h2 i e
    · have e' : i = l.length := by omega
      rw [e', getD_append_last l b d, h1]; exact hb
theorem trod_rowG {α : Type} (d : α) {e : TypeId} (R : α → Value → Prop) (ht : P.underlying t = some (.slice e)) (hce : P.cellsOf e = 1)
    (hof : ∀ m ys y, DataW.trod enc P w base spare held m e ys = some y → ∃ b v, ys = [v] ∧ R b v) (h : DataW.trod enc P w base spare held fuel t cs = some x) :
    ∃ (A : Option Addr) (n c : Nat) (l : List α), cs = [.slice A n c] ∧ n ≤ c ∧ c ≤ maxLen ∧ l.length = n ∧ (0 < n → ∃ ad, A = some ad ∧ ad.block < w.heap.size ∧ ∀ j, j < n → ∃ v, w.cell? (ad.add j) = some v ∧ R (l.getD j d) v) := by
  obtain ⟨A, n, c, rfl, h1, h2, h3, h4⟩ := trod_row ht h
  rw [hce] at h4
  rcases Nat.eq_zero_or_pos n with h0 | h0
  · subst h0
    exact ⟨A, 0, c, [], rfl, h1, h2, rfl, fun h => absurd h (Nat.lt_irrefl 0)⟩
  · obtain ⟨a, rfl⟩ := h3 h0
    have h4' : ∀ i, i < n → ∃ b v, w.cell? (a.add i) = some v ∧ R b v := fun i hi => by
      obtain ⟨ys, m, y, g1, g2⟩ := h4 a i rfl hi
      obtain ⟨b, v, rfl, hb⟩ := hof m ys y g2
      rw [Nat.mul_one] at g1
      exact ⟨b, v, cell_of_cells?_one g1, hb⟩
    obtain ⟨l, g1, g2⟩ := list_of_all d (fun i b => ∃ v, w.cell? (a.add i) = some v ∧ R b v) n h4'
    refine ⟨some a, n, c, l, rfl, h1, h2, g1, fun _ => ⟨a, rfl, ?_, g2⟩⟩
    obtain ⟨v, g3, _⟩ := g2 0 h0
    have := block_of_cell g3
    rwa [block_of_add] at this
end
section
variable {H : Type} {enc : TypeId × Value → H} {w : World} {base : Nat} {spare : Nat → Bool} {held : Bool} {fuel : Nat} {cs : List Value} {x : DataW H × List MemPlace}
theorem trod_bs (h : DataW.trod enc Try.prog w base spare held fuel 22 cs = some x) :
    ∃ (A : Option Addr) (n c : Nat) (l : List Nat), cs = [.slice A n c] ∧ n ≤ c ∧ c ≤ maxLen ∧ Crc.Bytes l ∧ RB w w.heap.size A n l := by
  obtain ⟨A, n, c, l, rfl, h1, h2, h3, h4⟩ := trod_rowG 0 (fun b v => v = bv b ∧ b < 256) Try.underlying22 cells8 (fun m ys y hy => by
    obtain ⟨b, rfl, hb⟩ := trod_byte Try.underlying5 hy
    exact ⟨b, bv b, rfl, rfl, hb⟩) h
  refine ⟨A, n, c, l, rfl, h1, h2, fun b hb => ?_, by simpa using h3, fun h0 => ?_⟩
  · obtain ⟨i, hi, he⟩ := List.mem_iff_getElem.1 hb
    obtain ⟨_, _, _, h5⟩ := h4 (by omega)
    obtain ⟨v, _, _, h6⟩ := h5 i (by omega)
    rw [List.getD_eq_getElem?_getD, List.getElem?_eq_getElem hi, he] at h6
    exact h6
  · obtain ⟨ad, e, hb, h5⟩ := h4 h0
    refine ⟨ad, e, hb, fun j u hu => ?_⟩
    have hj : j < l.length := by
      rcases Nat.lt_or_ge j l.length with h | h
      · exact h
      · rw [List.getElem?_eq_none (by simpa using h)] at hu; cases hu
    obtain ⟨v, h6, h7, _⟩ := h5 j (by omega)
    rw [h6, h7, ← hu, List.getElem?_map, List.getElem?_eq_getElem hj, List.getD_eq_getElem?_getD, List.getElem?_eq_getElem hj]
    rfl
theorem trod_bss (h : DataW.trod enc Try.prog w base spare held fuel 25 cs = some x) :
    ∃ (A : Option Addr) (n c : Nat) (ls : List (List Nat)), cs = [.slice A n c] ∧ n ≤ c ∧ c ≤ maxLen ∧ RSo w w.heap.size A n ls := by
  obtain ⟨A, n, c, l, rfl, h1, h2, h3, h4⟩ := trod_rowG [] (fun (b : List Nat) v => ∃ Y k, v = .slice Y b.length k ∧ b.length ≤ k ∧ Crc.Bytes b ∧ RB w w.heap.size Y b.length b) Try.underlying25 cellsS (fun m ys y hy => by
    obtain ⟨Y, k, c, b, rfl, g1, g2, g3, g4⟩ := trod_bs hy
    have e := g4.len
    subst e
    exact ⟨b, _, rfl, Y, c, rfl, g1, g3, g4⟩) h
  refine ⟨A, n, c, l, rfl, h1, h2, h3, fun j hj => ?_, fun h0 => ?_⟩
  · obtain ⟨_, _, _, h5⟩ := h4 (by omega)
    obtain ⟨_, _, _, _, _, _, h6, _⟩ := h5 j hj
    exact h6
  · obtain ⟨ad, e, hb, h5⟩ := h4 h0
    refine ⟨ad, e, hb, fun j hj => ?_⟩
    obtain ⟨v, h6, Y, k, rfl, h7, _, h8⟩ := h5 j hj
    exact ⟨Y, k, h6, h8, h7⟩
theorem trod_bsss (h : DataW.trod enc Try.prog w base spare held fuel 29 cs = some x) :
    ∃ (A : Option Addr) (n c : Nat) (ls : List (List (List Nat))), cs = [.slice A n c] ∧ n ≤ c ∧ c ≤ maxLen ∧ RCo w w.heap.size A n ls := by
  obtain ⟨A, n, c, l, rfl, h1, h2, h3, h4⟩ := trod_rowG [] (fun (b : List (List Nat)) v => ∃ Y k, v = .slice Y b.length k ∧ RSo w w.heap.size Y b.length b) Try.underlying29 cellsR (fun m ys y hy => by
    obtain ⟨Y, k, c, b, rfl, g1, g2, g3⟩ := trod_bss hy
    have e := g3.1
    subst e
    exact ⟨b, _, rfl, Y, c, rfl, g3⟩) h
  refine ⟨A, n, c, l, rfl, h1, h2, h3, fun h0 => ?_⟩
  obtain ⟨ad, e, hb, h5⟩ := h4 h0
  refine ⟨ad, e, hb, fun j hj => ?_⟩
  obtain ⟨v, h6, Y, k, rfl, h7⟩ := h5 j hj
  exact ⟨Y, k, h6, h7⟩
end
section
variable {H : Type} {enc : TypeId × Value → H} {w : World} {base : Nat} {spare : Nat → Bool} {held : Bool} {r : Reach} {b0 : Nat} {v : Value} {d : DataW H} {p : List MemPlace}
theorem open_bs (hv : Value.okWide Try.prog w r b0 22 v) (h : DataW.Trod enc Try.prog w base spare held 22 v d p) :
    ∃ (A : Option Addr) (n c : Nat) (l : List Nat), v = .slice A n c ∧ n ≤ c ∧ c ≤ maxLen ∧ Crc.Bytes l ∧ RB w w.heap.size A n l := by
  obtain ⟨a, len, cap, rfl⟩ := okWide_slice Try.underlying22 hv
  obtain ⟨f, hf⟩ := h
  obtain ⟨A, n, c, l, e, h1, h2, h3, h4⟩ := trod_bs (by simpa [Value.cells] using hf)
  injection e with e _
  injection e with e1 e2 e3
  subst e1 e2 e3
  exact ⟨_, _, _, l, rfl, h1, h2, h3, h4⟩
theorem open_three (hv : Value.okWide Try.prog w r b0 33 v) (h : DataW.Trod enc Try.prog w base spare held 33 v d p) :
    ∃ x0 x1 x2 : Nat, v = .agg #[bv x0, bv x1, bv x2] ∧ Crc.Bytes [x0, x1, x2] := by
  obtain ⟨l, rfl, hl, hb⟩ := open_u8s Try.underlying33 Try.underlying5 cells8 cells3 hv h
  match l, hl with
  | [x0, x1, x2], _ => exact ⟨x0, x1, x2, rfl, hb⟩
theorem open_bsss (hv : Value.okWide Try.prog w r b0 29 v) (h : DataW.Trod enc Try.prog w base spare held 29 v d p) :
    ∃ (A : Option Addr) (n c : Nat) (cs : List (List (List Nat))), v = .slice A n c ∧ n ≤ c ∧ c ≤ maxLen ∧ RCo w w.heap.size A n cs := by
  obtain ⟨a, len, cap, rfl⟩ := okWide_slice Try.underlying29 hv
  obtain ⟨f, hf⟩ := h
  obtain ⟨A, n, c, l, e, h1, h2, h3⟩ := trod_bsss (by simpa [Value.cells] using hf)
  injection e with e _
  injection e with e1 e2 e3
  subst e1 e2 e3
  exact ⟨_, _, _, l, rfl, h1, h2, h3⟩
end

end Go.Proofs.Ytijhmopejadpdaa

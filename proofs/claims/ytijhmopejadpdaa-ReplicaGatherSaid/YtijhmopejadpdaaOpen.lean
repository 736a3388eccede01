/- Arguments by value: arrays of bytes, read off the row's frame. -/
import Derived.Test.YtijhmopejadpdaaApp
import Derived.OpenShut
import Derived.ProofKit
namespace Go.Proofs.Ytijhmopejadpdaa
open Go.RowKit Go.ChangeShapes Go.WideShapes

section
variable {H : Type} {enc : TypeId × Value → H} {P : Program} {w : World} {base : Nat} {spare : Nat → Bool} {held : Bool} {fuel : Nat} {t : TypeId} {cs : List Value} {x : DataW H × List MemPlace}
theorem trod_byte (ht : P.underlying t = some (.int .u8)) (h : DataW.trod enc P w base spare held fuel t cs = some x) : ∃ b : Nat, cs = [bv b] ∧ b < 256 := by
  obtain ⟨n, rfl, _, hw⟩ := DataW.trod_int ht h
  obtain ⟨b, rfl, hb⟩ := wf_u8 hw
  exact ⟨b, rfl, hb⟩
theorem list_of_cells {cs : List Value} {n : Nat} (hl : cs.length = n) (h : ∀ i, i < n → ∃ b : Nat, (cs.drop i).take 1 = [bv b] ∧ b < 256) : ∃ l : List Nat, cs = l.map bv ∧ l.length = n ∧ Crc.Bytes l := by
  induction cs generalizing n with
  | nil => exact ⟨[], rfl, hl, fun _ h => by cases h⟩
  | cons c r ih =>
    obtain ⟨b, hb, hb2⟩ := h 0 (by simp at hl; omega)
    simp at hb
    obtain ⟨l, rfl, hn, hB⟩ := ih (n := n - 1) (by simp at hl; omega) (fun i hi => by
      obtain ⟨b', h1, h2⟩ := h (i + 1) (by omega)
      exact ⟨b', by simpa using h1, h2⟩)
    refine ⟨b :: l, by rw [hb]; rfl, by simp at hl ⊢; omega, fun y hy => ?_⟩
    rcases List.mem_cons.1 hy with rfl | hy
    · exact hb2
    · exact hB y hy
theorem trod_u8s {n : Nat} {e : TypeId} (ht : P.underlying t = some (.array n e)) (he : P.underlying e = some (.int .u8)) (hce : P.cellsOf e = 1) (hct : P.cellsOf t = n) (h : DataW.trod enc P w base spare held fuel t cs = some x) :
    ∃ l : List Nat, cs = l.map bv ∧ l.length = n ∧ Crc.Bytes l := by
  obtain ⟨xs, m, _, _, hl, hx, hf⟩ := DataW.trod_array ht h
  refine list_of_cells (hl.trans hct) fun i hi => ?_
  have h1 := hf i hi
  rw [hce, Nat.mul_one, List.getElem?_eq_getElem (show i < xs.length by omega)] at h1
  exact trod_byte he h1
theorem open_u8s {n : Nat} {e : TypeId} {r : Reach} {b0 : Nat} {v : Value} {d : DataW H} {p : List MemPlace} (ht : P.underlying t = some (.array n e)) (he : P.underlying e = some (.int .u8)) (hce : P.cellsOf e = 1) (hct : P.cellsOf t = n)
    (hv : Value.okWide P w r b0 t v) (h : DataW.Trod enc P w base spare held t v d p) : ∃ l : List Nat, v = .agg (l.map bv).toArray ∧ l.length = n ∧ Crc.Bytes l := by
  have hv' : ∃ cs, v = .agg cs := by
    simp only [Value.okWide, ht] at hv
    obtain ⟨cs, h1, _⟩ := hv
    exact ⟨cs, h1⟩
  obtain ⟨cs, rfl⟩ := hv'
  obtain ⟨f, hf⟩ := h
  obtain ⟨l, hl, h1, h2⟩ := trod_u8s ht he hce hct (by simpa [Value.cells] using hf)
  exact ⟨l, by rw [← hl], h1, h2⟩
theorem open_block {e : TypeId} {r : Reach} {b0 : Nat} {v : Value} {d : DataW H} {p : List MemPlace} (ht : P.underlying t = some (.array 8 e)) (he : P.underlying e = some (.int .u8)) (hce : P.cellsOf e = 1) (hct : P.cellsOf t = 8)
    (hv : Value.okWide P w r b0 t v) (h : DataW.Trod enc P w base spare held t v d p) :
    ∃ x0 x1 x2 x3 x4 x5 x6 x7 : Nat, v = .agg #[bv x0, bv x1, bv x2, bv x3, bv x4, bv x5, bv x6, bv x7] ∧ Crc.Bytes [x0, x1, x2, x3, x4, x5, x6, x7] := by
  obtain ⟨l, rfl, hl, hb⟩ := open_u8s ht he hce hct hv h
  match l, hl with
  | [x0, x1, x2, x3, x4, x5, x6, x7], _ => exact ⟨x0, x1, x2, x3, x4, x5, x6, x7, rfl, hb⟩
/-- A struct, opened field by field: the field's type and offset. -/
theorem trod_fields {fs : Array Field} (ht : P.underlying t = some (.struct fs)) (h : DataW.trod enc P w base spare held fuel t cs = some x) :
    ∃ (xs : List (DataW H × List MemPlace)) (n : Nat), cs.length = P.cellsOf t ∧ xs.length = fs.size ∧
      ∀ (i : Nat) (ty : TypeId) (o : Nat), (∃ f : Field, fs[i]? = some f ∧ f.type = ty ∧ f.offset = o) → ∃ y, DataW.trod enc P w base spare held n ty ((cs.drop o).take (P.cellsOf ty)) = some y := by
  obtain ⟨xs, n, _, _, hl, hlen, hg⟩ := DataW.trod_struct ht h
  refine ⟨xs, n, hl, hlen, fun i ty o ⟨f, h1, h2, h3⟩ => ?_⟩
  subst h2 h3
  have hi : i < fs.size := (Array.getElem?_eq_some_iff.1 h1).1
  exact ⟨_, (hg i f h1).trans (List.getElem?_eq_getElem (by omega))⟩
end

end Go.Proofs.Ytijhmopejadpdaa

/- Arguments by value: an entry; two bytes; twenty-nine bytes. -/
import Derived.Test.YtibmigeikkmofaaRows
import Derived.Test.YtibmigeikkmofaaOpen
import Derived.Test.YtibmigeikkmofaaE3
namespace Go.Proofs.Ytibmigeikkmofaa
open Go.RowKit Go.ChangeShapes Go.WideShapes

theorem cellsE : Try.prog.cellsOf 26 = 11 := by kernel_rfl
theorem cellsI : Try.prog.cellsOf 3 = 1 := by kernel_rfl
theorem cellsU : Try.prog.cellsOf 22 = 1 := by kernel_rfl
theorem cellsB : Try.prog.cellsOf 24 = 8 := by kernel_rfl
theorem cells8 : Try.prog.cellsOf 5 = 1 := by kernel_rfl
theorem open_entry {H : Type} {enc : TypeId × Value → H} {w : World} {base : Nat} {spare : Nat → Bool} {held : Bool} {r : Reach} {b0 : Nat} {v : Value} {d : DataW H} {p : List MemPlace}
    (hv : Value.okWide Try.prog w r b0 26 v) (h : DataW.Trod enc Try.prog w base spare held 26 v d p) :
    ∃ (kd bl : Int) (ver x0 x1 x2 x3 x4 x5 x6 x7 : Nat), v = .agg #[.int .i64 kd, .int .i64 bl, .int .u64 (ver : Int), bv x0, bv x1, bv x2, bv x3, bv x4, bv x5, bv x6, bv x7] ∧ ver < 18446744073709551616 ∧ Crc.Bytes [x0, x1, x2, x3, x4, x5, x6, x7] := by
  obtain ⟨cs, rfl, hsz⟩ := okWide_struct Try.underlying26 hv
  obtain ⟨l⟩ := cs
  obtain ⟨f, hf⟩ := h
  obtain ⟨xs, n, hl, hlen, fld⟩ := trod_fields Try.underlying26 (by simpa [Value.cells] using hf)
  rw [cellsE] at hl
  match l, hl with
  | [c0, c1, c2, c3, c4, c5, c6, c7, c8, c9, c10], _ =>
    obtain ⟨y0, g0⟩ := fld 0 3 0 ⟨_, rfl, rfl, rfl⟩
    obtain ⟨y1, g1⟩ := fld 1 3 1 ⟨_, rfl, rfl, rfl⟩
    obtain ⟨y2, g2⟩ := fld 2 22 2 ⟨_, rfl, rfl, rfl⟩
    obtain ⟨y3, g3⟩ := fld 3 24 3 ⟨_, rfl, rfl, rfl⟩
    rw [cellsI] at g0 g1
    rw [cellsU] at g2
    rw [cellsB] at g3
    obtain ⟨kd, e0, _, _⟩ := DataW.trod_int Try.underlying3 g0
    obtain ⟨bl, e1, _, _⟩ := DataW.trod_int Try.underlying3 g1
    obtain ⟨ver, e2, _, w2⟩ := DataW.trod_int Try.underlying22 g2
    obtain ⟨D, e3, h8, hb⟩ := trod_u8s Try.underlying24 Try.underlying5 cells8 cellsB g3
    obtain ⟨ver, rfl, hver⟩ := wf_u64 w2
    match D, h8 with
    | [x0, x1, x2, x3, x4, x5, x6, x7], _ =>
      simp at e0 e1 e2 e3
      obtain ⟨rfl, rfl, rfl, rfl, rfl, rfl, rfl, rfl⟩ := e3
      subst e0 e1 e2
      exact ⟨kd, bl, ver, x0, x1, x2, x3, x4, x5, x6, x7, rfl, hver, hb⟩

theorem open_two {H : Type} {enc : TypeId × Value → H} {w : World} {base : Nat} {spare : Nat → Bool} {held : Bool} {r : Reach} {b0 : Nat} {v : Value} {d : DataW H} {p : List MemPlace}
    (hv : Value.okWide Try.prog w r b0 40 v) (h : DataW.Trod enc Try.prog w base spare held 40 v d p) : ∃ a b : Nat, v = .agg #[bv a, bv b] ∧ a < 256 ∧ b < 256 := by
  obtain ⟨l, rfl, hl, hb⟩ := open_u8s Try.underlying40 Try.underlying5 cells8 (by kernel_rfl) hv h
  match l, hl with
  | [a, b], _ => exact ⟨a, b, rfl, hb a (by simp), hb b (by simp)⟩

end Go.Proofs.Ytibmigeikkmofaa

/- An argument by value: twenty-nine bytes. -/
import Derived.Test.YtibmigeikkmofaaEO
namespace Go.Proofs.Ytibmigeikkmofaa
open Go.RowKit Go.ChangeShapes Go.WideShapes

theorem open_29 {H : Type} {enc : TypeId × Value → H} {w : World} {base : Nat} {spare : Nat → Bool} {held : Bool} {r : Reach} {b0 : Nat} {v : Value} {d : DataW H} {p : List MemPlace}
    (hv : Value.okWide Try.prog w r b0 36 v) (h : DataW.Trod enc Try.prog w base spare held 36 v d p) : ∃ (l : List Nat) (cs : Array Value), v = .agg cs ∧ cs = (l.map bv).toArray ∧ l.length = 29 ∧ Crc.Bytes l := by
  obtain ⟨l, rfl, hl, hb⟩ := open_u8s Try.underlying36 Try.underlying5 cells8 (by kernel_rfl) hv h
  exact ⟨l, _, rfl, rfl, hl, hb⟩

end Go.Proofs.Ytibmigeikkmofaa

/- The walk over same. -/
import Derived.Test.YtijhmopejadpdaaR15
import Derived.Test.YtijhmopejadpdaaR13
namespace Go.Proofs.Ytijhmopejadpdaa
open Go.RowKit

set_option maxHeartbeats 1000000 in
theorem same_any (L : List (List Nat)) (B n c1 c2 : Nat) (A1 A2 : Option Addr) (w : World) (h1 : RS w B A1 n L) (h2 : RS w B A2 n L) (hB : B ≤ w.heap.size) (hn : n ≤ 65536) :
    Calls Try.prog 12 #[.slice A1 n c1, .slice A2 n c2] w fun e w' => e = .returned (.bool true) ∧ Below w.heap.size w w' := by
  have H1 := Lib.hid h1
  have H2 := Lib.hid h2
  clear h1 h2
  have tt : ((n : Int) != (n : Int)) = false := by simp
  go_enter Try.func12, Try.ntmps12
  go_wp2_with fail
  go_loopw [5] (fun s5 wr => ∃ i : Nat, i ≤ n ∧ s5 = .int .i64 (i : Int) ∧ Below w.heap.size w wr) (fun s5 _ => n - (intOf s5).toNat)
  case atStart => exact ⟨0, by omega, rfl, Below.refl _ _⟩
  case round =>
    obtain ⟨i, hi, rfl, hb⟩ := hrel
    by_cases hlt : i < n
    · obtain ⟨a1, rfl, hb1, he1⟩ := H1.out.2.2 (by omega)
      obtain ⟨a2, rfl, hb2, he2⟩ := H2.out.2.2 (by omega)
      obtain ⟨Y1, d1, q1, hr1, _⟩ := he1 i hlt
      obtain ⟨Y2, d2, q2, hr2, _⟩ := he2 i hlt
      have q1' := (hb.cell (p := a1.add i) (by rw [block_of_add]; omega)).trans q1
      have q2' := (hb.cell (p := a2.add i) (by rw [block_of_add]; omega)).trans q2
      have r1 : RB wr.drew B Y1 (L.getD i []).length (L.getD i []) := (hr1.below (hb.mono hB)).drew
      have r2 : RB wr.drew B Y2 (L.getD i []).length (L.getD i []) := (hr2.below (hb.mono hB)).drew
      generalize L.getD i [] = l at q1' q2' r1 r2 q1 q2 hr1 hr2
      generalize hln : l.length = nl at q1' q2' r1 r2 q1 q2 hr1 hr2
      have qc1 := run_convert_rb (P := Try.prog) 22 5 9 d1 Try.underlying22 Try.underlying5 Try.underlying9 r1
      have qc2 := run_convert_rb (P := Try.prog) 22 5 9 d2 Try.underlying22 Try.underlying5 Try.underlying9 r2
      have HBr := Lib.hid hb
      clear he1 he2 q1 q2 hr1 hr2 r1 r2 hb hln
      go_wp2_with fail
      go_region
      all_goals go_wp2_with fail
      all_goals go_roundw
      case rel => exact ⟨i + 1, by omega, by go_num, HBr.out.drew⟩
      case measure => simp [intOf]; omega
    · have HBr := Lib.hid hb
      clear hb
      go_wp2
      go_ret
      exact ⟨rfl, HBr.out⟩

end Go.Proofs.Ytijhmopejadpdaa

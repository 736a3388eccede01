/- Arguments by value: a write; a leaf; a leaf with pieces; slices of numbers, bools and blocks. -/
import Derived.Test.YtejhfollfmdmpaaRows
import Derived.Test.YtejhfollfmdmpaaOpen
import Derived.Test.YtejhfollfmdmpaaP8
namespace Go.Proofs.Ytejhfollfmdmpaa
open Go.RowKit Go.ChangeShapes Go.WideShapes

theorem cellsI : Try.prog.cellsOf 3 = 1 := by kernel_rfl
theorem cellsU : Try.prog.cellsOf 22 = 1 := by kernel_rfl
theorem cellsO : Try.prog.cellsOf 4 = 1 := by kernel_rfl
theorem cellsB : Try.prog.cellsOf 24 = 8 := by kernel_rfl
theorem cells8 : Try.prog.cellsOf 5 = 1 := by kernel_rfl
theorem cellsW : Try.prog.cellsOf 26 = 11 := by kernel_rfl
theorem cellsL : Try.prog.cellsOf 32 = 2 := by kernel_rfl
theorem cellsSU : Try.prog.cellsOf 30 = 1 := by kernel_rfl
theorem cellsSO : Try.prog.cellsOf 36 = 1 := by kernel_rfl
theorem cellsSB : Try.prog.cellsOf 35 = 1 := by kernel_rfl
theorem cellsP : Try.prog.cellsOf 38 = 6 := by kernel_rfl

section
variable {H : Type} {enc : TypeId × Value → H} {P : Program} {w : World} {base : Nat} {spare : Nat → Bool} {held : Bool} {fuel : Nat} {t : TypeId} {cs : List Value} {x : DataW H × List MemPlace}
/-- A slice, opened: its elements' cells. -/
theorem trod_row {e : TypeId} (ht : P.underlying t = some (.slice e)) (h : DataW.trod enc P w base spare held fuel t cs = some x) :
    ∃ (A : Option Addr) (n c : Nat), cs = [.slice A n c] ∧ n ≤ c ∧ c ≤ maxLen ∧ (0 < n → ∃ a, A = some a) ∧
      ∀ a i, A = some a → i < n → ∃ (ys : List Value) (m : Nat) (y : DataW H × List MemPlace), w.cells? base (a.add (i * P.cellsOf e)) (P.cellsOf e) = some ys ∧ DataW.trod enc P w base spare held m e ys = some y := by
  rcases DataW.trod_slice ht h with ⟨rfl, _⟩ | ⟨a, len, cap, elems, rest, m, _, rfl, _, _, h1, h2, h3, h4, _⟩
  · exact ⟨none, 0, 0, rfl, Nat.le_refl _, Nat.zero_le _, fun h => absurd h (Nat.lt_irrefl 0), fun a i e => (by cases e)⟩
  · refine ⟨some a, len, cap, rfl, h1, h2, fun _ => ⟨a, rfl⟩, fun a' i e hi => ?_⟩
    injection e with e
    subst e
    have h5 := h4 i hi
    rw [List.getElem?_eq_getElem (show i < elems.length by omega)] at h5
    obtain ⟨ys, g1, g2⟩ := Option.bind_eq_some_iff.1 h5
    exact ⟨ys, m, _, g1, g2⟩
/-- Cells of one cell each as a list. -/
theorem list_of_each {α : Type} (f : α → Value) (ok : α → Prop) (w : World) (ad : Addr) (n : Nat) (h : ∀ i, i < n → ∃ b, w.cell? (ad.add i) = some (f b) ∧ ok b) :
    ∃ l : List α, l.length = n ∧ (∀ b ∈ l, ok b) ∧ ∀ j u, (l.map f)[j]? = some u → w.cell? (ad.add j) = some u := by
  induction n with
  | zero => exact ⟨[], rfl, fun _ h => (by cases h), fun j u hu => by simp at hu⟩
  | succ n ih =>
    obtain ⟨l, h1, h2, h3⟩ := ih (fun i hi => h i (by omega))
    obtain ⟨b, h4, h5⟩ := h n (by omega)
    refine ⟨l ++ [b], by simp [h1], fun y hy => ?_, fun j u hu => ?_⟩
    · rcases List.mem_append.1 hy with hy | hy
      · exact h2 y hy
      · rw [List.mem_singleton.1 hy]; exact h5
    · rw [List.map_append, List.getElem?_append] at hu
      split at hu
      · exact h3 j u hu
      · rename_i hj
        rw [List.length_map, h1] at hu hj
        rcases Nat.lt_or_ge n j with hlt | hge
        · rw [List.getElem?_eq_none (by simp; omega)] at hu; cases hu
        · have ej : j = n := by omega
          subst ej
          rw [Nat.sub_self] at hu
          rw [h4, ← hu]
          rfl
theorem block_of_cell {w : World} {a : Addr} {v : Value} (h : w.cell? a = some v) : a.block < w.heap.size := by
  rcases Nat.lt_or_ge a.block w.heap.size with h0 | h0
  · exact h0
  · unfold World.cell? at h
    rw [Array.getElem?_eq_none h0] at h
    cases h
theorem trod_cells {α : Type} (f : α → Value) (ok : α → Prop) {e : TypeId} (ht : P.underlying t = some (.slice e)) (hce : P.cellsOf e = 1)
    (hof : ∀ m ys y, DataW.trod enc P w base spare held m e ys = some y → ∃ b, ys = [f b] ∧ ok b) (h : DataW.trod enc P w base spare held fuel t cs = some x) :
    ∃ (A : Option Addr) (n c : Nat) (l : List α), cs = [.slice A n c] ∧ n ≤ c ∧ c ≤ maxLen ∧ l.length = n ∧ (∀ b ∈ l, ok b) ∧ Reads w w.heap.size 1 A n (l.map f) := by
  obtain ⟨A, n, c, rfl, h1, h2, h3, h4⟩ := trod_row ht h
  rw [hce] at h4
  have h4' : ∀ a i, A = some a → i < n → ∃ b, w.cell? (a.add i) = some (f b) ∧ ok b := fun a i e hi => by
    obtain ⟨ys, m, y, g1, g2⟩ := h4 a i e hi
    obtain ⟨b, rfl, hb⟩ := hof m ys y g2
    rw [Nat.mul_one] at g1
    exact ⟨b, cell_of_cells?_one g1, hb⟩
  rcases Nat.eq_zero_or_pos n with h0 | h0
  · subst h0
    exact ⟨A, 0, c, [], rfl, h1, h2, rfl, fun _ h => (by cases h), rfl, fun h => absurd h (Nat.lt_irrefl 0)⟩
  · obtain ⟨a, rfl⟩ := h3 h0
    obtain ⟨l, g1, g2, g3⟩ := list_of_each f ok w a n (fun i hi => h4' a i rfl hi)
    refine ⟨some a, n, c, l, rfl, h1, h2, g1, g2, by simp [g1], fun _ => ⟨a, rfl, ?_, g3⟩⟩
    obtain ⟨b, g4, _⟩ := h4' a 0 rfl h0
    have := block_of_cell g4
    rwa [block_of_add] at this
theorem trod_u64s {e : TypeId} (ht : P.underlying t = some (.slice e)) (he : P.underlying e = some (.int .u64)) (hce : P.cellsOf e = 1) (h : DataW.trod enc P w base spare held fuel t cs = some x) :
    ∃ (A : Option Addr) (n c : Nat) (l : List Nat), cs = [.slice A n c] ∧ n ≤ c ∧ c ≤ maxLen ∧ (∀ b ∈ l, b < 18446744073709551616) ∧ RU w w.heap.size A n l := by
  obtain ⟨A, n, c, l, h1, h2, h3, _, h5, h6⟩ := trod_cells uv (fun b => b < 18446744073709551616) ht hce (fun m ys y hy => by
    obtain ⟨n, rfl, _, hw⟩ := DataW.trod_int he hy
    obtain ⟨b, rfl, hb⟩ := wf_u64 hw
    exact ⟨b, rfl, hb⟩) h
  exact ⟨A, n, c, l, h1, h2, h3, h5, h6⟩
theorem trod_bools {e : TypeId} (ht : P.underlying t = some (.slice e)) (he : P.underlying e = some .bool) (hce : P.cellsOf e = 1) (h : DataW.trod enc P w base spare held fuel t cs = some x) :
    ∃ (A : Option Addr) (n c : Nat) (l : List Bool), cs = [.slice A n c] ∧ n ≤ c ∧ c ≤ maxLen ∧ RL w w.heap.size A n l := by
  obtain ⟨A, n, c, l, h1, h2, h3, _, _, h6⟩ := trod_cells Value.bool (fun _ => True) ht hce (fun m ys y hy => by
    obtain ⟨n, rfl, _⟩ := DataW.trod_bool he hy
    exact ⟨n, rfl, trivial⟩) h
  exact ⟨A, n, c, l, h1, h2, h3, h6⟩
theorem cells_each {w : World} {base : Nat} {a : Addr} {n : Nat} {ys : List Value} (h : w.cells? base a n = some ys) (j : Nat) (hj : j < n) : w.cell? (a.add j) = ys[j]? := by
  unfold World.cells? at h
  split at h
  · exact mapM_some_get h j j (by simp [hj])
  · cases h
theorem blocks_of_each (w : World) (ad : Addr) (n : Nat) (h : ∀ i, i < n → ∃ d : List Nat, d.length = 8 ∧ Crc.Bytes d ∧ ∀ j, j < 8 → w.cell? ((ad.add (i * 8)).add j) = some (bv (d.getD j 0))) :
    ∃ ds : List (List Nat), ds.length = n ∧ ∀ i, i < n → (ds.getD i []).length = 8 ∧ Crc.Bytes (ds.getD i []) ∧ ∀ j, j < 8 → w.cell? ((ad.add (i * 8)).add j) = some (bv ((ds.getD i []).getD j 0)) := by
  induction n with
  | zero => exact ⟨[], rfl, fun i hi => (by omega)⟩
  | succ n ih =>
    obtain ⟨ds, h1, h2⟩ := ih (fun i hi => h i (by omega))
    obtain ⟨d, h3⟩ := h n (by omega)
    refine ⟨ds ++ [d], by simp [h1], fun i hi => ?_⟩
    rw [List.getD_eq_getElem?_getD, List.getElem?_append]
    by_cases e : i < n
    · rw [if_pos (by omega), ← List.getD_eq_getElem?_getD]; exact h2 i e
    · have ei : i = n := by omega
      subst ei
      rw [if_neg (by omega), h1, Nat.sub_self]
      exact h3
theorem trod_blocks {e b8 : TypeId} (ht : P.underlying t = some (.slice e)) (he : P.underlying e = some (.array 8 b8)) (h8 : P.underlying b8 = some (.int .u8)) (hc8 : P.cellsOf b8 = 1) (hce : P.cellsOf e = 8) (h : DataW.trod enc P w base spare held fuel t cs = some x) :
    ∃ (A : Option Addr) (n c : Nat) (ds : List (List Nat)), cs = [.slice A n c] ∧ n ≤ c ∧ c ≤ maxLen ∧ RD w w.heap.size A n ds := by
  obtain ⟨A, n, c, rfl, h1, h2, h3, h4⟩ := trod_row ht h
  rw [hce] at h4
  have h4' : ∀ a i, A = some a → i < n → ∃ d : List Nat, d.length = 8 ∧ Crc.Bytes d ∧ ∀ j, j < 8 → w.cell? ((a.add (i * 8)).add j) = some (bv (d.getD j 0)) := fun a i ea hi => by
    obtain ⟨ys, m, y, g1, g2⟩ := h4 a i ea hi
    obtain ⟨d, rfl, g3, g4⟩ := trod_u8s he h8 hc8 hce g2
    refine ⟨d, g3, g4, fun j hj => ?_⟩
    rw [cells_each g1 j hj, List.getElem?_map, List.getElem?_eq_getElem (by omega), List.getD_eq_getElem?_getD, List.getElem?_eq_getElem (by omega)]
    rfl
  rcases Nat.eq_zero_or_pos n with h0 | h0
  · subst h0
    exact ⟨A, 0, c, [], rfl, h1, h2, rfl, fun i hi => (by omega), fun h => absurd h (Nat.lt_irrefl 0)⟩
  · obtain ⟨a, rfl⟩ := h3 h0
    obtain ⟨ds, g1, g2⟩ := blocks_of_each w a n (fun i hi => h4' a i rfl hi)
    refine ⟨some a, n, c, ds, rfl, h1, h2, g1, fun i hi => ?_, fun _ => ⟨a, rfl, ?_, fun i j hi hj => (g2 i hi).2.2 j hj⟩⟩
    · obtain ⟨k1, k2, _⟩ := g2 i hi
      match hd : ds.getD i [], k1 with
      | [x0, x1, x2, x3, x4, x5, x6, x7], _ => exact ⟨x0, x1, x2, x3, x4, x5, x6, x7, rfl, by rw [hd] at k2; exact k2⟩
    · obtain ⟨d, _, _, g4⟩ := h4' a 0 rfl h0
      have := block_of_cell (g4 0 (by omega))
      rwa [block_of_add, block_of_add] at this
end

theorem open_write {H : Type} {enc : TypeId × Value → H} {w : World} {base : Nat} {spare : Nat → Bool} {held : Bool} {r : Reach} {b0 : Nat} {v : Value} {d : DataW H} {p : List MemPlace}
    (hv : Value.okWide Try.prog w r b0 26 v) (h : DataW.Trod enc Try.prog w base spare held 26 v d p) :
    ∃ (g pc : Int) (ver x0 x1 x2 x3 x4 x5 x6 x7 : Nat), v = .agg #[.int .i64 g, .int .i64 pc, .int .u64 (ver : Int), bv x0, bv x1, bv x2, bv x3, bv x4, bv x5, bv x6, bv x7] ∧ ver < 18446744073709551616 ∧ Crc.Bytes [x0, x1, x2, x3, x4, x5, x6, x7] := by
  obtain ⟨cs, rfl, hsz⟩ := okWide_struct Try.underlying26 hv
  obtain ⟨l⟩ := cs
  obtain ⟨f, hf⟩ := h
  obtain ⟨xs, n, hl, hlen, fld⟩ := trod_fields Try.underlying26 (by simpa [Value.cells] using hf)
  rw [cellsW] at hl
  match l, hl with
  | [c0, c1, c2, c3, c4, c5, c6, c7, c8, c9, c10], _ =>
    obtain ⟨y0, g0⟩ := fld 0 3 0 ⟨_, rfl, rfl, rfl⟩
    obtain ⟨y1, g1⟩ := fld 1 3 1 ⟨_, rfl, rfl, rfl⟩
    obtain ⟨y2, g2⟩ := fld 2 22 2 ⟨_, rfl, rfl, rfl⟩
    obtain ⟨y3, g3⟩ := fld 3 24 3 ⟨_, rfl, rfl, rfl⟩
    rw [cellsI] at g0 g1
    rw [cellsU] at g2
    rw [cellsB] at g3
    obtain ⟨kd, e0, _, _⟩ := DataW.trod_int Try.underlying3 g0
    obtain ⟨bl, e1, _, _⟩ := DataW.trod_int Try.underlying3 g1
    obtain ⟨ver, e2, _, w2⟩ := DataW.trod_int Try.underlying22 g2
    obtain ⟨D, e3, h8, hb⟩ := trod_u8s Try.underlying24 Try.underlying5 cells8 cellsB g3
    obtain ⟨ver, rfl, hver⟩ := wf_u64 w2
    match D, h8 with
    | [x0, x1, x2, x3, x4, x5, x6, x7], _ =>
      simp at e0 e1 e2 e3
      obtain ⟨rfl, rfl, rfl, rfl, rfl, rfl, rfl, rfl⟩ := e3
      subst e0 e1 e2
      exact ⟨kd, bl, ver, x0, x1, x2, x3, x4, x5, x6, x7, rfl, hver, hb⟩

theorem open_leaf {H : Type} {enc : TypeId × Value → H} {w : World} {base : Nat} {spare : Nat → Bool} {held : Bool} {r : Reach} {b0 : Nat} {v : Value} {d : DataW H} {p : List MemPlace}
    (hv : Value.okWide Try.prog w r b0 32 v) (h : DataW.Trod enc Try.prog w base spare held 32 v d p) :
    ∃ (A1 A2 : Option Addr) (n1 c1 n2 c2 : Nat) (l1 l2 : List Nat), v = .agg #[.slice A1 n1 c1, .slice A2 n2 c2] ∧ n1 ≤ c1 ∧ c1 ≤ maxLen ∧ n2 ≤ c2 ∧ c2 ≤ maxLen ∧ (∀ b ∈ l1, b < 18446744073709551616) ∧ (∀ b ∈ l2, b < 18446744073709551616) ∧
      RU w w.heap.size A1 n1 l1 ∧ RU w w.heap.size A2 n2 l2 := by
  obtain ⟨cs, rfl, hsz⟩ := okWide_struct Try.underlying32 hv
  obtain ⟨l⟩ := cs
  obtain ⟨f, hf⟩ := h
  obtain ⟨xs, n, hl, hlen, fld⟩ := trod_fields Try.underlying32 (by simpa [Value.cells] using hf)
  rw [cellsL] at hl
  match l, hl with
  | [k0, k1], _ =>
    obtain ⟨y0, g0⟩ := fld 0 30 0 ⟨_, rfl, rfl, rfl⟩
    obtain ⟨y1, g1⟩ := fld 1 30 1 ⟨_, rfl, rfl, rfl⟩
    rw [cellsSU] at g0 g1
    obtain ⟨A1, n1, c1, l1, e1, a1, b1, o1, r1⟩ := trod_u64s Try.underlying30 Try.underlying22 cellsU g0
    obtain ⟨A2, n2, c2, l2, e2, a2, b2, o2, r2⟩ := trod_u64s Try.underlying30 Try.underlying22 cellsU g1
    simp at e1 e2
    subst e1 e2
    exact ⟨A1, A2, n1, c1, n2, c2, l1, l2, rfl, a1, b1, a2, b2, o1, o2, r1, r2⟩

theorem open_pieces {H : Type} {enc : TypeId × Value → H} {w : World} {base : Nat} {spare : Nat → Bool} {held : Bool} {r : Reach} {b0 : Nat} {v : Value} {d : DataW H} {p : List MemPlace}
    (hv : Value.okWide Try.prog w r b0 38 v) (h : DataW.Trod enc Try.prog w base spare held 38 v d p) :
    ∃ (A1 A2 A3 A4 A5 : Option Addr) (n1 c1 n2 c2 n3 c3 n4 c4 n5 c5 : Nat) (g : Int) (l1 l2 vs : List Nat) (ds : List (List Nat)) (ps : List Bool), v = .agg #[.slice A1 n1 c1, .slice A2 n2 c2, .int .i64 g, .slice A3 n3 c3, .slice A4 n4 c4, .slice A5 n5 c5] ∧
      RU w w.heap.size A1 n1 l1 ∧ RU w w.heap.size A2 n2 l2 ∧ RU w w.heap.size A3 n3 vs ∧ RD w w.heap.size A4 n4 ds ∧ RL w w.heap.size A5 n5 ps := by
  obtain ⟨cs, rfl, hsz⟩ := okWide_struct Try.underlying38 hv
  obtain ⟨l⟩ := cs
  obtain ⟨f, hf⟩ := h
  obtain ⟨xs, n, hl, hlen, fld⟩ := trod_fields Try.underlying38 (by simpa [Value.cells] using hf)
  rw [cellsP] at hl
  match l, hl with
  | [k0, k1, k2, k3, k4, k5], _ =>
    obtain ⟨y0, g0⟩ := fld 0 32 0 ⟨_, rfl, rfl, rfl⟩
    obtain ⟨y1, g1⟩ := fld 1 3 2 ⟨_, rfl, rfl, rfl⟩
    obtain ⟨y2, g2⟩ := fld 2 30 3 ⟨_, rfl, rfl, rfl⟩
    obtain ⟨y3, g3⟩ := fld 3 35 4 ⟨_, rfl, rfl, rfl⟩
    obtain ⟨y4, g4⟩ := fld 4 36 5 ⟨_, rfl, rfl, rfl⟩
    rw [cellsL] at g0
    rw [cellsI] at g1
    rw [cellsSU] at g2
    rw [cellsSB] at g3
    rw [cellsSO] at g4
    obtain ⟨xs', n', hl', hlen', fld'⟩ := trod_fields Try.underlying32 g0
    obtain ⟨z0, g5⟩ := fld' 0 30 0 ⟨_, rfl, rfl, rfl⟩
    obtain ⟨z1, g6⟩ := fld' 1 30 1 ⟨_, rfl, rfl, rfl⟩
    rw [cellsSU] at g5 g6
    obtain ⟨A1, n1, c1, l1, e1, a1, b1, o1, r1⟩ := trod_u64s Try.underlying30 Try.underlying22 cellsU g5
    obtain ⟨A2, n2, c2, l2, e2, a2, b2, o2, r2⟩ := trod_u64s Try.underlying30 Try.underlying22 cellsU g6
    obtain ⟨g, e3, _, _⟩ := DataW.trod_int Try.underlying3 g1
    obtain ⟨A3, n3, c3, vs, e4, a3, b3, o3, r3⟩ := trod_u64s Try.underlying30 Try.underlying22 cellsU g2
    obtain ⟨A4, n4, c4, ds, e5, a4, b4, r4⟩ := trod_blocks Try.underlying35 Try.underlying24 Try.underlying5 cells8 cellsB g3
    obtain ⟨A5, n5, c5, ps, e6, a5, b5, r5⟩ := trod_bools Try.underlying36 Try.underlying4 cellsO g4
    simp at e1 e2 e3 e4 e5 e6
    subst e1 e2 e3 e4 e5 e6
    exact ⟨A1, A2, A3, A4, A5, n1, c1, n2, c2, n3, c3, n4, c4, n5, c5, g, l1, l2, vs, ds, ps, rfl, r1, r2, r3, r4, r5⟩

end Go.Proofs.Ytejhfollfmdmpaa

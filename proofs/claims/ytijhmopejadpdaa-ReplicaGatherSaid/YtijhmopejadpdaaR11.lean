/- Three copies in memory, of which each element is a sector or nothing; a blob of which a sector is lost. -/
import Derived.Test.YtijhmopejadpdaaR9
namespace Go.Proofs.Ytijhmopejadpdaa
open Go.RowKit

theorem lost_gath {cs : List (List (List Nat))} {gen lost M : Nat} (only : ∀ ls, ls ∈ cs → ∀ i, usB ls i gen = true → i ≠ lost ∧ mOf ls i = M) (hlost : lost < M) : gathG cs gen = none := by
  unfold gathG
  split
  · rfl
  · rename_i i _
    split
    · rfl
    · rename_i ls hc
      rw [(only ls (fst_mem hc) i (Bool.and_eq_true_iff.1 (fst_serves hc)).1).2]
      refine coll_none (k := lost + 1) ?_ M hlost
      have hf : fstC cs lost gen M = none := List.find?_eq_none.2 (fun ls' hls hs => (only ls' hls lost (Bool.and_eq_true_iff.1 hs).1).1 rfl)
      rw [coll]
      split
      · rfl
      · rw [hf]
/-- Three copies: element j of copy c is string j where p says so, and empty elsewhere. -/
def gcell (L : List (List Nat)) (p : Nat → Nat → Bool) (c j : Nat) : List Nat := if p c j then L.getD j [] else []
def gcs (m : Nat) (L : List (List Nat)) (p : Nat → Nat → Bool) : List (List (List Nat)) := (List.range 3).map fun c => (List.range m).map fun j => gcell L p c j
theorem gcs_mem {m : Nat} {L : List (List Nat)} {p : Nat → Nat → Bool} {ls : List (List Nat)} (h : ls ∈ gcs m L p) : ∃ c, c < 3 ∧ ls = (List.range m).map fun j => gcell L p c j := by
  obtain ⟨c, h1, h2⟩ := List.mem_map.1 h
  exact ⟨c, List.mem_range.1 h1, h2.symm⟩
theorem grow_get {m : Nat} {L : List (List Nat)} {p : Nat → Nat → Bool} {c i : Nat} (hi : i < m) : ((List.range m).map fun j => gcell L p c j).getD i [] = gcell L p c i := by
  rw [List.getD_eq_getElem?_getD, List.getElem?_map, List.getElem?_range hi]; rfl
theorem us_nil {ls : List (List Nat)} {i gen : Nat} (h : ls.getD i [] = []) : usB ls i gen = false := by
  cases hu : usB ls i gen
  · rfl
  · have h2 := of_decide_eq_true (us_ok hu)
    rw [h] at h2
    simp at h2
theorem grid_only {blob : List Nat} {gen : Nat} {p : Nat → Nat → Bool} {ls : List (List Nat)} {i : Nat} (h : ls ∈ gcs (Crc.chunkM blob.length) (Crc.secs blob gen) p) (hu : usB ls i gen = true) :
    i < Crc.chunkM blob.length ∧ ls.getD i [] = Crc.secB gen i (Crc.chunkM blob.length) (Crc.chunkOf blob i) ∧ ∃ c, c < 3 ∧ p c i = true := by
  obtain ⟨c, hc, rfl⟩ := gcs_mem h
  have hi := us_lt hu
  rw [List.length_map, List.length_range] at hi
  have hg := grow_get (L := Crc.secs blob gen) (p := p) (c := c) hi
  by_cases hp : p c i = true
  · refine ⟨hi, ?_, c, hc, hp⟩
    rw [hg, gcell, if_pos hp, Crc.secs_get _ _ _ hi]
  · rw [us_nil (by rw [hg, gcell, if_neg hp])] at hu
    cases hu
theorem grid_holds {blob : List Nat} {gen : Nat} {p : Nat → Nat → Bool} (h : ∀ i, i < Crc.chunkM blob.length → ∃ c, c < 3 ∧ p c i = true) : Holds (gcs (Crc.chunkM blob.length) (Crc.secs blob gen) p) blob gen := by
  refine ⟨fun i hi => ?_, fun ls hls i hu => ⟨(grid_only hls hu).1, (grid_only hls hu).2.1⟩⟩
  obtain ⟨c, hc, hp⟩ := h i hi
  refine ⟨(List.range (Crc.chunkM blob.length)).map fun j => gcell (Crc.secs blob gen) p c j, List.mem_map.2 ⟨c, List.mem_range.2 hc, rfl⟩, by simpa using hi, ?_⟩
  rw [grow_get hi, gcell, if_pos hp, Crc.secs_get _ _ _ hi]
theorem grid_lost {blob : List Nat} {gen lost : Nat} {p : Nat → Nat → Bool} (hg : gen < 18446744073709551616) (hb : Crc.Bytes blob) (hM : Crc.chunkM blob.length < 4294967296) (hl : lost < Crc.chunkM blob.length) (h : ∀ c, c < 3 → p c lost = false) : gathG (gcs (Crc.chunkM blob.length) (Crc.secs blob gen) p) gen = none := by
  refine lost_gath (lost := lost) (M := Crc.chunkM blob.length) (fun ls hls i hu => ?_) hl
  obtain ⟨h1, h2, c, h3, h4⟩ := grid_only hls hu
  exact ⟨fun e => (by rw [e, h c h3] at h4; cases h4), (us_sec hg hb hM h1 (us_lt hu) h2).2⟩

/-- The three copies' memory. -/
def Grid (w : World) (b m : Nat) (F : Nat → Nat → Value) : Prop :=
  Blk w b 25 #[.slice (some ⟨b + 1, 0, none⟩) m m, .slice (some ⟨b + 2, 0, none⟩) m m, .slice (some ⟨b + 3, 0, none⟩) m m] ∧
    ∀ c, c < 3 → ∃ C : Array Value, Blk w (b + 1 + c) 22 C ∧ C.size = m ∧ ∀ j, j < m → C[j]? = some (F c j)
section
variable {w w' : World} {b m : Nat} {F : Nat → Nat → Value}
theorem Grid.row (h : Grid w b m F) (c : Nat) (hc : c < 3) : w.cell? ⟨b, c, none⟩ = some (.slice (some ⟨b + 1 + c, 0, none⟩) m m) := by
  rw [h.1.cell]
  match c, hc with
  | 0, _ => rfl
  | 1, _ => rfl
  | 2, _ => rfl
theorem Grid.cell (h : Grid w b m F) (c j : Nat) (hc : c < 3) (hj : j < m) : w.cell? ⟨b + 1 + c, j, none⟩ = some (F c j) := by
  obtain ⟨C, h1, _, h3⟩ := h.2 c hc
  rw [h1.cell]; exact h3 j hj
theorem Grid.free (h : Grid w b m F) (c j : Nat) (hc : c < 3) : w.frozen? ⟨b + 1 + c, j, none⟩ = false := by
  obtain ⟨C, h1, _⟩ := h.2 c hc
  exact h1.frozen j
theorem Grid.drew (h : Grid w b m F) : Grid w.drew b m F := h
theorem Grid.lt (h : Grid w b m F) (c : Nat) (hc : c < 3) : b + 1 + c < w.heap.size := by
  obtain ⟨C, h1, _⟩ := h.2 c hc
  exact h1.lt
theorem Grid.below (h : Grid w b m F) (hb : Below w.heap.size w w') : Grid w' b m F :=
  ⟨h.1.below hb h.1.lt, fun c hc => by
    obtain ⟨C, h1, h2⟩ := h.2 c hc
    exact ⟨C, h1.below hb h1.lt, h2⟩⟩
theorem Grid.congr {F' : Nat → Nat → Value} (h : Grid w b m F) (he : ∀ c j, c < 3 → j < m → F c j = F' c j) : Grid w b m F' :=
  ⟨h.1, fun c hc => by
    obtain ⟨C, h1, h2, h3⟩ := h.2 c hc
    exact ⟨C, h1, h2, fun j hj => by rw [h3 j hj, he c j hc hj]⟩⟩
theorem Grid.set_ (h : Grid w b m F) (c j : Nat) (hj : j < m) (u : Value) : Grid (w.setCell ⟨b + 1 + c, j, none⟩ u) b m (fun c' j' => if c' = c ∧ j' = j then u else F c' j') := by
  refine ⟨h.1.far (by show b ≠ b + 1 + c; omega) u, fun c' hc' => ?_⟩
  obtain ⟨C, h1, h2, h3⟩ := h.2 c' hc'
  by_cases e : c' = c
  · subst e
    refine ⟨_, h1.set_ j u, by rw [Array.size_setIfInBounds]; exact h2, fun j' hj' => ?_⟩
    show _ = some (if c' = c' ∧ j' = j then u else F c' j')
    rw [Array.getElem?_setIfInBounds]
    by_cases ej : j = j'
    · subst ej
      rw [if_pos rfl, if_pos (by omega), if_pos ⟨rfl, rfl⟩]
    · rw [if_neg ej, if_neg (fun h => ej h.2.symm)]
      exact h3 j' hj'
  · refine ⟨C, h1.far (by show b + 1 + c' ≠ b + 1 + c; omega) u, h2, fun j' hj' => ?_⟩
    show _ = some (if c' = c ∧ j' = j then u else F c' j')
    rw [if_neg (fun h => e h.1)]
    exact h3 j' hj'
theorem Grid.rc {L : List (List Nat)} {p : Nat → Nat → Bool} {vs : List Value} {B : Nat} (h : Grid w b m (fun c j => if p c j then vs.getD j undef else .slice none 0 0))
    (hL : ∀ j, j < m → ∃ Y c, vs.getD j undef = .slice Y (L.getD j []).length c ∧ RB w B Y (L.getD j []).length (L.getD j []) ∧ (L.getD j []).length ≤ c ∧ Crc.Bytes (L.getD j []) ∧ (L.getD j []).length ≤ 65536) (hB : B ≤ w.heap.size) (hm : m ≤ 65536) :
    RC w w.heap.size (some ⟨b, 0, none⟩) 3 (gcs m L p) := by
  refine ⟨rfl, fun _ => ⟨_, rfl, h.1.lt, fun c hc => ⟨some ⟨b + 1 + c, 0, none⟩, m, m, ?_, ?_, by omega⟩⟩⟩
  · rw [add_zero_block]; exact h.row c hc
  have e : (gcs m L p).getD c [] = (List.range m).map fun j => gcell L p c j := by
    unfold gcs
    rw [List.getD_eq_getElem?_getD, List.getElem?_map, List.getElem?_range hc]; rfl
  rw [e]
  refine ⟨by simp, fun j hj => ?_, fun _ => ⟨_, rfl, h.lt c hc, fun j hj => ?_⟩⟩
  · rw [grow_get hj, gcell]
    obtain ⟨_, _, _, _, _, h1, h2⟩ := hL j hj
    split
    · exact ⟨h1, h2⟩
    · exact ⟨fun b hb => (by cases hb), Nat.zero_le _⟩
  · rw [grow_get hj, add_zero_block, h.cell c j hc hj, gcell]
    obtain ⟨Y, cc, h1, h2, h3, _, _⟩ := hL j hj
    split
    · exact ⟨Y, cc, by rw [h1], Reads.more h2 hB, h3⟩
    · exact ⟨none, 0, rfl, rb_nil _ _ _, Nat.le_refl _⟩
end
/-- The copies being made. -/
def Rows3 (w : World) (b m i : Nat) (MC : Array Value) : Prop :=
  ∃ K : Array Value, Blk w b 25 K ∧ K.size = 3 ∧ (∀ c, c < i → K[c]? = some (.slice (some ⟨b + 1 + c, 0, none⟩) m m)) ∧ w.heap.size = b + 1 + i ∧ ∀ c, c < i → Blk w (b + 1 + c) 22 MC
section
variable {w w' : World} {b m i : Nat} {MC : Array Value}
theorem Rows3.cell (h : Rows3 w b m i MC) (hi : i < 3) : ∃ u, (w.alloc (.cells MC 22)).cell? ⟨b, i, none⟩ = some u := by
  obtain ⟨K, h1, h2, _⟩ := h
  exact ⟨K[i], ((h1.alloc _).cell i).trans (Array.getElem?_eq_getElem (by omega))⟩
theorem Rows3.free (h : Rows3 w b m i MC) : (w.alloc (.cells MC 22)).frozen? ⟨b, i, none⟩ = false := by
  obtain ⟨K, h1, h2, _⟩ := h
  exact (h1.alloc _).frozen i
theorem Rows3.next (h : Rows3 w b m i MC) (hi : i < 3) : Rows3 ((w.alloc (.cells MC 22)).setCell ⟨b, i, none⟩ (.slice (some ⟨w.heap.size, 0, none⟩) m m)) b m (i + 1) MC := by
  obtain ⟨K, h1, h2, h3, h4, h5⟩ := h
  refine ⟨_, (h1.alloc _).set_ i _, by rw [Array.size_setIfInBounds]; exact h2, fun c hc => ?_, by simp; omega, fun c hc => ?_⟩
  · rw [Array.getElem?_setIfInBounds]
    by_cases e : i = c
    · subst e
      rw [if_pos rfl, if_pos (by omega), h4]
    · rw [if_neg e]; exact h3 c (by omega)
  · refine Blk.far ?_ (by show b + 1 + c ≠ b; omega) _
    by_cases e : i = c
    · subst e
      rw [← h4]; exact Blk.new _ _ _
    · exact (h5 c (by omega)).alloc _
theorem Rows3.grid (h : Rows3 w b m 3 MC) (hs : MC.size = m) (hz : ∀ j, j < m → MC[j]? = some (.slice none 0 0)) : Grid w b m (fun _ _ => .slice none 0 0) := by
  obtain ⟨K, h1, h2, h3, h4, h5⟩ := h
  refine ⟨?_, fun c hc => ⟨MC, h5 c hc, hs, hz⟩⟩
  obtain ⟨l⟩ := K
  match l, h2 with
  | [k0, k1, k2], _ =>
    have e0 := h3 0 (by omega)
    have e1 := h3 1 (by omega)
    have e2 := h3 2 (by omega)
    simp at e0 e1 e2
    subst e0 e1 e2
    exact h1
end
theorem rowInfo : (Try.prog.info? 25).map (fun i => (i.zero, i.size, i.bytes)) = some (some (.slice none 0 0), 1, 24) := by kernel_rfl
theorem run_makeR {w : World} (n : Nat) (z : Int) (hz : z = (n : Int)) (hn : n ≤ 16777216) : (Instr.makeSlice 25 (.int .i64 z) (.int .i64 z)).run Try.prog w = .ok (.slice (some ⟨w.heap.size, 0, none⟩) n n) (w.alloc (.cells (madeCells (Value.slice none 0 0).cells (n * 1)) 22)) := by
  subst hz
  obtain ⟨i0, hi0, hz0, hz1, hz2⟩ := info_parts sliceInfo
  have h := run_make (P := Try.prog) w 25 22 i0 (.slice none 0 0) Try.underlying25 hi0 hz0 .i64 .i64 (n : Int) (n : Int) (by omega) (Int.le_refl _) (by rw [hz2]; omega) (by omega)
  rw [Int.toNat_natCast, hz1] at h
  exact h
theorem run_makeC {w : World} : (Instr.makeSlice 29 (.int .i64 3) (.int .i64 3)).run Try.prog w = .ok (.slice (some ⟨w.heap.size, 0, none⟩) 3 3) (w.alloc (.cells (madeCells (Value.slice none 0 0).cells (3 * 1)) 25)) := by
  obtain ⟨i0, hi0, hz0, hz1, hz2⟩ := info_parts rowInfo
  have h := run_make (P := Try.prog) w 29 25 i0 (.slice none 0 0) Try.underlying29 hi0 hz0 .i64 .i64 (3 : Int) (3 : Int) (by omega) (Int.le_refl _) (by rw [hz2]; omega) (by omega)
  rw [hz1] at h
  exact h
theorem madeS (n j : Nat) (h : j < n) : (madeCells (Value.slice none 0 0).cells (n * 1))[j]? = some (.slice none 0 0) := by
  rw [Nat.mul_one]
  simp [madeCells, Value.cells, h, Nat.mod_one]
theorem madeS_size (n : Nat) : (madeCells (Value.slice none 0 0).cells (n * 1)).size = n := by rw [size_madeCells, Nat.mul_one]
theorem Rows3.start (w : World) (m : Nat) (K MC : Array Value) (hK : K.size = 3) : Rows3 (w.alloc (.cells K 25)) w.heap.size m 0 MC :=
  ⟨K, Blk.new _ _ _, hK, fun c hc => absurd hc (Nat.not_lt_zero _), by simp, fun c hc => absurd hc (Nat.not_lt_zero _)⟩

end Go.Proofs.Ytijhmopejadpdaa

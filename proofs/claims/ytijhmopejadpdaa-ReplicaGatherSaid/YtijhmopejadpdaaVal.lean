/- Rows of values of one cell each: what they hold, and what append does to them. -/
import Derived.Test.YtijhmopejadpdaaApp
namespace Go.Proofs.Ytijhmopejadpdaa
open Go.RowKit

/-- The slice value v is the call's own (blocks from base on) and holds the values xs. -/
def OV (w : World) (base : Nat) (e : TypeId) (v : Value) (xs : List Value) : Prop := w.ownsRow base e 1 v xs.length xs
section
variable {w w' : World} {base base' : Nat} {e : TypeId} {v : Value} {xs : List Value}
theorem OV.form (h : OV w base e v xs) : ∃ A c, v = .slice A xs.length c ∧ Reads w w.heap.size 1 A xs.length xs ∧ xs.length ≤ c ∧ c ≤ maxLen := by
  rcases h.2 with ⟨rfl, h0⟩ | ⟨g, cap, cur, rfl, hg, hb, hc, hm, hs, ht⟩
  · have e0 : xs = [] := List.eq_nil_of_length_eq_zero h0
    subst e0
    exact ⟨none, 0, rfl, ⟨rfl, fun h => absurd h (by simp)⟩, Nat.le_refl _, Nat.zero_le _⟩
  · refine ⟨some ⟨g, 0, none⟩, cap, rfl, ?_, hc, hm⟩
    exact Reads.of_own (c := cap) h
theorem OV.form' {n : Nat} (h : OV w base e v xs) (hn : xs.length = n) : ∃ A c, v = .slice A n c ∧ Reads w w.heap.size 1 A n xs ∧ n ≤ c ∧ c ≤ maxLen := by
  subst hn; exact h.form
theorem OV.below (h : OV w base e v xs) (hb : Below w.heap.size w w') : OV w' base e v xs := by
  refine ⟨h.1, ?_⟩
  rcases h.2 with h0 | ⟨g, cap, cur, hv, hg, hh, hc⟩
  · exact .inl h0
  · refine .inr ⟨g, cap, cur, hv, hg, ?_, hc⟩
    have hlt : g < w.heap.size := by
      rcases Nat.lt_or_ge g w.heap.size with hlt | hge
      · exact hlt
      · rw [Array.getElem?_eq_none hge] at hh; cases hh
    exact (hb.block g hlt).trans hh
theorem OV.drew (h : OV w base e v xs) : OV w.drew base e v xs := h
theorem OV.alloc (h : OV w base e v xs) (o : Obj) : OV (w.alloc o) base e v xs := h.below ((Below.refl _ _).alloc (Nat.le_refl _) _)
theorem OV.le (h : OV w base e v xs) (hb : base' ≤ base) : OV w base' e v xs := Joins.ownsRow_le h hb
theorem OV.other (h : OV w base e v xs) {p : Addr} (hp : ∀ g, v.ownBlock = some g → g ≠ p.block) (u : Value) : OV (w.setCell p u) base e v xs := by
  refine ⟨h.1, ?_⟩
  rcases h.2 with h0 | ⟨g, cap, cur, hv, hg, hh, hc⟩
  · exact .inl h0
  · refine .inr ⟨g, cap, cur, hv, hg, ?_, hc⟩
    exact (Below.heap_setCell w p u g (hp g (by rw [hv]; rfl))).trans hh
theorem OV.reads {A : Option Addr} {n c : Nat} (h : OV w base e (.slice A n c) xs) : Reads w w.heap.size 1 A n xs := by
  obtain ⟨A', c', e, h1, _⟩ := h.form
  injection e with e1 e2 e3
  subst e1 e2
  exact h1
theorem OV.cap {A : Option Addr} {n c : Nat} (h : OV w base e (.slice A n c) xs) : n ≤ c := by
  obtain ⟨A', c', e, _, h1, _⟩ := h.form
  injection e with e1 e2 e3
  subst e2 e3
  exact h1
theorem OV.grown (h : OV w base e v xs) {row : Option Nat} (hg : w.grownBy w' row) (ha : ∀ g, v.ownBlock = some g → some g ≠ row) : OV w' base e v xs := by
  refine ⟨h.1, ?_⟩
  rcases h.2 with h0 | ⟨g, cap, cur, hv, hb, hh, hc⟩
  · exact .inl h0
  · refine .inr ⟨g, cap, cur, hv, hb, ?_, hc⟩
    have hlt : g < w.heap.size := by
      rcases Nat.lt_or_ge g w.heap.size with hlt | hge
      · exact hlt
      · rw [Array.getElem?_eq_none hge] at hh; cases hh
    exact (hg.block g hlt (ha g (by rw [hv]; rfl))).trans hh
theorem OV.lt (h : OV w base e v xs) {g : Nat} (hg : v.ownBlock = some g) : base ≤ g ∧ g < w.heap.size := by
  rcases h.2 with ⟨rfl, _⟩ | ⟨g', cap, cur, rfl, hb, hh, hc⟩
  · cases hg
  · injection hg with hg
    subst hg
    refine ⟨hb, ?_⟩
    rcases Nat.lt_or_ge g' w.heap.size with hlt | hge
    · exact hlt
    · rw [Array.getElem?_eq_none hge] at hh; cases hh
theorem ov_nil (w : World) (base : Nat) (e : TypeId) : OV w base e (.slice none 0 0) [] := ⟨rfl, .inl ⟨rfl, rfl⟩⟩
theorem ov_empty (w : World) (e : TypeId) : OV (w.alloc (.cells #[] e)) w.heap.size e (.slice (some ⟨w.heap.size, 0, none⟩) 0 0) [] :=
  ⟨rfl, .inr ⟨w.heap.size, 0, #[], rfl, Nat.le_refl _, heap_alloc_new w _, Nat.le_refl _, Nat.zero_le _, rfl, rfl⟩⟩
end

section
variable {P : Program} (w : World)
theorem run_append_ov (base : Nat) (t ty e : TypeId) (i : TypeInfo) (z : Value) (bytes : Nat) (ht : P.underlying t = some (.slice e)) (hi : P.info? e = some i) (hz : i.zero = some z) (hsize : i.size = 1) (hby : i.bytes = bytes) (hzc : z.cells.size = 1)
    (v : Value) (xs : List Value) (hown : OV w base e v xs) (B : Nat) (A : Option Addr) (m c : Nat) (news : List Value) (hr : Reads w B 1 A m news) (h1 : ∀ u ∈ news, u.oneCell' = true) (hlen : xs.length + m ≤ maxLen) (hbytes : (xs.length + m) * bytes ≤ 140737488355328) (hbase : base ≤ w.heap.size) :
    ∃ v' w', (Builtin.append_ #[t, t] ty #[v, .slice A m c]).run P w = .ok v' w' ∧ OV w' base e v' (xs ++ news) ∧ w.grownBy w' v.ownBlock ∧ (v'.ownBlock = v.ownBlock ∨ v'.ownBlock = some w.heap.size) := by
  have hl : news.length = m := by have := hr.1; omega
  rcases A with _ | ad
  · have hm : m = 0 := by
      rcases Nat.eq_zero_or_pos m with h0 | h0
      · exact h0
      · obtain ⟨ad, h, _⟩ := hr.2 h0
        cases h
    subst hm
    have hn : news = [] := List.eq_nil_of_length_eq_zero hl
    subst hn
    refine ⟨v, w, ?_, by rw [List.append_nil]; exact hown, World.grownBy.refl w _, .inl rfl⟩
    rcases hown.2 with ⟨rfl, h0⟩ | ⟨g, cap, cur, rfl, _, _, hnc, _⟩
    · simp [Builtin.append_, run_underlying ht, sizeOf, typeInfo, hi, Builtin.lenOf, Builtin.firstCells]
    · simp [Builtin.append_, run_underlying ht, sizeOf, typeInfo, hi, Builtin.lenOf, Builtin.firstCells, hnc, storeCells]
  · have hcells : ∀ j u, news[j]? = some u → w.cell? (ad.add j) = some u := by
      intro j u hu
      rcases Nat.eq_zero_or_pos m with h0 | h0
      · subst h0
        have hn : news = [] := List.eq_nil_of_length_eq_zero hl
        subst hn
        simp at hu
      · obtain ⟨ad', h, _, hc⟩ := hr.2 h0
        injection h with h
        subst h
        exact hc j u hu
    obtain ⟨v', w', hrun, h2, h3, _, h5⟩ := run_append_own_at (P := P) w base t ty e i z 1 bytes ht hi hz hsize hby hzc (by omega) v xs.length xs hown ad m c news (by simp [hl]) hcells h1 hlen hbytes hbase
    refine ⟨v', w', hrun, ?_, h3, h5⟩
    unfold OV
    rw [List.length_append, hl]
    exact h2

theorem wp_append_ov {o : Oper} {a : Act} {K : Act → World → Prop} {Q : Exit → Act → World → Prop} (s x : Operand) (t : TypeId)
    (ho : o.op = .call { callee := .builtin .append, args := #[s, x], argTypes := #[t, t] })
    (base : Nat) (e : TypeId) (i : TypeInfo) (z : Value) (bytes : Nat) (ht : P.underlying t = some (.slice e)) (hi : P.info? e = some i) (hz : i.zero = some z) (hsize : i.size = 1) (hby : i.bytes = bytes) (hzc : z.cells.size = 1)
    (v : Value) (xs : List Value) (hs : a.eval s = v) (hown : OV w base e v xs) (B : Nat) (A : Option Addr) (m c : Nat) (news : List Value) (hx : a.eval x = .slice A m c) (hr : Reads w B 1 A m news) (h1 : ∀ u ∈ news, u.oneCell' = true)
    (hlen : xs.length + m ≤ maxLen) (hbytes : (xs.length + m) * bytes ≤ 140737488355328) (hbase : base ≤ w.heap.size)
    (h : ∀ v' w', OV w' base e v' (xs ++ news) → w.grownBy w' v.ownBlock → (v'.ownBlock = v.ownBlock ∨ v'.ownBlock = some w.heap.size) → K (a.put o.dst v') w') : o.wp P a w K Q := by
  obtain ⟨v', w', hrun, h2, h3, h4⟩ := run_append_ov (P := P) w base t o.type e i z bytes ht hi hz hsize hby hzc v xs hown B A m c news hr h1 hlen hbytes hbase
  unfold Oper.wp execOp
  simp only [ho, resolve, invoke, builtin, Sem.run_bind, Sem.run_pure, Result.andThen_ok, List.map_toArray, List.map_cons, List.map_nil, hs, hx, hrun]
  exact h v' w' h2 h3 h4

theorem wpList_append_ov {ops : Array Oper} {rest : List Oper} {o : Oper} {a : Act} {Q : Exit → Act → World → Prop} (hgd : o.guard = none) (s x : Operand) (t : TypeId)
    (ho : o.op = .call { callee := .builtin .append, args := #[s, x], argTypes := #[t, t] })
    (base : Nat) (e : TypeId) (i : TypeInfo) (z : Value) (bytes : Nat) (ht : P.underlying t = some (.slice e)) (hi : P.info? e = some i) (hz : i.zero = some z) (hsize : i.size = 1) (hby : i.bytes = bytes) (hzc : z.cells.size = 1)
    (v : Value) (xs : List Value) (hs : a.eval s = v) (hown : OV w base e v xs) (B : Nat) (A : Option Addr) (m c : Nat) (news : List Value) (hx : a.eval x = .slice A m c) (hr : Reads w B 1 A m news) (h1 : ∀ u ∈ news, u.oneCell' = true)
    (hlen : xs.length + m ≤ maxLen) (hbytes : (xs.length + m) * bytes ≤ 140737488355328) (hbase : base ≤ w.heap.size)
    (h : ∀ v' w', OV w' base e v' (xs ++ news) → w.grownBy w' v.ownBlock → (v'.ownBlock = v.ownBlock ∨ v'.ownBlock = some w.heap.size) → wpList P ops Q rest (a.put o.dst v') w') : wpList P ops Q (o :: rest) a w :=
  wpList_plain hgd fun _ hK => wp_append_ov w s x t ho base e i z bytes ht hi hz hsize hby hzc v xs hs hown B A m c news hx hr h1 hlen hbytes hbase fun v' w' h2 h3 h4 => hK _ _ (h v' w' h2 h3 h4)
end
theorem below_grown_ov {w w' : World} {base B : Nat} {e : TypeId} {v : Value} {xs : List Value} (hown : OV w base e v xs) (hg : w.grownBy w' v.ownBlock) (hB : B ≤ base) (hz : B ≤ w.heap.size) : Below B w w' :=
  (Below.refl B w).grown hg hz (fun k hk => by
    rcases hown.2 with ⟨rfl, _⟩ | ⟨g, cap, cur, rfl, hgb, _⟩
    · simp [Value.ownBlock] at hk
    · simp [Value.ownBlock] at hk; omega)

/-- A number as a cell. -/
def uv (n : Nat) : Value := .int .u64 (n : Int)
theorem uv_one (l : List Nat) : ∀ u ∈ l.map uv, u.oneCell' = true := fun u hu => by
  obtain ⟨n, _, rfl⟩ := List.mem_map.1 hu
  rfl
theorem bool_one (l : List Bool) : ∀ u ∈ l.map Value.bool, u.oneCell' = true := fun u hu => by
  obtain ⟨n, _, rfl⟩ := List.mem_map.1 hu
  rfl
/-- A slice of numbers; a slice of bools. -/
def RU (w : World) (B : Nat) (A : Option Addr) (n : Nat) (l : List Nat) : Prop := Reads w B 1 A n (l.map uv)
def RL (w : World) (B : Nat) (A : Option Addr) (n : Nat) (l : List Bool) : Prop := Reads w B 1 A n (l.map Value.bool)
section
variable {w w' : World} {B n k : Nat} {A : Option Addr}
theorem RU.len {l : List Nat} (h : RU w B A n l) : l.length = n := by have := h.1; simpa using this
theorem RL.len {l : List Bool} (h : RL w B A n l) : l.length = n := by have := h.1; simpa using this
theorem RU.at_ {l : List Nat} (h : RU w B A n l) (hk : k < n) : ∃ ad, A = some ad ∧ ad.block < B ∧ w.cell? (ad.add k) = some (.int .u64 ((l.getD k 0 : Nat) : Int)) := by
  obtain ⟨ad, u, e, hb, hx, hc⟩ := Reads.at_ h hk
  refine ⟨ad, e, hb, ?_⟩
  have hl := h.len
  rw [List.getElem?_map, List.getElem?_eq_getElem (by omega)] at hx
  simp only [Option.map_some, Option.some.injEq] at hx
  rw [hc, ← hx, List.getD_eq_getElem?_getD, List.getElem?_eq_getElem (by omega)]
  rfl
theorem RL.at_ {l : List Bool} (h : RL w B A n l) (hk : k < n) : ∃ ad, A = some ad ∧ ad.block < B ∧ w.cell? (ad.add k) = some (.bool (l.getD k false)) := by
  obtain ⟨ad, u, e, hb, hx, hc⟩ := Reads.at_ h hk
  refine ⟨ad, e, hb, ?_⟩
  have hl := h.len
  rw [List.getElem?_map, List.getElem?_eq_getElem (by omega)] at hx
  simp only [Option.map_some, Option.some.injEq] at hx
  rw [hc, ← hx, List.getD_eq_getElem?_getD, List.getElem?_eq_getElem (by omega)]
  rfl
theorem Reads.take_ {xs : List Value} (h : Reads w B 1 A n xs) (k : Nat) (hk : k ≤ n) : Reads w B 1 A k (xs.take k) := by
  have hl : xs.length = n := by have := h.1; omega
  refine ⟨by simp; omega, fun h0 => ?_⟩
  obtain ⟨ad, e, hb, hc⟩ := h.2 (by omega)
  refine ⟨ad, e, hb, fun j u hu => hc j u ?_⟩
  rw [List.getElem?_take] at hu
  by_cases hj : j < k
  · rwa [if_pos hj] at hu
  · rw [if_neg hj] at hu; cases hu
theorem RU.take {l : List Nat} (h : RU w B A n l) (k : Nat) (hk : k ≤ n) : RU w B A k (l.take k) := by
  unfold RU; rw [List.map_take]; exact Reads.take_ h k hk
theorem RU.below {l : List Nat} (h : RU w B A n l) (hb : Below B w w') : RU w' B A n l := Reads.below h hb
theorem RL.below {l : List Bool} (h : RL w B A n l) (hb : Below B w w') : RL w' B A n l := Reads.below h hb
theorem ru_nil (w : World) (B : Nat) (A : Option Addr) : RU w B A 0 [] := ⟨rfl, fun h => absurd h (by omega)⟩
theorem rl_nil (w : World) (B : Nat) (A : Option Addr) : RL w B A 0 [] := ⟨rfl, fun h => absurd h (by omega)⟩
theorem reads_alloc (w : World) (C : Array Value) (t : TypeId) (fr : Nat × Nat) (xs : List Value) (hl : C.toList = xs) : Reads (w.alloc (.cells C t fr)) (w.heap.size + 1) 1 (some ⟨w.heap.size, 0, none⟩) xs.length xs := by
  refine ⟨by simp, fun _ => ⟨_, rfl, Nat.lt_succ_self _, fun j u hu => ?_⟩⟩
  rw [add_zero_block, World.cell?_alloc_mark, ← hu, ← hl]
  simp
end

/-- Block g is a row of N cells whose first ones are xs. -/
def RowV (w : World) (g : Nat) (e : TypeId) (N : Nat) (xs : List Value) : Prop := ∃ cs : Array Value, Blk w g e cs ∧ cs.size = N ∧ xs.length ≤ N ∧ ∀ (j : Nat) (u : Value), xs[j]? = some u → cs[j]? = some u
section
variable {w w' : World} {g N : Nat} {e : TypeId} {xs : List Value}
theorem RowV.reads (h : RowV w g e N xs) : Reads w w.heap.size 1 (some ⟨g, 0, none⟩) xs.length xs := by
  obtain ⟨cs, hb, hs, hN, hc⟩ := h
  exact ⟨by simp, fun _ => ⟨_, rfl, hb.lt, fun j u hu => by rw [add_zero_block, hb.cell, hc j u hu]⟩⟩
theorem RowV.lt (h : RowV w g e N xs) : g < w.heap.size := by
  obtain ⟨cs, hb, _⟩ := h
  exact hb.lt
theorem RowV.got (h : RowV w g e N xs) (j : Nat) (u : Value) (hu : xs[j]? = some u) : w.cell? ⟨g, j, none⟩ = some u := by
  obtain ⟨cs, hb, hs, hN, hc⟩ := h
  rw [hb.cell, hc j u hu]
theorem RowV.free (h : RowV w g e N xs) (j : Nat) : w.frozen? ⟨g, j, none⟩ = false := by
  obtain ⟨cs, hb, _⟩ := h
  exact hb.frozen j
theorem RowV.set (h : RowV w g e N xs) (q : Nat) (hq : q < xs.length) (u : Value) : RowV (w.setCell ⟨g, q, none⟩ u) g e N (xs.set q u) := by
  obtain ⟨cs, hb, hs, hN, hc⟩ := h
  refine ⟨_, hb.set_ q u, by simpa using hs, by simpa using hN, fun j v hv => ?_⟩
  rw [List.getElem?_set] at hv
  rw [Array.getElem?_setIfInBounds]
  by_cases e : q = j
  · subst e
    rw [if_pos rfl, if_pos hq] at hv
    rw [if_pos rfl, if_pos (by omega), hv]
  · rw [if_neg e] at hv
    rw [if_neg e]
    exact hc j v hv
theorem RowV.far (h : RowV w g e N xs) {p : Addr} (hp : g ≠ p.block) (u : Value) : RowV (w.setCell p u) g e N xs := by
  obtain ⟨cs, hb, h2⟩ := h
  exact ⟨cs, hb.far hp u, h2⟩
theorem RowV.drew (h : RowV w g e N xs) : RowV w.drew g e N xs := h
theorem RowV.below {B : Nat} (h : RowV w g e N xs) (hb : Below B w w') (hg : g < B) : RowV w' g e N xs := by
  obtain ⟨cs, h1, h2⟩ := h
  exact ⟨cs, h1.below hb hg, h2⟩
end
theorem RowV.alloc {w : World} {g N : Nat} {e : TypeId} {xs : List Value} (h : RowV w g e N xs) (o : Obj) : RowV (w.alloc o) g e N xs := h.below ((Below.refl _ _).alloc (Nat.le_refl _) _) h.lt
theorem OV.row {w : World} {base : Nat} {e : TypeId} {v : Value} {xs : List Value} (h : OV w base e v xs) (h0 : 0 < xs.length) :
    ∃ g cap, v = .slice (some ⟨g, 0, none⟩) xs.length cap ∧ base ≤ g ∧ g < w.heap.size ∧ xs.length ≤ cap ∧ cap ≤ maxLen ∧ RowV w g e cap xs := by
  rcases h.2 with ⟨_, hz⟩ | ⟨g, cap, cur, rfl, hg, hb, hc, hm, hs, ht⟩
  · omega
  · have hB : Blk w g e cur := hb
    refine ⟨g, cap, rfl, hg, hB.lt, hc, hm, cur, hb, by omega, hc, fun j u hu => ?_⟩
    rw [Nat.mul_one] at ht
    have hj : j < xs.length := by
      rcases Nat.lt_or_ge j xs.length with hlt | hge
      · exact hlt
      · rw [List.getElem?_eq_none hge] at hu; cases hu
    have h1 : (cur.toList.take xs.length)[j]? = xs[j]? := by rw [ht]
    rw [List.getElem?_take, if_pos hj, hu] at h1
    simpa using h1

end Go.Proofs.Ytijhmopejadpdaa

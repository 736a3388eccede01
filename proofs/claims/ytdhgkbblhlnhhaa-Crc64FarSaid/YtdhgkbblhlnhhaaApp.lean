/- Byte slices of the call's own: what they hold, and what append does to them. -/
import Derived.Test.YtdhgkbblhlnhhaaBase
namespace Go.Proofs.Ytdhgkbblhlnhhaa
open Go.RowKit

/-- The slice value v is the call's own (blocks from base on) and holds the bytes l (e: the number of the byte type). -/
def OB (w : World) (base : Nat) (e : TypeId) (v : Value) (l : List Nat) : Prop := w.ownsRow base e 1 v l.length (l.map bv)
theorem OB.form {w : World} {base : Nat} {e : TypeId} {v : Value} {l : List Nat} (h : OB w base e v l) :
    ∃ A c, v = .slice A l.length c ∧ RB w w.heap.size A l.length l ∧ l.length ≤ c ∧ c ≤ maxLen := by
  rcases h.2 with ⟨rfl, h0⟩ | ⟨g, cap, cur, rfl, hg, hb, hc, hm, hs, ht⟩
  · have e0 : l = [] := List.eq_nil_of_length_eq_zero h0
    subst e0
    exact ⟨none, 0, rfl, ⟨rfl, fun h => absurd h (by simp)⟩, Nat.le_refl _, Nat.zero_le _⟩
  · refine ⟨some ⟨g, 0, none⟩, cap, rfl, ?_, hc, hm⟩
    exact Reads.of_own (c := cap) h
theorem OB.below {w w' : World} {base : Nat} {e : TypeId} {v : Value} {l : List Nat} (h : OB w base e v l) (hb : Below w.heap.size w w') : OB w' base e v l := by
  refine ⟨h.1, ?_⟩
  rcases h.2 with h0 | ⟨g, cap, cur, hv, hg, hh, hc⟩
  · exact .inl h0
  · refine .inr ⟨g, cap, cur, hv, hg, ?_, hc⟩
    have hlt : g < w.heap.size := by
      rcases Nat.lt_or_ge g w.heap.size with hlt | hge
      · exact hlt
      · rw [Array.getElem?_eq_none hge] at hh; cases hh
    exact (hb.block g hlt).trans hh
theorem OB.drew {w : World} {base : Nat} {e : TypeId} {v : Value} {l : List Nat} (h : OB w base e v l) : OB w.drew base e v l := h
theorem OB.drewN {w : World} {base : Nat} {e : TypeId} {v : Value} {l : List Nat} (h : OB w base e v l) (n : Nat) : OB (w.drewN n) base e v l := h
theorem OB.alloc {w : World} {base : Nat} {e : TypeId} {v : Value} {l : List Nat} (h : OB w base e v l) (o : Obj) : OB (w.alloc o) base e v l := h.below ((Below.refl _ _).alloc (Nat.le_refl _) _)
theorem OB.le {w : World} {base base' : Nat} {e : TypeId} {v : Value} {l : List Nat} (h : OB w base e v l) (hb : base' ≤ base) : OB w base' e v l := Joins.ownsRow_le h hb
theorem ob_nil (w : World) (base : Nat) (e : TypeId) : OB w base e (.slice none 0 0) [] := ⟨rfl, .inl ⟨rfl, rfl⟩⟩
/-- '[]byte{}': a new empty row. -/
theorem ob_empty (w : World) (e : TypeId) : OB (w.alloc (.cells #[] e)) w.heap.size e (.slice (some ⟨w.heap.size, 0, none⟩) 0 0) [] := by
  refine ⟨rfl, .inr ⟨w.heap.size, 0, #[], rfl, Nat.le_refl _, heap_alloc_new w _, Nat.le_refl _, Nat.zero_le _, rfl, rfl⟩⟩

section
variable {P : Program} (w : World)
theorem run_append_rb (base : Nat) (t ty e : TypeId) (i : TypeInfo) (ht : P.underlying t = some (.slice e)) (hi : P.info? e = some i) (hz : i.zero = some (.int .u8 0)) (hsize : i.size = 1) (hby : i.bytes = 1)
    (v : Value) (l : List Nat) (hown : OB w base e v l) (B : Nat) (A : Option Addr) (m c : Nat) (news : List Nat) (hr : RB w B A m news) (hlen : l.length + m ≤ 1099511627776) (hbase : base ≤ w.heap.size) :
    ∃ v' w', (Builtin.append_ #[t, t] ty #[v, .slice A m c]).run P w = .ok v' w' ∧ OB w' base e v' (l ++ news) ∧ w.grownBy w' v.ownBlock ∧ (v'.ownBlock = v.ownBlock ∨ v'.ownBlock = some w.heap.size) := by
  have hl := hr.len
  rcases A with _ | ad
  · have hm : m = 0 := by
      rcases Nat.eq_zero_or_pos m with h0 | h0
      · exact h0
      · obtain ⟨ad, h, _⟩ := hr.2 h0
        cases h
    subst hm
    have hn : news = [] := List.eq_nil_of_length_eq_zero hl
    subst hn
    refine ⟨v, w, ?_, by rw [List.append_nil]; exact hown, World.grownBy.refl w _, .inl rfl⟩
    rcases hown.2 with ⟨rfl, h0⟩ | ⟨g, cap, cur, rfl, _, _, hnc, _⟩
    · simp [Builtin.append_, run_underlying ht, sizeOf, typeInfo, hi, Builtin.lenOf, Builtin.firstCells]
    · simp [Builtin.append_, run_underlying ht, sizeOf, typeInfo, hi, Builtin.lenOf, Builtin.firstCells, hnc, storeCells]
  · have hcells : ∀ j u, (news.map bv)[j]? = some u → w.cell? (ad.add j) = some u := by
      intro j u hu
      rcases Nat.eq_zero_or_pos m with h0 | h0
      · subst h0
        have hn : news = [] := List.eq_nil_of_length_eq_zero hl
        subst hn
        simp at hu
      · obtain ⟨ad', h, _, hc⟩ := hr.2 h0
        injection h with h
        subst h
        exact hc j u hu
    have h1 : ∀ u ∈ news.map bv, u.oneCell' = true := by
      intro u hu
      obtain ⟨b, _, rfl⟩ := List.mem_map.1 hu
      rfl
    obtain ⟨v', w', hrun, h2, h3, _, h5⟩ := run_append_own_at (P := P) w base t ty e i (.int .u8 0) 1 1 ht hi hz hsize hby rfl (by omega) v l.length (l.map bv) hown ad m c (news.map bv) (by simp [hl]) hcells h1 (by unfold maxLen; omega) (by omega) hbase
    refine ⟨v', w', hrun, ?_, h3, h5⟩
    unfold OB
    rw [List.length_append, hl, List.map_append]
    exact h2

theorem wp_append_rb {o : Oper} {a : Act} {K : Act → World → Prop} {Q : Exit → Act → World → Prop} (s x : Operand) (t : TypeId)
    (ho : o.op = .call { callee := .builtin .append, args := #[s, x], argTypes := #[t, t] })
    (base : Nat) (e : TypeId) (i : TypeInfo) (ht : P.underlying t = some (.slice e)) (hi : P.info? e = some i) (hz : i.zero = some (.int .u8 0)) (hsize : i.size = 1) (hby : i.bytes = 1)
    (v : Value) (l : List Nat) (hs : a.eval s = v) (hown : OB w base e v l) (B : Nat) (A : Option Addr) (m c : Nat) (news : List Nat) (hx : a.eval x = .slice A m c) (hr : RB w B A m news)
    (hlen : l.length + m ≤ 1099511627776) (hbase : base ≤ w.heap.size)
    (h : ∀ v' w', OB w' base e v' (l ++ news) → w.grownBy w' v.ownBlock → (v'.ownBlock = v.ownBlock ∨ v'.ownBlock = some w.heap.size) → K (a.put o.dst v') w') : o.wp P a w K Q := by
  obtain ⟨v', w', hrun, h2, h3, h4⟩ := run_append_rb (P := P) w base t o.type e i ht hi hz hsize hby v l hown B A m c news hr hlen hbase
  unfold Oper.wp execOp
  simp only [ho, resolve, invoke, builtin, Sem.run_bind, Sem.run_pure, Result.andThen_ok, List.map_toArray, List.map_cons, List.map_nil, hs, hx, hrun]
  exact h v' w' h2 h3 h4

theorem wpList_append_rb {ops : Array Oper} {rest : List Oper} {o : Oper} {a : Act} {Q : Exit → Act → World → Prop} (hgd : o.guard = none) (s x : Operand) (t : TypeId)
    (ho : o.op = .call { callee := .builtin .append, args := #[s, x], argTypes := #[t, t] })
    (base : Nat) (e : TypeId) (i : TypeInfo) (ht : P.underlying t = some (.slice e)) (hi : P.info? e = some i) (hz : i.zero = some (.int .u8 0)) (hsize : i.size = 1) (hby : i.bytes = 1)
    (v : Value) (l : List Nat) (hs : a.eval s = v) (hown : OB w base e v l) (B : Nat) (A : Option Addr) (m c : Nat) (news : List Nat) (hx : a.eval x = .slice A m c) (hr : RB w B A m news)
    (hlen : l.length + m ≤ 1099511627776) (hbase : base ≤ w.heap.size)
    (h : ∀ v' w', OB w' base e v' (l ++ news) → w.grownBy w' v.ownBlock → (v'.ownBlock = v.ownBlock ∨ v'.ownBlock = some w.heap.size) → wpList P ops Q rest (a.put o.dst v') w') : wpList P ops Q (o :: rest) a w :=
  wpList_plain hgd fun _ hK => wp_append_rb w s x t ho base e i ht hi hz hsize hby v l hs hown B A m c news hx hr hlen hbase fun v' w' h2 h3 h4 => hK _ _ (h v' w' h2 h3 h4)
end
/-- After an append onto a row of the call's own, what lies below base is as it was. -/
theorem below_grown {w w' : World} {base B : Nat} {e : TypeId} {v : Value} {l : List Nat} (hown : OB w base e v l) (hg : w.grownBy w' v.ownBlock) (hB : B ≤ base) (hz : B ≤ w.heap.size) : Below B w w' :=
  (Below.refl B w).grown hg hz (fun k hk => by
    rcases hown.2 with ⟨rfl, _⟩ | ⟨g, cap, cur, rfl, hgb, _⟩
    · simp [Value.ownBlock] at hk
    · simp [Value.ownBlock] at hk; omega)

end Go.Proofs.Ytdhgkbblhlnhhaa

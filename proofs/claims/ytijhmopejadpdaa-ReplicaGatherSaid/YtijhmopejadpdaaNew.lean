/- An append onto an empty slice of no room, as one step of a region that draws its order: a new row, or nothing. -/
import Derived.Test.YtijhmopejadpdaaStep
import Derived.Deep.RegionLawGrows
import Derived.Deep.Upon
namespace Go.Proofs.Ytijhmopejadpdaa
open Go.RowKit

/-- The slice (A, m, cap) holds the values xs; where there are any, they lie in block s, which is its own. -/
def NewS (w : World) (e : TypeId) (s : Nat) (A : Option Addr) (m cap : Nat) (xs : List Value) : Prop :=
  xs.length = m ∧ m ≤ cap ∧ cap ≤ maxLen ∧ (0 < m → A = some ⟨s, 0, none⟩ ∧ RowV w s e cap xs)
section
variable {w w' : World} {e : TypeId} {s m cap B : Nat} {A : Option Addr} {xs : List Value}
theorem NewS.reads (h : NewS w e s A m cap xs) : Reads w w.heap.size 1 A m xs := by
  refine ⟨by rw [Nat.mul_one]; exact h.1, fun h0 => ?_⟩
  obtain ⟨rfl, h2⟩ := h.2.2.2 h0
  have h3 := h2.reads
  rw [h.1] at h3
  exact h3.2 h0
theorem NewS.alloc (h : NewS w e s A m cap xs) (o : Obj) : NewS (w.alloc o) e s A m cap xs :=
  ⟨h.1, h.2.1, h.2.2.1, fun h0 => ⟨(h.2.2.2 h0).1, (h.2.2.2 h0).2.alloc o⟩⟩
theorem NewS.below (h : NewS w e s A m cap xs) (hb : Below w.heap.size w w') : NewS w' e s A m cap xs :=
  ⟨h.1, h.2.1, h.2.2.1, fun h0 => ⟨(h.2.2.2 h0).1, (h.2.2.2 h0).2.below hb (h.2.2.2 h0).2.lt⟩⟩
theorem NewS.far (h : NewS w e s A m cap xs) {p : Addr} (hp : 0 < m → s ≠ p.block) (u : Value) : NewS (w.setCell p u) e s A m cap xs :=
  ⟨h.1, h.2.1, h.2.2.1, fun h0 => ⟨(h.2.2.2 h0).1, (h.2.2.2 h0).2.far (hp h0) u⟩⟩
theorem NewS.drew (h : NewS w e s A m cap xs) : NewS w.drew e s A m cap xs := h
theorem NewS.lt (h : NewS w e s A m cap xs) (h0 : 0 < m) : s < w.heap.size := (h.2.2.2 h0).2.lt
theorem NewS.row (h : NewS w e s A m cap xs) (h0 : 0 < m) : A = some ⟨s, 0, none⟩ ∧ RowV w s e cap xs := h.2.2.2 h0
end
theorem Blk.new_at (w : World) (t : TypeId) (cs : Array Value) {g : Nat} (h : g = w.heap.size) : Blk (w.alloc (.cells cs t)) g t cs := by subst h; exact Blk.new _ _ _
theorem Blk.pair {w : World} {g : Nat} {t : TypeId} {a b : Value} (h : Blk w g t #[a, b]) (u v : Value) : Blk ((w.setCell ⟨g, 0, none⟩ u).setCell ⟨g, 1, none⟩ v) g t #[u, v] := (h.set_ 0 u).set_ 1 v

theorem step_append_new {P : Program} {w : World} {ops : Array Oper} {o : Oper} {a : Act} {K : Act → World → Prop} {Q : Exit → Act → World → Prop} {E : Prop} (hgd : o.guard = none) (s x : Operand) (t : TypeId)
    (ho : o.op = .call { callee := .builtin .append, args := #[s, x], argTypes := #[t, t] })
    (e : TypeId) (i : TypeInfo) (z : Value) (bytes : Nat) (ht : P.underlying t = some (.slice e)) (hi : P.info? e = some i) (hz : i.zero = some z) (hsize : i.size = 1) (hby : i.bytes = bytes) (hzc : z.cells.size = 1)
    (A0 : Addr) (hs : a.eval s = .slice (some A0) 0 0) (B : Nat) (A : Option Addr) (m c : Nat) (news : List Value) (hx : a.eval x = .slice A m c) (hr : Reads w B 1 A m news) (h1 : ∀ u ∈ news, u.oneCell' = true)
    (hlen : m ≤ maxLen) (hbytes : m * bytes ≤ 140737488355328)
    (h : ∀ g A' cap w', w.heap.size ≤ g → NewS w' e g A' m cap news → Below w.heap.size w w' → K (a.put o.dst (.slice A' m cap)) w') :
    if Region.wanted o (yielded ops a.tmps) = true then Oper.wp P o a w K Q else E := by
  have hl : news.length = m := by have := hr.1; omega
  rcases Nat.eq_zero_or_pos m with h0 | h0
  · subst h0
    have hn : news = [] := List.eq_nil_of_length_eq_zero hl
    subst hn
    have hw : Region.wanted o (yielded ops a.tmps) = true := by simp [Region.wanted, hgd]
    rw [if_pos hw]
    have hrun : (Builtin.append_ #[t, t] o.type #[.slice (some A0) 0 0, .slice A 0 c]).run P w = .ok (.slice (some A0) 0 0) w := by
      cases A <;> simp [Builtin.append_, run_underlying ht, sizeOf, typeInfo, hi, Builtin.lenOf, Builtin.firstCells, storeCells, loadCells, loadCellsFrom]
    unfold Oper.wp execOp
    simp only [ho, resolve, invoke, builtin, Sem.run_bind, Sem.run_pure, Result.andThen_ok, List.map_toArray, List.map_cons, List.map_nil, hs, hx, hrun]
    exact h w.heap.size (some A0) 0 w (Nat.le_refl _) ⟨rfl, Nat.le_refl _, Nat.zero_le _, fun h => absurd h (Nat.lt_irrefl 0)⟩ (Below.refl _ _)
  · obtain ⟨ad, rfl, _, hc⟩ := hr.2 h0
    refine step_append_grows hgd s x t ho e i z 1 bytes ht hi hz hsize hby hzc (by omega) (some A0) 0 0 [] hs (fun h => by cases h) rfl (fun b _ j u hu => by simp at hu) ad m c news hx (by omega) hc h1 (by omega) (by omega) (by rw [Nat.zero_add]; exact hbytes) ?_
    intro v' w' hown hg
    rw [Nat.zero_add, List.nil_append] at hown
    have hO : OV w' w.heap.size e v' news := by unfold OV; rw [hl]; exact hown
    obtain ⟨g, cap, rfl, hg1, hg2, hcap, hmax, hrow⟩ := hO.row (by omega)
    rw [hl] at hcap ⊢
    exact h g _ cap w' hg1 ⟨hl, hcap, hmax, fun _ => ⟨rfl, hrow⟩⟩ ((Below.refl _ _).grown hg (Nat.le_refl _) (fun k hk => by cases hk))

end Go.Proofs.Ytijhmopejadpdaa

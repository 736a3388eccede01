/- Byte slices of the call's own: what they hold, and what append does to them. -/
import Derived.Test.YtijhmopejadpdaaBase
namespace Go.Proofs.Ytijhmopejadpdaa
open Go.RowKit

/-- The slice value v is the call's own (blocks from base on) and holds the bytes l (e: the number of the byte type). -/
def OB (w : World) (base : Nat) (e : TypeId) (v : Value) (l : List Nat) : Prop := w.ownsRow base e 1 v l.length (l.map bv)
theorem OB.form {w : World} {base : Nat} {e : TypeId} {v : Value} {l : List Nat} (h : OB w base e v l) :
    ∃ A c, v = .slice A l.length c ∧ RB w w.heap.size A l.length l ∧ l.length ≤ c ∧ c ≤ maxLen := by
  rcases h.2 with ⟨rfl, h0⟩ | ⟨g, cap, cur, rfl, hg, hb, hc, hm, hs, ht⟩
  · have e0 : l = [] := List.eq_nil_of_length_eq_zero h0
    subst e0
    exact ⟨none, 0, rfl, ⟨rfl, fun h => absurd h (by simp)⟩, Nat.le_refl _, Nat.zero_le _⟩
  · refine ⟨some ⟨g, 0, none⟩, cap, rfl, ?_, hc, hm⟩
    exact Reads.of_own (c := cap) h
theorem OB.form' {w : World} {base : Nat} {e : TypeId} {v : Value} {l : List Nat} {n : Nat} (h : OB w base e v l) (hn : l.length = n) :
    ∃ A c, v = .slice A n c ∧ RB w w.heap.size A n l ∧ n ≤ c ∧ c ≤ maxLen := by
  subst hn; exact h.form
theorem OB.below {w w' : World} {base : Nat} {e : TypeId} {v : Value} {l : List Nat} (h : OB w base e v l) (hb : Below w.heap.size w w') : OB w' base e v l := by
  refine ⟨h.1, ?_⟩
  rcases h.2 with h0 | ⟨g, cap, cur, hv, hg, hh, hc⟩
  · exact .inl h0
  · refine .inr ⟨g, cap, cur, hv, hg, ?_, hc⟩
    have hlt : g < w.heap.size := by
      rcases Nat.lt_or_ge g w.heap.size with hlt | hge
      · exact hlt
      · rw [Array.getElem?_eq_none hge] at hh; cases hh
    exact (hb.block g hlt).trans hh
theorem OB.drew {w : World} {base : Nat} {e : TypeId} {v : Value} {l : List Nat} (h : OB w base e v l) : OB w.drew base e v l := h
theorem OB.drewN {w : World} {base : Nat} {e : TypeId} {v : Value} {l : List Nat} (h : OB w base e v l) (n : Nat) : OB (w.drewN n) base e v l := h
theorem OB.alloc {w : World} {base : Nat} {e : TypeId} {v : Value} {l : List Nat} (h : OB w base e v l) (o : Obj) : OB (w.alloc o) base e v l := h.below ((Below.refl _ _).alloc (Nat.le_refl _) _)
theorem OB.le {w : World} {base base' : Nat} {e : TypeId} {v : Value} {l : List Nat} (h : OB w base e v l) (hb : base' ≤ base) : OB w base' e v l := Joins.ownsRow_le h hb
theorem ob_nil (w : World) (base : Nat) (e : TypeId) : OB w base e (.slice none 0 0) [] := ⟨rfl, .inl ⟨rfl, rfl⟩⟩
/-- '[]byte{}': a new empty row. -/
theorem ob_empty (w : World) (e : TypeId) : OB (w.alloc (.cells #[] e)) w.heap.size e (.slice (some ⟨w.heap.size, 0, none⟩) 0 0) [] := by
  refine ⟨rfl, .inr ⟨w.heap.size, 0, #[], rfl, Nat.le_refl _, heap_alloc_new w _, Nat.le_refl _, Nat.zero_le _, rfl, rfl⟩⟩

section
variable {P : Program} (w : World)
theorem run_append_rb (base : Nat) (t ty e : TypeId) (i : TypeInfo) (ht : P.underlying t = some (.slice e)) (hi : P.info? e = some i) (hz : i.zero = some (.int .u8 0)) (hsize : i.size = 1) (hby : i.bytes = 1)
    (v : Value) (l : List Nat) (hown : OB w base e v l) (B : Nat) (A : Option Addr) (m c : Nat) (news : List Nat) (hr : RB w B A m news) (hlen : l.length + m ≤ 1099511627776) (hbase : base ≤ w.heap.size) :
    ∃ v' w', (Builtin.append_ #[t, t] ty #[v, .slice A m c]).run P w = .ok v' w' ∧ OB w' base e v' (l ++ news) ∧ w.grownBy w' v.ownBlock ∧ (v'.ownBlock = v.ownBlock ∨ v'.ownBlock = some w.heap.size) := by
  have hl := hr.len
  rcases A with _ | ad
  · have hm : m = 0 := by
      rcases Nat.eq_zero_or_pos m with h0 | h0
      · exact h0
      · obtain ⟨ad, h, _⟩ := hr.2 h0
        cases h
    subst hm
    have hn : news = [] := List.eq_nil_of_length_eq_zero hl
    subst hn
    refine ⟨v, w, ?_, by rw [List.append_nil]; exact hown, World.grownBy.refl w _, .inl rfl⟩
    rcases hown.2 with ⟨rfl, h0⟩ | ⟨g, cap, cur, rfl, _, _, hnc, _⟩
    · simp [Builtin.append_, run_underlying ht, sizeOf, typeInfo, hi, Builtin.lenOf, Builtin.firstCells]
    · simp [Builtin.append_, run_underlying ht, sizeOf, typeInfo, hi, Builtin.lenOf, Builtin.firstCells, hnc, storeCells]
  · have hcells : ∀ j u, (news.map bv)[j]? = some u → w.cell? (ad.add j) = some u := by
      intro j u hu
      rcases Nat.eq_zero_or_pos m with h0 | h0
      · subst h0
        have hn : news = [] := List.eq_nil_of_length_eq_zero hl
        subst hn
        simp at hu
      · obtain ⟨ad', h, _, hc⟩ := hr.2 h0
        injection h with h
        subst h
        exact hc j u hu
    have h1 : ∀ u ∈ news.map bv, u.oneCell' = true := by
      intro u hu
      obtain ⟨b, _, rfl⟩ := List.mem_map.1 hu
      rfl
    obtain ⟨v', w', hrun, h2, h3, _, h5⟩ := run_append_own_at (P := P) w base t ty e i (.int .u8 0) 1 1 ht hi hz hsize hby rfl (by omega) v l.length (l.map bv) hown ad m c (news.map bv) (by simp [hl]) hcells h1 (by unfold maxLen; omega) (by omega) hbase
    refine ⟨v', w', hrun, ?_, h3, h5⟩
    unfold OB
    rw [List.length_append, hl, List.map_append]
    exact h2

theorem wp_append_rb {o : Oper} {a : Act} {K : Act → World → Prop} {Q : Exit → Act → World → Prop} (s x : Operand) (t : TypeId)
    (ho : o.op = .call { callee := .builtin .append, args := #[s, x], argTypes := #[t, t] })
    (base : Nat) (e : TypeId) (i : TypeInfo) (ht : P.underlying t = some (.slice e)) (hi : P.info? e = some i) (hz : i.zero = some (.int .u8 0)) (hsize : i.size = 1) (hby : i.bytes = 1)
    (v : Value) (l : List Nat) (hs : a.eval s = v) (hown : OB w base e v l) (B : Nat) (A : Option Addr) (m c : Nat) (news : List Nat) (hx : a.eval x = .slice A m c) (hr : RB w B A m news)
    (hlen : l.length + m ≤ 1099511627776) (hbase : base ≤ w.heap.size)
    (h : ∀ v' w', OB w' base e v' (l ++ news) → w.grownBy w' v.ownBlock → (v'.ownBlock = v.ownBlock ∨ v'.ownBlock = some w.heap.size) → K (a.put o.dst v') w') : o.wp P a w K Q := by
  obtain ⟨v', w', hrun, h2, h3, h4⟩ := run_append_rb (P := P) w base t o.type e i ht hi hz hsize hby v l hown B A m c news hr hlen hbase
  unfold Oper.wp execOp
  simp only [ho, resolve, invoke, builtin, Sem.run_bind, Sem.run_pure, Result.andThen_ok, List.map_toArray, List.map_cons, List.map_nil, hs, hx, hrun]
  exact h v' w' h2 h3 h4

theorem wpList_append_rb {ops : Array Oper} {rest : List Oper} {o : Oper} {a : Act} {Q : Exit → Act → World → Prop} (hgd : o.guard = none) (s x : Operand) (t : TypeId)
    (ho : o.op = .call { callee := .builtin .append, args := #[s, x], argTypes := #[t, t] })
    (base : Nat) (e : TypeId) (i : TypeInfo) (ht : P.underlying t = some (.slice e)) (hi : P.info? e = some i) (hz : i.zero = some (.int .u8 0)) (hsize : i.size = 1) (hby : i.bytes = 1)
    (v : Value) (l : List Nat) (hs : a.eval s = v) (hown : OB w base e v l) (B : Nat) (A : Option Addr) (m c : Nat) (news : List Nat) (hx : a.eval x = .slice A m c) (hr : RB w B A m news)
    (hlen : l.length + m ≤ 1099511627776) (hbase : base ≤ w.heap.size)
    (h : ∀ v' w', OB w' base e v' (l ++ news) → w.grownBy w' v.ownBlock → (v'.ownBlock = v.ownBlock ∨ v'.ownBlock = some w.heap.size) → wpList P ops Q rest (a.put o.dst v') w') : wpList P ops Q (o :: rest) a w :=
  wpList_plain hgd fun _ hK => wp_append_rb w s x t ho base e i ht hi hz hsize hby v l hs hown B A m c news hx hr hlen hbase fun v' w' h2 h3 h4 => hK _ _ (h v' w' h2 h3 h4)
end
/-- After an append onto a row of the call's own, what lies below base is as it was. -/
theorem below_grown {w w' : World} {base B : Nat} {e : TypeId} {v : Value} {l : List Nat} (hown : OB w base e v l) (hg : w.grownBy w' v.ownBlock) (hB : B ≤ base) (hz : B ≤ w.heap.size) : Below B w w' :=
  (Below.refl B w).grown hg hz (fun k hk => by
    rcases hown.2 with ⟨rfl, _⟩ | ⟨g, cap, cur, rfl, hgb, _⟩
    · simp [Value.ownBlock] at hk
    · simp [Value.ownBlock] at hk; omega)

/-- Block g (N cells of type t) is being filled with f: its first i cells stand. -/
def Fill (w : World) (g : Nat) (t : TypeId) (N i : Nat) (f : Nat → Value) : Prop := ∃ cs : Array Value, Blk w g t cs ∧ cs.size = N ∧ ∀ j, j < i → cs[j]? = some (f j)
section
variable {w w' : World} {g N i : Nat} {t : TypeId} {f : Nat → Value}
theorem Fill.cell (h : Fill w g t N i f) (j : Nat) (hj : j < N) : ∃ v, w.cell? ⟨g, j, none⟩ = some v := by
  obtain ⟨cs, hb, hs, _⟩ := h
  rw [hb.cell]
  exact ⟨cs[j], Array.getElem?_eq_getElem (by omega)⟩
theorem Fill.got (h : Fill w g t N i f) (j : Nat) (hj : j < i) : w.cell? ⟨g, j, none⟩ = some (f j) := by
  obtain ⟨cs, hb, hs, hc⟩ := h
  rw [hb.cell, hc j hj]
theorem Fill.free (h : Fill w g t N i f) (j : Nat) : w.frozen? ⟨g, j, none⟩ = false := by
  obtain ⟨cs, hb, hs, _⟩ := h
  exact hb.frozen j
theorem Fill.lt (h : Fill w g t N i f) : g < w.heap.size := by
  obtain ⟨cs, hb, _, _⟩ := h
  exact hb.lt
theorem Fill.set (h : Fill w g t N i f) (hi : i < N) (v : Value) (hv : v = f i) : Fill (w.setCell ⟨g, i, none⟩ v) g t N (i + 1) f := by
  obtain ⟨cs, hb, hs, hc⟩ := h
  refine ⟨_, hb.set_ i _, by simpa using hs, fun j hj => ?_⟩
  rw [Array.getElem?_setIfInBounds]
  by_cases e : i = j
  · subst e
    rw [if_pos rfl, if_pos (by omega), hv]
  · rw [if_neg e]
    exact hc j (by omega)
theorem Fill.below {B : Nat} (h : Fill w g t N i f) (hb : Below B w w') (hg : g < B) : Fill w' g t N i f := by
  obtain ⟨cs, h1, h2⟩ := h
  exact ⟨cs, h1.below hb hg, h2⟩
theorem Fill.drew (h : Fill w g t N i f) : Fill w.drew g t N i f := h
theorem Fill.drewN (h : Fill w g t N i f) (n : Nat) : Fill (w.drewN n) g t N i f := h
theorem Fill.congr {f' : Nat → Value} (h : Fill w g t N i f) (he : ∀ j, j < i → f j = f' j) : Fill w g t N i f' := by
  obtain ⟨cs, hb, hs, hc⟩ := h
  exact ⟨cs, hb, hs, fun j hj => by rw [hc j hj, he j hj]⟩
theorem Fill.start (w : World) (t : TypeId) (cs : Array Value) (N : Nat) (f : Nat → Value) (hs : cs.size = N) : Fill (w.alloc (.cells cs t)) w.heap.size t N 0 f :=
  ⟨cs, Blk.new _ _ _, hs, fun j hj => by omega⟩
end
theorem add_zero_block (g j : Nat) : (⟨g, 0, none⟩ : Addr).add j = ⟨g, j, none⟩ := by
  unfold Addr.add
  split
  · rename_i h0; rw [h0]
  · simp
theorem Fill.rb {w : World} {g N : Nat} {t : TypeId} {l : List Nat} (h : Fill w g t N N (fun j => bv (l.getD j 0))) (hl : l.length = N) : RB w w.heap.size (some ⟨g, 0, none⟩) N l := by
  refine ⟨by simp [hl], fun _ => ⟨_, rfl, h.lt, fun j u hu => ?_⟩⟩
  have hj : j < l.length := by
    rcases Nat.lt_or_ge j l.length with hlt | hge
    · exact hlt
    · rw [List.getElem?_eq_none (by simpa using hge)] at hu; cases hu
  rw [add_zero_block, h.got j (by omega), ← hu, List.getElem?_map, List.getElem?_eq_getElem hj, List.getD_eq_getElem?_getD, List.getElem?_eq_getElem hj]
  rfl
theorem RB.take {w : World} {B n : Nat} {A : Option Addr} {l : List Nat} (h : RB w B A n l) (k : Nat) (hk : k ≤ n) : RB w B A k (l.take k) := by
  have hl := h.len
  refine ⟨by simp; omega, fun h0 => ?_⟩
  obtain ⟨ad, e, hb, hc⟩ := h.2 (by omega)
  refine ⟨ad, e, hb, fun j u hu => hc j u ?_⟩
  rw [List.map_take, List.getElem?_take] at hu
  by_cases hj : j < k
  · rwa [if_pos hj] at hu
  · rw [if_neg hj] at hu; cases hu
theorem RB.below {w w' : World} {B n : Nat} {A : Option Addr} {l : List Nat} (h : RB w B A n l) (hb : Below B w w') : RB w' B A n l := Reads.below h hb
theorem RB.cut {w : World} {B n : Nat} {ad : Addr} {l : List Nat} (h : RB w B (some ad) n l) (k m : Nat) (hkm : k + m ≤ n) : RB w B (some (ad.add k)) m ((l.drop k).take m) := by
  have hl := h.len
  refine ⟨by simp; omega, fun h0 => ?_⟩
  obtain ⟨ad', e, hb, hc⟩ := h.2 (by omega)
  injection e with e
  subst e
  refine ⟨_, rfl, by rw [block_of_add]; exact hb, fun j u hu => ?_⟩
  rw [add_of_add]
  refine hc _ u ?_
  rw [List.map_take, List.map_drop, List.getElem?_take] at hu
  by_cases hj : j < m
  · rw [if_pos hj, List.getElem?_drop] at hu
    exact hu
  · rw [if_neg hj] at hu; cases hu
theorem RB.drew {w : World} {B n : Nat} {A : Option Addr} {l : List Nat} (h : RB w B A n l) : RB w.drew B A n l := h
theorem RB.drewN {w : World} {B n : Nat} {A : Option Addr} {l : List Nat} (h : RB w B A n l) (k : Nat) : RB (w.drewN k) B A n l := h

/-- A callee that leaves the world as it is, inside a region that draws its order. -/
theorem quiet_left {P : Program} {f : FuncId} {args : Array Value} {w : World} {n : Nat} {v : Value}
    (h : Calls P f args (w.drewN n) fun e w' => e = .returned v ∧ w.drewN n = w') : Calls P f args (w.drewN n) fun e w'' => e = .returned v ∧ ∃ m, w'' = w.drewN m :=
  h.mono fun _ _ ⟨he, hm⟩ => ⟨he, n, hm.symm⟩
theorem run_min4 {P : Program} (ts : Array TypeId) (t : TypeId) (n m k : Nat) (w : World) :
    (Builtin.min_ ts t #[.int .i64 (n : Int), .int .i64 (m : Int), .int .i64 (k : Int), .int .i64 100]).run P w = .ok (.int .i64 ((min (min (min n m) k) 100 : Nat) : Int)) w := by
  have e : (Builtin.min_ ts t #[.int .i64 (n : Int), .int .i64 (m : Int), .int .i64 (k : Int), .int .i64 100]).run P w = .ok (.int .i64 (if 100 < (if (k : Int) < (if (m : Int) < n then (m : Int) else n) then (k : Int) else (if (m : Int) < n then (m : Int) else n)) then 100 else (if (k : Int) < (if (m : Int) < n then (m : Int) else n) then (k : Int) else (if (m : Int) < n then (m : Int) else n)))) w := by
    simp [Builtin.min_, Builtin.min2]
  rw [e]
  congr 2
  repeat' split
  all_goals omega

/-- Block g is a row of N cells whose first ones hold the bytes l. -/
def RowIs (w : World) (g : Nat) (e : TypeId) (N : Nat) (l : List Nat) : Prop := Fill w g e N l.length (fun j => bv (l.getD j 0)) ∧ l.length ≤ N
theorem RowIs.set {w : World} {g N : Nat} {e : TypeId} {l : List Nat} (h : RowIs w g e N l) (q : Nat) (hq : q < l.length) (x : Nat) (v : Value) (hv : v = bv x) : RowIs (w.setCell ⟨g, q, none⟩ v) g e N (l.set q x) := by
  obtain ⟨⟨cs, hb, hs, hc⟩, hN⟩ := h
  subst hv
  refine ⟨⟨_, hb.set_ q _, by simpa using hs, fun j hj => ?_⟩, by simpa using hN⟩
  rw [List.length_set] at hj
  show _ = some (bv ((l.set q x).getD j 0))
  have hc' : cs[j]? = some (bv (l.getD j 0)) := hc j hj
  rw [Array.getElem?_setIfInBounds, List.getD_eq_getElem?_getD, List.getElem?_set]
  by_cases e : q = j
  · subst e
    rw [if_pos rfl, if_pos rfl, if_pos (by omega), if_pos hq]
    rfl
  · rw [if_neg e, if_neg e, hc', List.getD_eq_getElem?_getD]
theorem RowIs.rb {w : World} {g N : Nat} {e : TypeId} {l : List Nat} (h : RowIs w g e N l) : RB w w.heap.size (some ⟨g, 0, none⟩) l.length l := by
  obtain ⟨⟨cs, hb, hs, hc⟩, hN⟩ := h
  refine ⟨by simp, fun _ => ⟨_, rfl, hb.lt, fun j u hu => ?_⟩⟩
  have hj : j < l.length := by
    rcases Nat.lt_or_ge j l.length with hlt | hge
    · exact hlt
    · rw [List.getElem?_eq_none (by simpa using hge)] at hu; cases hu
  have hc' : cs[j]? = some (bv (l.getD j 0)) := hc j hj
  rw [add_zero_block, hb.cell, hc', ← hu, List.getElem?_map, List.getElem?_eq_getElem hj, List.getD_eq_getElem?_getD, List.getElem?_eq_getElem hj]
  rfl
theorem RowIs.got {w : World} {g N : Nat} {e : TypeId} {l : List Nat} (h : RowIs w g e N l) (q : Nat) (hq : q < l.length) : w.cell? ⟨g, q, none⟩ = some (.int .u8 ((l.getD q 0 : Nat) : Int)) := h.1.got q hq
theorem RowIs.free {w : World} {g N : Nat} {e : TypeId} {l : List Nat} (h : RowIs w g e N l) (q : Nat) : w.frozen? ⟨g, q, none⟩ = false := h.1.free q
theorem RowIs.drew {w : World} {g N : Nat} {e : TypeId} {l : List Nat} (h : RowIs w g e N l) : RowIs w.drew g e N l := h
theorem RowIs.below {w w' : World} {g N B : Nat} {e : TypeId} {l : List Nat} (h : RowIs w g e N l) (hb : Below B w w') (hg : g < B) : RowIs w' g e N l := ⟨h.1.below hb hg, h.2⟩
theorem OB.row {w : World} {base : Nat} {e : TypeId} {v : Value} {l : List Nat} (h : OB w base e v l) (h0 : 0 < l.length) :
    ∃ g cap, v = .slice (some ⟨g, 0, none⟩) l.length cap ∧ base ≤ g ∧ g < w.heap.size ∧ l.length ≤ cap ∧ cap ≤ maxLen ∧ RowIs w g e cap l := by
  rcases h.2 with ⟨_, hz⟩ | ⟨g, cap, cur, rfl, hg, hb, hc, hm, hs, ht⟩
  · omega
  · have hB : Blk w g e cur := hb
    refine ⟨g, cap, rfl, hg, hB.lt, hc, hm, ⟨cur, hb, by omega, fun j hj => ?_⟩, hc⟩
    rw [Nat.mul_one] at ht
    have h1 : (cur.toList.take l.length)[j]? = (l.map bv)[j]? := by rw [ht]
    rw [List.getElem?_take, if_pos hj, List.getElem?_map, List.getElem?_eq_getElem hj] at h1
    show cur[j]? = some (bv (l.getD j 0))
    rw [List.getD_eq_getElem?_getD, List.getElem?_eq_getElem hj]
    simpa using h1

/-- Bytes as a Go string. -/
def bstr (l : List Nat) : ByteArray := ⟨(l.map UInt8.ofNat).toArray⟩
theorem bstr_inj {a b : List Nat} (ha : Crc.Bytes a) (hb : Crc.Bytes b) (h : a.map UInt8.ofNat = b.map UInt8.ofNat) : a = b := by
  have e : ∀ l : List Nat, Crc.Bytes l → (l.map UInt8.ofNat).map UInt8.toNat = l := fun l hl => by
    rw [List.map_map]
    conv => rhs; rw [← List.map_id l]
    exact List.map_congr_left fun x hx => by
      have := hl x hx
      simp [UInt8.toNat_ofNat']
      omega
  rw [← e a ha, ← e b hb, h]
theorem run_convert_rb {P : Program} {w : World} {B n : Nat} {A : Option Addr} {l : List Nat} (src e dst : TypeId) (c : Nat) (hs : P.underlying src = some (.slice e)) (he : P.underlying e = some (.int .u8)) (hd : P.underlying dst = some .string)
    (hr : RB w B A n l) : (convert src dst (.slice A n c)).run P w = .ok (.string (bstr l)) w := by
  have hlen := hr.len
  rcases A with _ | ad
  · have h0 : n = 0 := by
      rcases Nat.eq_zero_or_pos n with h0 | h0
      · exact h0
      · obtain ⟨ad, h, _⟩ := hr.2 h0
        cases h
    subst h0
    rw [List.eq_nil_of_length_eq_zero hlen]
    exact run_convert_bytes_nil w src e hs he _ _ dst hd
  · have hl : (loadCells ad n).run P w = .ok ((l.map (fun b : Nat => (b : Int))).map (Value.int .u8)).toArray w := by
      have := run_loadCells_list (P := P) w ad (l.map bv) (fun j v hj => by
        have hj' : j < (l.map bv).length := by
          rcases Nat.lt_or_ge j (l.map bv).length with hlt | hge
          · exact hlt
          · rw [List.getElem?_eq_none hge] at hj; cases hj
        obtain ⟨ad', h, _, hc⟩ := hr.2 (by simp at hj'; omega)
        injection h with h
        subst h
        exact hc j v hj)
      rw [List.length_map, hlen] at this
      rw [this, List.map_map]
      rfl
    rw [run_convert_bytes_string w src dst e _ n c hs he hd, run_bytesToString w _ n c _ hl, foldl_push_bytes]
    simp [bstr, ByteArray.empty, ByteArray.emptyWithCapacity]
    rfl

theorem bstr_toList (l : List Nat) : (bstr l).toList = l.map UInt8.ofNat := by
  rw [ByteArray.toList_eq]
  simp [bstr]
theorem bstr_beq {a b : List Nat} (ha : Crc.Bytes a) (hb : Crc.Bytes b) : ((bstr a).toList == (bstr b).toList) = decide (a = b) := by
  rw [bstr_toList, bstr_toList]
  by_cases h : a = b
  · subst h; simp
  · rw [decide_eq_false h]
    exact beq_eq_false_iff_ne.2 fun e => h (bstr_inj ha hb e)

theorem rb_nil (w : World) (B : Nat) (A : Option Addr) : RB w B A 0 [] := ⟨rfl, fun h => absurd h (by omega)⟩
theorem rb_alloc (w : World) (C : Array Value) (t : TypeId) (fr : Nat × Nat) (l : List Nat) (hl : C.toList = l.map bv) : RB (w.alloc (.cells C t fr)) (w.heap.size + 1) (some ⟨w.heap.size, 0, none⟩) l.length l := by
  refine ⟨by simp, fun _ => ⟨_, rfl, Nat.lt_succ_self _, fun j u hu => ?_⟩⟩
  have e : (⟨w.heap.size, 0, none⟩ : Addr).add j = ⟨w.heap.size, j, none⟩ := by
    unfold Addr.add
    split
    · rename_i h0; rw [h0]
    · simp
  rw [e, World.cell?_alloc_mark, ← hu, ← hl]
  simp

set_option maxHeartbeats 1000000 in
/-- '==' of two arrays of eight bytes. -/
theorem run_equalIn_bytes8 {P : Program} (w : World) (d : Nat) (t e : TypeId) (i : TypeInfo) (ht : P.underlying t = some (.array 8 e)) (he : P.underlying e = some (.int .u8)) (hi : P.info? e = some i) (hs : i.size = 1)
    (a0 a1 a2 a3 a4 a5 a6 a7 b0 b1 b2 b3 b4 b5 b6 b7 : Nat) :
    (Op.equalIn (d + 2) t (.agg #[bv a0, bv a1, bv a2, bv a3, bv a4, bv a5, bv a6, bv a7]) (.agg #[bv b0, bv b1, bv b2, bv b3, bv b4, bv b5, bv b6, bv b7])).run P w = .ok (decide ([a0, a1, a2, a3, a4, a5, a6, a7] = [b0, b1, b2, b3, b4, b5, b6, b7])) w := by
  have hp : ∀ (xs : Array Value) (k : Nat) (w : World), (part e xs k).run P w = match xs[k]? with | some v => .ok v w | none => (stuck "part: no such cell" : Sem Value).run P w := by
    intro xs k w
    simp only [part, Sem.run_bind, isAgg, run_underlying he, Result.andThen_ok, Sem.run_pure]
    cases h : xs[k]? <;> simp
  have heq : ∀ (a b : Nat) (w : World), (Op.equalIn (d + 1) e (bv a) (bv b)).run P w = .ok (decide (a = b)) w := by
    intro a b w
    unfold bv
    rw [run_equalIn_int w d e .u8 .u8 _ _ he]
    congr 1
    by_cases h : a = b
    · subst h; simp
    · rw [decide_eq_false h]
      exact beq_eq_false_iff_ne.2 (by omega)
  have hsz : (sizeOf e).run P w = .ok 1 w := by simp [sizeOf, typeInfo, hi, hs]
  rw [Op.equalIn]
  simp only [Sem.run_bind, run_underlying ht, Result.andThen_ok, hsz, Nat.mul_one, Std.Legacy.Range.forIn_eq_forIn_range', Std.Legacy.Range.size]
  have hr : List.range' 0 ((8 - 0 + 1 - 1) / 1) 1 = [0, 1, 2, 3, 4, 5, 6, 7] := by decide
  rw [hr]
  rcases Decidable.em (¬ a0 = b0) with h0 | h0
  · simp [hp, heq, h0]
  replace h0 := Decidable.not_not.1 h0
  rcases Decidable.em (¬ a1 = b1) with h1 | h1
  · simp [hp, heq, h0, h1]
  replace h1 := Decidable.not_not.1 h1
  rcases Decidable.em (¬ a2 = b2) with h2 | h2
  · simp [hp, heq, h0, h1, h2]
  replace h2 := Decidable.not_not.1 h2
  rcases Decidable.em (¬ a3 = b3) with h3 | h3
  · simp [hp, heq, h0, h1, h2, h3]
  replace h3 := Decidable.not_not.1 h3
  rcases Decidable.em (¬ a4 = b4) with h4 | h4
  · simp [hp, heq, h0, h1, h2, h3, h4]
  replace h4 := Decidable.not_not.1 h4
  rcases Decidable.em (¬ a5 = b5) with h5 | h5
  · simp [hp, heq, h0, h1, h2, h3, h4, h5]
  replace h5 := Decidable.not_not.1 h5
  rcases Decidable.em (¬ a6 = b6) with h6 | h6
  · simp [hp, heq, h0, h1, h2, h3, h4, h5, h6]
  replace h6 := Decidable.not_not.1 h6
  rcases Decidable.em (¬ a7 = b7) with h7 | h7
  · simp [hp, heq, h0, h1, h2, h3, h4, h5, h6, h7]
  replace h7 := Decidable.not_not.1 h7
  simp [hp, heq, h0, h1, h2, h3, h4, h5, h6, h7]

end Go.Proofs.Ytijhmopejadpdaa

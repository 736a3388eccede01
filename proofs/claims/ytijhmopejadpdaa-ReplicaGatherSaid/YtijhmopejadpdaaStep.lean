/- An append as one step of a region that draws its order. -/
import Derived.Test.YtijhmopejadpdaaVal
import Derived.Deep.RegionLaw
import Derived.Deep.RegionHeld3
import Derived.BigQuiet
namespace Go.Proofs.Ytijhmopejadpdaa
open Go.RowKit

theorem step_append_rb {P : Program} {w : World} {ops : Array Oper} {o : Oper} {a : Act} {K : Act → World → Prop} {Q : Exit → Act → World → Prop} {E : Prop} (hgd : o.guard = none) (s x : Operand) (t : TypeId)
    (ho : o.op = .call { callee := .builtin .append, args := #[s, x], argTypes := #[t, t] })
    (base : Nat) (e : TypeId) (i : TypeInfo) (ht : P.underlying t = some (.slice e)) (hi : P.info? e = some i) (hz : i.zero = some (.int .u8 0)) (hsize : i.size = 1) (hby : i.bytes = 1)
    (v : Value) (l : List Nat) (hs : a.eval s = v) (hown : OB w base e v l) (B : Nat) (A : Option Addr) (m c : Nat) (news : List Nat) (hx : a.eval x = .slice A m c) (hr : RB w B A m news)
    (hlen : l.length + m ≤ 1099511627776) (hbase : base ≤ w.heap.size)
    (h : ∀ v' w', OB w' base e v' (l ++ news) → w.grownBy w' v.ownBlock → (v'.ownBlock = v.ownBlock ∨ v'.ownBlock = some w.heap.size) → K (a.put o.dst v') w') :
    if Region.wanted o (yielded ops a.tmps) = true then Oper.wp P o a w K Q else E := by
  have hw : Region.wanted o (yielded ops a.tmps) = true := by simp [Region.wanted, hgd]
  rw [if_pos hw]
  exact wp_append_rb w s x t ho base e i ht hi hz hsize hby v l hs hown B A m c news hx hr hlen hbase h
theorem step_append_ov {P : Program} {w : World} {ops : Array Oper} {o : Oper} {a : Act} {K : Act → World → Prop} {Q : Exit → Act → World → Prop} {E : Prop} (hgd : o.guard = none) (s x : Operand) (t : TypeId)
    (ho : o.op = .call { callee := .builtin .append, args := #[s, x], argTypes := #[t, t] })
    (base : Nat) (e : TypeId) (i : TypeInfo) (z : Value) (bytes : Nat) (ht : P.underlying t = some (.slice e)) (hi : P.info? e = some i) (hz : i.zero = some z) (hsize : i.size = 1) (hby : i.bytes = bytes) (hzc : z.cells.size = 1)
    (v : Value) (xs : List Value) (hs : a.eval s = v) (hown : OV w base e v xs) (B : Nat) (A : Option Addr) (m c : Nat) (news : List Value) (hx : a.eval x = .slice A m c) (hr : Reads w B 1 A m news) (h1 : ∀ u ∈ news, u.oneCell' = true)
    (hlen : xs.length + m ≤ maxLen) (hbytes : (xs.length + m) * bytes ≤ 140737488355328) (hbase : base ≤ w.heap.size)
    (h : ∀ v' w', OV w' base e v' (xs ++ news) → w.grownBy w' v.ownBlock → (v'.ownBlock = v.ownBlock ∨ v'.ownBlock = some w.heap.size) → K (a.put o.dst v') w') :
    if Region.wanted o (yielded ops a.tmps) = true then Oper.wp P o a w K Q else E := by
  have hw : Region.wanted o (yielded ops a.tmps) = true := by simp [Region.wanted, hgd]
  rw [if_pos hw]
  exact wp_append_ov w s x t ho base e i z bytes ht hi hz hsize hby hzc v xs hs hown B A m c news hx hr h1 hlen hbytes hbase h

/-- The worlds that meet a condition, as a class that a region's one walk keeps to. -/
def Cls (S : World → Prop) : Type := {W : World // S W}
def Cls.W {S : World → Prop} (z : Cls S) : World := z.1
theorem Cls.ok {S : World → Prop} (z : Cls S) : S z.W := z.2
theorem wp_region_cls {P : Program} (S : World → Prop) {id : Nat} {Q : Exit → Act → World → Prop} {a : Act} {w : World} {l : List Oper} (hm : P.follows .mixedOrders = true) (hB : Region.lexB .any l.toArray = true) (hC : S w.drew)
    (h : wpQuiet P l.toArray (fun w' => ∃ z : Cls S, w' = z.W) (fun a' => ∀ w', (∃ z : Cls S, w' = z.W) → Q .normal a' w') l a) : (Code.region id l.toArray true).wp P Q a w :=
  wp_region_quiet (C := fun w' => ∃ z : Cls S, w' = z.W) hm hB ⟨⟨_, hC⟩, rfl⟩ (by simpa using h)
theorem cls_call {P : Program} {S : World → Prop} {f : FuncId} {args : Array Value} {z : Cls S} {v : Value} (h : ∀ W, S W → Calls P f args W fun e w' => e = .returned v ∧ S w') :
    Calls P f args z.W fun e w'' => e = .returned v ∧ ∃ z : Cls S, w'' = z.W :=
  (h z.W z.ok).mono fun _ w' ⟨h1, h2⟩ => ⟨h1, ⟨w', h2⟩, rfl⟩

end Go.Proofs.Ytijhmopejadpdaa

/- Small equations between Go's words on 64-bit numbers, as the walks write them, and natural numbers. -/
import Derived.Test.YtijhmopejadpdaaMath
import Derived.WalkKit
import Derived.WalkSpells
import Derived.WalkLawsBesides
import Derived.Laws.BitsAllLaws
import Derived.Lib.Hide
import Derived.Deep.AppendLies
import Derived.Deep.Draws
import Derived.Deep.OwnRows
import Derived.Maps.AppendAt
import Derived.Deep.QuietTactic
import Derived.BigQuiet
import Derived.Deep.RegionHeld3
import Derived.Deep.DeepCutAuto
import Derived.Deep.DeepFit
import Derived.Lib.SlBytesConst
import Derived.Lib.SmallJoins
namespace Go.Proofs.Ytijhmopejadpdaa
open Go.RowKit

theorem ret_u64 {a b : Int} (h : a = b) : Ending.returned (.int .u64 a) = .returned (.int .u64 b) := by rw [h]
theorem lt64 : (2 : Nat) ^ 64 = 18446744073709551616 := by decide
theorem odd_yes {x : Nat} (hx : x < 18446744073709551616) (h : (bits BinOp.and IntKind.u64 (x : Int) 1 == 1) = true) : x % 2 = 1 := by
  rw [and_one_u64 _ (by omega) (by omega)] at h
  have := eq_of_beq h
  omega
theorem odd_no {x : Nat} (hx : x < 18446744073709551616) (h : (bits BinOp.and IntKind.u64 (x : Int) 1 == 1) = false) : ¬ x % 2 = 1 := by
  rw [and_one_u64 _ (by omega) (by omega)] at h
  have := ne_of_beq_false h
  omega
theorem odd_of {x : Nat} (hx : x < 18446744073709551616) (h : x % 2 = 1) : (bits BinOp.and IntKind.u64 (x : Int) 1 == 1) = true := by
  rw [and_one_u64 _ (by omega) (by omega)]
  exact beq_iff_eq.2 (by omega)
theorem odd_of_not {x : Nat} (hx : x < 18446744073709551616) (h : ¬ x % 2 = 1) : (bits BinOp.and IntKind.u64 (x : Int) 1 == 1) = false := by
  rw [and_one_u64 _ (by omega) (by omega)]
  exact beq_eq_false_iff_ne.2 (by omega)
theorem half (x : Nat) : ((x : Int) / 2) = ((x / 2 : Nat) : Int) := by omega
theorem step_odd {x : Nat} (hx : x < 18446744073709551616) (h : x % 2 = 1) : bits BinOp.xor IntKind.u64 ((x : Int) / 2) 14514072000185962306 = (Crc.stp x : Nat) := by
  rw [half, show (14514072000185962306 : Int) = ((Crc.poly : Nat) : Int) from rfl, bits_xor_u64_nat _ _ (by omega) (by unfold Crc.poly; omega)]
  unfold Crc.stp
  rw [if_pos h]
theorem step_even {x : Nat} (h : ¬ x % 2 = 1) : ((x : Int) / 2) = (Crc.stp x : Nat) := by
  rw [half]
  unfold Crc.stp
  rw [if_neg h]
theorem stp_lt' {x : Nat} (h : x < 18446744073709551616) : Crc.stp x < 18446744073709551616 := by
  have := Crc.stp_lt (x := x) (by rw [lt64]; exact h)
  rwa [lt64] at this
theorem stps_lt' (n : Nat) {x : Nat} (h : x < 18446744073709551616) : Crc.stps n x < 18446744073709551616 := by
  have := Crc.stps_lt n (x := x) (by rw [lt64]; exact h)
  rwa [lt64] at this
theorem xor_lt' {a b : Nat} (ha : a < 18446744073709551616) (hb : b < 18446744073709551616) : a ^^^ b < 18446744073709551616 := by
  have := Nat.xor_lt_two_pow (n := 64) (x := a) (y := b) (by rw [lt64]; exact ha) (by rw [lt64]; exact hb)
  rwa [lt64] at this
theorem upd_lt' {l : List Nat} {x : Nat} (hl : Crc.Bytes l) (h : x < 18446744073709551616) : Crc.upd x l < 18446744073709551616 := by
  have := Crc.upd_lt l (x := x) hl (by rw [lt64]; exact h)
  rwa [lt64] at this
theorem updS_lt' {l : List Nat} {x : Nat} (hl : Crc.Bytes l) (h : x < 18446744073709551616) : Crc.updS x l < 18446744073709551616 := by
  have := Crc.updS_lt (l := l) (s := x) hl (by rw [lt64]; exact h)
  rwa [lt64] at this
theorem sumS_lt' {l : List Nat} (hl : Crc.Bytes l) : Crc.sumS l < 18446744073709551616 := updS_lt' hl (by omega)
theorem ones_lt : Crc.ones < 18446744073709551616 := by unfold Crc.ones; omega

theorem and_one_i64 (n : Int) : bits BinOp.and IntKind.i64 n 1 = n % 2 := by
  have h1 : (BitVec.ofInt 64 1).toNat = 2 ^ 1 - 1 := by decide
  have key : (BitVec.ofInt 64 n &&& BitVec.ofInt 64 1).toNat = (n % ((2 ^ 64 : Nat) : Int)).toNat % 2 ^ 1 := by
    rw [BitVec.toNat_and, BitVec.toNat_ofInt, h1, Nat.and_two_pow_sub_one_eq_mod]
  show IntKind.i64.wrap ((BitVec.ofInt 64 n &&& BitVec.ofInt 64 1).toNat : Nat) = n % 2
  rw [key, IntKind.wrap_i64]
  omega
theorem iodd_of {n : Nat} (h : n % 2 = 1) : (bits BinOp.and IntKind.i64 (n : Int) 1 == 1) = true := by
  rw [and_one_i64]; exact beq_iff_eq.2 (by omega)
theorem iodd_of_not {n : Nat} (h : ¬ n % 2 = 1) : (bits BinOp.and IntKind.i64 (n : Int) 1 == 1) = false := by
  rw [and_one_i64]; exact beq_eq_false_iff_ne.2 (by omega)

/- Words for memory. -/
theorem block_of_add (a : Addr) (n : Nat) : (a.add n).block = a.block := by unfold Addr.add; split <;> rfl
theorem add_of_add (a : Addr) (i j : Nat) : (a.add i).add j = a.add (i + j) := by
  unfold Addr.add
  by_cases hi : i = 0 <;> by_cases hj : j = 0 <;> simp [hi, hj, Nat.add_assoc]

/-- The slice value '.slice A n c' reads as the cells xs, below block B. -/
def Reads (w : World) (B size : Nat) (A : Option Addr) (n : Nat) (xs : List Value) : Prop :=
  xs.length = n * size ∧ (0 < n → ∃ ad, A = some ad ∧ ad.block < B ∧ ∀ j u, xs[j]? = some u → w.cell? (ad.add j) = some u)
section
variable {w w' : World} {B B' size n : Nat} {A : Option Addr} {xs : List Value}
theorem Reads.none_ : Reads w B size A 0 [] := ⟨by simp, fun h => absurd h (by omega)⟩
theorem Reads.at_ {k : Nat} (h : Reads w B 1 A n xs) (hk : k < n) : ∃ ad u, A = some ad ∧ ad.block < B ∧ xs[k]? = some u ∧ w.cell? (ad.add k) = some u := by
  obtain ⟨ad, e, hb, hc⟩ := h.2 (by omega)
  have hl : k < xs.length := by have := h.1; omega
  exact ⟨ad, xs[k], e, hb, List.getElem?_eq_getElem hl, hc k _ (List.getElem?_eq_getElem hl)⟩
theorem Reads.keep (h : Reads w B size A n xs) (hk : ∀ p : Addr, p.block < B → w'.cell? p = w.cell? p) : Reads w' B size A n xs :=
  ⟨h.1, fun hn => by
    obtain ⟨ad, e, hb, hc⟩ := h.2 hn
    exact ⟨ad, e, hb, fun j u hu => (hk _ (by rw [block_of_add]; exact hb)).trans (hc j u hu)⟩⟩
theorem Reads.more (h : Reads w B size A n xs) (hB : B ≤ B') : Reads w B' size A n xs :=
  ⟨h.1, fun hn => by
    obtain ⟨ad, e, hb, hc⟩ := h.2 hn
    exact ⟨ad, e, by omega, hc⟩⟩
theorem Reads.below (h : Reads w B size A n xs) (hb : Below B w w') : Reads w' B size A n xs := h.keep fun _ hp => hb.cell hp
theorem Reads.drew (h : Reads w B size A n xs) : Reads w.drew B size A n xs := h
theorem Reads.drewN (h : Reads w B size A n xs) (k : Nat) : Reads (w.drewN k) B size A n xs := h
theorem Reads.alloc (h : Reads w B size A n xs) (hB : B ≤ w.heap.size) (o : Obj) : Reads (w.alloc o) B size A n xs := h.keep fun p hp => World.cell?_alloc_lt w o p (by omega)
theorem Reads.setCell (h : Reads w B size A n xs) {p : Addr} (hB : B ≤ p.block) (u : Value) : Reads (w.setCell p u) B size A n xs :=
  h.keep fun q hq => World.cell?_setCell_other w p q u (fun e => by subst e; omega)
theorem Reads.grown (h : Reads w B size A n xs) {row : Option Nat} (hg : w.grownBy w' row) (hB : B ≤ w.heap.size) (hr : ∀ g, row = some g → B ≤ g) : Reads w' B size A n xs :=
  h.keep fun p hp => World.cell?_of_block (hg.block p.block (by omega) (fun e => by have := hr _ e.symm; omega))
theorem Reads.of_own {base : Nat} {e : TypeId} {c : Nat} (h : w.ownsRow base e size (.slice A n c) n xs) : Reads w w.heap.size size A n xs := by
  refine ⟨h.1, fun hn => ?_⟩
  obtain ⟨g, cap, hv, _, hlt⟩ := h.form hn
  have hA : A = some ⟨g, 0, none⟩ := by injection hv
  subst hA
  exact ⟨_, rfl, hlt, h.cells (g := g) rfl⟩
theorem Reads.cut (h : Reads w B size A n xs) {k cap : Nat} (hk : k ≤ n) (hc : n ≤ cap) :
    Reads w B size (if cap = k then A else A.map (·.add (k * size))) (n - k) (xs.drop (k * size)) := by
  refine ⟨by rw [List.length_drop, h.1, Nat.sub_mul], fun hn => ?_⟩
  obtain ⟨ad, rfl, hb, hcell⟩ := h.2 (by omega)
  rw [if_neg (by omega)]
  refine ⟨ad.add (k * size), rfl, by rw [block_of_add]; exact hb, fun j u hu => ?_⟩
  rw [add_of_add]
  exact hcell _ u (by rw [← hu, List.getElem?_drop])
end

/-- A byte as a cell. -/
def bv (b : Nat) : Value := .int .u8 (b : Int)
/-- A slice of bytes. -/
def RB (w : World) (B : Nat) (A : Option Addr) (n : Nat) (l : List Nat) : Prop := Reads w B 1 A n (l.map bv)
theorem RB.len {w : World} {B n : Nat} {A : Option Addr} {l : List Nat} (h : RB w B A n l) : l.length = n := by
  have := h.1
  simpa using this
theorem RB.at_ {w : World} {B n k : Nat} {A : Option Addr} {l : List Nat} (h : RB w B A n l) (hk : k < n) : ∃ ad, A = some ad ∧ ad.block < B ∧ w.cell? (ad.add k) = some (.int .u8 ((l.getD k 0 : Nat) : Int)) := by
  obtain ⟨ad, u, e, hb, hx, hc⟩ := Reads.at_ h hk
  refine ⟨ad, e, hb, ?_⟩
  have hl := h.len
  rw [List.getElem?_map, List.getElem?_eq_getElem (by omega)] at hx
  simp only [Option.map_some, Option.some.injEq] at hx
  rw [hc, ← hx, List.getD_eq_getElem?_getD, List.getElem?_eq_getElem (by omega)]
  rfl
theorem bytes_getD {l : List Nat} (h : Crc.Bytes l) (k : Nat) : l.getD k 0 < 256 := by
  rw [List.getD_eq_getElem?_getD]
  by_cases hk : k < l.length
  · rw [List.getElem?_eq_getElem hk]
    exact h _ (List.getElem_mem _)
  · rw [List.getElem?_eq_none (by omega)]
    simp
theorem bytes_take {l : List Nat} (h : Crc.Bytes l) (k : Nat) : Crc.Bytes (l.take k) := fun b hb => h b (List.mem_of_mem_take hb)
theorem bytes_drop {l : List Nat} (h : Crc.Bytes l) (k : Nat) : Crc.Bytes (l.drop k) := fun b hb => h b (List.mem_of_mem_drop hb)

/-- A block that is known whole. -/
def Blk (w : World) (g : Nat) (t : TypeId) (cs : Array Value) : Prop := w.heap[g]? = some (.cells cs t (0, 0))
section
variable {w w' : World} {g : Nat} {t : TypeId} {cs : Array Value}
theorem Blk.lt (h : Blk w g t cs) : g < w.heap.size := by
  rcases Nat.lt_or_ge g w.heap.size with hlt | hge
  · exact hlt
  · unfold Blk at h; rw [Array.getElem?_eq_none hge] at h; cases h
theorem Blk.cell (h : Blk w g t cs) (i : Nat) : w.cell? ⟨g, i, none⟩ = cs[i]? := cell_of_row w g i cs t (0, 0) h
theorem Blk.frozen (h : Blk w g t cs) (i : Nat) : w.frozen? ⟨g, i, none⟩ = false := by
  unfold Blk at h
  simp [World.frozen?, h]
theorem Blk.new (w : World) (t : TypeId) (cs : Array Value) : Blk (w.alloc (.cells cs t)) w.heap.size t cs := heap_alloc_new w _
theorem Blk.drew (h : Blk w g t cs) : Blk w.drew g t cs := h
theorem Blk.drewN (h : Blk w g t cs) (n : Nat) : Blk (w.drewN n) g t cs := h
theorem Blk.alloc (h : Blk w g t cs) (o : Obj) : Blk (w.alloc o) g t cs := (Below.heap_alloc w o g h.lt).trans h
theorem Blk.set_ (h : Blk w g t cs) (i : Nat) (u : Value) : Blk (w.setCell ⟨g, i, none⟩ u) g t (cs.setIfInBounds i u) := by
  unfold Blk at h ⊢
  simp [World.setCell, Array.getElem?_modify, h]
theorem Blk.far (h : Blk w g t cs) {p : Addr} (hp : g ≠ p.block) (u : Value) : Blk (w.setCell p u) g t cs := (Below.heap_setCell w p u g hp).trans h
theorem Blk.below {B : Nat} (h : Blk w g t cs) (hb : Below B w w') (hg : g < B) : Blk w' g t cs := (hb.block g hg).trans h
theorem Blk.grown {row : Option Nat} (h : Blk w g t cs) (hb : w.grownBy w' row) (hg : some g ≠ row) : Blk w' g t cs := (hb.block g h.lt hg).trans h
end
theorem below_drewN {B : Nat} {a w : World} (h : Below B a w) (n : Nat) : Below B a (w.drewN n) := ⟨h.os, h.tape, h.output, h.size, h.block⟩

/-- A []byte argument as the row's frame hands it over: some bytes. -/
theorem row_bytes {w : World} {a : Option Addr} {len cap : Nat} {zs : List Int}
    (h : (a = none ∧ len = 0 ∧ cap = 0 ∧ zs = []) ∨ ∃ x, a = some x ∧ len ≤ cap ∧ cap ≤ maxLen ∧ zs.length = cap ∧ (∀ i, i < zs.length → w.cell? (x.add i) = some (.int .u8 (zs.getD i 0))) ∧ ∀ n ∈ zs, (Lit.int .u8 n).wf = true) :
    ∃ l : List Nat, Crc.Bytes l ∧ RB w w.heap.size a len l ∧ len ≤ cap ∧ cap ≤ maxLen := by
  rcases h with ⟨rfl, rfl, rfl, rfl⟩ | ⟨x, rfl, hl, hm, hz, hc, hw⟩
  · exact ⟨[], fun _ h => (by cases h), ⟨rfl, fun h => absurd h (by omega)⟩, Nat.le_refl _, Nat.zero_le _⟩
  · have hb : ∀ n ∈ zs, 0 ≤ n ∧ n < 256 := fun n hn => by
      have := hw n hn
      simp [Lit.wf, IntKind.min, IntKind.max, IntKind.signed, IntKind.bits] at this
      omega
    refine ⟨(zs.take len).map Int.toNat, ?_, ⟨by simp; omega, fun h0 => ⟨x, rfl, ?_, ?_⟩⟩, hl, hm⟩
    · intro b hb'
      obtain ⟨n, hn, rfl⟩ := List.mem_map.1 hb'
      have := hb n (List.mem_of_mem_take hn)
      omega
    · have h1 := hc 0 (by omega)
      have := block_lt_of_cell h1
      rwa [block_of_add] at this
    · intro j u hu
      rw [List.getElem?_map, List.getElem?_map, List.getElem?_take] at hu
      by_cases hj : j < len
      · rw [if_pos hj, List.getElem?_eq_getElem (show j < zs.length by omega)] at hu
        simp only [Option.map_some, Option.some.injEq] at hu
        have hv := hb _ (List.getElem_mem (show j < zs.length by omega))
        rw [hc j (by omega), ← hu, List.getD_eq_getElem?_getD, List.getElem?_eq_getElem (show j < zs.length by omega)]
        simp only [Option.getD_some, bv]
        rw [Int.toNat_of_nonneg hv.1]
      · rw [if_neg hj] at hu
        cases hu
theorem wf_nat {k : IntKind} {n : Int} (h : (Lit.int k n).wf = true) (hk : k.signed = false) : ∃ x : Nat, n = x ∧ (x : Int) ≤ k.max := by
  simp only [Lit.wf, IntKind.min, hk, Bool.and_eq_true, decide_eq_true_eq] at h
  obtain ⟨x, rfl⟩ := Int.eq_ofNat_of_zero_le (show 0 ≤ n by simpa using h.1)
  exact ⟨x, rfl, h.2⟩
theorem wf_u64 {n : Int} (h : (Lit.int .u64 n).wf = true) : ∃ x : Nat, n = x ∧ x < 18446744073709551616 := by
  obtain ⟨x, e, hx⟩ := wf_nat h rfl
  exact ⟨x, e, by simp [IntKind.max, IntKind.signed, IntKind.bits] at hx; omega⟩
theorem wf_u16 {n : Int} (h : (Lit.int .u16 n).wf = true) : ∃ x : Nat, n = x ∧ x < 65536 := by
  obtain ⟨x, e, hx⟩ := wf_nat h rfl
  exact ⟨x, e, by simp [IntKind.max, IntKind.signed, IntKind.bits] at hx; omega⟩
theorem wf_u8 {n : Int} (h : (Lit.int .u8 n).wf = true) : ∃ x : Nat, n = x ∧ x < 256 := by
  obtain ⟨x, e, hx⟩ := wf_nat h rfl
  exact ⟨x, e, by simp [IntKind.max, IntKind.signed, IntKind.bits] at hx; omega⟩
theorem wf_i64 {n : Int} (h : (Lit.int .i64 n).wf = true) : -9223372036854775808 ≤ n ∧ n ≤ 9223372036854775807 := by
  simp [Lit.wf, IntKind.min, IntKind.max, IntKind.signed, IntKind.bits] at h
  omega

end Go.Proofs.Ytijhmopejadpdaa

/- Walks over the program's decoding of an entry. -/
import Derived.Test.YtibmigeikkmofaaE3
import Derived.StillTailTactics
namespace Go.Proofs.Ytibmigeikkmofaa
open Go.RowKit

theorem RB.cut' {w : World} {B n : Nat} {ad : Addr} {l : List Nat} (h : RB w B (some ad) n l) (k m : Nat) (hk : 0 < k) (hkm : k + m ≤ n) : RB w B (some ⟨ad.block, ad.off + k, none⟩) m ((l.drop k).take m) := by
  have h1 := h.cut k m hkm
  have e : ad.add k = ⟨ad.block, ad.off + k, none⟩ := by
    unfold Addr.add
    rw [if_neg (by omega)]
  rwa [e] at h1
/-- The zero entry. -/
def noEnt : Value := .agg #[.int .i64 0, .int .i64 0, .int .u64 0, .int .u8 0, .int .u8 0, .int .u8 0, .int .u8 0, .int .u8 0, .int .u8 0, .int .u8 0, .int .u8 0]

/-- Eleven stores into a block of the call's own. -/
theorem below_11 {B g : Nat} {w W : World} (hg : B ≤ g) (h : Below B w W) (v0 v1 v2 v3 v4 v5 v6 v7 v8 v9 v10 : Value) :
    Below B w (((((((((((W.setCell ⟨g, 0, none⟩ v0).setCell ⟨g, 1, none⟩ v1).setCell ⟨g, 2, none⟩ v2).setCell ⟨g, 3, none⟩ v3).setCell ⟨g, 4, none⟩ v4).setCell ⟨g, 5, none⟩ v5).setCell ⟨g, 6, none⟩ v6).setCell ⟨g, 7, none⟩ v7).setCell ⟨g, 8, none⟩ v8).setCell ⟨g, 9, none⟩ v9).setCell ⟨g, 10, none⟩ v10) :=
  ((((((((((h.setCell hg v0).setCell hg v1).setCell hg v2).setCell hg v3).setCell hg v4).setCell hg v5).setCell hg v6).setCell hg v7).setCell hg v8).setCell hg v9).setCell hg v10

set_option maxHeartbeats 400000 in
theorem decode_len (n c : Nat) (A : Option Addr) (w : World) (hn : ¬ n = 37) :
    Calls Try.prog 12 #[.slice A n c] w fun e w' => e = .returned (.tuple #[noEnt, .int .u64 0, .int .i64 5]) ∧ Below w.heap.size w w' := by
  have t : ((n : Int) != 37) = true := bne_iff_ne.2 (by omega)
  clear hn
  go_enter Try.func12, Try.ntmps12
  go_wp2
  exact bodyPost_ret (v := .tuple #[noEnt, .int .u64 0, .int .i64 5]) (by simp [results, Try.results12, go_sem, noEnt]) rfl ⟨rfl, (Below.refl _ _).alloc (Nat.le_refl _) _⟩

set_option maxHeartbeats 400000 in
theorem decode_sum (l : List Nat) (hl : Crc.Bytes l) (B c : Nat) (A : Option Addr) (w : World) (hr : RB w B A 37 l) (hB : B ≤ w.heap.size) (hc : 37 ≤ c) (hs : ¬ Crc.num ((l.drop 29).take 8) = Crc.sumS (l.take 29)) :
    Calls Try.prog 12 #[.slice A 37 c] w fun e w' => e = .returned (.tuple #[noEnt, .int .u64 0, .int .i64 6]) ∧ Below w.heap.size w w' := by
  obtain ⟨ad, rfl, hbl, _⟩ := hr.at_ (k := 0) (by omega)
  have h29 : ¬ c = 29 := by omega
  have t : (((Crc.num ((l.drop 29).take 8) : Nat) : Int) != ((Crc.sumS (l.take 29) : Nat) : Int)) = true := bne_iff_ne.2 (fun h => hs (Int.ofNat.inj h))
  obtain ⟨w0, hw0⟩ : ∃ w0, w0 = w.alloc (.cells #[.int .i64 0, .int .i64 0, .int .u64 0, .int .u8 0, .int .u8 0, .int .u8 0, .int .u8 0, .int .u8 0, .int .u8 0, .int .u8 0, .int .u8 0] 26) := ⟨_, rfl⟩
  have HR : Hid (RB w0 B (some ad) 37 l) := Lib.hid (by rw [hw0]; exact Reads.alloc hr hB _)
  have HL := Lib.hid hl
  have Hw0 := Lib.hid hw0
  clear hr hl hs hw0
  have h37 : (37 : Nat) ≤ maxLen := by unfold maxLen; omega
  go_enter Try.func12, Try.ntmps12
  go_wp2
  rw [← Hw0.out]
  go_quiet (first
    | (go_at_call 20; exact quiet_left (get_any _ (bytes_take (bytes_drop HL.out 29) 8) B 8 _ _ _ (RB.drewN (HR.out.cut' 29 8 (by omega) (by omega)) _) (by omega)))
    | (go_at_call 18; exact quiet_left (sum_any _ (bytes_take HL.out 29) B 29 _ _ _ (RB.drewN (RB.take HR.out 29 (by omega)) _) (by omega))))
  rw [Hw0.out]
  go_wp2
  refine bodyPost_ret (v := .tuple #[noEnt, .int .u64 0, .int .i64 6]) (by simp [results, Try.results12, go_sem, noEnt]) rfl ⟨rfl, ?_⟩
  exact below_11 (Nat.le_refl _) (below_drewN ((Below.refl _ _).alloc (Nat.le_refl _) _) _) _ _ _ _ _ _ _ _ _ _ _

end Go.Proofs.Ytibmigeikkmofaa

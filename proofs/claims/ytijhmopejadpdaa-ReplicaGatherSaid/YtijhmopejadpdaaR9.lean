/- The walk over the statement ReplicaLimit. -/
import Derived.Test.YtijhmopejadpdaaR8
namespace Go.Proofs.Ytijhmopejadpdaa
open Go.RowKit
def True1 (w : World) (e : Ending) (w' : World) : Prop := e = .returned (.bool true) ∧ Below w.heap.size w w'

theorem chunks_limit (n c gen : Nat) (A : Option Addr) (w : World) (hn : 1048576 < n) (hn2 : n ≤ 16777216) :
    Calls Try.prog 9 #[.slice A n c, .int .u64 (gen : Int)] w fun e w' => e = .returned (.tuple #[.slice none 0 0, .int .i64 7]) ∧ Below w.heap.size w w' := by
  have t0 : (n : Int) > 1048576 := by omega
  go_enter Try.func9, Try.ntmps9
  go_wp2_with fail
  refine bodyPost_ret (v := .tuple #[.slice none 0 0, .int .i64 7]) (by simp [results, Try.results9, go_sem]) rfl ⟨rfl, Below.refl _ _⟩

set_option maxHeartbeats 1000000 in
theorem ReplicaLimit_walk (more : Int) (w : World) : Calls Try.prog 6 #[.int .i64 more] w (True1 w) := by
  unfold True1
  go_enter Try.func6, Try.ntmps6
  go_wp2_with fail
  refine (awake_any w).mono ?_
  rintro e w1 ⟨rfl, hb1⟩
  have HB1 := Lib.hid hb1
  clear hb1
  by_cases h1 : more < -3
  · go_wp2_with fail
    refine (awake_any w1).mono ?_
    rintro e w2 ⟨rfl, hb2⟩
    have HB2 := Lib.hid (HB1.out.trans (hb2.mono HB1.out.size))
    clear hb2
    go_wp2
    go_ret
    exact ⟨rfl, HB2.out⟩
  by_cases h2 : more > 3
  · go_wp2_with fail
    refine (awake_any w1).mono ?_
    rintro e w2 ⟨rfl, hb2⟩
    have HB2 := Lib.hid (HB1.out.trans (hb2.mono HB1.out.size))
    clear hb2
    go_wp2
    go_ret
    exact ⟨rfl, HB2.out⟩
  obtain ⟨n, hn⟩ : ∃ n : Nat, 1048576 + more = (n : Int) := ⟨(1048576 + more).toNat, by omega⟩
  obtain ⟨MC, hMC⟩ : ∃ MC, MC = madeCells (Value.int .u8 0).cells (n * 1) := ⟨_, rfl⟩
  have hn16 : n ≤ 16777216 := by omega
  have qM : ∀ W : World, (Instr.makeSlice 22 (.int .i64 (n : Int)) (.int .i64 (n : Int))).run Try.prog W = .ok (.slice (some ⟨W.heap.size, 0, none⟩) n n) (W.alloc (.cells MC 5)) := fun W => by
    rw [hMC]
    exact run_made8 n n rfl hn16
  obtain ⟨w2, hw2⟩ : ∃ w2, w2 = w1.alloc (.cells MC 5) := ⟨_, rfl⟩
  have hR2 : RowIs w2 w1.heap.size 5 n (List.replicate n 0) := by rw [hw2, hMC]; exact made_row w1 n
  have HB2 : Hid (Below w.heap.size w w2) := Lib.hid (by rw [hw2]; exact HB1.out.alloc HB1.out.size _)
  have hrb : RB w2 w2.heap.size (some ⟨w1.heap.size, 0, none⟩) n (List.replicate n 0) := by
    have h := hR2.rb
    rw [List.length_replicate] at h
    exact h
  have HRB := Lib.hid hrb
  have Hw2 := Lib.hid hw2
  clear hMC hR2 hw2 hrb
  by_cases h3 : more > 0
  · have hlim : 1048576 < n := by omega
    have HC : Hid (Calls Try.prog 9 #[.slice (some ⟨w1.heap.size, 0, none⟩) n n, .int .u64 1] w2 fun e w' => e = .returned (.tuple #[.slice none 0 0, .int .i64 7]) ∧ Below w2.heap.size w2 w') := Lib.hid (chunks_limit n n 1 _ w2 hlim hn16)
    go_wp2_with fail
    rw [← Hw2.out]
    refine HC.out.mono ?_
    rintro e w3 ⟨rfl, hb3⟩
    have HB3 := Lib.hid (HB2.out.trans (hb3.mono HB2.out.size))
    clear hb3
    go_wp2
    go_ret
    exact ⟨rfl, HB3.out⟩
  · have hlim : n ≤ 1048576 := by omega
    have hbz : Crc.Bytes (List.replicate n 0) := fun b hb => by rw [List.eq_of_mem_replicate hb]; omega
    have hm : Crc.chunkM n = (n + 31) / 32 := by unfold Crc.chunkM; omega
    have HC : Hid (Calls Try.prog 9 #[.slice (some ⟨w1.heap.size, 0, none⟩) n n, .int .u64 1] w2 fun e w' => ∃ X cc, e = .returned (.tuple #[.slice X ((n + 31) / 32) cc, .int .i64 0]) ∧ Below w2.heap.size w2 w') := Lib.hid (by
      refine (chunks_any (List.replicate n 0) hbz w2.heap.size n n 1 _ w2 HRB.out (Nat.le_refl _) hlim (Nat.le_refl _)).mono ?_
      rintro e w' ⟨v, vs, rfl, hSL, hb⟩
      obtain ⟨X, cc, rfl, _⟩ := hSL.1.form' (n := (n + 31) / 32) (by rw [hSL.2.1, Crc.secs_length, List.length_replicate, hm])
      exact ⟨X, cc, rfl, hb⟩)
    obtain ⟨q, hq⟩ : ∃ q, q = (n + 31) / 32 := ⟨_, rfl⟩
    rw [← hq] at HC
    have tq : ((n : Int) + 31) / 32 = (q : Int) := by omega
    have tt : ((q : Int) == (q : Int)) = true := beq_self_eq_true _
    have Hq := Lib.hid hq
    clear hq hm hbz
    go_wp2_with fail
    rw [← Hw2.out]
    refine HC.out.mono ?_
    rintro e w3 ⟨X, cc, rfl, hb3⟩
    have HB3 := Lib.hid (HB2.out.trans (hb3.mono HB2.out.size))
    clear hb3
    go_wp2
    go_ret
    exact ⟨rfl, HB3.out⟩

end Go.Proofs.Ytijhmopejadpdaa

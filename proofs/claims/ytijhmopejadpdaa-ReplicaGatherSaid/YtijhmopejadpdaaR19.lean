/- The walk over the reference's Usable. -/
import Derived.Test.YtijhmopejadpdaaR18
namespace Go.Proofs.Ytijhmopejadpdaa
open Go.RowKit

/-- What Usable returns. -/
def UsIs (w : World) (B : Nat) (b : List Nat) (ok : Bool) (m : Nat) (X : Option Addr) (k : Nat) : Prop :=
  ok = true → m = Crc.num ((b.drop 12).take 4) ∧ k = b.length - 25 ∧ RB w B X k (chkOf b)

def UsRet (w w' : World) (B : Nat) (b : List Nat) (ok : Bool) (e : Ending) : Prop :=
  ∃ (m k : Nat) (X : Option Addr) (d : Nat), e = .returned (.tuple #[.int .i64 (m : Int), .slice X k d, .bool ok]) ∧ UsIs w B b ok m X k ∧ Below w.heap.size w w'

set_option maxHeartbeats 1000000 in
theorem rusable_any (b : List Nat) (hb : Crc.Bytes b) (B n c gen i : Nat) (Y : Option Addr) (w : World) (hr : RB w B Y n b) (hB : B ≤ w.heap.size) (hc : n ≤ c) (hi : i ≤ 65536) :
    Calls Try.prog 25 #[.slice Y n c, .int .u64 (gen : Int), .int .i64 (i : Int)] w fun e w' => UsRet w w' B b (Crc.rOk b gen i) e := by
  have hl := hr.len
  by_cases h25 : n < 25 ∨ 57 < n
  · have hok : Crc.rOk b gen i = false := decide_eq_false (fun h => by have := h.1; have := h.2.1; omega)
    rw [hok]
    clear hr
    rcases h25 with h | h
    · have t1 : (n : Int) < 25 := by omega
      clear hl
      go_enter Try.func25, Try.ntmps25
      go_wp2_with fail
      refine bodyPost_ret (v := .tuple #[.int .i64 0, .slice none 0 0, .bool false]) (by simp [results, Try.results25, go_sem]) rfl ⟨0, 0, none, 0, rfl, fun h => (by cases h), Below.refl _ _⟩
    · have t1 : ¬ (n : Int) < 25 := by omega
      have t2 : (n : Int) > 57 := by omega
      clear hl
      go_enter Try.func25, Try.ntmps25
      go_wp2_with fail
      refine bodyPost_ret (v := .tuple #[.int .i64 0, .slice none 0 0, .bool false]) (by simp [results, Try.results25, go_sem]) rfl ⟨0, 0, none, 0, rfl, fun h => (by cases h), Below.refl _ _⟩
  · obtain ⟨ad, rfl, hadb, _⟩ := hr.2 (by omega)
    obtain ⟨e, he⟩ : ∃ e, e = n - 8 := ⟨_, rfl⟩
    obtain ⟨k, hk⟩ : ∃ k, k = n - 25 := ⟨_, rfl⟩
    obtain ⟨m, hm⟩ : ∃ m, m = Crc.num ((b.drop 12).take 4) := ⟨_, rfl⟩
    have hm32 : m < 4294967296 := by rw [hm]; exact num_take_lt (bytes_drop hb 12) 4
    have t1 : ¬ ((n : Int) < 25) := by omega
    have t2 : ¬ ((n : Int) > 57) := by omega
    have tE : (n : Int) - 8 = (e : Int) := by omega
    have tk : e - 17 = k := by omega
    have c2 : ¬ c = 12 := by omega
    have c3 : ¬ c = 17 := by omega
    have c6 : (16 : Int) ≤ (c : Int) := by omega
    have c7 : (17 : Int) ≤ (e : Int) := by omega
    have c8 : (e : Int) ≤ (c : Int) := by omega
    have c9 : (e : Int) ≤ (n : Int) := by omega
    have HGet : Hid (Calls Try.prog 29 #[.slice (some ⟨ad.block, ad.off + 12, none⟩) 4 (c - 12)] w fun e w' => e = .returned (.int .u64 (m : Int)) ∧ w = w') := Lib.hid (by
      rw [hm, ← add_pos' ad 12 (by omega)]
      exact rget_any ((b.drop 12).take 4) (bytes_take (bytes_drop hb 12) 4) B 4 _ _ w (hr.cut 12 4 (by omega)) (by omega))
    have hch : RB w B (some ⟨ad.block, ad.off + 17, none⟩) k (chkOf b) := by
      rw [← add_pos' ad 17 (by omega)]
      unfold chkOf
      rw [hl, ← hk]
      exact hr.cut 17 k (by omega)
    have hwm : IntKind.i64.wrap (m : Int) = (m : Int) := by rw [IntKind.wrap_i64]; omega
    have HUs : Hid (∀ ok, UsIs w B b ok m (some ⟨ad.block, ad.off + 17, none⟩) k) := Lib.hid (fun ok _ => ⟨hm, by omega, hch⟩)
    have HOk : Hid (Crc.rOk b gen i = (decide (i < m) && decide (Crc.secB gen i m (chkOf b) = b))) := Lib.hid (by
      unfold Crc.rOk
      rw [← hm, Bool.eq_iff_iff, decide_eq_true_iff, Bool.and_eq_true_iff, decide_eq_true_iff, decide_eq_true_iff]
      exact ⟨fun h => ⟨h.2.2.1, h.2.2.2⟩, fun h => ⟨by omega, by omega, h.1, h.2⟩⟩)
    have HR := Lib.hid hr
    have Hch := Lib.hid hch
    have Hcb : Hid (Crc.Bytes (chkOf b)) := Lib.hid (Crc.chk_bytes hb)
    have Hb := Lib.hid hb
    have hkl : k ≤ 32 := by omega
    have hiw : i < 4294967296 := by omega
    clear hr hl h25 he hk hm hch hb
    by_cases him : i < m
    · have tim : (i : Int) < (m : Int) := by omega
      obtain ⟨sb, hsb⟩ : ∃ sb, sb = Crc.secB gen i m (chkOf b) := ⟨_, rfl⟩
      have hsbb : Crc.Bytes sb := by rw [hsb]; exact Crc.secB_bytes Hcb.out
      have hsbl : sb.length = 25 + k := by rw [hsb, Crc.secB_length, Hch.out.len]
      obtain ⟨v, hv⟩ : ∃ v, v = decide (sb = b) := ⟨_, rfl⟩
      have hok : Crc.rOk b gen i = v := by rw [HOk.out, decide_eq_true him, hv, hsb]; rfl
      have tb : ((bstr sb).toList == (bstr b).toList) = v := by rw [bstr_beq hsbb Hb.out, hv]
      rw [hok]
      obtain ⟨St, HSt⟩ : ∃ St : World → Prop, ∀ W, St W ↔ Below w.heap.size w W := ⟨_, fun _ => Iff.rfl⟩
      have hS0 : St w.drew := (HSt _).2 (Below.refl _ _).drew
      have hcv : ∀ W, St W → (convert 22 9 (.slice (some ad) n c)).run Try.prog W = .ok (.string (bstr b)) W := fun W h => run_convert_rb 22 5 9 c Try.underlying22 Try.underlying5 Try.underlying9 (HR.out.below (((HSt W).1 h).mono hB))
      have HSec : Hid (∀ W, St W → Calls Try.prog 18 #[.int .u64 (gen : Int), .int .i64 (i : Int), .int .i64 (m : Int), .slice (some ⟨ad.block, ad.off + 17, none⟩) k (c - 17)] W fun e w' => ∃ A' c', e = .returned (.slice A' (25 + k) c') ∧ St w' ∧ RB w' w'.heap.size A' (25 + k) sb) := Lib.hid (fun W h => by
        have hb := (HSt W).1 h
        refine (rsector_any (chkOf b) Hcb.out B k (c - 17) gen i m _ W (Hch.out.below (hb.mono hB)) (by have := hb.size; omega) (by omega) (by omega) (by omega)).mono ?_
        rintro e w' ⟨v, rfl, hO, hb'⟩
        rw [← hsb] at hO
        obtain ⟨A', c', rfl, hr', _, _⟩ := hO.form' hsbl
        exact ⟨A', c', rfl, (HSt w').2 (hb.trans (hb'.mono hb.size)), hr'⟩)
      have hcv1 := hcv w.drew hS0
      have HCV := Lib.hid hcv
      have HS := Lib.hid HSt
      clear hcv HSt hsb hsbb hsbl hv hok HOk Hch Hcb
      go_enter Try.func25, Try.ntmps25
      go_wp2_with fail
      refine HGet.out.mono ?_
      rintro _ w' ⟨rfl, rfl⟩
      clear HGet
      go_wp2_with fail
      refine wp_region_held_drew (S := fun W => (convert 22 9 (.slice (some ad) n c)).run Try.prog W = .ok (.string (bstr b)) W ∧ St W) (by kernel_rfl) ⟨hcv1, hS0⟩ (fun hSS => ?_)
      have hSt : St w.drew := hS0
      generalize w.drew = wd at hSS hSt hcv1 ⊢
      refine take_at 0 (some 28) ?av0 rfl rfl (by kernel_rfl) (by kernel_rfl) (by kernel_rfl) (fun _ _ _ h => h) ?ay0 hSS ?ar0
      case ay0 => first | (refine Or.inr ⟨?_, ?_⟩; rfl; rfl) | (refine Or.inl ⟨by rfl, ?_⟩; intro W9 hSw; (try dsimp only at hSw); go_simp; done) | (refine Or.inl ⟨by rfl, ?_⟩; intro W9 hSw; (try dsimp only at hSw); go_simp; with_reducible rfl)
      simp only [Act.put, List.setIfInBounds_toArray, List.set_cons_zero, List.set_cons_succ]
      refine take_at 1 (some 29) ?av1 rfl rfl (by kernel_rfl) (by kernel_rfl) (by kernel_rfl) (fun _ _ _ h => h) ?ay1 hSS ?ar1
      case ay1 => first | (refine Or.inr ⟨?_, ?_⟩; rfl; rfl) | (refine Or.inl ⟨by rfl, ?_⟩; intro W9 hSw; (try dsimp only at hSw); go_simp; done) | (refine Or.inl ⟨by rfl, ?_⟩; intro W9 hSw; (try dsimp only at hSw); go_simp; with_reducible rfl)
      simp only [Act.put, List.setIfInBounds_toArray, List.set_cons_zero, List.set_cons_succ]
      refine take_at 2 (some 30) ?av2 rfl rfl (by kernel_rfl) (by kernel_rfl) (by kernel_rfl) (fun _ _ _ h => h) ?ay2 hSS ?ar2
      case ay2 => first | (refine Or.inr ⟨?_, ?_⟩; rfl; rfl) | (refine Or.inl ⟨by rfl, ?_⟩; intro W9 hSw; (try dsimp only at hSw); go_simp; done) | (refine Or.inl ⟨by rfl, ?_⟩; intro W9 hSw; (try dsimp only at hSw); go_simp; with_reducible rfl)
      simp only [Act.put, List.setIfInBounds_toArray, List.set_cons_zero, List.set_cons_succ]
      refine take_at 3 (some 31) ?av3 rfl rfl (by kernel_rfl) (by kernel_rfl) (by kernel_rfl) (fun _ _ _ h => h) ?ay3 hSS ?ar3
      case ay3 => first | (refine Or.inr ⟨?_, ?_⟩; rfl; rfl) | (refine Or.inl ⟨by rfl, ?_⟩; intro W9 hSw; (try dsimp only at hSw); go_simp; done) | (refine Or.inl ⟨by rfl, ?_⟩; intro W9 hSw; (try dsimp only at hSw); go_simp; with_reducible rfl)
      simp only [Act.put, List.setIfInBounds_toArray, List.set_cons_zero, List.set_cons_succ]
      refine take_at 4 (some 32) ?av4 rfl rfl (by kernel_rfl) (by kernel_rfl) (by kernel_rfl) (fun _ _ _ h => h) ?ay4 hSS ?ar4
      case ay4 => first | (refine Or.inr ⟨?_, ?_⟩; rfl; rfl) | (refine Or.inl ⟨by rfl, ?_⟩; intro W9 hSw; (try dsimp only at hSw); go_simp; done) | (refine Or.inl ⟨by rfl, ?_⟩; intro W9 hSw; (try dsimp only at hSw); go_simp; with_reducible rfl)
      simp only [Act.put, List.setIfInBounds_toArray, List.set_cons_zero, List.set_cons_succ]
      refine take_at 5 (some 33) ?av5 rfl rfl (by kernel_rfl) (by kernel_rfl) (by kernel_rfl) (fun _ _ _ h => h) ?ay5 hSS ?ar5
      case ay5 => first | (refine Or.inr ⟨?_, ?_⟩; rfl; rfl) | (refine Or.inl ⟨by rfl, ?_⟩; intro W9 hSw; (try dsimp only at hSw); go_simp; done) | (refine Or.inl ⟨by rfl, ?_⟩; intro W9 hSw; (try dsimp only at hSw); go_simp; with_reducible rfl)
      simp only [Act.put, List.setIfInBounds_toArray, List.set_cons_zero, List.set_cons_succ]
      refine take_at 6 (some 34) ?av6 rfl rfl (by kernel_rfl) (by kernel_rfl) (by kernel_rfl) (fun _ _ _ h => h) ?ay6 hSS ?ar6
      case ay6 => first | (refine Or.inr ⟨?_, ?_⟩; rfl; rfl) | (refine Or.inl ⟨by rfl, ?_⟩; intro W9 hSw; (try dsimp only at hSw); go_simp; done) | (refine Or.inl ⟨by rfl, ?_⟩; intro W9 hSw; (try dsimp only at hSw); go_simp; with_reducible rfl)
      simp only [Act.put, List.setIfInBounds_toArray, List.set_cons_zero, List.set_cons_succ]
      refine take_at 7 (some 35) ?av7 rfl rfl (by kernel_rfl) (by kernel_rfl) (by kernel_rfl) (fun _ _ _ h => h) ?ay7 hSS ?ar7
      case ay7 => first | (refine Or.inr ⟨?_, ?_⟩; rfl; rfl) | (refine Or.inl ⟨by rfl, ?_⟩; intro W9 hSw; (try dsimp only at hSw); go_simp; done) | (refine Or.inl ⟨by rfl, ?_⟩; intro W9 hSw; (try dsimp only at hSw); go_simp; with_reducible rfl)
      simp only [Act.put, List.setIfInBounds_toArray, List.set_cons_zero, List.set_cons_succ]
      refine take_at 8 (some 36) ?av8 rfl rfl (by kernel_rfl) (by kernel_rfl) (by kernel_rfl) (fun _ _ _ h => h) ?ay8 hSS ?ar8
      case ay8 => first | (refine Or.inr ⟨?_, ?_⟩; rfl; rfl) | (refine Or.inl ⟨by rfl, ?_⟩; intro W9 hSw; (try dsimp only at hSw); go_simp; done) | (refine Or.inl ⟨by rfl, ?_⟩; intro W9 hSw; (try dsimp only at hSw); go_simp; with_reducible rfl)
      simp only [Act.put, List.setIfInBounds_toArray, List.set_cons_zero, List.set_cons_succ]
      refine take_at 9 (some 37) ?av9 rfl rfl (by kernel_rfl) (by kernel_rfl) (by kernel_rfl) (fun _ _ _ h => h) ?ay9 hSS ?ar9
      case ay9 => first | (refine Or.inr ⟨?_, ?_⟩; rfl; rfl) | (refine Or.inl ⟨by rfl, ?_⟩; intro W9 hSw; (try dsimp only at hSw); go_simp; done) | (refine Or.inl ⟨by rfl, ?_⟩; intro W9 hSw; (try dsimp only at hSw); go_simp; with_reducible rfl)
      simp only [Act.put, List.setIfInBounds_toArray, List.set_cons_zero, List.set_cons_succ]
      refine take_at 12 (some 40) ?av12 rfl rfl (by kernel_rfl) (by kernel_rfl) (by kernel_rfl) (fun _ _ _ h => h) ?ay12 hSS ?ar12
      case ay12 => first | (refine Or.inr ⟨?_, ?_⟩; rfl; rfl) | (refine Or.inl ⟨by rfl, ?_⟩; intro W9 hSw; (try dsimp only at hSw); go_simp; done) | (refine Or.inl ⟨by rfl, ?_⟩; intro W9 hSw; (try dsimp only at hSw); go_simp; with_reducible rfl)
      simp only [Act.put, List.setIfInBounds_toArray, List.set_cons_zero, List.set_cons_succ]
      refine take_at 13 (some 41) ?av13 rfl rfl (by kernel_rfl) (by kernel_rfl) (by kernel_rfl) (fun _ _ _ h => h) ?ay13 hSS ?ar13
      case ay13 => first | (refine Or.inr ⟨?_, ?_⟩; rfl; rfl) | (refine Or.inl ⟨by rfl, ?_⟩; intro W9 hSw; (try dsimp only at hSw); go_simp; done) | (refine Or.inl ⟨by rfl, ?_⟩; intro W9 hSw; (try dsimp only at hSw); go_simp; with_reducible rfl)
      simp only [Act.put, List.setIfInBounds_toArray, List.set_cons_zero, List.set_cons_succ]
      refine wpAnyH_ready (rs := [10]) (by kernel_rfl) (by simp) ?_
      refine AllReadyH.cons rfl (fun K hK => ?_) AllReadyH.nil
      go_simp
      refine (HSec.out _ hSt).mono ?_
      rintro _ w2 ⟨A', c', rfl, hS2, hr2⟩
      dsimp only
      refine hK.out _ _ ⟨HCV.out w2 hS2, hS2⟩ (fun hSS2 => ?_)
      clear hK K
      have hcs := run_convert_rb (P := Try.prog) 22 5 9 c' Try.underlying22 Try.underlying5 Try.underlying9 hr2
      refine take_at 16 (some 6) ?cv16 rfl rfl (by kernel_rfl) (by kernel_rfl) (by kernel_rfl) (fun _ _ _ h => h) ?cy16 hSS2 ?cr16
      case cy16 => first | (refine Or.inr ⟨?_, ?_⟩; rfl; rfl) | (refine Or.inl ⟨by rfl, ?_⟩; intro W9 hSw; (try dsimp only at hSw); go_simp; done) | (refine Or.inl ⟨by rfl, ?_⟩; intro W9 hSw; (try dsimp only at hSw); go_simp; with_reducible rfl)
      simp only [Act.put, List.setIfInBounds_toArray, List.set_cons_zero, List.set_cons_succ]
      refine take_at 17 (some 7) ?cv17 rfl rfl (by kernel_rfl) (by kernel_rfl) (by kernel_rfl) (fun _ _ _ h => h) ?cy17 hSS2 ?cr17
      case cy17 => first | (refine Or.inr ⟨?_, ?_⟩; rfl; rfl) | (refine Or.inl ⟨by rfl, ?_⟩; intro W9 hSw; (try dsimp only at hSw); go_simp; done) | (refine Or.inl ⟨by rfl, ?_⟩; intro W9 hSw; (try dsimp only at hSw); go_simp; with_reducible rfl)
      simp only [Act.put, List.setIfInBounds_toArray, List.set_cons_zero, List.set_cons_succ]
      refine wpAnyH_ready (rs := [11]) (by kernel_rfl) (by simp) ?_
      refine AllReadyH.cons rfl (fun K hK => ?_) AllReadyH.nil
      go_simp
      refine hK.out _ _ hSS2 (fun _ => ?_)
      clear hK K
      refine take_at 14 (some 42) ?bv14 rfl rfl (by kernel_rfl) (by kernel_rfl) (by kernel_rfl) (fun _ _ _ h => h) ?by14 hSS2 ?br14
      case by14 => first | (refine Or.inr ⟨?_, ?_⟩; rfl; rfl) | (refine Or.inl ⟨by rfl, ?_⟩; intro W9 hSw; (try dsimp only at hSw); go_simp; done) | (refine Or.inl ⟨by rfl, ?_⟩; intro W9 hSw; (try dsimp only at hSw); go_simp; with_reducible rfl)
      simp only [Act.put, List.setIfInBounds_toArray, List.set_cons_zero, List.set_cons_succ]
      refine take_at 15 (some 43) ?bv15 rfl rfl (by kernel_rfl) (by kernel_rfl) (by kernel_rfl) (fun _ _ _ h => h) ?by15 hSS2 ?br15
      case by15 => first | (refine Or.inr ⟨?_, ?_⟩; rfl; rfl) | (refine Or.inl ⟨by rfl, ?_⟩; intro W9 hSw; (try dsimp only at hSw); go_simp; done) | (refine Or.inl ⟨by rfl, ?_⟩; intro W9 hSw; (try dsimp only at hSw); go_simp; with_reducible rfl)
      simp only [Act.put, List.setIfInBounds_toArray, List.set_cons_zero, List.set_cons_succ]
      refine take_at 18 (some 8) ?bv18 rfl rfl (by kernel_rfl) (by kernel_rfl) (by kernel_rfl) (fun _ _ _ h => h) ?by18 hSS2 ?br18
      case by18 => first | (refine Or.inr ⟨?_, ?_⟩; rfl; rfl) | (refine Or.inl ⟨by rfl, ?_⟩; intro W9 hSw; (try dsimp only at hSw); go_simp; done) | (refine Or.inl ⟨by rfl, ?_⟩; intro W9 hSw; (try dsimp only at hSw); go_simp; with_reducible rfl)
      simp only [Act.put, List.setIfInBounds_toArray, List.set_cons_zero, List.set_cons_succ]
      refine wpAnyH_done (by kernel_rfl) ?_ _
      have HBf := Lib.hid ((HS.out _).1 hS2)
      clear hS2 hr2 hcs
      go_wp2_with fail
      refine bodyPost_ret (v := .tuple #[.int .i64 (m : Int), .slice (some ⟨ad.block, ad.off + 17, none⟩) k (c - 17), .bool v]) (by simp [results, Try.results25, go_sem]) rfl ⟨m, k, _, _, rfl, HUs.out v, HBf.out⟩
    · have tim : ¬ (i : Int) < (m : Int) := by omega
      have hd : decide (i < m) = false := decide_eq_false him
      have hok : Crc.rOk b gen i = false := by rw [HOk.out, hd]; rfl
      rw [hok]
      go_enter Try.func25, Try.ntmps25
      go_wp2_with fail
      refine HGet.out.mono ?_
      rintro _ w' ⟨rfl, rfl⟩
      clear HGet
      go_wp2_with fail
      go_region
      all_goals go_wp2_with fail
      all_goals refine bodyPost_ret (v := .tuple #[.int .i64 (m : Int), .slice (some ⟨ad.block, ad.off + 17, none⟩) k (c - 17), .bool false]) (by simp [results, Try.results25, go_sem]) rfl ⟨m, k, _, _, rfl, fun h => (by cases h), (Below.refl _ _).drew⟩

end Go.Proofs.Ytijhmopejadpdaa

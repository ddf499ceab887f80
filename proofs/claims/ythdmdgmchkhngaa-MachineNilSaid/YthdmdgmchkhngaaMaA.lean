/- Package machine's leaf functions: kept, rest, divided, truth, touched, coordinate: their contracts. -/
import Derived.Test.YthdmdgmchkhngaaProg
import Derived.Test.YthdmdgmchkhngaaMachSpec
import Derived.Test.YthdmdgmchkhngaaRep
import Derived.Test.YthdmdgmchkhngaaSeq
import Derived.IntWalk
namespace Go.Proofs.Ythdmdgmchkhngaa
open Go.RowKit

theorem k32_wrap (n : Int) : RowKit.wrap64 (RowKit.wrap32 n) = Mc.k32 n := by
  rw [IntWalk.wrap64_in _ (by unfold RowKit.wrap32; omega)]
  unfold RowKit.wrap32 Mc.k32
  rfl
theorem w64_wrap (n : Int) : RowKit.wrap64 n = Mc.w64 n := by
  unfold RowKit.wrap64 Mc.w64
  rfl
theorem ret_i64 {a b : Int} (h : a = b) : Ending.returned (.int .i64 a) = .returned (.int .i64 b) := by rw [h]

theorem kept_any (n : Int) (w : World) : Calls Try.prog 18 #[.int .i64 n] w fun e w' => e = .returned (.int .i64 (Mc.k32 n)) ∧ w = w' := by
  go_enter Try.func18, Try.ntmps18
  go_wp2
  go_ret
  exact ⟨ret_i64 (k32_wrap n), rfl⟩
theorem kept64_any (n : Int) (w : World) : Calls Try.prog 43 #[.int .i64 n] w fun e w' => e = .returned (.int .i64 (Mc.k32 n)) ∧ w = w' := by
  go_enter Try.func43, Try.ntmps43
  go_wp2
  go_ret
  exact ⟨ret_i64 (k32_wrap n), rfl⟩
theorem tmod_emod (n d : Int) (hd : 0 < d) : n % d = if n.tmod d < 0 then n.tmod d + d else n.tmod d := by
  have h1 := Int.tmod_eq_emod (a := n) (b := d)
  have h2 := Int.emod_nonneg n (show d ≠ 0 by omega)
  have h3 := Int.emod_lt_of_pos n hd
  by_cases h : 0 ≤ n ∨ d ∣ n
  · rw [if_pos h] at h1
    rw [if_neg (by omega)]
    omega
  · rw [if_neg h, Int.natAbs_of_nonneg (by omega)] at h1
    have h4 : n % d ≠ 0 := fun e => h (.inr (Int.dvd_of_emod_eq_zero e))
    rw [if_pos (by omega)]
    omega
theorem rest_m (n d : Int) (w : World) (hd : 0 < d) (hd2 : d ≤ 1000) : Calls Try.prog 19 #[.int .i64 n, .int .i64 d] w fun e w' => e = .returned (.int .i64 (n % d)) ∧ w = w' := by
  have hm := Lib.hid (tmod_emod n d hd)
  have h2 := Int.emod_nonneg n (show d ≠ 0 by omega)
  have h3 := Int.emod_lt_of_pos n hd
  go_enter Try.func19, Try.ntmps19
  go_wp2
  all_goals go_ret
  · have hm := hm.out
    rw [if_pos ‹_›] at hm
    exact ⟨ret_i64 (by rw [hm]; exact IntWalk.wrap64_in _ (by omega)), rfl⟩
  · have hm := hm.out
    rw [if_neg (by omega)] at hm
    exact ⟨ret_i64 hm.symm, rfl⟩
theorem fdiv_tdiv (a b : Int) (hb : b ≠ 0) : a.fdiv b = if a.tmod b ≠ 0 ∧ (decide (a < 0) ≠ decide (b < 0)) then a.tdiv b - 1 else a.tdiv b := by
  have h1 := Int.fdiv_eq_ediv (a := a) (b := b)
  have h2 := Int.tdiv_eq_ediv (a := a) (b := b)
  have h3 := Int.dvd_iff_tmod_eq_zero (a := b) (b := a)
  by_cases hd : b ∣ a
  · rw [if_pos (.inr hd)] at h1 h2
    rw [if_neg (fun h => h.1 (h3.1 hd))]
    omega
  · have h4 : a.tmod b ≠ 0 := fun e => hd (h3.2 e)
    have ha : a ≠ 0 := fun e => hd (by rw [e]; exact Int.dvd_zero _)
    rcases Int.lt_or_gt_of_ne hb with hb | hb
    · have hs : b.sign = -1 := Int.sign_eq_neg_one_of_neg hb
      rw [if_neg (by simp [hd]; omega)] at h1
      by_cases h0 : 0 ≤ a
      · rw [if_pos (.inl h0)] at h2
        rw [if_pos ⟨h4, by simp; omega⟩]
        omega
      · rw [if_neg (by simp [hd]; omega)] at h2
        rw [if_neg (by simp; omega)]
        omega
    · have hs : b.sign = 1 := Int.sign_eq_one_of_pos hb
      rw [if_pos (.inl (by omega))] at h1
      by_cases h0 : 0 ≤ a
      · rw [if_pos (.inl h0)] at h2
        rw [if_neg (by simp; omega)]
        omega
      · rw [if_neg (by simp [hd]; omega)] at h2
        rw [if_pos ⟨h4, by simp; omega⟩]
        omega
theorem w64_sub (a : Int) : RowKit.wrap64 (RowKit.wrap64 a - 1) = Mc.w64 (a - 1) := by
  unfold RowKit.wrap64 Mc.w64
  omega
theorem divided_any (a b : Int) (w : World) : Calls Try.prog 45 #[.int .i64 a, .int .i64 b] w fun e w' => e = .returned (.int .i64 (Mc.w64 (Mc.divd a b))) ∧ w = w' := by
  by_cases hb : b = 0
  · subst hb
    go_enter Try.func45, Try.ntmps45
    go_wp2
    go_ret
    exact ⟨ret_i64 rfl, rfl⟩
  · have hdv : Mc.divd a b = a.fdiv b := by unfold Mc.divd; rw [if_neg hb]
    have HF := Lib.hid (fdiv_tdiv a b hb)
    have HD := Lib.hid hdv
    have h1 : (b == 0) = false := beq_eq_false_iff_ne.2 hb
    clear hdv
    by_cases hc : a.tmod b ≠ 0 ∧ (decide (a < 0) ≠ decide (b < 0))
    · have e1 : (a.tmod b != 0) = true := bne_iff_ne.2 hc.1
      have e2 : (decide (a < 0) == decide (b < 0)) = false := beq_eq_false_iff_ne.2 hc.2
      have HC := Lib.hid hc
      obtain ⟨hc1, _⟩ := hc
      go_enter Try.func45, Try.ntmps45
      go_wp2
      go_ret
      refine ⟨ret_i64 ?_, rfl⟩
      rw [HD.out, HF.out, if_pos HC.out]
      exact w64_sub _
    · have HC := Lib.hid hc
      clear hc
      by_cases hz : a.tmod b = 0
      · have e1 : (a.tmod b != 0) = false := by simp [hz]
        go_enter Try.func45, Try.ntmps45
        go_wp2
        go_ret
        refine ⟨ret_i64 ?_, rfl⟩
        rw [HD.out, HF.out, if_neg HC.out]
        exact w64_wrap _
      · have e1 : (a.tmod b != 0) = true := bne_iff_ne.2 hz
        have e2 : (decide (a < 0) == decide (b < 0)) = true := by
          rcases hd : (decide (a < 0) == decide (b < 0)) with _ | _
          · exact absurd ⟨hz, beq_eq_false_iff_ne.1 hd⟩ HC.out
          · rfl
        go_enter Try.func45, Try.ntmps45
        go_wp2
        go_ret
        refine ⟨ret_i64 ?_, rfl⟩
        rw [HD.out, HF.out, if_neg HC.out]
        exact w64_wrap _
theorem truth_any (b : Bool) (w : World) : Calls Try.prog 55 #[.bool b] w fun e w' => e = .returned (.int .i64 (Mc.truth b)) ∧ w = w' := by
  cases b
  all_goals
    go_enter Try.func55, Try.ntmps55
    go_wp2
    go_ret
    exact ⟨rfl, rfl⟩
theorem touched_any (a : Int) (w : World) (h0 : 0 ≤ a) (h1 : a ≤ 1) : Calls Try.prog 96 #[.int .i64 a] w fun e w' => e = .returned (.int .i64 (a + 1)) ∧ w = w' := by
  have h : a = 0 ∨ a = 1 := by omega
  rcases h with rfl | rfl
  all_goals
    clear h0 h1
    go_enter Try.func96, Try.ntmps96
    go_wp2
    go_ret
    exact ⟨rfl, rfl⟩
theorem coordinate_any (b off : Nat) (a : Int) (w : World) : Calls Try.prog 94 #[.pointer (some ⟨b, off, none⟩), .int .i64 a] w fun e w' => e = .returned (.pointer (some ⟨b, off + (if a = 1 then 1 else 0), none⟩)) ∧ w = w' := by
  by_cases h : a = 1
  · go_enter Try.func94, Try.ntmps94
    go_wp2
    go_ret
    exact ⟨rfl, rfl⟩
  · go_enter Try.func94, Try.ntmps94
    go_wp2
    go_ret
    exact ⟨rfl, rfl⟩
end Go.Proofs.Ythdmdgmchkhngaa

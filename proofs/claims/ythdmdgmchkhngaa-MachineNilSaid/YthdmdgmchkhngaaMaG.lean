/- The plain functions that the machine's deeds bear; Rounded: their contracts. -/
import Derived.Test.YthdmdgmchkhngaaMaF
import Derived.Conc.MuLone
namespace Go.Proofs.Ythdmdgmchkhngaa
open Go.RowKit Mc

theorem rounded_any (mode n : Int) (w : World) : Calls Try.prog 8 #[.int .i64 mode, .int .i64 n] w fun e w' => e = .returned (.int .i64 (rounded mode n)) ∧ w = w' := by
  obtain ⟨k1, k2⟩ := k32_in n
  have m0 := Int.emod_nonneg mode (show (6 : Int) ≠ 0 by omega)
  have m1 := Int.emod_lt_of_pos mode (show (0 : Int) < 6 by omega)
  have hr : rounded mode n = k32 (if mode % 6 = 1 then (k32 n + 32) / 64 * 64 else if mode % 6 = 2 then k32 n / 64 * 64 + 32 else if mode % 6 = 3 then (k32 n + 16) / 32 * 32 else if mode % 6 = 4 then k32 n / 64 * 64 else if mode % 6 = 5 then (k32 n + 63) / 64 * 64 else k32 n) := rfl
  have HR := Lib.hid hr
  clear hr
  generalize hk : k32 n = k at *
  have HK := Lib.hid hk
  clear hk
  generalize hm : mode % 6 = m at *
  have HM := Lib.hid hm
  clear hm
  have h : m = 0 ∨ m = 1 ∨ m = 2 ∨ m = 3 ∨ m = 4 ∨ m = 5 := by omega
  rcases h with rfl | rfl | rfl | rfl | rfl | rfl
  all_goals
    clear m0 m1
    go_enter Try.func8, Try.ntmps8
    go_wp2_with fail
    refine (kept_any n _).mono ?_
    rintro e w1 ⟨rfl, rfl⟩
    rw [HK.out]
    go_wp2_with fail
    refine (rest_m mode 6 _ (by decide) (by decide)).mono ?_
    rintro e w1 ⟨rfl, rfl⟩
    rw [HM.out]
    go_wp2_with fail
    refine (kept_any _ _).mono ?_
    rintro e w1 ⟨rfl, rfl⟩
    go_wp2
    go_ret
    rw [HR.out]
    refine ⟨ret_i64 ?_, rfl⟩
    first | rfl | simp

theorem mul_in {x y : Int} (hx : -2147483648 ≤ x ∧ x ≤ 2147483647) (hy : -2147483648 ≤ y ∧ y ≤ 2147483647) : RowKit.wrap64 (x * y) = x * y := by
  refine IntWalk.wrap64_in _ ?_
  have h1 : x * y ≤ 4611686018427387904 := by
    rcases Int.le_total 0 x with h | h <;> rcases Int.le_total 0 y with h' | h'
    · have := Int.mul_le_mul (show x ≤ 2147483648 by omega) (show y ≤ 2147483648 by omega) h' (by omega); omega
    · have := Int.mul_nonpos_of_nonneg_of_nonpos h h'; omega
    · have := Int.mul_nonpos_of_nonpos_of_nonneg h h'; omega
    · have := Int.mul_le_mul (show -x ≤ 2147483648 by omega) (show -y ≤ 2147483648 by omega) (by omega) (by omega); rw [Int.neg_mul_neg] at this; omega
  have h2 : -4611686018427387904 ≤ x * y := by
    rcases Int.le_total 0 x with h | h <;> rcases Int.le_total 0 y with h' | h'
    · have := Int.mul_nonneg h h'; omega
    · have := Int.mul_le_mul (show x ≤ 2147483648 by omega) (show -y ≤ 2147483648 by omega) (by omega) (by omega); rw [Int.mul_neg] at this; omega
    · have := Int.mul_le_mul (show -x ≤ 2147483648 by omega) (show y ≤ 2147483648 by omega) (by omega) (by omega); rw [Int.neg_mul] at this; omega
    · have := Int.mul_nonneg_of_nonpos_of_nonpos h h'; omega
  omega
theorem divd_in {a b : Int} (h1 : -1000000000000 ≤ a) (h2 : a ≤ 1000000000000) : -1000000000000 ≤ divd a b ∧ divd a b ≤ 1000000000000 := by
  unfold divd
  split
  · omega
  · rename_i hb
    have key : ∀ a b : Int, -1000000000000 ≤ a → a ≤ 1000000000000 → 0 < b → -1000000000000 ≤ a / b ∧ a / b ≤ 1000000000000 := fun a b h1 h2 hb =>
      ⟨Int.le_ediv_of_mul_le hb (by omega), Int.ediv_le_of_le_mul hb (by omega)⟩
    rcases Int.lt_or_gt_of_ne hb with hb | hb
    · rw [← Int.neg_fdiv_neg, Int.fdiv_eq_ediv_of_nonneg _ (by omega)]
      exact key _ _ (by omega) (by omega) (by omega)
    · rw [Int.fdiv_eq_ediv_of_nonneg _ (by omega)]
      exact key _ _ h1 h2 hb
theorem w64_in {a : Int} (h1 : -9223372036854775808 ≤ a) (h2 : a ≤ 9223372036854775807) : w64 a = a := by unfold w64; omega
theorem d5 (x y : Int) (w : World) (hx : K32 x) (hy : K32 y) : Calls Try.prog 40 #[.int .i64 x, .int .i64 y] w fun e w' => e = .returned (.int .i64 (x + y)) ∧ w = w' := by
  unfold K32 at hx hy
  go_enter Try.func40, Try.ntmps40
  go_wp2
  go_ret
  exact ⟨rfl, rfl⟩
theorem d6 (x y : Int) (w : World) (hx : K32 x) (hy : K32 y) : Calls Try.prog 41 #[.int .i64 x, .int .i64 y] w fun e w' => e = .returned (.int .i64 (x - y)) ∧ w = w' := by
  unfold K32 at hx hy
  go_enter Try.func41, Try.ntmps41
  go_wp2
  go_ret
  exact ⟨rfl, rfl⟩
theorem d7 (x y : Int) (w : World) (hx : K32 x) (hy : K32 y) : Calls Try.prog 42 #[.int .i64 x, .int .i64 y] w fun e w' => e = .returned (.int .i64 (k32 (x * y / 64))) ∧ w = w' := by
  unfold K32 at hx hy
  have HM := Lib.hid (mul_in hx hy)
  go_enter Try.func42, Try.ntmps42
  go_wp2_with fail
  refine (kept64_any _ _).mono ?_
  rintro e w1 ⟨rfl, rfl⟩
  go_wp2
  go_ret
  exact ⟨ret_i64 (by rw [HM.out]), rfl⟩
theorem d8 (x y : Int) (w : World) (hx : K32 x) (_hy : K32 y) : Calls Try.prog 44 #[.int .i64 x, .int .i64 y] w fun e w' => e = .returned (.int .i64 (k32 (divd (64 * x) y))) ∧ w = w' := by
  unfold K32 at hx _hy
  go_enter Try.func44, Try.ntmps44
  go_wp2_with fail
  refine (divided_any _ _ _).mono ?_
  rintro e w1 ⟨rfl, rfl⟩
  go_wp2_with fail
  refine (kept64_any _ _).mono ?_
  rintro e w1 ⟨rfl, rfl⟩
  go_wp2
  go_ret
  have hd := divd_in (a := 64 * x) (b := y) (by omega) (by omega)
  exact ⟨ret_i64 (by rw [w64_in (by omega) (by omega)]), rfl⟩
theorem d9 (x : Int) (w : World) (hx : K32 x) : Calls Try.prog 47 #[.int .i64 x] w fun e w' => e = .returned (.int .i64 (-x)) ∧ w = w' := by
  unfold K32 at hx
  go_enter Try.func47, Try.ntmps47
  go_wp2
  go_ret
  exact ⟨rfl, rfl⟩
theorem d10 (x : Int) (w : World) (hx : K32 x) : Calls Try.prog 48 #[.int .i64 x] w fun e w' => e = .returned (.int .i64 (max x (-x))) ∧ w = w' := by
  unfold K32 at hx
  go_enter Try.func48, Try.ntmps48
  go_wp2
  all_goals
    go_ret
    exact ⟨ret_i64 (by omega), rfl⟩
theorem d11 (x y : Int) (w : World) (_hx : K32 x) (_hy : K32 y) : Calls Try.prog 49 #[.int .i64 x, .int .i64 y] w fun e w' => e = .returned (.int .i64 (min x y)) ∧ w = w' := by
  unfold K32 at _hx _hy
  go_enter Try.func49, Try.ntmps49
  go_wp2
  all_goals
    go_ret
    exact ⟨ret_i64 (by omega), rfl⟩
theorem d12 (x y : Int) (w : World) (_hx : K32 x) (_hy : K32 y) : Calls Try.prog 50 #[.int .i64 x, .int .i64 y] w fun e w' => e = .returned (.int .i64 (max x y)) ∧ w = w' := by
  unfold K32 at _hx _hy
  go_enter Try.func50, Try.ntmps50
  go_wp2
  all_goals
    go_ret
    exact ⟨ret_i64 (by omega), rfl⟩
theorem d13 (x : Int) (w : World) (_hx : K32 x) : Calls Try.prog 51 #[.int .i64 x] w fun e w' => e = .returned (.int .i64 (rounded 4 x)) ∧ w = w' := by
  unfold K32 at _hx
  go_enter Try.func51, Try.ntmps51
  go_wp2_with fail
  refine (rounded_any _ _ _).mono ?_
  rintro e w1 ⟨rfl, rfl⟩
  go_wp2
  go_ret
  exact ⟨rfl, rfl⟩
theorem d14 (x : Int) (w : World) (_hx : K32 x) : Calls Try.prog 52 #[.int .i64 x] w fun e w' => e = .returned (.int .i64 (rounded 5 x)) ∧ w = w' := by
  unfold K32 at _hx
  go_enter Try.func52, Try.ntmps52
  go_wp2_with fail
  refine (rounded_any _ _ _).mono ?_
  rintro e w1 ⟨rfl, rfl⟩
  go_wp2
  go_ret
  exact ⟨rfl, rfl⟩
theorem d16 (x y : Int) (w : World) (_hx : K32 x) (_hy : K32 y) : Calls Try.prog 54 #[.int .i64 x, .int .i64 y] w fun e w' => e = .returned (.int .i64 (truth (decide (x < y)))) ∧ w = w' := by
  unfold K32 at _hx _hy
  go_enter Try.func54, Try.ntmps54
  go_wp2_with fail
  refine (truth_any _ _).mono ?_
  rintro e w1 ⟨rfl, rfl⟩
  go_wp2
  go_ret
  exact ⟨ret_i64 (by first | rfl | (congr 1; simp)), rfl⟩
theorem d17 (x y : Int) (w : World) (_hx : K32 x) (_hy : K32 y) : Calls Try.prog 56 #[.int .i64 x, .int .i64 y] w fun e w' => e = .returned (.int .i64 (truth (decide (x ≤ y)))) ∧ w = w' := by
  unfold K32 at _hx _hy
  go_enter Try.func56, Try.ntmps56
  go_wp2_with fail
  refine (truth_any _ _).mono ?_
  rintro e w1 ⟨rfl, rfl⟩
  go_wp2
  go_ret
  exact ⟨ret_i64 (by first | rfl | (congr 1; simp)), rfl⟩
theorem d18 (x y : Int) (w : World) (_hx : K32 x) (_hy : K32 y) : Calls Try.prog 57 #[.int .i64 x, .int .i64 y] w fun e w' => e = .returned (.int .i64 (truth (decide (x = y)))) ∧ w = w' := by
  unfold K32 at _hx _hy
  go_enter Try.func57, Try.ntmps57
  go_wp2_with fail
  refine (truth_any _ _).mono ?_
  rintro e w1 ⟨rfl, rfl⟩
  go_wp2
  go_ret
  exact ⟨ret_i64 (by first | rfl | (congr 1; simp)), rfl⟩
theorem d19 (x : Int) (w : World) (_hx : K32 x) : Calls Try.prog 58 #[.int .i64 x] w fun e w' => e = .returned (.int .i64 (truth (decide (x = 0)))) ∧ w = w' := by
  unfold K32 at _hx
  go_enter Try.func58, Try.ntmps58
  go_wp2_with fail
  refine (truth_any _ _).mono ?_
  rintro e w1 ⟨rfl, rfl⟩
  go_wp2
  go_ret
  exact ⟨ret_i64 (by first | rfl | (congr 1; simp)), rfl⟩
theorem d20 (x y : Int) (w : World) (hx : K32 x) (hy : K32 y) : Calls Try.prog 59 #[.int .i64 x, .int .i64 y] w fun e w' => e = .returned (.int .i64 (truth (decide (x ≠ 0 ∧ y ≠ 0)))) ∧ w = w' := by
  unfold K32 at hx hy
  rcases Decidable.em (x = 0) with h | h <;> rcases Decidable.em (y = 0) with h' | h'
  all_goals
    have HV := Lib.hid (show truth (decide (x ≠ 0 ∧ y ≠ 0)) = truth (decide (x ≠ 0) && decide (y ≠ 0)) by simp)
    first | subst h | have b1 : (x != 0) = true := by simp [h]
    first | subst h' | have b2 : (y != 0) = true := by simp [h']
    go_enter Try.func59, Try.ntmps59
    go_wp2_with fail
    refine (truth_any _ _).mono ?_
    rintro e w1 ⟨rfl, rfl⟩
    go_wp2
    go_ret
    rw [HV.out]
    refine ⟨ret_i64 ?_, rfl⟩
    simp_all
theorem d21 (x y : Int) (w : World) (hx : K32 x) (hy : K32 y) : Calls Try.prog 60 #[.int .i64 x, .int .i64 y] w fun e w' => e = .returned (.int .i64 (truth (decide (x ≠ 0 ∨ y ≠ 0)))) ∧ w = w' := by
  unfold K32 at hx hy
  rcases Decidable.em (x = 0) with h | h <;> rcases Decidable.em (y = 0) with h' | h'
  all_goals
    have HV := Lib.hid (show truth (decide (x ≠ 0 ∨ y ≠ 0)) = truth (decide (x ≠ 0) || decide (y ≠ 0)) by simp)
    first | subst h | have b1 : (x != 0) = true := by simp [h]
    first | subst h' | have b2 : (y != 0) = true := by simp [h']
    go_enter Try.func60, Try.ntmps60
    go_wp2_with fail
    refine (truth_any _ _).mono ?_
    rintro e w1 ⟨rfl, rfl⟩
    go_wp2
    go_ret
    rw [HV.out]
    refine ⟨ret_i64 ?_, rfl⟩
    simp_all
end Go.Proofs.Ythdmdgmchkhngaa

/- MachineRounds: the reference's Rounded, and the walk. -/
import Derived.Test.YthdmdgmchkhngaaLwA
namespace Go.Proofs.Ythdmdgmchkhngaa
open Go.RowKit Mc

theorem rkeep_any (n : Int) (w : World) : Calls Try.prog 20 #[.int .i64 n] w fun e w' => e = .returned (.int .i64 (Mc.k32 n)) ∧ w = w' := by
  go_enter Try.func20, Try.ntmps20
  go_wp2
  go_ret
  exact ⟨ret_i64 (k32_wrap n), rfl⟩
theorem tmod_twice (n d : Int) (hd : 0 < d) : (n.tmod d + d) % d = n % d ∧ -d ≤ n.tmod d ∧ n.tmod d < d := by
  have h1 := tmod_emod n d hd
  have h2 := Int.emod_nonneg n (show d ≠ 0 by omega)
  have h3 := Int.emod_lt_of_pos n hd
  generalize n.tmod d = t at *
  generalize n % d = r at *
  by_cases ht : t < 0
  · rw [if_pos ht] at h1
    refine ⟨?_, by omega, by omega⟩
    rw [← h1]
    exact Int.emod_eq_of_lt h2 h3
  · rw [if_neg ht] at h1
    refine ⟨?_, by omega, by omega⟩
    rw [← h1, Int.add_emod_right]
    exact Int.emod_eq_of_lt h2 h3
theorem rrest_any (n d : Int) (w : World) (hd : 0 < d) (hd2 : d ≤ 1000000) : Calls Try.prog 21 #[.int .i64 n, .int .i64 d] w fun e w' => e = .returned (.int .i64 (n % d)) ∧ w = w' := by
  obtain ⟨h1, h2, h3⟩ := tmod_twice n d hd
  have HM := Lib.hid h1
  have hw : IntKind.i64.wrap (n.tmod d + d) = n.tmod d + d := by rw [IntWalk.i64_in _ (by omega)]
  clear h1
  go_enter Try.func21, Try.ntmps21
  go_wp2
  go_ret
  exact ⟨ret_i64 HM.out, rfl⟩
theorem lrest_any (n d : Int) (w : World) (hd : 0 < d) (hd2 : d ≤ 1000000) : Calls Try.prog 9 #[.int .i64 n, .int .i64 d] w fun e w' => e = .returned (.int .i64 (n % d)) ∧ w = w' := by
  obtain ⟨h1, h2, h3⟩ := tmod_twice n d hd
  have HM := Lib.hid h1
  have hw : IntKind.i64.wrap (n.tmod d + d) = n.tmod d + d := by rw [IntWalk.i64_in _ (by omega)]
  clear h1
  go_enter Try.func9, Try.ntmps9
  go_wp2
  go_ret
  exact ⟨ret_i64 HM.out, rfl⟩
theorem rdown_any (a b : Int) (w : World) (hb : 0 < b) (hb2 : b ≤ 1000000) (ha1 : -1000000000000 ≤ a) (ha2 : a ≤ 1000000000000) : Calls Try.prog 22 #[.int .i64 a, .int .i64 b] w fun e w' => e = .returned (.int .i64 (a / b)) ∧ w = w' := by
  have h1 := fdiv_tdiv a b (by omega)
  have h2 : a.fdiv b = a / b := Int.fdiv_eq_ediv_of_nonneg a (by omega)
  rw [h2] at h1
  have h3 : -1000000000000 ≤ a.tdiv b ∧ a.tdiv b ≤ 1000000000000 := by
    have h5 : (a.tdiv b).natAbs ≤ a.natAbs := by rw [Int.natAbs_tdiv]; exact Nat.div_le_self _ _
    omega
  have H1 := Lib.hid h1
  have hb0 : ¬ b = 0 := by omega
  have hbn : ¬ b < 0 := by omega
  have hw1 : IntKind.i64.wrap (a.tdiv b) = a.tdiv b := by rw [IntWalk.i64_in _ (by omega)]
  have hw2 : IntKind.i64.wrap (a.tdiv b - 1) = a.tdiv b - 1 := by rw [IntWalk.i64_in _ (by omega)]
  clear h1 h2 ha1 ha2 h3
  by_cases hn : 0 ≤ a
  · have HT := Lib.hid (Int.tdiv_eq_ediv_of_nonneg (b := b) hn)
    go_enter Try.func22, Try.ntmps22
    go_wp2
    all_goals go_ret
    all_goals exact ⟨ret_i64 HT.out, rfl⟩
  · have hn' : a < 0 := by omega
    by_cases hm : a.tmod b = 0
    · have HQ : Hid (a / b = a.tdiv b) := Lib.hid (by rw [H1.out, if_neg (fun h => h.1 hm)])
      go_enter Try.func22, Try.ntmps22
      go_wp2
      go_ret
      exact ⟨ret_i64 HQ.out.symm, rfl⟩
    · have HQ : Hid (a / b = a.tdiv b - 1) := Lib.hid (by rw [H1.out, if_pos ⟨hm, by simp [hn', hbn]⟩])
      go_enter Try.func22, Try.ntmps22
      go_wp2
      go_ret
      exact ⟨ret_i64 HQ.out.symm, rfl⟩
set_option maxRecDepth 100000 in
theorem rrounded_any (mode n : Int) (w : World) : Calls Try.prog 10 #[.int .i64 mode, .int .i64 n] w fun e w' => e = .returned (.int .i64 (rounded mode n)) ∧ w = w' := by
  obtain ⟨k1, k2⟩ := k32_in n
  have m0 := Int.emod_nonneg mode (show (6 : Int) ≠ 0 by omega)
  have m1 := Int.emod_lt_of_pos mode (show (0 : Int) < 6 by omega)
  have hr : rounded mode n = k32 (if mode % 6 = 1 then (k32 n + 32) / 64 * 64 else if mode % 6 = 2 then k32 n / 64 * 64 + 32 else if mode % 6 = 3 then (k32 n + 16) / 32 * 32 else if mode % 6 = 4 then k32 n / 64 * 64 else if mode % 6 = 5 then (k32 n + 63) / 64 * 64 else k32 n) := rfl
  have HR := Lib.hid hr
  clear hr
  generalize hk : k32 n = k at *
  have HK := Lib.hid hk
  clear hk
  generalize hm : mode % 6 = m at *
  have HM := Lib.hid hm
  clear hm
  have h : m = 0 ∨ m = 1 ∨ m = 2 ∨ m = 3 ∨ m = 4 ∨ m = 5 := by omega
  have hb1 : -40000000 ≤ (k + 32) / 64 ∧ (k + 32) / 64 ≤ 40000000 := by omega
  have hb2 : -40000000 ≤ k / 64 ∧ k / 64 ≤ 40000000 := by omega
  have hb3 : -80000000 ≤ (k + 16) / 32 ∧ (k + 16) / 32 ≤ 80000000 := by omega
  have hb5 : -40000000 ≤ (k + 63) / 64 ∧ (k + 63) / 64 ≤ 40000000 := by omega
  rcases h with rfl | rfl | rfl | rfl | rfl | rfl
  all_goals
    clear m0 m1
    go_enter Try.func10, Try.ntmps10
    go_wp2_with fail
    refine (rkeep_any n _).mono ?_
    rintro e w1 ⟨rfl, rfl⟩
    rw [HK.out]
    go_wp2_with fail
    refine (rrest_any mode 6 _ (by decide) (by decide)).mono ?_
    rintro e w1 ⟨rfl, rfl⟩
    rw [HM.out]
    go_wp2_with fail
    try (refine (rdown_any _ _ _ (by decide) (by decide) (by omega) (by omega)).mono ?_
         rintro e w1 ⟨rfl, rfl⟩
         go_wp2_with fail)
    refine (rkeep_any _ _).mono ?_
    rintro e w1 ⟨rfl, rfl⟩
    go_wp2
    go_ret
    rw [HR.out]
    refine ⟨ret_i64 ?_, rfl⟩
    first | rfl | simp
end Go.Proofs.Ythdmdgmchkhngaa

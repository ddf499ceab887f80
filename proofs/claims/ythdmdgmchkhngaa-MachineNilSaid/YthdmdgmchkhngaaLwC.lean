/- MachineRounds: the walk. -/
import Derived.Test.YthdmdgmchkhngaaLwB
namespace Go.Proofs.Ythdmdgmchkhngaa
open Go.RowKit Mc

theorem rounds_plain (k : Int) (h1 : -1073741824 < k) (h2 : k < 1073741824) :
    ((rounded 1 k).tmod 64 = 0 ∧ rounded 1 k - k ≤ 32 ∧ k - rounded 1 k < 32) ∧ (rounded 2 k % 64 = 32 ∧ rounded 2 k - k ≤ 32 ∧ k - rounded 2 k < 32) ∧ ((rounded 3 k).tmod 32 = 0 ∧ rounded 3 k - k ≤ 16 ∧ k - rounded 3 k < 16) ∧
    rounded 0 k = k ∧ ((rounded 4 k).tmod 64 = 0 ∧ rounded 4 k ≤ k ∧ k - rounded 4 k < 64) ∧ ((rounded 5 k).tmod 64 = 0 ∧ k ≤ rounded 5 k ∧ rounded 5 k - k < 64) := by
  have e1 : rounded 1 k = (k + 32) / 64 * 64 := by unfold rounded k32; simp only [Int.reduceMod, if_true]; omega
  have e2 : rounded 2 k = k / 64 * 64 + 32 := by unfold rounded k32; simp; omega
  have e3 : rounded 3 k = (k + 16) / 32 * 32 := by unfold rounded k32; simp; omega
  have e4 : rounded 4 k = k / 64 * 64 := by unfold rounded k32; simp; omega
  have e5 : rounded 5 k = (k + 63) / 64 * 64 := by unfold rounded k32; simp; omega
  have e0 : rounded 0 k = k := by unfold rounded k32; simp; omega
  rw [e0, e1, e2, e3, e4, e5]
  refine ⟨⟨?_, by omega, by omega⟩, ⟨by omega, by omega, by omega⟩, ⟨?_, by omega, by omega⟩, rfl, ⟨?_, by omega, by omega⟩, ⟨?_, by omega, by omega⟩⟩
  all_goals exact Int.mul_tmod_left _ _
theorem machineRounds_walk (mode n : Int) (w : World) :
    Calls Try.prog 3 #[.int .i64 mode, .int .i64 n] w fun e w' => e = .returned (.bool true) ∧ Below w.heap.size w w' := by
  have hk : -1073741824 < n.tmod 1073741824 ∧ n.tmod 1073741824 < 1073741824 := by
    have h1 := tmod_emod n 1073741824 (by decide)
    have h2 := Int.emod_nonneg n (show (1073741824 : Int) ≠ 0 by decide)
    have h3 := Int.emod_lt_of_pos n (show (0 : Int) < 1073741824 by decide)
    have h4 : n.tmod 1073741824 ≠ -1073741824 := fun e => by
      have := Int.tmod_lt_of_pos (-n) (show (0 : Int) < 1073741824 by decide)
      rw [Int.neg_tmod, e] at this
      omega
    split at h1 <;> omega
  generalize hkk : n.tmod 1073741824 = k at *
  have HK := Lib.hid hkk
  clear hkk
  obtain ⟨k1, k2⟩ := hk
  obtain ⟨⟨a1, a2, a3⟩, ⟨b1, b2, b3⟩, ⟨c1, c2, c3⟩, z0, ⟨d1, d2, d3⟩, ⟨e1, e2, e3⟩⟩ := rounds_plain k k1 k2
  generalize ha : rounded 1 k = a at *
  generalize hb : rounded 2 k = b at *
  generalize hc : rounded 3 k = c at *
  generalize hd : rounded 4 k = d at *
  generalize he : rounded 5 k = e at *
  have HA := Lib.hid ha
  have HB := Lib.hid hb
  have HC := Lib.hid hc
  have HD := Lib.hid hd
  have HE := Lib.hid he
  have HZ := Lib.hid z0
  clear ha hb hc hd he z0
  have HB1 := Lib.hid b1
  clear b1
  have ha : -2000000000 ≤ a ∧ a ≤ 2000000000 := by omega
  have hb : -2000000000 ≤ b ∧ b ≤ 2000000000 := by omega
  have hc : -2000000000 ≤ c ∧ c ≤ 2000000000 := by omega
  have hd : -2000000000 ≤ d ∧ d ≤ 2000000000 := by omega
  have he : -2000000000 ≤ e ∧ e ≤ 2000000000 := by omega
  go_enter Try.func3, Try.ntmps3
  go_wp2_with fail
  refine (awake_any w).mono ?_
  rintro e' w1 ⟨rfl, hbl⟩
  have HBL := Lib.hid hbl
  clear hbl
  go_wp2_with fail
  rw [HK.out]
  refine (rounded_any 1 k w1).mono ?_
  rintro e' w2 ⟨rfl, rfl⟩
  rw [HA.out]
  go_wp2_with fail
  refine (rounded_any 2 k w1).mono ?_
  rintro e' w2 ⟨rfl, rfl⟩
  rw [HB.out]
  go_wp2_with fail
  refine (rounded_any 3 k w1).mono ?_
  rintro e' w2 ⟨rfl, rfl⟩
  rw [HC.out]
  go_wp2_with fail
  refine (rounded_any 4 k w1).mono ?_
  rintro e' w2 ⟨rfl, rfl⟩
  rw [HD.out]
  go_wp2_with fail
  refine (rounded_any 5 k w1).mono ?_
  rintro e' w2 ⟨rfl, rfl⟩
  rw [HE.out]
  go_wp2_with fail
  refine (lrest_any b 64 w1 (by decide) (by decide)).mono ?_
  rintro e' w2 ⟨rfl, rfl⟩
  rw [HB1.out]
  go_wp2_with fail
  refine (rounded_any mode n w1).mono ?_
  rintro e' w2 ⟨rfl, rfl⟩
  go_wp2_with fail
  refine (rrounded_any mode n w1).mono ?_
  rintro e' w2 ⟨rfl, rfl⟩
  go_wp2_with fail
  refine (rounded_any 0 k w1).mono ?_
  rintro e' w2 ⟨rfl, rfl⟩
  rw [HZ.out]
  go_wp2_with fail
  go_ret
  exact ⟨rfl, HBL.out⟩
end Go.Proofs.Ythdmdgmchkhngaa

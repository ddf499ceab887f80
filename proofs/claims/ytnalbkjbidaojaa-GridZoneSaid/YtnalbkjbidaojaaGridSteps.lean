/- GridSteps: for every unit, size and two numbers it returns true. No condition. -/
import Derived.Test.YtnalbkjbidaojaaScaleMath
namespace Go.Proofs.Ytnalbkjbidaojaa
open Go.RowKit

/-- grid.Scale at small numbers -/
theorem gsmall (u px n : Int) (w : World) (hu : 1 ≤ u) (hu1 : u ≤ 8192) (hp : 1 ≤ px) (hp1 : px ≤ 256) (hn : -40000 ≤ n) (hn1 : n ≤ 40000) :
    Calls Try.prog 7 #[.int .i64 u, .int .i64 px, .int .i64 n] w fun e w' => e = .returned (.int .i64 (hf (n * (64 * px)) u)) ∧ Below w.heap.size w w' := by
  have ew : wrap64 (64 * px) = 64 * px := by unfold wrap64; omega
  have hnp : -655360000 ≤ n * (64 * px) ∧ n * (64 * px) ≤ 655360000 := by
    constructor
    · have h1 : -40000 * (64 * px) ≤ n * (64 * px) := Int.mul_le_mul_of_nonneg_right hn (by omega)
      omega
    · have h1 : n * (64 * px) ≤ 40000 * (64 * px) := Int.mul_le_mul_of_nonneg_right hn1 (by omega)
      omega
  have hN : 0 ≤ (n.natAbs : Int) * ((64 * px).natAbs : Int) ∧ (n.natAbs : Int) * ((64 * px).natAbs : Int) ≤ 655360000 := by
    have e1 : (n.natAbs : Int) * ((64 * px).natAbs : Int) = ((n * (64 * px)).natAbs : Int) := by rw [Int.natAbs_mul n (64 * px)]; rfl
    rw [e1]; omega
  have hbd := hf_bounds (n * (64 * px)) u (by omega)
  have hfr : -9223372036854775808 ≤ hf (n * (64 * px)) u ∧ hf (n * (64 * px)) u ≤ 9223372036854775807 := by
    have a1 := hf_mono (-655360000 * u) (n * (64 * px)) u (by omega) (by
      have : -655360000 * u ≤ -655360000 := by omega
      omega)
    have a2 := hf_mono (n * (64 * px)) (655360000 * u) u (by omega) (by
      have : 655360000 ≤ 655360000 * u := by omega
      omega)
    have b1 : hf (-655360000 * u) u = -655360000 := by
      have := hf_add 0 u (-655360000) (by omega); rw [hf_zero u (by omega)] at this; rw [show -655360000 * u = 0 + u * -655360000 by omega, this]; rfl
    have b2 : hf (655360000 * u) u = 655360000 := by
      have := hf_add 0 u 655360000 (by omega); rw [hf_zero u (by omega)] at this; rw [show 655360000 * u = 0 + u * 655360000 by omega, this]; rfl
    omega
  have e : gsc u px n = hf (n * (64 * px)) u := by
    unfold gsc; rw [show (u == 0) = false from beq_eq_false_iff_ne.2 (by omega), ew, scV_pos _ _ _ (by omega), if_pos hfr]; rfl
  rw [← e]
  refine gscale_any u px n w (by omega) (by omega) (by omega) (by omega) ?_
  intro _ _
  have e1 : scHi n (wrap64 (64 * px)) = 0 := by unfold scHi; rw [ew]; omega
  have e2 : scLo n (wrap64 (64 * px)) = scN n (wrap64 (64 * px)) := by unfold scLo scN; rw [ew]; omega
  rw [e1, e2]
  unfold scQ scR
  have e3 : 0 ≤ scN n (wrap64 (64 * px)) ∧ scN n (wrap64 (64 * px)) ≤ 655360000 := by unfold scN; rw [ew]; exact hN
  exact div64_zero _ _ (by omega) (by omega) (by omega) (by omega)

theorem hf_val (z u v : Int) (hu : 0 < u) (h : 2 * u * v ≤ 2 * z + u) (h' : 2 * z + u < 2 * u * v + 2 * u) : hf z u = v := by
  unfold hf
  have e : 2 * z + u = (2 * z + u - 2 * u * v) + 2 * u * v := by omega
  rw [e, Int.add_mul_ediv_left _ _ (by omega), Int.ediv_eq_zero_of_lt (by omega) (by omega)]; omega

set_option maxHeartbeats 400000 in
theorem shown_any (w : World) : Calls Try.prog 6 #[] w fun e w' => e = .returned (.bool true) ∧ Below w.heap.size w w' := by
  have h1 : hf (500 * (64 * 10)) 1000 = 320 := by decide
  have h2 : hf (-8 * (64 * 1)) 1000 = -1 := by decide
  have h3 : hf (8 * (64 * 1)) 1000 = 1 := by decide
  have H1 := Lib.hid h1
  have H2 := Lib.hid h2
  have H3 := Lib.hid h3
  clear h1 h2 h3
  go_enter Try.func6, Try.ntmps6
  go_wp2_with fail
  refine (gsmall 1000 10 500 _ (by omega) (by omega) (by omega) (by omega) (by omega) (by omega)).mono ?_
  rintro e w1 ⟨rfl, hb1⟩
  rw [H1.out]
  go_wp2_with fail
  refine (gsmall 1000 1 (-8) _ (by omega) (by omega) (by omega) (by omega) (by omega) (by omega)).mono ?_
  rintro e w2 ⟨rfl, hb2⟩
  rw [H2.out]
  go_wp2_with fail
  refine (gsmall 1000 1 8 _ (by omega) (by omega) (by omega) (by omega) (by omega) (by omega)).mono ?_
  rintro e w3 ⟨rfl, hb3⟩
  rw [H3.out]
  go_wp2
  go_ret
  exact ⟨rfl, hb1.trans ((hb2.mono hb1.size).trans (hb3.mono (Nat.le_trans hb1.size hb2.size)))⟩

theorem tm_bd (a : Int) : -16384 ≤ a.tmod 16385 ∧ a.tmod 16385 ≤ 16384 := by
  by_cases h : 0 ≤ a
  · rw [Int.tmod_eq_emod_of_nonneg h]; omega
  · obtain ⟨b, rfl⟩ : ∃ b, a = -b := ⟨-a, by omega⟩
    rw [Int.neg_tmod, Int.tmod_eq_emod_of_nonneg (by omega)]; omega

set_option maxHeartbeats 1000000 in
theorem gridSteps_walk (u0 p0 a0 b0 : Int) (w : World) (hu0 : 0 ≤ u0) (hu1 : u0 ≤ 65535) (hp0 : 0 ≤ p0) (hp1 : p0 ≤ 65535) (ha0 : -32768 ≤ a0) (ha1 : a0 ≤ 32767) (hb0 : -32768 ≤ b0) (hb1 : b0 ≤ 32767) :
    Calls Try.prog 4 #[.int .u16 u0, .int .u16 p0, .agg #[.int .i16 a0, .int .i16 b0]] w fun e w' => e = .returned (.bool true) ∧ Below w.heap.size w w' := by
  go_enter Try.func4, Try.ntmps4
  go_wp2_with fail
  refine (shown_any _).mono ?_
  rintro e w1 ⟨rfl, hx1⟩
  obtain ⟨hc, hf'⟩ := bcell hx1
  go_wp2_with fail
  have ub : 16 ≤ 16 + u0 % 4081 ∧ 16 + u0 % 4081 ≤ 4096 := by omega
  have pb : 1 ≤ 1 + p0 % 200 ∧ 1 + p0 % 200 ≤ 200 := by omega
  have ab := tm_bd a0
  have bb := tm_bd b0
  generalize 16 + u0 % 4081 = u at *
  generalize 1 + p0 % 200 = px at *
  generalize a0.tmod 16385 = a at *
  obtain ⟨ub0, ub1⟩ := ub
  obtain ⟨pb0, pb1⟩ := pb
  obtain ⟨ab0, ab1⟩ := ab
  obtain ⟨bb0, bb1⟩ := bb
  refine (gsmall u px a _ (by omega) (by omega) (by omega) (by omega) (by omega) (by omega)).mono ?_
  rintro e w2 ⟨rfl, hx2⟩
  obtain ⟨hc2, hf2⟩ := bcell hx2
  have hz : w.heap.size < w1.heap.size := by have := hx1.size; simp at this; omega
  go_wp2_with fail
  generalize b0.tmod 16385 = b at *
  refine (gsmall u px b _ (by omega) (by omega) (by omega) (by omega) (by omega) (by omega)).mono ?_
  rintro e w3 ⟨rfl, hx3⟩
  go_wp2_with fail
  refine (gsmall u px (a + u) _ (by omega) (by omega) (by omega) (by omega) (by omega) (by omega)).mono ?_
  rintro e w4 ⟨rfl, hx4⟩
  have k1 : hf ((a + u) * (64 * px)) u = hf (a * (64 * px)) u + 64 * px := by
    rw [Int.add_mul]; exact hf_add _ _ _ (by omega)
  have k2 : a ≤ b → hf (a * (64 * px)) u ≤ hf (b * (64 * px)) u := fun h => hf_mono _ _ _ (by omega) (Int.mul_le_mul_of_nonneg_right h (by omega))
  obtain ⟨k3, k4⟩ := hf_bounds (a * (64 * px)) u (by omega)
  have k5 : -20000000000 ≤ a * (64 * px) ∧ a * (64 * px) ≤ 20000000000 := by
    constructor
    · have h1 : -16384 * (64 * px) ≤ a * (64 * px) := Int.mul_le_mul_of_nonneg_right ab0 (by omega)
      omega
    · have h1 : a * (64 * px) ≤ 16384 * (64 * px) := Int.mul_le_mul_of_nonneg_right ab1 (by omega)
      omega
  have k6 : a * 64 * px = a * (64 * px) := Int.mul_assoc _ _ _
  have k7 : hf (0 * (64 * px)) u = 0 := by rw [Int.zero_mul]; exact hf_zero u (by omega)
  rw [k1]
  have K7 := Lib.hid k7
  have xb : -20000000000 ≤ hf (a * (64 * px)) u ∧ hf (a * (64 * px)) u ≤ 20000000000 := by
    have l1 : hf (a * (64 * px)) u * 16 ≤ hf (a * (64 * px)) u * u ∨ hf (a * (64 * px)) u < 0 := by
      by_cases h : 0 ≤ hf (a * (64 * px)) u
      · exact .inl (Int.mul_le_mul_of_nonneg_left ub0 h)
      · exact .inr (by omega)
    have l2 : hf (a * (64 * px)) u * u ≤ hf (a * (64 * px)) u * 16 ∨ 0 ≤ hf (a * (64 * px)) u := by
      by_cases h : 0 ≤ hf (a * (64 * px)) u
      · exact .inr h
      · exact .inl (Int.mul_le_mul_of_nonpos_left (by omega) ub0)
    omega
  generalize hx : hf (a * (64 * px)) u = x at *
  generalize hy : hf (b * (64 * px)) u = y at *
  rw [← k6] at k3 k4 k5
  clear k1 k7 k6 hx hy
  obtain ⟨k5a, k5b⟩ := k5
  obtain ⟨xb0, xb1⟩ := xb
  clear hc hf' hc2 hf2
  have hbig : Below w.heap.size w w4 := by
    have h1 : Below w.heap.size w w1 := ((Below.refl _ _).alloc (Nat.le_refl _) _).trans (hx1.mono (by simp))
    exact h1.trans (((hx2.mono h1.size).trans (hx3.mono (Nat.le_trans h1.size hx2.size))).trans (hx4.mono (Nat.le_trans h1.size (Nat.le_trans hx2.size hx3.size))))
  by_cases hab : b < a
  · go_wp2_with fail
    refine (gsmall u px 0 _ (by omega) (by omega) (by omega) (by omega) (by omega) (by omega)).mono ?_
    rintro e w5 ⟨rfl, hx5⟩
    rw [K7.out]
    go_wp2
    go_ret
    exact ⟨rfl, hbig.trans (hx5.mono hbig.size)⟩
  · have k8 := k2 (by omega)
    clear k2
    go_wp2_with fail
    refine (gsmall u px 0 _ (by omega) (by omega) (by omega) (by omega) (by omega) (by omega)).mono ?_
    rintro e w5 ⟨rfl, hx5⟩
    rw [K7.out]
    go_wp2
    go_ret
    exact ⟨rfl, hbig.trans (hx5.mono hbig.size)⟩
end Go.Proofs.Ytnalbkjbidaojaa

/- MachineSums: the plain law, and the walk. -/
import Derived.Test.YthdmdgmchkhngaaLwD
import Derived.Test.YthdmdgmchkhngaaLwC
namespace Go.Proofs.Ythdmdgmchkhngaa
open Go.RowKit Mc

theorem tmod_bd (n d : Int) (hd : 0 < d) : -d < n.tmod d ∧ n.tmod d < d := by
  have h1 := Int.tmod_lt_of_pos n hd
  have h2 := Int.tmod_lt_of_pos (-n) hd
  rw [Int.neg_tmod] at h2
  omega
theorem k32_small {n : Int} (h1 : -2147483648 ≤ n) (h2 : n ≤ 2147483647) : k32 n = n := by unfold k32; omega
theorem min_if (x y : Int) : (if x < y then x else y) = min x y := by omega
theorem min_if2 (x y : Int) : (if y < x then y else x) = min x y := by omega
theorem max_if1 (x y : Int) : (if x < y then y else x) = max x y := by omega
theorem max_if2 (x y : Int) : (if y < x then x else y) = max x y := by omega
theorem truth_one (p : Bool) : truth p = 1 ↔ p = true := by cases p <;> simp [truth]
theorem k32_truth (p : Bool) : k32 (truth p) = if p then 1 else 0 := by cases p <;> rfl
theorem sums_mul {x y : Int} (hx : -2000 < x ∧ x < 2000) (hy : -2000 < y ∧ y < 2000) :
    ∃ p, k32 (k32 (k32 x * k32 y / 64)) = p ∧ p * 64 ≤ x * y ∧ x * y < (p + 1) * 64 ∧ -100000 ≤ p ∧ p ≤ 100000 ∧ -4000000 ≤ x * y ∧ x * y ≤ 4000000 := by
  have h1 : -4000000 ≤ x * y ∧ x * y ≤ 4000000 := by
    have a : (x * y).natAbs ≤ 2000 * 2000 := by rw [Int.natAbs_mul]; exact Nat.mul_le_mul (by omega) (by omega)
    omega
  refine ⟨x * y / 64, ?_, ?_⟩
  · rw [k32_small (n := x) (by omega) (by omega), k32_small (n := y) (by omega) (by omega)]
    rw [k32_small (n := x * y / 64) (by omega) (by omega), k32_small (by omega) (by omega)]
  · omega
theorem sums_div {x y : Int} (hx : -2000 < x ∧ x < 2000) (hy : -1048576 < y ∧ y < 1048576) :
    ∃ q, k32 (k32 (divd (64 * k32 x) (k32 y))) = q ∧ -128000 ≤ q ∧ q ≤ 128000 ∧ (y = 0 → q = 0) ∧ (0 < y → q * y ≤ 64 * x ∧ 64 * x < (q + 1) * y) ∧ (y < 0 → 64 * x ≤ q * y ∧ (q + 1) * y < 64 * x) := by
  rw [k32_small (n := x) (by omega) (by omega), k32_small (n := y) (by omega) (by omega)]
  unfold divd
  by_cases h0 : y = 0
  · subst h0
    exact ⟨0, rfl, by omega, by omega, fun _ => rfl, fun h => absurd h (by omega), fun h => absurd h (by omega)⟩
  · rw [if_neg h0]
    have hb : -128000 ≤ (64 * x).fdiv y ∧ (64 * x).fdiv y ≤ 128000 ∧ (0 < y → (64 * x).fdiv y * y ≤ 64 * x ∧ 64 * x < ((64 * x).fdiv y + 1) * y) ∧ (y < 0 → 64 * x ≤ (64 * x).fdiv y * y ∧ ((64 * x).fdiv y + 1) * y < 64 * x) := by
      have hm := Int.mul_fdiv_add_fmod (64 * x) y
      generalize hq : (64 * x).fdiv y = q at *
      rw [Int.mul_comm] at hm
      have hexp : (q + 1) * y = q * y + y := by rw [Int.add_mul, Int.one_mul]
      rw [hexp]
      rcases Int.lt_or_gt_of_ne h0 with hn | hp
      · have h1 : (64 * x).fmod y ≤ 0 := by rw [← Int.neg_neg (64 * x), ← Int.neg_neg y, Int.neg_fmod_neg]; have := Int.fmod_nonneg_of_pos (-(64 * x)) (show 0 < -y by omega); omega
        have h2 : y < (64 * x).fmod y := by rw [← Int.neg_neg (64 * x), ← Int.neg_neg y, Int.neg_fmod_neg]; have := Int.fmod_lt_of_pos (-(64 * x)) (show 0 < -y by omega); omega
        refine ⟨?_, ?_, fun h => absurd h (by omega), fun _ => by omega⟩
        · rcases Int.lt_or_le q (-128000) with hh | hh
          · have := Int.mul_le_mul_of_nonpos_right (a := -128001) (b := q) (c := y) (by omega) (by omega)
            omega
          · exact hh
        · rcases Int.lt_or_le 128000 q with hh | hh
          · have := Int.mul_le_mul_of_nonpos_right (a := q) (b := 128001) (c := y) (by omega) (by omega)
            omega
          · exact hh
      · have h1 := Int.fmod_nonneg_of_pos (64 * x) hp
        have h2 := Int.fmod_lt_of_pos (64 * x) hp
        refine ⟨?_, ?_, fun _ => by omega, fun h => absurd h (by omega)⟩
        · rcases Int.lt_or_le q (-128000) with hh | hh
          · have := Int.mul_le_mul_of_nonneg_right (a := q) (b := -128001) (c := y) (by omega) (by omega)
            omega
          · exact hh
        · rcases Int.lt_or_le 128000 q with hh | hh
          · have := Int.mul_le_mul_of_nonneg_right (a := 128001) (b := q) (c := y) (by omega) (by omega)
            omega
          · exact hh
    obtain ⟨b1, b2, b3, b4⟩ := hb
    generalize (64 * x).fdiv y = q at *
    exact ⟨q, by rw [k32_small (n := q) (by omega) (by omega), k32_small (by omega) (by omega)], b1, b2, fun h => absurd h h0, b3, b4⟩
set_option maxRecDepth 100000 in
set_option maxHeartbeats 4000000 in
theorem machineSums_walk (a b : Int) (w : World) :
    Calls Try.prog 4 #[.int .i64 a, .int .i64 b] w fun e w' => e = .returned (.bool true) ∧ Below w.heap.size w w' := by
  have hx := tmod_bd a 1048576 (by decide)
  have hy := tmod_bd b 1048576 (by decide)
  generalize hxx : a.tmod 1048576 = x at *
  generalize hyy : b.tmod 1048576 = y at *
  have HX := Lib.hid hxx
  have HY := Lib.hid hyy
  clear hxx hyy
  have hx2 := tmod_bd x 2000 (by decide)
  have hy2 := tmod_bd y 2000 (by decide)
  generalize hxx : x.tmod 2000 = x2 at *
  generalize hyy : y.tmod 2000 = y2 at *
  have HX2 := Lib.hid hxx
  have HY2 := Lib.hid hyy
  clear hxx hyy
  obtain ⟨p, hp, p1, p2, p3, p4, p5, p6⟩ := sums_mul hx2 hy2
  obtain ⟨q, hq, q1, q2, q3, q4, q5⟩ := sums_div hx2 hy
  have HP := Lib.hid hp
  have HQ := Lib.hid hq
  clear hp hq
  have hadd : k32 (k32 x + k32 y) = x + y := by rw [k32_small (n := x) (by omega) (by omega), k32_small (n := y) (by omega) (by omega), k32_small (by omega) (by omega)]
  have hsub : k32 (k32 x - k32 y) = x - y := by rw [k32_small (n := x) (by omega) (by omega), k32_small (n := y) (by omega) (by omega), k32_small (by omega) (by omega)]
  have hmin : k32 (min (k32 x) (k32 y)) = min y x := by rw [k32_small (n := x) (by omega) (by omega), k32_small (n := y) (by omega) (by omega), k32_small (by omega) (by omega), Int.min_comm]
  have hmax : k32 (max (k32 x) (k32 y)) = max x y := by rw [k32_small (n := x) (by omega) (by omega), k32_small (n := y) (by omega) (by omega), k32_small (by omega) (by omega)]
  have htr : ∀ {p : Prop} [Decidable p], k32 (truth (decide p)) = 1 ↔ p := fun {p} _ => by rw [k32_truth]; by_cases hh : p <;> simp [hh]
  have hlt : ∃ v, k32 (truth (decide (k32 x < k32 y))) = v ∧ (v = 1 ↔ x < y) := ⟨_, rfl, by rw [k32_small (n := x) (by omega) (by omega), k32_small (n := y) (by omega) (by omega)]; exact htr⟩
  have hle : ∃ v, k32 (truth (decide (k32 x ≤ k32 y))) = v ∧ (v = 1 ↔ x ≤ y) := ⟨_, rfl, by rw [k32_small (n := x) (by omega) (by omega), k32_small (n := y) (by omega) (by omega)]; exact htr⟩
  have heq : ∃ v, k32 (truth (decide (k32 x = k32 y))) = v ∧ (v = 1 ↔ x = y) := ⟨_, rfl, by rw [k32_small (n := x) (by omega) (by omega), k32_small (n := y) (by omega) (by omega)]; exact htr⟩
  have hand : ∃ v, k32 (truth (decide (k32 x ≠ 0 ∧ k32 y ≠ 0))) = v ∧ (v = 1 ↔ (x ≠ 0 ∧ y ≠ 0)) := ⟨_, rfl, by rw [k32_small (n := x) (by omega) (by omega), k32_small (n := y) (by omega) (by omega)]; exact htr⟩
  have hor : ∃ v, k32 (truth (decide (k32 x ≠ 0 ∨ k32 y ≠ 0))) = v ∧ (v = 1 ↔ (x ≠ 0 ∨ y ≠ 0)) := ⟨_, rfl, by rw [k32_small (n := x) (by omega) (by omega), k32_small (n := y) (by omega) (by omega)]; exact htr⟩
  clear htr
  obtain ⟨v1, hlt, hv1⟩ := hlt
  obtain ⟨v2, hle, hv2⟩ := hle
  obtain ⟨v3, heq, hv3⟩ := heq
  obtain ⟨v4, hand, hv4⟩ := hand
  obtain ⟨v5, hor, hv5⟩ := hor
  have HV1 := Lib.hid hv1
  have HV2 := Lib.hid hv2
  have HV3 := Lib.hid hv3
  have HV4 := Lib.hid hv4
  have HV5 := Lib.hid hv5
  clear hv1 hv2 hv3 hv4 hv5
  have HADD := Lib.hid hadd
  have HSUB := Lib.hid hsub
  have HMIN := Lib.hid hmin
  have HMAX := Lib.hid hmax
  have HLT := Lib.hid hlt
  have HLE := Lib.hid hle
  have HEQ := Lib.hid heq
  have HAND := Lib.hid hand
  have HOR := Lib.hid hor
  clear hadd hsub hmin hmax hlt hle heq hand hor
  have HQ3 := Lib.hid q3
  have HQ4 := Lib.hid q4
  have HQ5 := Lib.hid q5
  clear q3 q4 q5
  go_enter Try.func4, Try.ntmps4
  go_wp2_with fail
  refine (awake_any w).mono ?_
  rintro e' w1 ⟨rfl, hbl⟩
  have HBL0 := Lib.hid hbl
  clear hbl
  go_wp2_with fail
  rw [HX.out]
  go_wp2_with fail
  rw [HY.out]
  go_wp2_with fail
  refine (value_any 5 x y (x + y) _ ⟨by rw [(val5 x y).1]; exact congrArg (fun z => [z]) HADD.out, (val5 x y).2⟩).mono ?_
  rintro e' w2 ⟨rfl, hbl1⟩
  have HBL1 := Lib.hid (HBL0.out.trans (hbl1.mono HBL0.out.size))
  clear hbl1 HBL0
  go_wp2_with fail
  refine (value_any 6 x y (x - y) _ ⟨by rw [(val6 x y).1]; exact congrArg (fun z => [z]) HSUB.out, (val6 x y).2⟩).mono ?_
  rintro e' w3 ⟨rfl, hbl2⟩
  have HBL2 := Lib.hid (HBL1.out.trans (hbl2.mono HBL1.out.size))
  clear hbl2 HBL1
  go_wp2_with fail
  have hmn := min_if
  have hmx := max_if1
  have hmn2 := min_if2
  have hmx2 := max_if2
  refine (value_any 11 x y (min y x) _ ⟨by rw [(val11 x y).1]; exact congrArg (fun z => [z]) HMIN.out, (val11 x y).2⟩).mono ?_
  rintro e' w4 ⟨rfl, hbl3⟩
  have HBL3 := Lib.hid (HBL2.out.trans (hbl3.mono HBL2.out.size))
  clear hbl3 HBL2
  go_wp2_with fail
  refine (value_any 12 x y (max x y) _ ⟨by rw [(val12 x y).1]; exact congrArg (fun z => [z]) HMAX.out, (val12 x y).2⟩).mono ?_
  rintro e' w5 ⟨rfl, hbl4⟩
  have HBL4 := Lib.hid (HBL3.out.trans (hbl4.mono HBL3.out.size))
  clear hbl4 HBL3
  have hx3 := HX2.out
  have hy3 := HY2.out
  have hwx : wrap64 (x2 * y2) = x2 * y2 := by simp only [wrap64]; omega
  have hwq : wrap64 (64 * x2) = 64 * x2 := by simp only [wrap64]; omega
  go_wp2_with fail
  clear hmn hmx hmn2 hmx2
  refine (value_any 7 x2 y2 p _ ⟨by rw [(val7 x2 y2).1]; exact congrArg (fun z => [z]) HP.out, (val7 x2 y2).2⟩).mono ?_
  rintro e' w6 ⟨rfl, hbl5⟩
  have HBL5 := Lib.hid (HBL4.out.trans (hbl5.mono HBL4.out.size))
  clear hbl5 HBL4
  go_upto_region 7 with fail
  clear p1 p2 p3 p4 p5 p6 HP
  go_wp2_with fail
  refine (value_any 8 x2 y q _ ⟨by rw [(val8 x2 y).1]; exact congrArg (fun z => [z]) HQ.out, (val8 x2 y).2⟩).mono ?_
  rintro e' w7 ⟨rfl, hbl6⟩
  have HBL6 := Lib.hid (HBL5.out.trans (hbl6.mono HBL5.out.size))
  clear hbl6 HBL5
  go_upto_region 8 with fail
  have hexp : (q + 1) * y = q * y + y := by rw [Int.add_mul, Int.one_mul]
  rcases Int.lt_trichotomy y 0 with hy0 | hy0 | hy0
  · obtain ⟨f1, f2⟩ := HQ5.out hy0
    rw [hexp] at f2
    have g1 : wrap64 (q * y) = q * y := by simp only [wrap64]; omega
    have g2 : wrap64 ((q + 1) * y) = q * y + y := by rw [hexp]; simp only [wrap64]; omega
    have g3 : ¬ y = 0 := by omega
    have g4 : ¬ 0 < y := by omega
    go_upto_region 9 with fail
    clear f1 f2 g1 g2
    clear hexp HQ HQ3 HQ4 HQ5 hwx hwq hx3 hy3 hx2 hy2 HX HY HX2 HY2 q1 q2 HADD HSUB HMIN HMAX
    have hv1 : (v1 == 1) = decide (x < y) := by rw [Bool.eq_iff_iff]; simp [HV1.out]
    have hv2 : (v2 == 1) = decide (x ≤ y) := by rw [Bool.eq_iff_iff]; simp [HV2.out]
    have hv3 : (v3 == 1) = (x == y) := by rw [Bool.eq_iff_iff]; simp [HV3.out]
    go_wp2_with fail
    refine (value_any 16 x y v1 _ ⟨by rw [(val16 x y).1]; exact congrArg (fun z => [z]) HLT.out, (val16 x y).2⟩).mono ?_
    rintro e' w8 ⟨rfl, hbl7⟩
    have HBL7 := Lib.hid (HBL6.out.trans (hbl7.mono HBL6.out.size))
    clear hbl7 HBL6
    go_wp2_with fail
    refine (value_any 17 x y v2 _ ⟨by rw [(val17 x y).1]; exact congrArg (fun z => [z]) HLE.out, (val17 x y).2⟩).mono ?_
    rintro e' w9 ⟨rfl, hbl8⟩
    have HBL8 := Lib.hid (HBL7.out.trans (hbl8.mono HBL7.out.size))
    clear hbl8 HBL7
    go_wp2_with fail
    refine (value_any 18 x y v3 _ ⟨by rw [(val18 x y).1]; exact congrArg (fun z => [z]) HEQ.out, (val18 x y).2⟩).mono ?_
    rintro e' w10 ⟨rfl, hbl9⟩
    have HBL9 := Lib.hid (HBL8.out.trans (hbl9.mono HBL8.out.size))
    clear hbl9 HBL8
    go_upto_region 10 with fail
    clear hv1 hv2 hv3
    have hyb : (y != 0) = true := by simp [g3]
    by_cases hx0 : x = 0
    · subst hx0
      have hv4 : (v4 == 1) = false := by simp [HV4.out, *]
      have hv5 : (v5 == 1) = true := by simp [HV5.out, *]
      go_wp2_with fail
      refine (value_any 20 0 y v4 _ ⟨by rw [(val20 0 y).1]; exact congrArg (fun z => [z]) HAND.out, (val20 0 y).2⟩).mono ?_
      rintro e' w11 ⟨rfl, hbl10⟩
      have HBL10 := Lib.hid (HBL9.out.trans (hbl10.mono HBL9.out.size))
      clear hbl10 HBL9
      go_wp2_with fail
      refine (value_any 21 0 y v5 _ ⟨by rw [(val21 0 y).1]; exact congrArg (fun z => [z]) HOR.out, (val21 0 y).2⟩).mono ?_
      rintro e' w12 ⟨rfl, hbl11⟩
      have HBL11 := Lib.hid (HBL10.out.trans (hbl11.mono HBL10.out.size))
      clear hbl11 HBL10
      go_wp2_with fail
      go_ret
      exact ⟨rfl, HBL11.out⟩
    · have hv4 : (v4 == 1) = true := by simp [HV4.out, *]
      have hv5 : (v5 == 1) = true := by simp [HV5.out, *]
      have hxb : (x != 0) = true := by simp [hx0]
      go_wp2_with fail
      refine (value_any 20 x y v4 _ ⟨by rw [(val20 x y).1]; exact congrArg (fun z => [z]) HAND.out, (val20 x y).2⟩).mono ?_
      rintro e' w11 ⟨rfl, hbl10⟩
      have HBL10 := Lib.hid (HBL9.out.trans (hbl10.mono HBL9.out.size))
      clear hbl10 HBL9
      go_wp2_with fail
      refine (value_any 21 x y v5 _ ⟨by rw [(val21 x y).1]; exact congrArg (fun z => [z]) HOR.out, (val21 x y).2⟩).mono ?_
      rintro e' w12 ⟨rfl, hbl11⟩
      have HBL11 := Lib.hid (HBL10.out.trans (hbl11.mono HBL10.out.size))
      clear hbl11 HBL10
      go_wp2_with fail
      go_ret
      exact ⟨rfl, HBL11.out⟩
  · have f1 := HQ3.out hy0
    subst hy0
    go_upto_region 9 with fail
    clear f1
    clear hexp HQ HQ3 HQ4 HQ5 hwx hwq hx3 hy3 hx2 hy2 HX HY HX2 HY2 q1 q2 HADD HSUB HMIN HMAX
    have hv1 : (v1 == 1) = decide (x < 0) := by rw [Bool.eq_iff_iff]; simp [HV1.out]
    have hv2 : (v2 == 1) = decide (x ≤ 0) := by rw [Bool.eq_iff_iff]; simp [HV2.out]
    have hv3 : (v3 == 1) = (x == 0) := by rw [Bool.eq_iff_iff]; simp [HV3.out]
    go_wp2_with fail
    refine (value_any 16 x 0 v1 _ ⟨by rw [(val16 x 0).1]; exact congrArg (fun z => [z]) HLT.out, (val16 x 0).2⟩).mono ?_
    rintro e' w8 ⟨rfl, hbl7⟩
    have HBL7 := Lib.hid (HBL6.out.trans (hbl7.mono HBL6.out.size))
    clear hbl7 HBL6
    go_wp2_with fail
    refine (value_any 17 x 0 v2 _ ⟨by rw [(val17 x 0).1]; exact congrArg (fun z => [z]) HLE.out, (val17 x 0).2⟩).mono ?_
    rintro e' w9 ⟨rfl, hbl8⟩
    have HBL8 := Lib.hid (HBL7.out.trans (hbl8.mono HBL7.out.size))
    clear hbl8 HBL7
    go_wp2_with fail
    refine (value_any 18 x 0 v3 _ ⟨by rw [(val18 x 0).1]; exact congrArg (fun z => [z]) HEQ.out, (val18 x 0).2⟩).mono ?_
    rintro e' w10 ⟨rfl, hbl9⟩
    have HBL9 := Lib.hid (HBL8.out.trans (hbl9.mono HBL8.out.size))
    clear hbl9 HBL8
    go_upto_region 10 with fail
    clear hv1 hv2 hv3
    by_cases hx0 : x = 0
    · subst hx0
      have hv4 : (v4 == 1) = false := by simp [HV4.out, *]
      have hv5 : (v5 == 1) = false := by simp [HV5.out, *]
      go_wp2_with fail
      refine (value_any 20 0 0 v4 _ ⟨by rw [(val20 0 0).1]; exact congrArg (fun z => [z]) HAND.out, (val20 0 0).2⟩).mono ?_
      rintro e' w11 ⟨rfl, hbl10⟩
      have HBL10 := Lib.hid (HBL9.out.trans (hbl10.mono HBL9.out.size))
      clear hbl10 HBL9
      go_wp2_with fail
      refine (value_any 21 0 0 v5 _ ⟨by rw [(val21 0 0).1]; exact congrArg (fun z => [z]) HOR.out, (val21 0 0).2⟩).mono ?_
      rintro e' w12 ⟨rfl, hbl11⟩
      have HBL11 := Lib.hid (HBL10.out.trans (hbl11.mono HBL10.out.size))
      clear hbl11 HBL10
      go_wp2_with fail
      go_ret
      exact ⟨rfl, HBL11.out⟩
    · have hv4 : (v4 == 1) = false := by simp [HV4.out, *]
      have hv5 : (v5 == 1) = true := by simp [HV5.out, *]
      have hxb : (x != 0) = true := by simp [hx0]
      go_wp2_with fail
      refine (value_any 20 x 0 v4 _ ⟨by rw [(val20 x 0).1]; exact congrArg (fun z => [z]) HAND.out, (val20 x 0).2⟩).mono ?_
      rintro e' w11 ⟨rfl, hbl10⟩
      have HBL10 := Lib.hid (HBL9.out.trans (hbl10.mono HBL9.out.size))
      clear hbl10 HBL9
      go_wp2_with fail
      refine (value_any 21 x 0 v5 _ ⟨by rw [(val21 x 0).1]; exact congrArg (fun z => [z]) HOR.out, (val21 x 0).2⟩).mono ?_
      rintro e' w12 ⟨rfl, hbl11⟩
      have HBL11 := Lib.hid (HBL10.out.trans (hbl11.mono HBL10.out.size))
      clear hbl11 HBL10
      go_wp2_with fail
      go_ret
      exact ⟨rfl, HBL11.out⟩
  · obtain ⟨f1, f2⟩ := HQ4.out hy0
    rw [hexp] at f2
    have g1 : wrap64 (q * y) = q * y := by simp only [wrap64]; omega
    have g2 : wrap64 ((q + 1) * y) = q * y + y := by rw [hexp]; simp only [wrap64]; omega
    have g3 : ¬ y = 0 := by omega
    have g4 : ¬ y < 0 := by omega
    go_upto_region 9 with fail
    clear f1 f2 g1 g2
    clear hexp HQ HQ3 HQ4 HQ5 hwx hwq hx3 hy3 hx2 hy2 HX HY HX2 HY2 q1 q2 HADD HSUB HMIN HMAX
    have hv1 : (v1 == 1) = decide (x < y) := by rw [Bool.eq_iff_iff]; simp [HV1.out]
    have hv2 : (v2 == 1) = decide (x ≤ y) := by rw [Bool.eq_iff_iff]; simp [HV2.out]
    have hv3 : (v3 == 1) = (x == y) := by rw [Bool.eq_iff_iff]; simp [HV3.out]
    go_wp2_with fail
    refine (value_any 16 x y v1 _ ⟨by rw [(val16 x y).1]; exact congrArg (fun z => [z]) HLT.out, (val16 x y).2⟩).mono ?_
    rintro e' w8 ⟨rfl, hbl7⟩
    have HBL7 := Lib.hid (HBL6.out.trans (hbl7.mono HBL6.out.size))
    clear hbl7 HBL6
    go_wp2_with fail
    refine (value_any 17 x y v2 _ ⟨by rw [(val17 x y).1]; exact congrArg (fun z => [z]) HLE.out, (val17 x y).2⟩).mono ?_
    rintro e' w9 ⟨rfl, hbl8⟩
    have HBL8 := Lib.hid (HBL7.out.trans (hbl8.mono HBL7.out.size))
    clear hbl8 HBL7
    go_wp2_with fail
    refine (value_any 18 x y v3 _ ⟨by rw [(val18 x y).1]; exact congrArg (fun z => [z]) HEQ.out, (val18 x y).2⟩).mono ?_
    rintro e' w10 ⟨rfl, hbl9⟩
    have HBL9 := Lib.hid (HBL8.out.trans (hbl9.mono HBL8.out.size))
    clear hbl9 HBL8
    go_upto_region 10 with fail
    clear hv1 hv2 hv3
    have hyb : (y != 0) = true := by simp [g3]
    by_cases hx0 : x = 0
    · subst hx0
      have hv4 : (v4 == 1) = false := by simp [HV4.out, *]
      have hv5 : (v5 == 1) = true := by simp [HV5.out, *]
      go_wp2_with fail
      refine (value_any 20 0 y v4 _ ⟨by rw [(val20 0 y).1]; exact congrArg (fun z => [z]) HAND.out, (val20 0 y).2⟩).mono ?_
      rintro e' w11 ⟨rfl, hbl10⟩
      have HBL10 := Lib.hid (HBL9.out.trans (hbl10.mono HBL9.out.size))
      clear hbl10 HBL9
      go_wp2_with fail
      refine (value_any 21 0 y v5 _ ⟨by rw [(val21 0 y).1]; exact congrArg (fun z => [z]) HOR.out, (val21 0 y).2⟩).mono ?_
      rintro e' w12 ⟨rfl, hbl11⟩
      have HBL11 := Lib.hid (HBL10.out.trans (hbl11.mono HBL10.out.size))
      clear hbl11 HBL10
      go_wp2_with fail
      go_ret
      exact ⟨rfl, HBL11.out⟩
    · have hv4 : (v4 == 1) = true := by simp [HV4.out, *]
      have hv5 : (v5 == 1) = true := by simp [HV5.out, *]
      have hxb : (x != 0) = true := by simp [hx0]
      go_wp2_with fail
      refine (value_any 20 x y v4 _ ⟨by rw [(val20 x y).1]; exact congrArg (fun z => [z]) HAND.out, (val20 x y).2⟩).mono ?_
      rintro e' w11 ⟨rfl, hbl10⟩
      have HBL10 := Lib.hid (HBL9.out.trans (hbl10.mono HBL9.out.size))
      clear hbl10 HBL9
      go_wp2_with fail
      refine (value_any 21 x y v5 _ ⟨by rw [(val21 x y).1]; exact congrArg (fun z => [z]) HOR.out, (val21 x y).2⟩).mono ?_
      rintro e' w12 ⟨rfl, hbl11⟩
      have HBL11 := Lib.hid (HBL10.out.trans (hbl11.mono HBL10.out.size))
      clear hbl11 HBL10
      go_wp2_with fail
      go_ret
      exact ⟨rfl, HBL11.out⟩
end Go.Proofs.Ythdmdgmchkhngaa

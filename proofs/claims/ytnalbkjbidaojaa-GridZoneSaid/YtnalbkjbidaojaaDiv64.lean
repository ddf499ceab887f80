/- math/bits.Div64: its contract, for every dividend. -/
import Derived.Test.YtnalbkjbidaojaaLen64
import Derived.Test.YtnalbkjbidaojaaDivMath
import Derived.Deep.CutBlock
import Derived.Deep.DeepCutAuto
namespace Go.Proofs.Ytnalbkjbidaojaa
open Go.RowKit
namespace Mul64
theorem orN (a b s : Nat) (h : b < 2 ^ s) (hs : 2 ^ s * a + b < 18446744073709551616) : bits .or .u64 ((2 ^ s * a : Nat) : Int) (b : Int) = ((2 ^ s * a + b : Nat) : Int) := by
  have e := bits_or_u64_nat (2 ^ s * a) b (by omega) (by omega)
  rw [← Nat.two_pow_add_eq_or_of_lt h a] at e
  exact e
end Mul64
namespace DivMath
theorem len_lt : ∀ (k x : Nat), x < 2 ^ k → k ≤ 64 → x < 2 ^ Lib.bitLen x
  | 0, x, h, _ => by have : x = 0 := by simpa using h
                     subst this
                     decide
  | k + 1, x, h, hk => by
    by_cases h0 : x = 0
    · subst h0; decide
    · have h64 : x < 2 ^ 64 := Nat.lt_of_lt_of_le h (Nat.pow_le_pow_right (by omega) hk)
      rw [Lib.bitLen_half x h0 h64]
      have := len_lt k (x / 2) (by rw [Nat.pow_succ] at h; omega) (by omega)
      rw [Nat.add_comm, Nat.pow_succ]
      omega
theorem len_ge (x : Nat) (h : x ≠ 0) (h64 : x < 2 ^ 64) : 2 ^ (Lib.bitLen x - 1) ≤ x := by
  apply Nat.le_of_not_lt
  intro hh
  have h1 := Lib.bitLen_le x (Lib.bitLen x - 1) (by have := Lib.bitLen_le x 64 (by omega) h64; omega) hh
  have h2 := Lib.bitLen_half x h h64
  omega
/-- a divisor shifted up as far as it goes -/
theorem shifted (y s : Nat) (h0 : y ≠ 0) (hy : y < 2 ^ 64) (hs : (s : Int) = 64 - (Lib.bitLen y : Int)) : s ≤ 63 ∧ 9223372036854775808 ≤ y * 2 ^ s ∧ y * 2 ^ s < 18446744073709551616 ∧ 2 ^ s * 2 ^ (64 - s) = 18446744073709551616 := by
  have hl := Lib.bitLen_le y 64 (by omega) hy
  have h1 := len_lt 64 y hy (by omega)
  have h2 := len_ge y h0 hy
  have h3 := Lib.bitLen_half y h0 hy
  generalize hL : Lib.bitLen y = L at *
  have hsL : s = 64 - L := by omega
  subst hsL
  have e1 : 2 ^ L * 2 ^ (64 - L) = 18446744073709551616 := by rw [← Nat.pow_add, show L + (64 - L) = 64 by omega]
  have e2 : 2 ^ (L - 1) * 2 ^ (64 - L) = 9223372036854775808 := by rw [← Nat.pow_add, show L - 1 + (64 - L) = 63 by omega]
  have hp : 0 < 2 ^ (64 - L) := Nat.pow_pos (by omega)
  refine ⟨by omega, ?_, ?_, ?_⟩
  · rw [← e2]; exact Nat.mul_le_mul_right _ h2
  · rw [← e1]; exact Nat.mul_lt_mul_of_pos_right h1 hp
  · rw [← Nat.pow_add, show 64 - L + (64 - (64 - L)) = 64 by omega]
/-- what is reckoned of the shifted dividend -/
theorem dividend (hi lo y P D : Nat) (hPD : P * D = 18446744073709551616) (h : hi < y) (hlo : lo < 18446744073709551616) (_hY : y * P < 18446744073709551616) :
    lo / D < P ∧ P * hi + lo / D < y * P ∧ (hi * 18446744073709551616 + lo) * P = (P * hi + lo / D) * 18446744073709551616 + lo * P % 18446744073709551616 := by
  have hD : 0 < D := by
    rcases Nat.eq_zero_or_pos D with e | e
    · rw [e] at hPD; simp at hPD
    · exact e
  have h1 : lo / D < P := by rw [Nat.div_lt_iff_lt_mul hD, hPD]; exact hlo
  have h2 : (hi + 1) * P ≤ y * P := Nat.mul_le_mul_right _ h
  rw [Nat.add_mul, Nat.one_mul, Nat.mul_comm hi P] at h2
  refine ⟨h1, by omega, ?_⟩
  have h3 : lo * P / 18446744073709551616 = lo / D := by rw [← hPD, Nat.mul_comm P D]; exact Nat.mul_div_mul_right _ _ (by rcases Nat.eq_zero_or_pos P with e | e; rw [e] at hPD; simp at hPD; exact e)
  have h4 := Nat.div_add_mod (lo * P) 18446744073709551616
  rw [h3] at h4
  have e1 : (hi * 18446744073709551616 + lo) * P = P * hi * 18446744073709551616 + lo * P := by rw [Nat.add_mul, Nat.mul_right_comm, Nat.mul_comm hi P]
  rw [e1, Nat.add_mul]
  omega
/-- the rounds of one digit -/
def EstI (u y1 y0 u1 : Nat) (v v2 : Value) : Prop := ∃ q r : Nat, v = .int .u64 q ∧ v2 = .int .u64 r ∧ Est u y1 y0 u1 q r ∧ r < 4294967296
end DivMath
open DivMath

set_option maxHeartbeats 2000000 in
set_option maxRecDepth 100000 in
theorem div64_any (hi lo y : Nat) (w : World) (h0 : 0 < hi) (h : hi < y) (hy : y < 18446744073709551616) (hlo : lo < 18446744073709551616) :
    Calls Try.prog 44 #[.int .u64 hi, .int .u64 lo, .int .u64 y] w fun e w' => e = .returned (.tuple #[.int .u64 (((hi * 18446744073709551616 + lo) / y : Nat) : Int), .int .u64 (((hi * 18446744073709551616 + lo) % y : Nat) : Int)]) ∧ w = w' := by
  have c0 : ((y : Int) == 0) = false := by simpa using (by omega : ¬ (y : Int) = 0)
  have c1 : ¬ (y : Int) ≤ (hi : Int) := by omega
  have c2 : ((hi : Int) == 0) = false := by simpa using (by omega : ¬ (hi : Int) = 0)
  have HC := Lib.hid (zeros64_any (y : Int) w (by omega) (by omega))
  obtain ⟨s, hs⟩ : ∃ s : Nat, (s : Int) = 64 - (Lib.bitLen (y : Int).toNat : Int) := ⟨64 - Lib.bitLen y, by have : Lib.bitLen y ≤ 64 := Lib.bitLen_le y 64 (by omega) (by omega); simp only [Int.toNat_natCast]; omega⟩
  rw [← hs] at HC
  rw [Int.toNat_natCast] at hs
  obtain ⟨hs63, hY0, hY1, hPD⟩ := shifted y s (by omega) (by omega) hs
  have HYB := Lib.hid (And.intro hY0 hY1)
  have HPD := Lib.hid hPD
  clear hs hY0 hY1 hPD
  go_enter Try.func44, Try.ntmps44
  go_wp2_with fail
  refine HC.out.mono ?_
  rintro e w' ⟨rfl, rfl⟩
  clear HC
  go_upto_region 15 with fail
  obtain ⟨hY0, hY1⟩ := HYB.out
  have hPD := HPD.out
  obtain ⟨P, hP⟩ : ∃ P : Nat, P = 2 ^ s := ⟨_, rfl⟩
  obtain ⟨D, hD⟩ : ∃ D : Nat, D = 2 ^ (64 - s) := ⟨_, rfl⟩
  rw [← hP, ← hD] at hPD
  rw [← hP] at hY0 hY1
  obtain ⟨d1, d2, d3⟩ := dividend hi lo y P D hPD h hlo hY1
  have d5 : P * hi < 18446744073709551616 := Nat.lt_of_le_of_lt (Nat.le_add_right _ (lo / D)) (Nat.lt_trans d2 hY1)
  have i1 : ((2 : Int) ^ s) = (P : Int) := by rw [hP]; simp
  have i2 : ((2 : Int) ^ (64 - s)) = (D : Int) := by rw [hD]; simp
  have e1 : IntKind.u64.wrap ((y : Int) * 2 ^ s) = ((y * P : Nat) : Int) := by rw [i1, Mul64.mulN, Mul64.wrapN _ hY1]
  have e2 : IntKind.u64.wrap ((hi : Int) * 2 ^ s) = ((P * hi : Nat) : Int) := by rw [i1, Mul64.mulN, Nat.mul_comm, Mul64.wrapN _ d5]
  have e3 : (lo : Int) / 2 ^ (64 - s) = ((lo / D : Nat) : Int) := by rw [i2]; rfl
  have e4 : IntKind.u64.wrap ((lo : Int) * 2 ^ s) = ((lo * P % 18446744073709551616 : Nat) : Int) := by rw [i1, Mul64.mulN, Mul64.wrapM]
  have e5 : bits .or .u64 ((P * hi : Nat) : Int) ((lo / D : Nat) : Int) = ((P * hi + lo / D : Nat) : Int) := by
    have := Mul64.orN hi (lo / D) s (by rw [← hP]; exact d1) (by rw [← hP]; exact Nat.lt_trans d2 hY1)
    rw [← hP] at this
    exact this
  rw [e1, e2, e3, e4, e5]
  clear e1 e2 e3 e4 e5 i1 i2 d1 d5 HYB HPD
  have hz : lo * P % 18446744073709551616 < 18446744073709551616 := Nat.mod_lt _ (by omega)
  have HD3 := Lib.hid d3
  have HPY : Hid (0 < P) := Lib.hid (by rcases Nat.eq_zero_or_pos P with e | e; (rw [e] at hPD; simp at hPD); exact e)
  clear d3 hPD
  generalize hYY : y * P = Y at *
  generalize P * hi + lo / D = u at *
  generalize lo * P % 18446744073709551616 = z at *
  have HYY := Lib.hid hYY
  have HPP := Lib.hid hP
  clear hYY hD hP
  rw [Mul64.maskN Y hY1, Mul64.maskN z hz, Mul64.divN, Mul64.divN]
  obtain ⟨y1, hy1⟩ : ∃ y1, y1 = Y / 4294967296 := ⟨_, rfl⟩
  obtain ⟨y0, hy0⟩ : ∃ y0, y0 = Y % 4294967296 := ⟨_, rfl⟩
  obtain ⟨z1, hz1⟩ : ∃ z1, z1 = z / 4294967296 := ⟨_, rfl⟩
  obtain ⟨z0, hz0⟩ : ∃ z0, z0 = z % 4294967296 := ⟨_, rfl⟩
  rw [← hy1, ← hy0, ← hz1, ← hz0]
  have eY : y1 * 4294967296 + y0 = Y := by rw [hy1, hy0]; exact Nat.div_add_mod' Y 4294967296
  have ez : z1 * 4294967296 + z0 = z := by rw [hz1, hz0]; exact Nat.div_add_mod' z 4294967296
  have by1 : 2147483648 ≤ y1 ∧ y1 < 4294967296 := by omega
  have by0 : y0 < 4294967296 := by omega
  have bz1 : z1 < 4294967296 := by omega
  have bz0 : z0 < 4294967296 := by omega
  have EY := Lib.hid eY
  have EZ := Lib.hid ez
  clear hy1 hy0 hz1 hz0 eY ez
  have hy1n : ¬ (y1 : Int) = 0 := by omega
  go_upto_block 0 with (fail)
  have HE1 := Lib.hid (est_start u y1 y0 z1 by1.1 by0 bz1 (by rw [EY.out]; exact d2))
  have hq1 : u / y1 * y1 ≤ u := Nat.div_mul_le_self u y1
  have hu : u < 18446744073709551616 := Nat.lt_trans d2 hY1
  have e1 : IntKind.u64.wrap ((u : Int) / (y1 : Int)) = ((u / y1 : Nat) : Int) := by
    rw [show (u : Int) / (y1 : Int) = ((u / y1 : Nat) : Int) from (Int.natCast_ediv u y1).symm]
    exact Mul64.wrapN _ (Nat.lt_of_le_of_lt (Nat.div_le_self _ _) hu)
  have e2 : IntKind.u64.wrap ((u : Int) - IntKind.u64.wrap (((u / y1 : Nat) : Int) * (y1 : Int))) = ((u - u / y1 * y1 : Nat) : Int) := by
    rw [Mul64.mulN, Mul64.wrapN _ (Nat.lt_of_le_of_lt hq1 hu), ← Int.ofNat_sub hq1]
    exact Mul64.wrapN _ (by omega)
  rw [e1, e2]
  have hr1 : u - u / y1 * y1 < 4294967296 := by
    have h1 : u / y1 * y1 + u % y1 = u := by rw [Nat.mul_comm]; exact Nat.div_add_mod u y1
    have h2 : u % y1 < y1 := Nat.mod_lt _ (by omega)
    omega
  clear e1 e2 hq1
  have HU1 : Hid (u < Y) := Lib.hid d2
  generalize u / y1 = q1 at *
  generalize u - q1 * y1 = r1 at *
  obtain ⟨Q1, hQ1⟩ : ∃ Q1, Q1 = (u * 4294967296 + z1) / Y := ⟨_, rfl⟩
  have HQ1 := Lib.hid hQ1
  clear hQ1
  go_cut [15] (fun v wx => v = .int .u64 Q1 ∧ wx = w')
  case first =>
    go_wp2_with fail
    go_loopw [15, 16] (fun v v2 wx => EstI u y1 y0 z1 v v2 ∧ wx = w') (fun v _ _ => (intOf v).toNat)
    case atStart => exact ⟨⟨q1, r1, rfl, rfl, HE1.out, hr1⟩, rfl⟩
    case round =>
      clear HE1 hr1
      obtain ⟨⟨q, r, rfl, rfl, hest, hr⟩, rfl⟩ := hrel
      --LOOPS
      have hu2 := HU1.out
      by_cases hq : 4294967296 ≤ q
      · have hqi : (4294967296 : Int) ≤ (q : Int) := by omega
        obtain ⟨hq1, hest'⟩ := est_down u y1 y0 z1 q r by1.1 (by rw [EY.out]; exact hu2) bz1 hest (.inl hq)
        have f4 : IntKind.u64.wrap ((q : Int) - 1) = ((q - 1 : Nat) : Int) := by rw [show (q : Int) - 1 = ((q - 1 : Nat) : Int) by omega]; exact Mul64.wrapN _ (by have := hest.le; omega)
        have f5 : IntKind.u64.wrap ((r : Int) + (y1 : Int)) = ((r + y1 : Nat) : Int) := by rw [Mul64.addN]; exact Mul64.wrapN _ (by omega)
        have hql := hest.le
        have HEST := Lib.hid hest'
        clear hest hest'
        generalize hq' : q - 1 = q' at *
        generalize hr' : r + y1 = r' at *
        by_cases hb : r' < 4294967296
        · have hb2 : ¬ (4294967296 : Int) ≤ (r' : Int) := by omega
          go_wp2_with fail
          go_roundw
          case rel => exact ⟨⟨q', r', rfl, rfl, HEST.out, hb⟩, by first | rfl | trivial⟩
          case measure => simp [intOf]; omega
        · have hb2 : (4294967296 : Int) ≤ (r' : Int) := by omega
          have hd := est_done u y1 y0 z1 q' r' by0 by1.1 HEST.out (est_break y0 z1 q' r' by0 (by omega) (by omega))
          rw [EY.out, ← HQ1.out] at hd
          go_wp2_with fail
          go_meet
          exact ⟨by first | rfl | rw [hd], by first | rfl | trivial⟩
      · have hqi : ¬ (4294967296 : Int) ≤ (q : Int) := by omega
        have hqy : q * y0 < 18446744073709551616 := by
          have h1 : q * y0 ≤ q * 4294967296 := Nat.mul_le_mul_left _ (by omega)
          omega
        have f1 : IntKind.u64.wrap ((q : Int) * (y0 : Int)) = ((q * y0 : Nat) : Int) := by rw [Mul64.mulN]; exact Mul64.wrapN _ hqy
        have f2 : IntKind.u64.wrap (4294967296 * (r : Int)) = 4294967296 * (r : Int) := by rw [show 4294967296 * (r : Int) = ((4294967296 * r : Nat) : Int) by omega]; exact Mul64.wrapN _ (by omega)
        have f3 : IntKind.u64.wrap (4294967296 * (r : Int) + (z1 : Int)) = 4294967296 * (r : Int) + (z1 : Int) := by rw [show 4294967296 * (r : Int) + (z1 : Int) = ((4294967296 * r + z1 : Nat) : Int) by omega]; exact Mul64.wrapN _ (by omega)
        by_cases ht : 4294967296 * r + z1 < q * y0
        · have hti : 4294967296 * (r : Int) + (z1 : Int) < ((q * y0 : Nat) : Int) := by omega
          generalize hqy' : q * y0 = a at *
          obtain ⟨hq1, hest'⟩ := est_down u y1 y0 z1 q r by1.1 (by rw [EY.out]; exact hu2) bz1 hest (.inr (by rw [hqy']; exact ht))
          have f4 : IntKind.u64.wrap ((q : Int) - 1) = ((q - 1 : Nat) : Int) := by rw [show (q : Int) - 1 = ((q - 1 : Nat) : Int) by omega]; exact Mul64.wrapN _ (by have := hest.le; omega)
          have f5 : IntKind.u64.wrap ((r : Int) + (y1 : Int)) = ((r + y1 : Nat) : Int) := by rw [Mul64.addN]; exact Mul64.wrapN _ (by omega)
          have hql := hest.le
          have HEST := Lib.hid hest'
          clear hest hest'
          generalize hq' : q - 1 = q' at *
          generalize hr' : r + y1 = r' at *
          by_cases hb : r' < 4294967296
          · have hb2 : ¬ (4294967296 : Int) ≤ (r' : Int) := by omega
            go_wp2_with fail
            go_roundw
            case rel => exact ⟨⟨q', r', rfl, rfl, HEST.out, hb⟩, by first | rfl | trivial⟩
            case measure => simp [intOf]; omega
          · have hb2 : (4294967296 : Int) ≤ (r' : Int) := by omega
            have hd := est_done u y1 y0 z1 q' r' by0 by1.1 HEST.out (est_break y0 z1 q' r' by0 (by omega) (by omega))
            rw [EY.out, ← HQ1.out] at hd
            go_wp2_with fail
            go_meet
            exact ⟨by first | rfl | rw [hd], by first | rfl | trivial⟩
        · have hd := est_done u y1 y0 z1 q r by0 by1.1 hest (Nat.le_of_not_lt ht)
          rw [EY.out, ← HQ1.out] at hd
          have HDD := Lib.hid hd
          have hqq : q ≤ 4294967297 := hest.le
          clear hest hd
          generalize q * y0 = a at *
          have hti : ¬ 4294967296 * (r : Int) + (z1 : Int) < (a : Int) := by omega
          clear hqy ht hqq
          go_wp2_with fail
          go_meet
          exact ⟨by first | rfl | rw [HDD.out], by first | rfl | trivial⟩
  case rest =>
    obtain ⟨rfl, rfl⟩ := hcut
    go_upto_region 22 with fail
    obtain ⟨v, hv⟩ : ∃ v, v = (u * 4294967296 + z1) % Y := ⟨_, rfl⟩
    have hvY : v < Y := by rw [hv]; exact Nat.mod_lt _ (by omega)
    have e6 : IntKind.u64.wrap (IntKind.u64.wrap (IntKind.u64.wrap ((u : Int) * 4294967296) + (z1 : Int)) - IntKind.u64.wrap ((Q1 : Int) * (Y : Int))) = (v : Int) := by
      rw [IntKind.wrap_u64, IntKind.wrap_u64, IntKind.wrap_u64, IntKind.wrap_u64, hv]
      exact rest_wrap u z1 Y Q1 hY1 (by omega) HQ1.out
    rw [e6]
    have HV := Lib.hid hv
    clear e6 hv
    go_upto_block 2 with (fail)
    have HE1 := Lib.hid (est_start v y1 y0 z0 by1.1 by0 bz0 (by rw [EY.out]; exact hvY))
    have hq1 : v / y1 * y1 ≤ v := Nat.div_mul_le_self v y1
    have hvu : v < 18446744073709551616 := Nat.lt_trans hvY hY1
    have e1 : IntKind.u64.wrap ((v : Int) / (y1 : Int)) = ((v / y1 : Nat) : Int) := by
      rw [show (v : Int) / (y1 : Int) = ((v / y1 : Nat) : Int) from (Int.natCast_ediv v y1).symm]
      exact Mul64.wrapN _ (Nat.lt_of_le_of_lt (Nat.div_le_self _ _) hvu)
    have e2 : IntKind.u64.wrap ((v : Int) - IntKind.u64.wrap (((v / y1 : Nat) : Int) * (y1 : Int))) = ((v - v / y1 * y1 : Nat) : Int) := by
      rw [Mul64.mulN, Mul64.wrapN _ (Nat.lt_of_le_of_lt hq1 hvu), ← Int.ofNat_sub hq1]
      exact Mul64.wrapN _ (by omega)
    rw [e1, e2]
    have hr1 : v - v / y1 * y1 < 4294967296 := by
      have h1 : v / y1 * y1 + v % y1 = v := by rw [Nat.mul_comm]; exact Nat.div_add_mod v y1
      have h2 : v % y1 < y1 := Nat.mod_lt _ (by omega)
      omega
    clear e1 e2 hq1
    have HU2 : Hid (v < Y) := Lib.hid hvY
    generalize v / y1 = q2 at *
    generalize v - q2 * y1 = r2 at *
    obtain ⟨Q0, hQ0⟩ : ∃ Q0, Q0 = (v * 4294967296 + z0) / Y := ⟨_, rfl⟩
    have HQ2 := Lib.hid hQ0
    clear hQ0
    go_cut [18] (fun v wx => v = .int .u64 Q0 ∧ wx = wc)
    case first =>
      go_wp2_with fail
      go_loopw [18, 16] (fun x x2 wx => EstI v y1 y0 z0 x x2 ∧ wx = wc) (fun x _ _ => (intOf x).toNat)
      case atStart => exact ⟨⟨q2, r2, rfl, rfl, HE1.out, hr1⟩, rfl⟩
      case round =>
        clear HE1 hr1
        obtain ⟨⟨q, r, rfl, rfl, hest, hr⟩, rfl⟩ := hrel
        have hu2 := HU2.out
        by_cases hq : 4294967296 ≤ q
        · have hqi : (4294967296 : Int) ≤ (q : Int) := by omega
          obtain ⟨hq1, hest'⟩ := est_down v y1 y0 z0 q r by1.1 (by rw [EY.out]; exact hu2) bz0 hest (.inl hq)
          have f4 : IntKind.u64.wrap ((q : Int) - 1) = ((q - 1 : Nat) : Int) := by rw [show (q : Int) - 1 = ((q - 1 : Nat) : Int) by omega]; exact Mul64.wrapN _ (by have := hest.le; omega)
          have f5 : IntKind.u64.wrap ((r : Int) + (y1 : Int)) = ((r + y1 : Nat) : Int) := by rw [Mul64.addN]; exact Mul64.wrapN _ (by omega)
          have hql := hest.le
          have HEST := Lib.hid hest'
          clear hest hest'
          generalize hq' : q - 1 = q' at *
          generalize hr' : r + y1 = r' at *
          by_cases hb : r' < 4294967296
          · have hb2 : ¬ (4294967296 : Int) ≤ (r' : Int) := by omega
            go_wp2_with fail
            go_roundw
            case rel => exact ⟨⟨q', r', rfl, rfl, HEST.out, hb⟩, by first | rfl | trivial⟩
            case measure => simp [intOf]; omega
          · have hb2 : (4294967296 : Int) ≤ (r' : Int) := by omega
            have hd := est_done v y1 y0 z0 q' r' by0 by1.1 HEST.out (est_break y0 z0 q' r' by0 (by omega) (by omega))
            rw [EY.out, ← HQ2.out] at hd
            go_wp2_with fail
            go_meet
            exact ⟨by first | rfl | rw [hd], by first | rfl | trivial⟩
        · have hqi : ¬ (4294967296 : Int) ≤ (q : Int) := by omega
          have hqy : q * y0 < 18446744073709551616 := by
            have h1 : q * y0 ≤ q * 4294967296 := Nat.mul_le_mul_left _ (by omega)
            omega
          have f1 : IntKind.u64.wrap ((q : Int) * (y0 : Int)) = ((q * y0 : Nat) : Int) := by rw [Mul64.mulN]; exact Mul64.wrapN _ hqy
          have f2 : IntKind.u64.wrap (4294967296 * (r : Int)) = 4294967296 * (r : Int) := by rw [show 4294967296 * (r : Int) = ((4294967296 * r : Nat) : Int) by omega]; exact Mul64.wrapN _ (by omega)
          have f3 : IntKind.u64.wrap (4294967296 * (r : Int) + (z0 : Int)) = 4294967296 * (r : Int) + (z0 : Int) := by rw [show 4294967296 * (r : Int) + (z0 : Int) = ((4294967296 * r + z0 : Nat) : Int) by omega]; exact Mul64.wrapN _ (by omega)
          by_cases ht : 4294967296 * r + z0 < q * y0
          · have hti : 4294967296 * (r : Int) + (z0 : Int) < ((q * y0 : Nat) : Int) := by omega
            generalize hqy' : q * y0 = a at *
            obtain ⟨hq1, hest'⟩ := est_down v y1 y0 z0 q r by1.1 (by rw [EY.out]; exact hu2) bz0 hest (.inr (by rw [hqy']; exact ht))
            have f4 : IntKind.u64.wrap ((q : Int) - 1) = ((q - 1 : Nat) : Int) := by rw [show (q : Int) - 1 = ((q - 1 : Nat) : Int) by omega]; exact Mul64.wrapN _ (by have := hest.le; omega)
            have f5 : IntKind.u64.wrap ((r : Int) + (y1 : Int)) = ((r + y1 : Nat) : Int) := by rw [Mul64.addN]; exact Mul64.wrapN _ (by omega)
            have hql := hest.le
            have HEST := Lib.hid hest'
            clear hest hest'
            generalize hq' : q - 1 = q' at *
            generalize hr' : r + y1 = r' at *
            by_cases hb : r' < 4294967296
            · have hb2 : ¬ (4294967296 : Int) ≤ (r' : Int) := by omega
              go_wp2_with fail
              go_roundw
              case rel => exact ⟨⟨q', r', rfl, rfl, HEST.out, hb⟩, by first | rfl | trivial⟩
              case measure => simp [intOf]; omega
            · have hb2 : (4294967296 : Int) ≤ (r' : Int) := by omega
              have hd := est_done v y1 y0 z0 q' r' by0 by1.1 HEST.out (est_break y0 z0 q' r' by0 (by omega) (by omega))
              rw [EY.out, ← HQ2.out] at hd
              go_wp2_with fail
              go_meet
              exact ⟨by first | rfl | rw [hd], by first | rfl | trivial⟩
          · have hd := est_done v y1 y0 z0 q r by0 by1.1 hest (Nat.le_of_not_lt ht)
            rw [EY.out, ← HQ2.out] at hd
            have HDD := Lib.hid hd
            have hqq : q ≤ 4294967297 := hest.le
            clear hest hd
            generalize q * y0 = a at *
            have hti : ¬ 4294967296 * (r : Int) + (z0 : Int) < (a : Int) := by omega
            clear hqy ht hqq
            go_wp2_with fail
            go_meet
            exact ⟨by first | rfl | rw [HDD.out], by first | rfl | trivial⟩
    case rest =>
      obtain ⟨rfl, rfl⟩ := hcut
      obtain ⟨t1, t2⟩ := two_digits 4294967296 u z1 z0 Y (by omega) Q1 Q0 v HQ1.out HV.out HQ2.out
      have eN : (u * 4294967296 + z1) * 4294967296 + z0 = (hi * 18446744073709551616 + lo) * P := by rw [HD3.out, ← EZ.out, Nat.add_mul, Nat.mul_assoc, Nat.add_assoc]
      rw [eN, ← HYY.out, shift_div _ _ _ HPY.out] at t1
      rw [eN, ← HYY.out, shift_mod] at t2
      rw [HYY.out] at t2
      have hq64 : (hi * 18446744073709551616 + lo) / y < 18446744073709551616 := by
        rw [Nat.div_lt_iff_lt_mul (by omega)]
        have : (hi + 1) * 18446744073709551616 ≤ y * 18446744073709551616 := Nat.mul_le_mul_right _ h
        omega
      have f1 : IntKind.u64.wrap (IntKind.u64.wrap ((Q1 : Int) * 4294967296) + (Q0 : Int)) = (((hi * 18446744073709551616 + lo) / y : Nat) : Int) := by
        rw [← t1, show (Q1 : Int) * 4294967296 = ((Q1 * 4294967296 : Nat) : Int) by omega, Mul64.wrapN _ (by omega), Mul64.addN]
        exact Mul64.wrapN _ (by omega)
      have f2 : IntKind.u64.wrap (IntKind.u64.wrap (IntKind.u64.wrap ((v : Int) * 4294967296) + (z0 : Int)) - IntKind.u64.wrap ((Q0 : Int) * (Y : Int))) = (((hi * 18446744073709551616 + lo) % y * P : Nat) : Int) := by
        rw [IntKind.wrap_u64, IntKind.wrap_u64, IntKind.wrap_u64, IntKind.wrap_u64, ← t2]
        exact rest_wrap v z0 Y Q0 hY1 (by omega) HQ2.out
      have HF1 := Lib.hid f1
      have HF2 := Lib.hid f2
      clear f1 f2 t1 t2 eN hq64
      go_wp2_with fail
      go_ret2
      refine ⟨?_, rfl⟩
      rw [HF1.out, HF2.out]
      have i3 : (((hi * 18446744073709551616 + lo) % y * P : Nat) : Int) / 2 ^ s = (((hi * 18446744073709551616 + lo) % y : Nat) : Int) := by
        rw [show ((2 : Int) ^ s) = (P : Int) by rw [HPP.out]; simp, ← Int.natCast_ediv, Nat.mul_div_cancel _ HPY.out]
      rw [i3]
      rfl
end Go.Proofs.Ytnalbkjbidaojaa

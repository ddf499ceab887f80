/- Plain arithmetic behind math/bits.Div64: the estimate of one half digit, and the whole quotient. No program in sight. -/
namespace Go.Proofs.Ytnalbkjbidaojaa
namespace DivMath

/-- the true half digit, held against an estimate q with rest r -/
structure Est (u y1 y0 u1 q r : Nat) : Prop where
  eq : q * y1 + r = u
  ge : (u * 4294967296 + u1) / (y1 * 4294967296 + y0) ≤ q
  le : q ≤ 4294967297

theorem est_start (u y1 y0 u1 : Nat) (hy1 : 2147483648 ≤ y1) (hy0 : y0 < 4294967296) (hu1 : u1 < 4294967296) (hu : u < y1 * 4294967296 + y0) : Est u y1 y0 u1 (u / y1) (u - u / y1 * y1) := by
  have h1 : u / y1 * y1 + u % y1 = u := by rw [Nat.mul_comm]; exact Nat.div_add_mod u y1
  have h2 : u % y1 < y1 := Nat.mod_lt _ (by omega)
  refine ⟨by omega, ?_, ?_⟩
  · apply Nat.le_of_lt_succ
    rw [Nat.div_lt_iff_lt_mul (by omega)]
    have h3 : u + 1 ≤ (u / y1 + 1) * y1 := by rw [Nat.add_mul]; omega
    have h4 : (u + 1) * 4294967296 ≤ (u / y1 + 1) * y1 * 4294967296 := Nat.mul_le_mul_right _ h3
    have h5 : (u / y1 + 1) * (y1 * 4294967296 + y0) = (u / y1 + 1) * y1 * 4294967296 + (u / y1 + 1) * y0 := by rw [Nat.mul_add, Nat.mul_assoc]
    have h6 : 0 ≤ (u / y1 + 1) * y0 := Nat.zero_le _
    have : (u / y1).succ = u / y1 + 1 := rfl
    rw [this, h5]; omega
  · apply Nat.le_of_lt_succ
    rw [Nat.div_lt_iff_lt_mul (by omega)]
    have : 4294967297 + 1 = 4294967298 := rfl
    omega

/-- the loop's test says: the estimate is too great -/
theorem est_down (u y1 y0 u1 q r : Nat) (_hy1 : 2147483648 ≤ y1) (hu : u < y1 * 4294967296 + y0) (hu1 : u1 < 4294967296) (h : Est u y1 y0 u1 q r)
    (ht : 4294967296 ≤ q ∨ 4294967296 * r + u1 < q * y0) : 1 ≤ q ∧ Est u y1 y0 u1 (q - 1) (r + y1) := by
  obtain ⟨e, g, l⟩ := h
  have hlt : (u * 4294967296 + u1) / (y1 * 4294967296 + y0) < q := by
    rcases ht with ht | ht
    · refine Nat.lt_of_lt_of_le ?_ ht
      rw [Nat.div_lt_iff_lt_mul (by omega)]
      have : (u + 1) * 4294967296 ≤ (y1 * 4294967296 + y0) * 4294967296 := Nat.mul_le_mul_right _ hu
      omega
    · rw [Nat.div_lt_iff_lt_mul (by omega)]
      have h5 : q * (y1 * 4294967296 + y0) = q * y1 * 4294967296 + q * y0 := by rw [Nat.mul_add, Nat.mul_assoc]
      rw [h5, ← e]; omega
  have hq : 1 ≤ q := Nat.lt_of_le_of_lt (Nat.zero_le _) hlt
  refine ⟨hq, ?_, Nat.le_sub_one_of_lt hlt, by omega⟩
  obtain ⟨k, rfl⟩ : ∃ k, q = k + 1 := ⟨q - 1, by omega⟩
  rw [Nat.add_mul] at e; simp only [Nat.add_sub_cancel]; omega

/-- the loop is left: the estimate is the digit -/
theorem est_done (u y1 y0 u1 q r : Nat) (hy0 : y0 < 4294967296) (hy1 : 2147483648 ≤ y1) (h : Est u y1 y0 u1 q r)
    (ht : q * y0 ≤ 4294967296 * r + u1) : q = (u * 4294967296 + u1) / (y1 * 4294967296 + y0) := by
  obtain ⟨e, g, l⟩ := h
  refine Nat.le_antisymm ?_ g
  rw [Nat.le_div_iff_mul_le (by omega)]
  have h5 : q * (y1 * 4294967296 + y0) = q * y1 * 4294967296 + q * y0 := by rw [Nat.mul_add, Nat.mul_assoc]
  rw [h5, ← e]; omega

theorem est_break (y0 u1 q r : Nat) (hy0 : y0 < 4294967296) (hq : q ≤ 4294967296) (hr : 4294967296 ≤ r) : q * y0 ≤ 4294967296 * r + u1 := by
  have h1 : q * y0 ≤ 4294967296 * y0 := Nat.mul_le_mul_right _ hq
  have h2 : 4294967296 * y0 ≤ 4294967296 * r := Nat.mul_le_mul_left _ (by omega)
  omega

/-- q, r by a number below 2^64, from two half digits -/
theorem regroup (y q r B u0 : Nat) : (y * q + r) * B + u0 = (r * B + u0) + y * (q * B) := by
  rw [Nat.add_mul, Nat.mul_assoc]; omega
theorem two_digits (B u u1 u0 y : Nat) (hy : 0 < y) (q1 q0 r1 : Nat) (hq1 : q1 = (u * B + u1) / y) (hr1 : r1 = (u * B + u1) % y) (hq0 : q0 = (r1 * B + u0) / y) :
    q1 * B + q0 = ((u * B + u1) * B + u0) / y ∧ (r1 * B + u0) % y = ((u * B + u1) * B + u0) % y := by
  have e : (u * B + u1) = y * q1 + r1 := by rw [hq1, hr1]; exact (Nat.div_add_mod _ _).symm
  have e2 : (u * B + u1) * B + u0 = (r1 * B + u0) + y * (q1 * B) := by rw [e]; exact regroup _ _ _ _ _
  rw [e2]
  constructor
  · rw [Nat.add_mul_div_left _ _ hy, hq0]; omega
  · rw [Nat.add_mul_mod_self_left]

/-- shifted by 2^s both ways -/
theorem shift_div (n y p : Nat) (hp : 0 < p) : n * p / (y * p) = n / y := Nat.mul_div_mul_right _ _ hp
theorem shift_mod (n y p : Nat) : n * p % (y * p) = n % y * p := Nat.mul_mod_mul_right _ _ _

/-- the rest of one digit, as it is reckoned with wrap-round -/
theorem rest_wrap (u u1 y q : Nat) (hy : y < 18446744073709551616) (hy0 : 0 < y) (hq : q = (u * 4294967296 + u1) / y) :
    (((u : Int) * 4294967296 % 18446744073709551616 + u1) % 18446744073709551616 - (q : Int) * y % 18446744073709551616) % 18446744073709551616 = (((u * 4294967296 + u1) % y : Nat) : Int) := by
  have h1 : q * y + (u * 4294967296 + u1) % y = u * 4294967296 + u1 := by rw [hq, Nat.mul_comm]; exact Nat.div_add_mod _ _
  have h2 : (u * 4294967296 + u1) % y < y := Nat.mod_lt _ hy0
  have h3 : ((q * y : Nat) : Int) = (q : Int) * (y : Int) := Int.natCast_mul q y
  generalize (q : Int) * (y : Int) = qy at *
  omega
end DivMath
end Go.Proofs.Ytnalbkjbidaojaa

/- Contract of ratio.Scale (over a contract of math/bits.Div64 at the very call). -/
import Derived.Test.YtnalbkjbidaojaaRatioB
import Derived.Deep.RegionHeld3
import Derived.Lib.Hide
namespace Go.Proofs.Ytnalbkjbidaojaa
open Go.RowKit

theorem cut_m (hi lo y q r : Int) (a b : Addr) (w : World) (m : Bool) (hy : y ≤ 18446744073709551615) (hr0 : 0 ≤ r) (hr : r < y) (hq0 : 0 ≤ q) (hd : hi < y → Div64At hi lo y q r) (hbig : y ≤ hi → 9223372036854775808 < q)
    (ha : w.cell? a = some (.bool m)) (hb : w.cell? b = some (.int .u64 y)) (hac : a.block < w.heap.size) (hbc : b.block < w.heap.size) :
    Calls Try.prog 30 #[.agg #[.int .u64 hi, .int .u64 lo, .bool m], .int .u64 y, .func (.func 45) #[] #[.pointer (some a), .pointer (some b)]] w fun e w' => e = .returned (.tuple #[.int .i64 (cutV q r y m), .bool (cutOk q r y m)]) ∧ Below w.heap.size w w' := by
  have hover : 9223372036854775808 < q → cutOk q r y m = false ∧ cutV q r y m = 0 := by
    intro h
    have h1 : cutOk q r y m = false := by unfold cutOk; rw [decide_eq_false (by omega)]; rfl
    exact ⟨h1, by unfold cutV; rw [h1]; rfl⟩
  by_cases h : y ≤ hi
  · obtain ⟨e1, e2⟩ := hover (hbig h)
    rw [e1, e2]
    exact cut_big hi lo y m _ w h
  · have hd' := hd (by omega)
    by_cases hq : 9223372036854775808 < q
    · obtain ⟨e1, e2⟩ := hover hq
      rw [e1, e2]
      exact cut_over hi lo y q r m _ w (by omega) hd' hq
    · cases m with
      | true => exact cut_minus hi lo y q r a b w (by omega) hy hr0 hr hq0 hd' (by omega) ha hb hac hbc
      | false => exact cut_plus hi lo y q r a b w (by omega) hy hr0 hr hq0 hd' (by omega) ha hb hac hbc

/-- the size of the product, the sign -/
def scN (n a : Int) : Int := (n.natAbs : Int) * (a.natAbs : Int)
def scM (n a b : Int) : Bool := !((!(decide (n < 0) == decide (a < 0))) == decide (b < 0))
def scHi (n a : Int) : Int := (n.natAbs : Int) * (a.natAbs : Int) / 18446744073709551616
def scLo (n a : Int) : Int := (n.natAbs : Int) * (a.natAbs : Int) % 18446744073709551616
def scQ (n a b : Int) : Int := scN n a / (b.natAbs : Int)
def scR (n a b : Int) : Int := scN n a % (b.natAbs : Int)
def scV (n a b : Int) : Int := cutV (scQ n a b) (scR n a b) b.natAbs (scM n a b)
def scOk (n a b : Int) : Bool := cutOk (scQ n a b) (scR n a b) b.natAbs (scM n a b)

theorem sc_facts (n a b : Int) (hb : (b == 0) = false) : 0 ≤ scR n a b ∧ scR n a b < b.natAbs ∧ 0 ≤ scQ n a b ∧ ((b.natAbs : Int) ≤ scHi n a → 9223372036854775808 < scQ n a b) := by
  have hb' : b ≠ 0 := by simpa using hb
  have hy : (0 : Int) < b.natAbs := by omega
  have hN : 0 ≤ scN n a := Int.mul_nonneg (by omega) (by omega)
  refine ⟨Int.emod_nonneg _ (by omega), Int.emod_lt_of_pos _ hy, Int.ediv_nonneg hN (by omega), ?_⟩
  intro h
  have h1 : scHi n a = scN n a / 18446744073709551616 := rfl
  have h2 : 18446744073709551616 * (b.natAbs : Int) ≤ scN n a := by omega
  have h3 : 18446744073709551616 ≤ scQ n a b := by unfold scQ; rw [Int.le_ediv_iff_mul_le hy]; omega
  omega

set_option maxHeartbeats 1000000 in
theorem scale_any (n a b : Int) (w : World) (hn0 : -9223372036854775808 ≤ n) (hn1 : n ≤ 9223372036854775807) (ha0 : -9223372036854775808 ≤ a) (ha1 : a ≤ 9223372036854775807) (hb0 : -9223372036854775808 ≤ b) (hb1 : b ≤ 9223372036854775807) (hb : (b == 0) = false)
    (hd : scHi n a < (b.natAbs : Int) → Div64At (scHi n a) (scLo n a) b.natAbs (scQ n a b) (scR n a b)) :
    Calls Try.prog 17 #[.int .i64 n, .int .i64 a, .int .i64 b] w fun e w' => e = .returned (.tuple #[.int .i64 (scV n a b), .bool (scOk n a b)]) ∧ Below w.heap.size w w' := by
  obtain ⟨f1, f2, f3, f4⟩ := sc_facts n a b hb
  go_enter Try.func17, Try.ntmps17
  go_wp2_with fail
  refine (size_any a _ ha0 ha1).mono ?_
  rintro e w' ⟨rfl, rfl⟩
  go_wp2_with fail
  refine (times_any n a.natAbs _ hn0 hn1 (by omega)).mono ?_
  rintro e w1 ⟨rfl, hb1⟩
  go_wp2_with fail
  have HD := Lib.hid hd
  have F4 := Lib.hid f4
  clear hd f4
  have hm : scM n a b = !((!(decide (n < 0) == decide (a < 0))) == decide (b < 0)) := rfl
  rw [← hm]
  have hh : scHi n a = (n.natAbs : Int) * (a.natAbs : Int) / 18446744073709551616 := rfl
  have hl : scLo n a = (n.natAbs : Int) * (a.natAbs : Int) % 18446744073709551616 := rfl
  rw [← hh, ← hl]
  clear hm hh hl
  have hsz := hb1.size
  have hbelow : Below w.heap.size w (w1.alloc (.cells #[.int .u64 (scHi n a), .int .u64 (scLo n a), .bool (scM n a b)] 82)) := hb1.alloc hsz _
  go_region_held3 (fun w' => w'.cell? ⟨w1.heap.size, 0, none⟩ = some (.int .u64 (scHi n a)) ∧ w'.cell? ⟨w1.heap.size, 1, none⟩ = some (.int .u64 (scLo n a)) ∧ w'.cell? ⟨w1.heap.size, 2, none⟩ = some (.bool (scM n a b))) (go_keep)
    (first | (go_at_call 29; refine (size_any b _ hb0 (by assumption)).mono ?_; rintro e w' ⟨rfl, rfl⟩) | (go_at_call 31; refine (nearest_any (scM n a b) b.natAbs _).mono ?_; rintro e w' ⟨rfl, rfl⟩) | (go_at_call 30; refine (cut_m (scHi n a) (scLo n a) b.natAbs (scQ n a b) (scR n a b) _ _ _ (scM n a b) (by omega) f1 f2 f3 HD.out F4.out ?_ ?_ ?_ ?_).mono ?_; (focus (simp [go_sem]; done)); (focus (simp [go_sem]; done)); (focus (simp; done)); (focus (simp; done)); rintro e w' ⟨rfl, hb2⟩; obtain ⟨hc2, _⟩ := bcell hb2; have k0 := hc2 w1.heap.size 0 (by simp; omega); have k1 := hc2 w1.heap.size 1 (by simp; omega); have k2 := hc2 w1.heap.size 2 (by simp; omega); simp [go_sem] at k0 k1 k2))
  go_wp2
  go_ret2
  exact ⟨rfl, (((hbelow.alloc (by simp; omega) _).alloc (by simp; omega) _).drew).trans (hb2.mono (by simp; omega))⟩

/-- what grid.Scale comes to -/
def gsc (unit size n : Int) : Int := if (unit == 0) then 0 else scV n (wrap64 (64 * size)) unit

theorem scV_zero (n a b : Int) (h : scOk n a b = false) : scV n a b = 0 := by
  unfold scV cutV; unfold scOk at h; rw [h]; rfl

set_option maxHeartbeats 400000 in
theorem scale_zero (n a : Int) (w : World) :
    Calls Try.prog 17 #[.int .i64 n, .int .i64 a, .int .i64 0] w fun e w' => e = .returned (.tuple #[.int .i64 0, .bool false]) ∧ w = w' := by
  go_enter Try.func17, Try.ntmps17
  go_wp2
  go_ret2
  exact ⟨rfl, rfl⟩

theorem wrap64_range (x : Int) : -9223372036854775808 ≤ wrap64 x ∧ wrap64 x ≤ 9223372036854775807 := by unfold wrap64; omega

set_option maxHeartbeats 400000 in
theorem gscale_any (unit size n : Int) (w : World) (hn0 : -9223372036854775808 ≤ n) (hn1 : n ≤ 9223372036854775807) (hu0 : -9223372036854775808 ≤ unit) (hu1 : unit ≤ 9223372036854775807)
    (hd : (unit == 0) = false → scHi n (wrap64 (64 * size)) < (unit.natAbs : Int) → Div64At (scHi n (wrap64 (64 * size))) (scLo n (wrap64 (64 * size))) unit.natAbs (scQ n (wrap64 (64 * size)) unit) (scR n (wrap64 (64 * size)) unit)) :
    Calls Try.prog 7 #[.int .i64 unit, .int .i64 size, .int .i64 n] w fun e w' => e = .returned (.int .i64 (gsc unit size n)) ∧ Below w.heap.size w w' := by
  have HD := Lib.hid hd
  clear hd
  obtain ⟨r0, r1⟩ := wrap64_range (64 * size)
  by_cases hu : unit = 0
  · subst hu
    have e : gsc 0 size n = 0 := rfl
    rw [e]
    go_enter Try.func7, Try.ntmps7
    go_wp2_with (go_at_call 17; refine (scale_zero n _ _).mono ?_; rintro e w' ⟨rfl, rfl⟩)
    go_ret
    exact ⟨rfl, Below.refl _ _⟩
  · have hub : (unit == 0) = false := by simpa using hu
    have e : gsc unit size n = scV n (wrap64 (64 * size)) unit := by unfold gsc; rw [hub]; rfl
    rw [e]
    cases hok : scOk n (wrap64 (64 * size)) unit with
    | true =>
      have HOK := Lib.hid hok
      clear hok e
      go_enter Try.func7, Try.ntmps7
      go_wp2_with fail
      refine (scale_any n _ unit _ hn0 hn1 (by assumption) (by assumption) hu0 hu1 hub (HD.out hub)).mono ?_
      rintro e w' ⟨rfl, hb⟩
      rw [HOK.out]
      go_wp2
      go_ret
      exact ⟨rfl, hb⟩
    | false =>
      have HE := Lib.hid (scV_zero _ _ _ hok)
      have HOK := Lib.hid hok
      clear hok e
      go_enter Try.func7, Try.ntmps7
      go_wp2_with fail
      refine (scale_any n _ unit _ hn0 hn1 (by assumption) (by assumption) hu0 hu1 hub (HD.out hub)).mono ?_
      rintro e w' ⟨rfl, hb⟩
      rw [HOK.out]
      go_wp2
      go_ret
      exact ⟨ret_int HE.out.symm, hb⟩
end Go.Proofs.Ytnalbkjbidaojaa

/- Contract of ratio.cut (over a contract of math/bits.Div64 at the very call), in terms of the plain function cutS. -/
import Derived.Test.YtnalbkjbidaojaaRatioA
namespace Go.Proofs.Ytnalbkjbidaojaa
open Go.RowKit

/-- what cut comes to: the quotient q and the rest r of the size by y, the sign m -/
def cutQ (q r y : Int) (m : Bool) : Int := if (if m then y - r < r else y - r ≤ r) then q + 1 else q
def cutOk (q r y : Int) (m : Bool) : Bool := decide (q ≤ 9223372036854775808) && (if m then decide (cutQ q r y m ≤ 9223372036854775808) else decide (cutQ q r y m < 9223372036854775808))
def cutV (q r y : Int) (m : Bool) : Int := if cutOk q r y m then (if m then -(cutQ q r y m) else cutQ q r y m) else 0

def Div64At (hi lo y q r : Int) : Prop := ∀ w : World, Calls Try.prog 44 #[.int .u64 hi, .int .u64 lo, .int .u64 y] w fun e w' => e = .returned (.tuple #[.int .u64 q, .int .u64 r]) ∧ Below w.heap.size w w'

set_option maxHeartbeats 400000 in
theorem cut_big (hi lo y : Int) (m : Bool) (f : Value) (w : World) (h : y ≤ hi) :
    Calls Try.prog 30 #[.agg #[.int .u64 hi, .int .u64 lo, .bool m], .int .u64 y, f] w fun e w' => e = .returned (.tuple #[.int .i64 0, .bool false]) ∧ Below w.heap.size w w' := by
  go_enter Try.func30, Try.ntmps30
  go_wp2
  go_ret2
  exact ⟨rfl, (Below.refl _ _).alloc (Nat.le_refl _) _⟩

set_option maxHeartbeats 400000 in
theorem cut_over (hi lo y q r : Int) (m : Bool) (f : Value) (w : World) (h : hi < y) (hd : Div64At hi lo y q r) (hq : 9223372036854775808 < q) :
    Calls Try.prog 30 #[.agg #[.int .u64 hi, .int .u64 lo, .bool m], .int .u64 y, f] w fun e w' => e = .returned (.tuple #[.int .i64 0, .bool false]) ∧ Below w.heap.size w w' := by
  go_enter Try.func30, Try.ntmps30
  go_wp2_with fail
  refine (hd _).mono ?_
  rintro e w' ⟨rfl, hb⟩
  go_wp2
  go_ret2
  exact ⟨rfl, ((Below.refl _ _).alloc (Nat.le_refl _) _).trans (hb.mono (by simp))⟩

theorem ret_pair {k : IntKind} {a b : Int} {c d : Bool} (h : a = b) (h2 : c = d) : Ending.returned (.tuple #[.int k a, .bool c]) = .returned (.tuple #[.int k b, .bool d]) := by rw [h, h2]
theorem neg_wrap q (h0 : 0 ≤ q) (h : q ≤ 9223372036854775808) : wrap64 (IntKind.u64.wrap (-q)) = -q := by
  rw [IntKind.wrap_u64]; unfold wrap64; omega
theorem cutQ_m1 (q r y : Int) (h : y - r < r) : cutQ q r y true = q + 1 := by
  unfold cutQ; rw [if_pos (by simp; omega)]
theorem cutQ_m0 (q r y : Int) (h : ¬ y - r < r) : cutQ q r y true = q := by
  unfold cutQ; rw [if_neg (by simp; omega)]
theorem cutQ_p1 (q r y : Int) (h : y - r ≤ r) : cutQ q r y false = q + 1 := by
  unfold cutQ; rw [if_pos (by simp; omega)]
theorem cutQ_p0 (q r y : Int) (h : ¬ y - r ≤ r) : cutQ q r y false = q := by
  unfold cutQ; rw [if_neg (by simp; omega)]
theorem cut_m_yes (q r y k : Int) (hq : q ≤ 9223372036854775808) (e : cutQ q r y true = k) (hk : k ≤ 9223372036854775808) : cutOk q r y true = true ∧ cutV q r y true = -k := by
  have h1 : cutOk q r y true = true := by unfold cutOk; rw [e]; simp [hq, hk]
  exact ⟨h1, by unfold cutV; rw [h1, e]; rfl⟩
theorem cut_m_no (q r y k : Int) (e : cutQ q r y true = k) (hk : 9223372036854775808 < k) : cutOk q r y true = false ∧ cutV q r y true = 0 := by
  have h1 : cutOk q r y true = false := by unfold cutOk; rw [e]; simp [hk]
  exact ⟨h1, by unfold cutV; rw [h1]; rfl⟩
theorem cut_p_yes (q r y k : Int) (hq : q ≤ 9223372036854775808) (e : cutQ q r y false = k) (hk : k < 9223372036854775808) : cutOk q r y false = true ∧ cutV q r y false = k := by
  have h1 : cutOk q r y false = true := by unfold cutOk; rw [e]; simp [hq, hk]
  exact ⟨h1, by unfold cutV; rw [h1, e]; rfl⟩
theorem cut_p_no (q r y k : Int) (e : cutQ q r y false = k) (hk : 9223372036854775808 ≤ k) : cutOk q r y false = false ∧ cutV q r y false = 0 := by
  have h1 : cutOk q r y false = false := by unfold cutOk; rw [e]; simp [hk]
  exact ⟨h1, by unfold cutV; rw [h1]; rfl⟩

set_option maxRecDepth 100000 in
set_option maxHeartbeats 400000 in
theorem cut_minus (hi lo y q r : Int) (a b : Addr) (w : World) (h : hi < y) (hy : y ≤ 18446744073709551615) (hr0 : 0 ≤ r) (hr : r < y) (hq0 : 0 ≤ q) (hd : Div64At hi lo y q r) (hq : q ≤ 9223372036854775808)
    (ha : w.cell? a = some (.bool true)) (hb : w.cell? b = some (.int .u64 y)) (hac : a.block < w.heap.size) (hbc : b.block < w.heap.size) :
    Calls Try.prog 30 #[.agg #[.int .u64 hi, .int .u64 lo, .bool true], .int .u64 y, .func (.func 45) #[] #[.pointer (some a), .pointer (some b)]] w fun e w' => e = .returned (.tuple #[.int .i64 (cutV q r y true), .bool (cutOk q r y true)]) ∧ Below w.heap.size w w' := by
  go_enter Try.func30, Try.ntmps30
  go_wp2_with fail
  refine (hd _).mono ?_
  rintro e w' ⟨rfl, hb1⟩
  go_wp2_with fail
  have hbw : Below w.heap.size w w' := ((Below.refl _ _).alloc (Nat.le_refl _) _).trans (hb1.mono (by simp))
  refine (grows_minus a b r y _ (by rw [hbw.cell hac]; exact ha) (by rw [hbw.cell hbc]; exact hb) (by omega) (by omega) (by omega)).mono ?_
  rintro e w2 ⟨rfl, rfl⟩
  obtain ⟨hc, hf⟩ := bcell hb1
  have hz : w.heap.size < w'.heap.size := by have := hb1.size; simp at this; omega
  by_cases hg : y - r < r
  · by_cases hl : q + 1 ≤ 9223372036854775808
    · go_wp2
      go_ret2
      obtain ⟨e1, e2⟩ := cut_m_yes q r y (q + 1) hq (cutQ_m1 q r y hg) (by omega)
      exact ⟨ret_pair (by rw [e2, neg_wrap _ (by omega) hl]) e1.symm, hbw⟩
    · go_wp2
      go_ret2
      obtain ⟨e1, e2⟩ := cut_m_no q r y (q + 1) (cutQ_m1 q r y hg) (by omega)
      exact ⟨ret_pair e2.symm e1.symm, hbw⟩
  · go_wp2
    go_ret2
    obtain ⟨e1, e2⟩ := cut_m_yes q r y q hq (cutQ_m0 q r y (by omega)) (by omega)
    exact ⟨ret_pair (by rw [e2, neg_wrap _ (by omega) hq]) e1.symm, hbw⟩

set_option maxRecDepth 100000 in
set_option maxHeartbeats 400000 in
theorem cut_plus (hi lo y q r : Int) (a b : Addr) (w : World) (h : hi < y) (hy : y ≤ 18446744073709551615) (hr0 : 0 ≤ r) (hr : r < y) (hq0 : 0 ≤ q) (hd : Div64At hi lo y q r) (hq : q ≤ 9223372036854775808)
    (ha : w.cell? a = some (.bool false)) (hb : w.cell? b = some (.int .u64 y)) (hac : a.block < w.heap.size) (hbc : b.block < w.heap.size) :
    Calls Try.prog 30 #[.agg #[.int .u64 hi, .int .u64 lo, .bool false], .int .u64 y, .func (.func 45) #[] #[.pointer (some a), .pointer (some b)]] w fun e w' => e = .returned (.tuple #[.int .i64 (cutV q r y false), .bool (cutOk q r y false)]) ∧ Below w.heap.size w w' := by
  go_enter Try.func30, Try.ntmps30
  go_wp2_with fail
  refine (hd _).mono ?_
  rintro e w' ⟨rfl, hb1⟩
  go_wp2_with fail
  have hbw : Below w.heap.size w w' := ((Below.refl _ _).alloc (Nat.le_refl _) _).trans (hb1.mono (by simp))
  refine (grows_plus a b r y _ (by rw [hbw.cell hac]; exact ha) (by rw [hbw.cell hbc]; exact hb) (by omega) (by omega) (by omega)).mono ?_
  rintro e w2 ⟨rfl, rfl⟩
  obtain ⟨hc, hf⟩ := bcell hb1
  have hz : w.heap.size < w'.heap.size := by have := hb1.size; simp at this; omega
  by_cases hg : y - r ≤ r
  · by_cases hl : q + 1 < 9223372036854775808
    · go_wp2
      go_ret2
      obtain ⟨e1, e2⟩ := cut_p_yes q r y (q + 1) hq (cutQ_p1 q r y hg) (by omega)
      exact ⟨ret_pair e2.symm e1.symm, hbw⟩
    · go_wp2
      go_ret2
      obtain ⟨e1, e2⟩ := cut_p_no q r y (q + 1) (cutQ_p1 q r y hg) (by omega)
      exact ⟨ret_pair e2.symm e1.symm, hbw⟩
  · by_cases hl : q < 9223372036854775808
    · go_wp2
      go_ret2
      obtain ⟨e1, e2⟩ := cut_p_yes q r y q hq (cutQ_p0 q r y (by omega)) (by omega)
      exact ⟨ret_pair e2.symm e1.symm, hbw⟩
    · go_wp2
      go_ret2
      obtain ⟨e1, e2⟩ := cut_p_no q r y q (cutQ_p0 q r y (by omega)) (by omega)
      exact ⟨ret_pair e2.symm e1.symm, hbw⟩

end Go.Proofs.Ytnalbkjbidaojaa

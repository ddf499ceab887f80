/- Contracts of effect, ways, begin of package bound. -/
import Derived.Test.YtgklchhgpnoliaaBoundA
import Derived.Deep.QuietTactic
import Derived.BigQuiet
import Derived.RegionTactic
import Derived.StillTailTactics
namespace Go.Proofs.Ytgklchhgpnoliaa
open Go.RowKit

/-- the cells of a row of costs, of instructions, of places -/
def costCells : List Bd.Cost → List Value
  | [] => []
  | c :: r => .int .i64 c.need :: .int .i64 c.delta :: .int .i64 c.peak :: .int .i64 c.steps :: costCells r
def insCells : List (Int × Int) → List Value
  | [] => []
  | x :: r => .int .i64 x.1 :: .int .i64 x.2 :: insCells r
def plCells : List Bd.Place → List Value
  | [] => []
  | p :: r => .bool p.known :: .int .i64 p.high :: .int .i64 p.steps :: plCells r

theorem costCells_len (l : List Bd.Cost) : (costCells l).length = l.length * 4 := by induction l with | nil => rfl | cons c r ih => simp [costCells, ih]; omega
theorem insCells_len (l : List (Int × Int)) : (insCells l).length = l.length * 2 := by induction l with | nil => rfl | cons c r ih => simp [insCells, ih]; omega
theorem plCells_len (l : List Bd.Place) : (plCells l).length = l.length * 3 := by induction l with | nil => rfl | cons c r ih => simp [plCells, ih]; omega

theorem costCells_at (l : List Bd.Cost) : ∀ (i : Nat) (c : Bd.Cost), l[i]? = some c → (costCells l)[i * 4]? = some (.int .i64 c.need) ∧ (costCells l)[i * 4 + 1]? = some (.int .i64 c.delta) ∧ (costCells l)[i * 4 + 2]? = some (.int .i64 c.peak) ∧ (costCells l)[i * 4 + 3]? = some (.int .i64 c.steps) := by
  induction l with
  | nil => intro i c h; simp at h
  | cons d r ih =>
    intro i c h
    cases i with
    | zero => simp at h; subst h; simp [costCells]
    | succ i =>
      have := ih i c (by simpa using h)
      rw [show (i + 1) * 4 = i * 4 + 4 by omega]
      simpa [costCells] using this
theorem insCells_at (l : List (Int × Int)) : ∀ (i : Nat) (c : Int × Int), l[i]? = some c → (insCells l)[i * 2]? = some (.int .i64 c.1) ∧ (insCells l)[i * 2 + 1]? = some (.int .i64 c.2) := by
  induction l with
  | nil => intro i c h; simp at h
  | cons d r ih =>
    intro i c h
    cases i with
    | zero => simp at h; subst h; simp [insCells]
    | succ i =>
      have := ih i c (by simpa using h)
      rw [show (i + 1) * 2 = i * 2 + 2 by omega]
      simpa [insCells] using this
theorem plCells_at (l : List Bd.Place) : ∀ (i : Nat) (c : Bd.Place), l[i]? = some c → (plCells l)[i * 3]? = some (.bool c.known) ∧ (plCells l)[i * 3 + 1]? = some (.int .i64 c.high) ∧ (plCells l)[i * 3 + 2]? = some (.int .i64 c.steps) := by
  induction l with
  | nil => intro i c h; simp at h
  | cons d r ih =>
    intro i c h
    cases i with
    | zero => simp at h; subst h; simp [plCells]
    | succ i =>
      have := ih i c (by simpa using h)
      rw [show (i + 1) * 3 = i * 3 + 3 by omega]
      simpa [plCells] using this

set_option maxHeartbeats 1000000 in
theorem effect_plain (p : Value) (k : Bool) (h s op a : Int) (w : World) (hh0 : -64 ≤ h) (hh1 : h ≤ 32) (hs0 : 0 ≤ s) (hs1 : s ≤ 4096) (hc : Bd.calls op = false) :
    Calls Try.prog 39 #[p, .agg #[.bool k, .int .i64 h, .int .i64 s], .agg #[.int .i64 op, .int .i64 a]] w fun e w' => e = .returned (.agg #[.int .i64 (Bd.takes op - h), .int .i64 (h - Bd.takes op + Bd.leaves op), .int .i64 (h - Bd.takes op + Bd.leaves op), .int .i64 (s + 1)]) ∧ Below w.heap.size w w' := by
  have tb := Bd.takes_bd op
  have lb := Bd.leaves_bd op
  have HC := Lib.hid hc
  clear hc
  go_enter Try.func39, Try.ntmps39
  go_wp2_with fail
  refine (values_any op _).mono ?_
  rintro e w' ⟨rfl, rfl⟩
  generalize ht : Bd.takes op = t at *
  generalize hl : Bd.leaves op = l at *
  have HT := Lib.hid ht
  have HL := Lib.hid hl
  clear ht hl
  go_wp2_with fail
  refine (calls_any op a _).mono ?_
  rintro e w' ⟨rfl, rfl⟩
  rw [HC.out]
  go_wp2_with fail
  refine bodyPost_ret (v := .agg #[.int .i64 (t - h), .int .i64 (h - t + l), .int .i64 (h - t + l), .int .i64 (s + 1)]) (by simp [results, Try.results39, go_sem]) rfl ⟨by rw [HT.out, HL.out], ?_⟩
  exact (by repeat (first | exact Below.refl _ _ | assumption | (refine Below.setCell ?_ (by first | omega | (simp; done) | (simp; omega)) _) | (refine Below.drew ?_) | (refine below_drewN ?_ _) | (refine Below.alloc ?_ (by first | omega | (simp; done) | (simp; omega)) _)))

set_option maxHeartbeats 2000000 in
theorem effect_call (P B A0 : Nat) (c0 c2 c3 c4 : Value) (Af : Option Addr) (m cf : Nat) (fs : List Bd.Cost) (k : Bool) (hi s op a : Int) (w : World) (hh0 : -64 ≤ hi) (hh1 : hi ≤ 32) (hs0 : 0 ≤ s) (hs1 : s ≤ 4096) (hc : Bd.calls op = true)
    (hP : Blk w P 85 #[c0, .slice Af m cf, c2, c3, c4]) (hF : Reads w B 4 Af m (costCells fs)) (hB : B ≤ w.heap.size) (hm : m = fs.length) (ha0 : 0 ≤ a) (ha1 : a < m) (hfs : fs.all Bd.mayBe = true) (hA0 : A0 = 0) :
    Calls Try.prog 39 #[.pointer (some ⟨P, A0, none⟩), .agg #[.bool k, .int .i64 hi, .int .i64 s], .agg #[.int .i64 op, .int .i64 a]] w fun e w' => e = .returned (.agg #[.int .i64 (Bd.effect fs ⟨k, hi, s⟩ (op, a)).need, .int .i64 (Bd.effect fs ⟨k, hi, s⟩ (op, a)).peak, .int .i64 (Bd.effect fs ⟨k, hi, s⟩ (op, a)).high, .int .i64 (Bd.effect fs ⟨k, hi, s⟩ (op, a)).steps]) ∧ Below w.heap.size w w' := by
  subst hA0
  have tb := Bd.takes_bd op
  have lb := Bd.leaves_bd op
  obtain ⟨an, rfl⟩ := Int.eq_ofNat_of_zero_le ha0
  obtain ⟨cc, hcc⟩ : ∃ cc, fs[an]? = some cc := ⟨_, List.getElem?_eq_getElem (by omega)⟩
  have hcb := Bd.mayBe_bd (List.all_eq_true.1 hfs cc (List.mem_of_getElem? hcc))
  have hfn : Bd.fn fs (an : Int) = cc := by unfold Bd.fn; rw [List.getD_eq_getElem?_getD]; simp [hcc]
  have HE := Lib.hid (show Bd.effect fs ⟨k, hi, s⟩ (op, (an : Int)) = ⟨max (Bd.takes op - hi) (cc.need - (hi - Bd.takes op + Bd.leaves op)), max (max (hi - Bd.takes op + Bd.leaves op) ((hi - Bd.takes op + Bd.leaves op) + cc.peak)) ((hi - Bd.takes op + Bd.leaves op) + cc.delta), (hi - Bd.takes op + Bd.leaves op) + cc.delta, s + 1 + (if op = 38 then 16 else 1) * cc.steps⟩ by
    unfold Bd.effect; simp only; rw [if_pos hc, hfn])
  obtain ⟨b, off, rfl, hbB, hcells⟩ := hF.2 (by omega)
  obtain ⟨g0, g1, g2, g3⟩ := costCells_at fs an cc hcc
  have d0 := hcells _ _ g0
  have d1 := hcells _ _ g1
  have d2 := hcells _ _ g2
  have d3 := hcells _ _ g3
  rw [← Nat.add_assoc] at d1 d2 d3
  clear hcells g0 g1 g2 g3 hcc hfn hF hfs
  obtain ⟨cn, cd, cp, cs⟩ := cc
  simp only at hcb d0 d1 d2 d3 HE
  have HC := Lib.hid hc
  clear hc
  have p1 : w.cell? ⟨P, 1, none⟩ = some (.slice (some ⟨b, off, none⟩) m cf) := by rw [hP.cell]; rfl
  have hPl := hP.lt
  have ham : an < m := by omega
  go_enter Try.func39, Try.ntmps39
  go_wp2_with fail
  refine (values_any op _).mono ?_
  rintro e w' ⟨rfl, rfl⟩
  generalize Bd.takes op = t at *
  generalize Bd.leaves op = l at *
  go_wp2_with fail
  refine (calls_any op an _).mono ?_
  rintro e w' ⟨rfl, rfl⟩
  rw [HC.out]
  have hz4 : b < w.heap.size := by omega
  obtain ⟨u1, u2, u3, u4, u5, u6, u7, u8, u9, u10⟩ := lts hPl
  obtain ⟨v1, v2, v3, v4, v5, v6, v7, v8, v9, v10⟩ := lts hz4
  clear hm hP
  go_wp2_with fail
  go_region
  by_cases h38 : op = 38
  · subst h38
    go_wp2_with fail
    all_goals (refine bodyPost_ret (v := .agg #[.int .i64 (max (t - hi) (cn - (hi - t + l))), .int .i64 (max (max (hi - t + l) (hi - t + l + cp)) (hi - t + l + cd)), .int .i64 (hi - t + l + cd), .int .i64 (s + 1 + 16 * cs)]) (by simp [results, Try.results39, go_sem] <;> omega) rfl ⟨by rw [HE.out]; simp, (by repeat (first | exact Below.refl _ _ | assumption | (refine Below.setCell ?_ (by first | omega | (simp; done) | (simp; omega)) _) | (refine Below.drew ?_) | (refine below_drewN ?_ _) | (refine Below.alloc ?_ (by first | omega | (simp; done) | (simp; omega)) _)))⟩)
  · have hb38 : (op == 38) = false := by simpa using h38
    go_wp2_with fail
    all_goals (refine bodyPost_ret (v := .agg #[.int .i64 (max (t - hi) (cn - (hi - t + l))), .int .i64 (max (max (hi - t + l) (hi - t + l + cp)) (hi - t + l + cd)), .int .i64 (hi - t + l + cd), .int .i64 (s + 1 + cs)]) (by simp [results, Try.results39, go_sem] <;> omega) rfl ⟨by rw [HE.out]; simp [h38], (by repeat (first | exact Below.refl _ _ | assumption | (refine Below.setCell ?_ (by first | omega | (simp; done) | (simp; omega)) _) | (refine Below.drew ?_) | (refine below_drewN ?_ _) | (refine Below.alloc ?_ (by first | omega | (simp; done) | (simp; omega)) _)))⟩)
end Go.Proofs.Ytgklchhgpnoliaa

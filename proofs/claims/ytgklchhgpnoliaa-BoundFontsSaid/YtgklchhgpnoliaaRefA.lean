/- fleuronref19's small functions: their contracts. -/
import Derived.Test.YtgklchhgpnoliaaBoundP
namespace Go.Proofs.Ytgklchhgpnoliaa
open Go.RowKit

set_option maxHeartbeats 1000000 in
theorem right_any (c : Bd.Cost) (w : World) :
    Calls Try.prog 42 #[.agg #[.int .i64 c.need, .int .i64 c.delta, .int .i64 c.peak, .int .i64 c.steps]] w fun e w' => e = .returned (.bool (Bd.mayBe c)) ∧ Below w.heap.size w w' := by
  obtain ⟨n, d, p, s⟩ := c
  simp only
  go_enter Try.func42, Try.ntmps42
  go_wp2
  all_goals (go_ret; go_light; refine ⟨ret_bool ?_, ?_⟩; (simp_all [Bd.mayBe] <;> omega); exact (Below.refl _ _).alloc (Nat.le_refl _) _)

set_option maxHeartbeats 1000000 in
theorem wrong_any (op a left : Int) (A : Option Addr) (m c : Nat) (w : World) (_hm : m ≤ 1000000000000) (n at_ : Int) (hl : left = n - 1 - at_) :
    Calls Try.prog 43 #[.agg #[.int .i64 op, .int .i64 a], .int .i64 left, .slice A m c] w fun e w' => e = .returned (.int .i64 (Bd.always n m at_ (op, a))) ∧ Below w.heap.size w w' := by
  have HL := Lib.hid hl
  clear hl
  go_enter Try.func43, Try.ntmps43
  go_wp2
  all_goals (go_ret; go_light; refine ⟨ret_int ?_, (Below.refl _ _).alloc (Nat.le_refl _) _⟩; have hl := HL.out; subst hl; simp_all [Bd.always, Bd.jumps, Bd.calls] <;> omega)

/-- what a function costs, as it is read -/
theorem fn_cells {w : World} {B : Nat} {A : Option Addr} {fs : List Bd.Cost} (h : Reads w B 4 A fs.length (costCells fs)) {a : Int} (h0 : 0 ≤ a) (h1 : a < fs.length) :
    ∃ b off, A = some ⟨b, off, none⟩ ∧ b < B ∧ w.cell? ⟨b, off + a.toNat * 4, none⟩ = some (.int .i64 (Bd.fn fs a).need) ∧ w.cell? ⟨b, off + a.toNat * 4 + 1, none⟩ = some (.int .i64 (Bd.fn fs a).delta) ∧ w.cell? ⟨b, off + a.toNat * 4 + 2, none⟩ = some (.int .i64 (Bd.fn fs a).peak) ∧ w.cell? ⟨b, off + a.toNat * 4 + 3, none⟩ = some (.int .i64 (Bd.fn fs a).steps) := by
  obtain ⟨b, off, e, hb, hc⟩ := h.2 (by omega)
  have hg : fs[a.toNat]? = some (fs[a.toNat]'(by omega)) := List.getElem?_eq_getElem (by omega)
  have hf : Bd.fn fs a = fs[a.toNat]'(by omega) := by unfold Bd.fn; rw [List.getD_eq_getElem?_getD, hg]; rfl
  obtain ⟨g0, g1, g2, g3⟩ := costCells_at fs _ _ hg
  rw [hf]
  simp only [Nat.add_assoc]
  exact ⟨b, off, e, hb, hc _ _ g0, hc _ _ g1, hc _ _ g2, hc _ _ g3⟩

theorem effect_none {fs : List Bd.Cost} {p : Bd.Place} {op a : Int} (h : Bd.calls op = false) : Bd.effect fs p (op, a) = ⟨Bd.takes op - p.high, p.high - Bd.takes op + Bd.leaves op, p.high - Bd.takes op + Bd.leaves op, p.steps + 1⟩ := by
  simp [Bd.effect, h]
theorem calls_no {op : Int} (h : Bd.calls op = false) : (op == 37) = false ∧ (op == 38) = false := by simpa [Bd.calls] using h
theorem calls_yes {op : Int} (h : Bd.calls op = true) : op = 37 ∨ op = 38 := by simpa [Bd.calls] using h

set_option maxHeartbeats 1000000 in
theorem height_any (Af : Option Addr) (cf B : Nat) (fs : List Bd.Cost) (p : Bd.Place) (op a : Int) (w : World) (hF : Reads w B 4 Af fs.length (costCells fs)) (hB : B ≤ w.heap.size) (hmay : fs.all Bd.mayBe = true) (hp : Bd.okP p) (hc : Bd.calls op = true → 0 ≤ a ∧ a < fs.length) :
    Calls Try.prog 46 #[.agg #[.int .i64 op, .int .i64 a], .slice Af fs.length cf, .int .i64 p.high] w fun e w' => e = .returned (.int .i64 (Bd.effect fs p (op, a)).high) ∧ Below w.heap.size w w' := by
  obtain ⟨pk, h, s⟩ := p
  obtain ⟨b1, b2, b3, b4⟩ := hp
  simp only at b1 b2 b3 b4 ⊢
  have HT := Lib.hid (fun W => takes_any op W)
  have HV := Lib.hid (fun W => leaves_any op W)
  have ht := Bd.takes_bd op
  have hv := Bd.leaves_bd op
  cases hcl : Bd.calls op with
  | false =>
    rw [effect_none hcl]
    obtain ⟨e1, e2⟩ := calls_no hcl
    simp only
    clear hcl hc hF hmay
    generalize Bd.takes op = t at *
    generalize Bd.leaves op = v at *
    generalize fs.length = m at *
    go_enter Try.func46, Try.ntmps46
    go_wp2_with fail
    have s1 : IntKind.i64.wrap (h - t) = h - t := IntWalk.i64_in _ (by omega)
    have s2 : IntKind.i64.wrap (h - t + v) = h - t + v := IntWalk.i64_in _ (by omega)
    go_quiet (first | (go_at_call 10; exact quiet_eq (HT.out _)) | (go_at_call 11; exact quiet_eq (HV.out _)))
    clear s1 s2
    go_wp2
    go_ret
    exact ⟨rfl, (by repeat (first | exact Below.refl _ _ | assumption | (refine Below.setCell ?_ (by first | omega | (simp; done) | (simp; omega)) _) | (refine Below.drew ?_) | (refine below_drewN ?_ _) | (refine Below.alloc ?_ (by first | omega | (simp; done) | (simp; omega)) _)))⟩
  | true =>
    obtain ⟨a0, a1⟩ := hc hcl
    have hfb := Bd.fn_bd hmay a
    obtain ⟨b, off, rfl, hb, d0, d1, d2, d3⟩ := fn_cells hF a0 a1
    have hhi : (Bd.effect fs ⟨pk, h, s⟩ (op, a)).high = h - Bd.takes op + Bd.leaves op + (Bd.fn fs a).delta := by simp [Bd.effect, hcl]
    rw [hhi]
    clear hhi hF hmay hc
    have hblt : b < w.heap.size := by omega
    generalize Bd.fn fs a = f at *
    obtain ⟨fn, fd, fp, fst⟩ := f
    simp only at d0 d1 d2 d3 hfb ⊢
    generalize fs.length = m at *
    rcases calls_yes hcl with rfl | rfl
    all_goals
      clear hcl
      generalize Bd.takes _ = t at *
      generalize Bd.leaves _ = v at *
      go_enter Try.func46, Try.ntmps46
      go_wp2_with fail
      have s1 : IntKind.i64.wrap (h - t) = h - t := IntWalk.i64_in _ (by omega)
      have s2 : IntKind.i64.wrap (h - t + v) = h - t + v := IntWalk.i64_in _ (by omega)
      go_quiet (first | (go_at_call 10; exact quiet_eq (HT.out _)) | (go_at_call 11; exact quiet_eq (HV.out _)))
      clear s1 s2
      go_wp2
      go_ret
      exact ⟨rfl, (by repeat (first | exact Below.refl _ _ | assumption | (refine Below.setCell ?_ (by first | omega | (simp; done) | (simp; omega)) _) | (refine Below.drew ?_) | (refine below_drewN ?_ _) | (refine Below.alloc ?_ (by first | omega | (simp; done) | (simp; omega)) _)))⟩

def stepsOf (fs : List Bd.Cost) (op a : Int) : Int := if op = 37 then 1 + (Bd.fn fs a).steps else if op = 38 then 1 + 16 * (Bd.fn fs a).steps else 1
set_option maxHeartbeats 1000000 in
theorem steps_any (Af : Option Addr) (cf B : Nat) (fs : List Bd.Cost) (op a : Int) (w : World) (hF : Reads w B 4 Af fs.length (costCells fs)) (hB : B ≤ w.heap.size) (hmay : fs.all Bd.mayBe = true) (hc : Bd.calls op = true → 0 ≤ a ∧ a < fs.length) :
    Calls Try.prog 47 #[.agg #[.int .i64 op, .int .i64 a], .slice Af fs.length cf] w fun e w' => e = .returned (.int .i64 (stepsOf fs op a)) ∧ Below w.heap.size w w' := by
  cases hcl : Bd.calls op with
  | false =>
    obtain ⟨e1, e2⟩ := calls_no hcl
    have hst : stepsOf fs op a = 1 := by simp at e1 e2; simp [stepsOf, e1, e2]
    rw [hst]
    clear hcl hc hF hmay hst
    generalize fs.length = m at *
    go_enter Try.func47, Try.ntmps47
    go_wp2
    go_ret
    exact ⟨rfl, (Below.refl _ _).alloc (Nat.le_refl _) _⟩
  | true =>
    obtain ⟨a0, a1⟩ := hc hcl
    have hfb := Bd.fn_bd hmay a
    obtain ⟨b, off, rfl, hb, d0, d1, d2, d3⟩ := fn_cells hF a0 a1
    have hblt : b < w.heap.size := by omega
    unfold stepsOf
    clear hF hmay hc
    generalize Bd.fn fs a = f at *
    obtain ⟨fn, fd, fp, fst⟩ := f
    simp only at d0 d1 d2 d3 hfb ⊢
    generalize fs.length = m at *
    rcases calls_yes hcl with rfl | rfl
    all_goals
      clear hcl
      go_enter Try.func47, Try.ntmps47
      go_wp2
      go_ret
      exact ⟨rfl, (Below.refl _ _).alloc (Nat.le_refl _) _⟩
end Go.Proofs.Ytgklchhgpnoliaa

/- Parts of the proof, joined: BoundO RefA RefB. -/
import Derived.IntWalk
import Derived.Test.YtnhebmgibiomnaaGreatPc24
set_option linter.unusedVariables false
set_option linter.unusedSimpArgs false
namespace Go.Proofs.YtnhebmgibiomnaaGreat
open Go.RowKit
set_option maxHeartbeats 1000000 in
theorem takes_any (op : Int) (w : World) :
    Calls Tryz.prog 77 #[.int .i64 op] w fun e w' => e = .returned (.int .i64 (Bd.takes op)) ∧ w = w' := by
  go_enter Tryz.func77, Tryz.ntmps77
  go_wp2
  all_goals (go_ret; go_light; refine ⟨ret_int ?_, rfl⟩; simp_all [Bd.takes])
set_option maxHeartbeats 1000000 in
theorem leaves_any (op : Int) (w : World) :
    Calls Tryz.prog 152 #[.int .i64 op] w fun e w' => e = .returned (.int .i64 (Bd.leaves op)) ∧ w = w' := by
  go_enter Tryz.func152, Tryz.ntmps152
  go_wp2
  all_goals (go_ret; go_light; refine ⟨ret_int ?_, rfl⟩; simp_all [Bd.leaves])
theorem quiet_eq {P : Program} {f : FuncId} {args : Array Value} {w : World} {n : Nat} {v : Value} (h : Calls P f args (w.drewN n) fun e w' => e = .returned v ∧ w.drewN n = w') : Calls P f args (w.drewN n) fun e w'' => e = .returned v ∧ ∃ m, w'' = w.drewN m :=
  h.mono fun _ _ ⟨he, hm⟩ => ⟨he, n, hm.symm⟩
end Go.Proofs.YtnhebmgibiomnaaGreat
namespace Go.Proofs.YtnhebmgibiomnaaGreat
open Go.RowKit
set_option maxHeartbeats 1000000 in
theorem rright19_any (c : Bd.Cost) (w : World) :
    Calls Tryz.prog 91 #[.agg #[.int .i64 c.need, .int .i64 c.delta, .int .i64 c.peak, .int .i64 c.steps]] w fun e w' => e = .returned (.bool (Bd.mayBe c)) ∧ Below w.heap.size w w' := by
  obtain ⟨n, d, p, s⟩ := c
  simp only
  go_enter Tryz.func91, Tryz.ntmps91
  go_wp2
  all_goals (go_ret; go_light; refine ⟨ret_bool ?_, ?_⟩; (simp_all [Bd.mayBe] <;> omega); exact (Below.refl _ _).alloc (Nat.le_refl _) _)
set_option maxHeartbeats 1000000 in
theorem rwrong19_any (op a left : Int) (A : Option Addr) (m c : Nat) (w : World) (_hm : m ≤ 1000000000000) (n at_ : Int) (hl : left = n - 1 - at_) :
    Calls Tryz.prog 92 #[.agg #[.int .i64 op, .int .i64 a], .int .i64 left, .slice A m c] w fun e w' => e = .returned (.int .i64 (Bd.always n m at_ (op, a))) ∧ Below w.heap.size w w' := by
  have HL := Lib.hid hl
  clear hl
  go_enter Tryz.func92, Tryz.ntmps92
  go_wp2
  all_goals (go_ret; go_light; refine ⟨ret_int ?_, (Below.refl _ _).alloc (Nat.le_refl _) _⟩; have hl := HL.out; subst hl; simp_all [Bd.always, Bd.jumps, Bd.calls] <;> omega)
theorem fn_cells {w : World} {B : Nat} {A : Option Addr} {fs : List Bd.Cost} (h : Reads w B 4 A fs.length (costCells fs)) {a : Int} (h0 : 0 ≤ a) (h1 : a < fs.length) :
    ∃ b off, A = some ⟨b, off, none⟩ ∧ b < B ∧ w.cell? ⟨b, off + a.toNat * 4, none⟩ = some (.int .i64 (Bd.fn fs a).need) ∧ w.cell? ⟨b, off + a.toNat * 4 + 1, none⟩ = some (.int .i64 (Bd.fn fs a).delta) ∧ w.cell? ⟨b, off + a.toNat * 4 + 2, none⟩ = some (.int .i64 (Bd.fn fs a).peak) ∧ w.cell? ⟨b, off + a.toNat * 4 + 3, none⟩ = some (.int .i64 (Bd.fn fs a).steps) := by
  obtain ⟨b, off, e, hb, hc⟩ := h.2 (by omega)
  have hg : fs[a.toNat]? = some (fs[a.toNat]'(by omega)) := List.getElem?_eq_getElem (by omega)
  have hf : Bd.fn fs a = fs[a.toNat]'(by omega) := by unfold Bd.fn; rw [List.getD_eq_getElem?_getD, hg]; rfl
  obtain ⟨g0, g1, g2, g3⟩ := costCells_at fs _ _ hg
  rw [hf]
  simp only [Nat.add_assoc]
  exact ⟨b, off, e, hb, hc _ _ g0, hc _ _ g1, hc _ _ g2, hc _ _ g3⟩
theorem effect_none {fs : List Bd.Cost} {p : Bd.Place} {op a : Int} (h : Bd.calls op = false) : Bd.effect fs p (op, a) = ⟨Bd.takes op - p.high, p.high - Bd.takes op + Bd.leaves op, p.high - Bd.takes op + Bd.leaves op, p.steps + 1⟩ := by
  simp [Bd.effect, h]
theorem calls_no {op : Int} (h : Bd.calls op = false) : (op == 37) = false ∧ (op == 38) = false := by simpa [Bd.calls] using h
theorem calls_yes {op : Int} (h : Bd.calls op = true) : op = 37 ∨ op = 38 := by simpa [Bd.calls] using h
set_option maxHeartbeats 1000000 in
theorem height_any (Af : Option Addr) (cf B : Nat) (fs : List Bd.Cost) (p : Bd.Place) (op a : Int) (w : World) (hF : Reads w B 4 Af fs.length (costCells fs)) (hB : B ≤ w.heap.size) (hmay : fs.all Bd.mayBe = true) (hp : Bd.okP p) (hc : Bd.calls op = true → 0 ≤ a ∧ a < fs.length) :
    Calls Tryz.prog 95 #[.agg #[.int .i64 op, .int .i64 a], .slice Af fs.length cf, .int .i64 p.high] w fun e w' => e = .returned (.int .i64 (Bd.effect fs p (op, a)).high) ∧ Below w.heap.size w w' := by
  obtain ⟨pk, h, s⟩ := p
  obtain ⟨b1, b2, b3, b4⟩ := hp
  simp only at b1 b2 b3 b4 ⊢
  have HT := Lib.hid (fun W => takes_any op W)
  have HV := Lib.hid (fun W => leaves_any op W)
  have ht := Bd.takes_bd op
  have hv := Bd.leaves_bd op
  cases hcl : Bd.calls op with
  | false =>
    rw [effect_none hcl]
    obtain ⟨e1, e2⟩ := calls_no hcl
    simp only
    clear hcl hc hF hmay
    generalize Bd.takes op = t at *
    generalize Bd.leaves op = v at *
    generalize fs.length = m at *
    go_enter Tryz.func95, Tryz.ntmps95
    go_wp2_with fail
    have s1 : IntKind.i64.wrap (h - t) = h - t := IntWalk.i64_in _ (by omega)
    have s2 : IntKind.i64.wrap (h - t + v) = h - t + v := IntWalk.i64_in _ (by omega)
    go_quiet (first | (go_at_call 77; exact quiet_eq (HT.out _)) | (go_at_call 152; exact quiet_eq (HV.out _)))
    clear s1 s2
    go_wp2
    go_ret
    exact ⟨rfl, (by repeat (first | exact Below.refl _ _ | assumption | (refine Below.setCell ?_ (by first | omega | (simp; done) | (simp; omega)) _) | (refine Below.drew ?_) | (refine below_drewN ?_ _) | (refine Below.alloc ?_ (by first | omega | (simp; done) | (simp; omega)) _)))⟩
  | true =>
    obtain ⟨a0, a1⟩ := hc hcl
    have hfb := Bd.fn_bd hmay a
    obtain ⟨b, off, rfl, hb, d0, d1, d2, d3⟩ := fn_cells hF a0 a1
    have hhi : (Bd.effect fs ⟨pk, h, s⟩ (op, a)).high = h - Bd.takes op + Bd.leaves op + (Bd.fn fs a).delta := by simp [Bd.effect, hcl]
    rw [hhi]
    clear hhi hF hmay hc
    have hblt : b < w.heap.size := by omega
    generalize Bd.fn fs a = f at *
    obtain ⟨fn, fd, fp, fst⟩ := f
    simp only at d0 d1 d2 d3 hfb ⊢
    generalize fs.length = m at *
    rcases calls_yes hcl with rfl | rfl
    all_goals
      clear hcl
      generalize Bd.takes _ = t at *
      generalize Bd.leaves _ = v at *
      go_enter Tryz.func95, Tryz.ntmps95
      go_wp2_with fail
      have s1 : IntKind.i64.wrap (h - t) = h - t := IntWalk.i64_in _ (by omega)
      have s2 : IntKind.i64.wrap (h - t + v) = h - t + v := IntWalk.i64_in _ (by omega)
      go_quiet (first | (go_at_call 77; exact quiet_eq (HT.out _)) | (go_at_call 152; exact quiet_eq (HV.out _)))
      clear s1 s2
      go_wp2
      go_ret
      exact ⟨rfl, (by repeat (first | exact Below.refl _ _ | assumption | (refine Below.setCell ?_ (by first | omega | (simp; done) | (simp; omega)) _) | (refine Below.drew ?_) | (refine below_drewN ?_ _) | (refine Below.alloc ?_ (by first | omega | (simp; done) | (simp; omega)) _)))⟩
def stepsOf (fs : List Bd.Cost) (op a : Int) : Int := if op = 37 then 1 + (Bd.fn fs a).steps else if op = 38 then 1 + 16 * (Bd.fn fs a).steps else 1
set_option maxHeartbeats 1000000 in
theorem steps_any (Af : Option Addr) (cf B : Nat) (fs : List Bd.Cost) (op a : Int) (w : World) (hF : Reads w B 4 Af fs.length (costCells fs)) (hB : B ≤ w.heap.size) (hmay : fs.all Bd.mayBe = true) (hc : Bd.calls op = true → 0 ≤ a ∧ a < fs.length) :
    Calls Tryz.prog 96 #[.agg #[.int .i64 op, .int .i64 a], .slice Af fs.length cf] w fun e w' => e = .returned (.int .i64 (stepsOf fs op a)) ∧ Below w.heap.size w w' := by
  cases hcl : Bd.calls op with
  | false =>
    obtain ⟨e1, e2⟩ := calls_no hcl
    have hst : stepsOf fs op a = 1 := by simp at e1 e2; simp [stepsOf, e1, e2]
    rw [hst]
    clear hcl hc hF hmay hst
    generalize fs.length = m at *
    go_enter Tryz.func96, Tryz.ntmps96
    go_wp2
    go_ret
    exact ⟨rfl, (Below.refl _ _).alloc (Nat.le_refl _) _⟩
  | true =>
    obtain ⟨a0, a1⟩ := hc hcl
    have hfb := Bd.fn_bd hmay a
    obtain ⟨b, off, rfl, hb, d0, d1, d2, d3⟩ := fn_cells hF a0 a1
    have hblt : b < w.heap.size := by omega
    unfold stepsOf
    clear hF hmay hc
    generalize Bd.fn fs a = f at *
    obtain ⟨fn, fd, fp, fst⟩ := f
    simp only at d0 d1 d2 d3 hfb ⊢
    generalize fs.length = m at *
    rcases calls_yes hcl with rfl | rfl
    all_goals
      clear hcl
      go_enter Tryz.func96, Tryz.ntmps96
      go_wp2
      go_ret
      exact ⟨rfl, (Below.refl _ _).alloc (Nat.le_refl _) _⟩
end Go.Proofs.YtnhebmgibiomnaaGreat
namespace Go.Proofs.YtnhebmgibiomnaaGreat
open Go.RowKit
theorem effect_calls {fs : List Bd.Cost} {p : Bd.Place} {op a : Int} (h : Bd.calls op = true) :
    (Bd.effect fs p (op, a)).need = max (Bd.takes op - p.high) ((Bd.fn fs a).need - p.high + Bd.takes op) ∧ (Bd.effect fs p (op, a)).high = p.high - Bd.takes op + Bd.leaves op + (Bd.fn fs a).delta ∧
    (Bd.effect fs p (op, a)).peak = max (p.high - Bd.takes op + Bd.leaves op + (Bd.fn fs a).delta) (max (p.high - Bd.takes op + Bd.leaves op) (p.high - Bd.takes op + Bd.leaves op + (Bd.fn fs a).peak)) ∧ (Bd.effect fs p (op, a)).steps = p.steps + stepsOf fs op a := by
  unfold Bd.effect stepsOf
  simp only [h, ↓reduceIte]
  generalize Bd.fn fs a = f
  rcases calls_yes h with rfl | rfl
  · have h1 : Bd.takes 37 = 0 := by decide
    have h2 : Bd.leaves 37 = 0 := by decide
    rw [h1, h2]; simp only [Int.reduceEq, ↓reduceIte]; refine ⟨?_, ?_, ?_, ?_⟩ <;> first | trivial | omega
  · have h1 : Bd.takes 38 = 1 := by decide
    have h2 : Bd.leaves 38 = 0 := by decide
    rw [h1, h2]; simp only [Int.reduceEq, ↓reduceIte]; refine ⟨?_, ?_, ?_, ?_⟩ <;> first | trivial | omega
set_option maxHeartbeats 1000000 in
theorem need_any (Af : Option Addr) (cf B : Nat) (fs : List Bd.Cost) (p : Bd.Place) (op a : Int) (w : World) (hF : Reads w B 4 Af fs.length (costCells fs)) (hB : B ≤ w.heap.size) (hmay : fs.all Bd.mayBe = true) (hp : Bd.okP p) (hc : Bd.calls op = true → 0 ≤ a ∧ a < fs.length) :
    Calls Tryz.prog 93 #[.agg #[.int .i64 op, .int .i64 a], .slice Af fs.length cf, .int .i64 p.high] w fun e w' => e = .returned (.int .i64 (Bd.effect fs p (op, a)).need) ∧ Below w.heap.size w w' := by
  obtain ⟨pk, h, s⟩ := p
  obtain ⟨b1, b2, b3, b4⟩ := hp
  simp only at b1 b2 b3 b4 ⊢
  have HT := Lib.hid (fun W => takes_any op W)
  have ht := Bd.takes_bd op
  cases hcl : Bd.calls op with
  | false =>
    rw [effect_none hcl]
    obtain ⟨e1, e2⟩ := calls_no hcl
    simp only
    clear hcl hc hF hmay
    generalize Bd.takes op = t at *
    generalize fs.length = m at *
    go_enter Tryz.func93, Tryz.ntmps93
    go_wp2_with (go_at_call 77; refine (HT.out _).mono ?_; rintro e w' ⟨rfl, rfl⟩)
    go_ret
    exact ⟨rfl, (by repeat (first | exact Below.refl _ _ | assumption | (refine Below.setCell ?_ (by first | omega | (simp; done) | (simp; omega)) _) | (refine Below.drew ?_) | (refine below_drewN ?_ _) | (refine Below.alloc ?_ (by first | omega | (simp; done) | (simp; omega)) _)))⟩
  | true =>
    obtain ⟨a0, a1⟩ := hc hcl
    have hfb := Bd.fn_bd hmay a
    obtain ⟨b, off, rfl, hb, d0, d1, d2, d3⟩ := fn_cells hF a0 a1
    rw [(effect_calls hcl).1]
    clear hF hmay hc
    have hblt : b < w.heap.size := by omega
    generalize Bd.fn fs a = f at *
    obtain ⟨fn, fd, fp, fst⟩ := f
    simp only at d0 d1 d2 d3 hfb ⊢
    generalize fs.length = m at *
    rcases calls_yes hcl with rfl | rfl
    all_goals
      clear hcl
      generalize Bd.takes _ = t at *
      go_enter Tryz.func93, Tryz.ntmps93
      go_wp2_with (go_at_call 77; refine (HT.out _).mono ?_; rintro e w' ⟨rfl, rfl⟩)
      have s1 : IntKind.i64.wrap (fn - h) = fn - h := IntWalk.i64_in _ (by omega)
      have s2 : IntKind.i64.wrap (fn - h + t) = fn - h + t := IntWalk.i64_in _ (by omega)
      have hmx := max_ifb
      go_quiet ((go_at_call 77; exact quiet_eq (HT.out _)))
      clear s1 s2 hmx
      go_wp2
      go_ret
      exact ⟨rfl, (by repeat (first | exact Below.refl _ _ | assumption | (refine Below.setCell ?_ (by first | omega | (simp; done) | (simp; omega)) _) | (refine Below.drew ?_) | (refine below_drewN ?_ _) | (refine Below.alloc ?_ (by first | omega | (simp; done) | (simp; omega)) _)))⟩
set_option maxHeartbeats 1000000 in
theorem peak_any (Af : Option Addr) (cf B : Nat) (fs : List Bd.Cost) (p : Bd.Place) (op a : Int) (w : World) (hF : Reads w B 4 Af fs.length (costCells fs)) (hB : B ≤ w.heap.size) (hmay : fs.all Bd.mayBe = true) (hp : Bd.okP p) (hc : Bd.calls op = true → 0 ≤ a ∧ a < fs.length) :
    Calls Tryz.prog 94 #[.agg #[.int .i64 op, .int .i64 a], .slice Af fs.length cf, .int .i64 p.high] w fun e w' => e = .returned (.int .i64 (Bd.effect fs p (op, a)).peak) ∧ Below w.heap.size w w' := by
  have HH := Lib.hid (height_any Af cf B fs p op a (w.alloc (.cells #[.int .i64 op, .int .i64 a] 96)) (hF.alloc hB _) (by simp; omega) hmay hp hc)
  have heff := Bd.effect_bd hmay hp (op, a)
  obtain ⟨pk, h, s⟩ := p
  obtain ⟨b1, b2, b3, b4⟩ := hp
  simp only at b1 b2 b3 b4 HH ⊢
  have HT := Lib.hid (fun W => takes_any op W)
  have HV := Lib.hid (fun W => leaves_any op W)
  have ht := Bd.takes_bd op
  have hv := Bd.leaves_bd op
  cases hcl : Bd.calls op with
  | false =>
    rw [effect_none hcl] at HH heff ⊢
    obtain ⟨e1, e2⟩ := calls_no hcl
    simp only at HH heff ⊢
    clear hcl hc hF hmay
    generalize Bd.takes op = t at *
    generalize Bd.leaves op = v at *
    generalize fs.length = m at *
    go_enter Tryz.func94, Tryz.ntmps94
    go_wp2_with fail
    refine HH.out.mono ?_
    rintro e w1 ⟨rfl, hb1⟩
    have hbw : Below w.heap.size w w1 := ((Below.refl _ _).alloc (Nat.le_refl _) _).trans (hb1.mono (by simp))
    obtain ⟨hc1, hf1⟩ := bcell hb1
    have q0 := hc1 w.heap.size 0 (by simp)
    have q1 := hc1 w.heap.size 1 (by simp)
    simp [go_sem] at q0 q1
    have hz := hb1.size
    simp at hz
    have hz1 : w.heap.size < w1.heap.size := by omega
    clear hc1 hf1 hb1 HH
    go_wp2_with fail
    have s1 : IntKind.i64.wrap (h - t) = h - t := IntWalk.i64_in _ (by omega)
    have s2 : IntKind.i64.wrap (h - t + v) = h - t + v := IntWalk.i64_in _ (by omega)
    go_quiet (first | (go_at_call 77; exact quiet_eq (HT.out _)) | (go_at_call 152; exact quiet_eq (HV.out _)))
    clear s1 s2
    have hmx := max_ifb
    go_wp2
    go_ret
    exact ⟨ret_int (by omega), (by repeat (first | exact Below.refl _ _ | assumption | (refine Below.setCell ?_ (by first | omega | (simp; done) | (simp; omega)) _) | (refine Below.drew ?_) | (refine below_drewN ?_ _) | (refine Below.alloc ?_ (by first | omega | (simp; done) | (simp; omega)) _)))⟩
  | true =>
    obtain ⟨a0, a1⟩ := hc hcl
    have hfb := Bd.fn_bd hmay a
    obtain ⟨b, off, rfl, hb, d0, d1, d2, d3⟩ := fn_cells hF a0 a1
    have hpk := (effect_calls (fs := fs) (p := ⟨pk, h, s⟩) (a := a) hcl).2.2.1
    have hhi := (effect_calls (fs := fs) (p := ⟨pk, h, s⟩) (a := a) hcl).2.1
    rw [hpk]
    rw [hhi] at HH
    clear hF hmay hc heff hpk hhi
    have hblt : b < w.heap.size := by omega
    generalize Bd.fn fs a = f at *
    obtain ⟨fn, fd, fp, fst⟩ := f
    simp only at d0 d1 d2 d3 hfb HH ⊢
    generalize fs.length = m at *
    rcases calls_yes hcl with rfl | rfl
    all_goals
      clear hcl
      generalize Bd.takes _ = t at *
      generalize Bd.leaves _ = v at *
      go_enter Tryz.func94, Tryz.ntmps94
      go_wp2_with fail
      refine HH.out.mono ?_
      rintro e w1 ⟨rfl, hb1⟩
      have hbw : Below w.heap.size w w1 := ((Below.refl _ _).alloc (Nat.le_refl _) _).trans (hb1.mono (by simp))
      obtain ⟨hc1, hf1⟩ := bcell hb1
      have q0 := hc1 w.heap.size 0 (by simp)
      have q1 := hc1 w.heap.size 1 (by simp)
      simp [go_sem] at q0 q1
      have f2 : w1.cell? ⟨b, off + a.toNat * 4 + 2, none⟩ = some (.int .i64 fp) := by rw [hbw.cell (by exact hblt)]; exact d2
      have hz := hb1.size
      simp at hz
      have hz1 : w.heap.size < w1.heap.size := by omega
      have hz2 : b < w1.heap.size := by omega
      clear hc1 hf1 hb1 HH d0 d1 d2 d3
      go_wp2_with fail
      have s1 : IntKind.i64.wrap (h - t) = h - t := IntWalk.i64_in _ (by omega)
      have s2 : IntKind.i64.wrap (h - t + v) = h - t + v := IntWalk.i64_in _ (by omega)
      go_quiet (first | (go_at_call 77; exact quiet_eq (HT.out _)) | (go_at_call 152; exact quiet_eq (HV.out _)))
      clear s1 s2
      have hmx := max_ifb
      go_wp2
      go_ret
      exact ⟨ret_int (by omega), (by repeat (first | exact Below.refl _ _ | assumption | (refine Below.setCell ?_ (by first | omega | (simp; done) | (simp; omega)) _) | (refine Below.drew ?_) | (refine below_drewN ?_ _) | (refine Below.alloc ?_ (by first | omega | (simp; done) | (simp; omega)) _)))⟩
end Go.Proofs.YtnhebmgibiomnaaGreat

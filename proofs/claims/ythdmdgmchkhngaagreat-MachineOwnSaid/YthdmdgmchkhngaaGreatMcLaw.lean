/- The plain laws of MachineSteps and MachineMore: a machine run step by step, and run on. No program in sight. -/
import Derived.Test.YthdmdgmchkhngaaGreatHdS
namespace Go.Proofs.YthdmdgmchkhngaaGreat
namespace Mr
open Mc Hd

/-- what Same compares, but for the error -/
def Vis (s t : St) : Prop := s.org = t.org ∧ s.cur = t.cur ∧ s.touch = t.touch ∧ s.ends = t.ends ∧ s.cvt = t.cvt ∧ s.store = t.store ∧ s.stack = t.stack ∧ s.steps = t.steps ∧ s.peak = t.peak
theorem Vis.refl (s : St) : Vis s s := ⟨rfl, rfl, rfl, rfl, rfl, rfl, rfl, rfl, rfl⟩
theorem Vis.symm {s t : St} (h : Vis s t) : Vis t s := ⟨h.1.symm, h.2.1.symm, h.2.2.1.symm, h.2.2.2.1.symm, h.2.2.2.2.1.symm, h.2.2.2.2.2.1.symm, h.2.2.2.2.2.2.1.symm, h.2.2.2.2.2.2.2.1.symm, h.2.2.2.2.2.2.2.2.symm⟩
/-- an error is one of those that an instruction may be, and with it the machine has ended -/
def Er (s : St) : Prop := (s.err = 0 ∨ s.err = 50 ∨ s.err = 51 ∨ s.err = 52 ∨ s.err = 54) ∧ (s.err ≠ 0 → s.ended = true)
theorem wrong_er (s : St) (op a b : Int) : wrong s op a b = 0 ∨ wrong s op a b = 50 ∨ wrong s op a b = 51 ∨ wrong s op a b = 52 ∨ wrong s op a b = 54 := by
  unfold wrong
  repeat' split
  all_goals simp
theorem next_vis (s : St) : Vis (next s).1 s := by
  unfold next
  split
  · exact Vis.refl s
  · split
    · exact ⟨rfl, rfl, rfl, rfl, rfl, rfl, rfl, rfl, rfl⟩
    · exact ⟨rfl, rfl, rfl, rfl, rfl, rfl, rfl, rfl, rfl⟩
theorem next_er {s : St} (h : Er s) : Er (next s).1 := by
  unfold next
  split
  · exact h
  · rename_i he
    split
    · refine ⟨?_, fun _ => rfl⟩
      simp only
      exact h.1
    · simp only
      refine ⟨wrong_er _ _ _ _, fun hh => ?_⟩
      simp only at hh ⊢
      exact decide_eq_true hh
/-- what comes of a state that has ended -/
theorem next_ended {s : St} (h : s.ended = true) : next s = (s, none) := by
  unfold next
  rw [if_pos h]
theorem next_some_er {s s' : St} {x : Int × Int} (h : next s = (s', some x)) : s'.err = 0 ∧ s'.ended = false ∧ s.ended = false := by
  unfold next at h
  split at h
  · simp at h
  · rename_i he
    split at h
    · simp at h
    · simp only [Prod.mk.injEq] at h
      obtain ⟨h1, h2⟩ := h
      split at h2
      · rename_i h3
        subst h1
        exact ⟨h3, decide_eq_false (fun hh => hh h3), by simpa using he⟩
      · cases h2
theorem next_none_ended {s s' : St} (h : next s = (s', none)) : s'.ended = true := by
  unfold next at h
  split at h
  · rename_i he; simp at h; subst h; exact he
  · split at h
    · simp at h; subst h; rfl
    · simp only [Prod.mk.injEq] at h
      obtain ⟨h1, h2⟩ := h
      split at h2
      · cases h2
      · rename_i h3; subst h1; exact decide_eq_true h3
theorem bump_same (s : St) : Same s (bump s) := by
  unfold bump
  split
  · exact ⟨rfl, rfl, rfl, rfl, rfl⟩
  · exact ⟨rfl, rfl, rfl, rfl, rfl⟩
theorem step_none {s s' : St} (h : next s = (s', none)) : Mc.step s = (s', false) := by unfold Mc.step; rw [h]
theorem step_some {s s' : St} {x : Int × Int} (h : next s = (s', some x)) : ∃ t, Mc.step s = (t, true) ∧ t.steps = s.steps + 1 ∧ s.peak ≤ t.peak ∧ t.err = 0 ∧ t.ended = false := by
  have h0 := next_vis s
  rw [h] at h0
  have he := next_some_er h
  obtain ⟨b1, b2, b3, b4, b5⟩ := bump_same s'
  obtain ⟨d1, d2, d3, d4, d5⟩ := deed_same x.1 x.2 (bump s')
  refine ⟨_, by unfold Mc.step; rw [h], ?_, ?_, ?_, ?_⟩
  · simp only
    rw [d4, b4, h0.2.2.2.2.2.2.2.1]
  · simp only
    rw [d5, b5, h0.2.2.2.2.2.2.2.2]
    exact Nat.le_max_left _ _
  · simp only
    rw [d3, b3]; exact he.1
  · simp only
    rw [d2, b2]; exact he.2.1
/-- a step: it goes on, and it is one more; or it ends, and nothing that is told has changed -/
theorem step_cases (s : St) (h : Er s) : (∃ t, Mc.step s = (t, true) ∧ t.steps = s.steps + 1 ∧ s.peak ≤ t.peak ∧ Er t ∧ s.err = 0) ∨ ∃ t, Mc.step s = (t, false) ∧ Vis t s ∧ Er t ∧ t.ended = true := by
  rcases hn : next s with ⟨s', o⟩
  cases o with
  | none =>
    have h1 := next_vis s
    have h2 := next_er h
    rw [hn] at h1 h2
    exact .inr ⟨s', step_none hn, h1, h2, next_none_ended hn⟩
  | some x =>
    obtain ⟨t, e1, e2, e3, e4, e5⟩ := step_some hn
    refine .inl ⟨t, e1, e2, e3, ⟨.inl e4, fun hh => absurd e4 hh⟩, ?_⟩
    have := (next_some_er hn).2.2
    by_cases hz : s.err = 0
    · exact hz
    · rw [h.2 hz] at this; cases this
theorem step_ended {s : St} (h : s.ended = true) : Mc.step s = (s, false) := step_none (next_ended h)
/-- the machine behind so many steps, whether it goes on or not -/
def iter : Nat → St → St
  | 0, s => s
  | n + 1, s => iter n (Mc.step s).1
theorem iter_succ (n : Nat) (s : St) : iter (n + 1) s = (Mc.step (iter n s)).1 := by
  induction n generalizing s with
  | zero => rfl
  | succ n ih => rw [iter, ih]; rfl
theorem iter_ended (n : Nat) {s : St} (h : s.ended = true) : iter n s = s := by
  induction n with
  | zero => rfl
  | succ n ih => rw [iter, step_ended h, ih]
theorem iter_er (n : Nat) {s : St} (h : Er s) : Er (iter n s) := by
  induction n generalizing s with
  | zero => exact h
  | succ n ih =>
    rw [iter]
    apply ih
    rcases step_cases s h with ⟨t, e, _, _, he, _⟩ | ⟨t, e, _, he, _⟩
    · rw [e]; exact he
    · rw [e]; exact he
/-- MachineSteps: step by step it is as at once -/
theorem iter_run (n : Nat) {s : St} (h : Er s) : Vis (iter n s) (Mc.run n s) := by
  induction n generalizing s with
  | zero =>
    unfold Mc.run
    rw [Mc.steps]
    simp only
    have := next_vis s
    rcases hn : next s with ⟨u, o⟩
    rw [hn] at this
    cases o with
    | none => exact this.symm
    | some x => exact this.symm
  | succ n ih =>
    rcases step_cases s h with ⟨t, e, _, _, he, _⟩ | ⟨t, e, _, _, hd⟩
    · rw [iter, e]
      have : Mc.run (n + 1) s = Mc.run n t := by unfold Mc.run; rw [Mc.steps, e]
      rw [this]
      exact ih he
    · rw [iter, e, iter_ended n hd]
      have : Mc.run (n + 1) s = t := by unfold Mc.run; rw [Mc.steps, e]
      rw [this]
      exact Vis.refl t
theorem run_er (n : Nat) {s : St} (h : Er s) : (Mc.run n s).err = 0 ∨ (Mc.run n s).err = 50 ∨ (Mc.run n s).err = 51 ∨ (Mc.run n s).err = 52 ∨ (Mc.run n s).err = 53 ∨ (Mc.run n s).err = 54 := by
  induction n generalizing s with
  | zero =>
    unfold Mc.run
    rw [Mc.steps]
    simp only
    have := next_er h
    rcases hn : next s with ⟨u, o⟩
    rw [hn] at this
    cases o with
    | none => have := this.1; simp only at this ⊢; omega
    | some x => simp
  | succ n ih =>
    rcases step_cases s h with ⟨t, e, _, _, he, _⟩ | ⟨t, e, _, he, hd⟩
    · have : Mc.run (n + 1) s = Mc.run n t := by unfold Mc.run; rw [Mc.steps, e]
      rw [this]
      exact ih he
    · have : Mc.run (n + 1) s = t := by unfold Mc.run; rw [Mc.steps, e]
      rw [this]
      have := he.1
      omega
theorem run_grows (n : Nat) {s : St} (h : Er s) : s.steps ≤ (Mc.run n s).steps ∧ s.peak ≤ (Mc.run n s).peak := by
  induction n generalizing s with
  | zero =>
    have := iter_run 0 h
    rw [iter] at this
    exact ⟨Nat.le_of_eq this.2.2.2.2.2.2.2.1, Nat.le_of_eq this.2.2.2.2.2.2.2.2⟩
  | succ n ih =>
    rcases step_cases s h with ⟨t, e, e1, e2, he, _⟩ | ⟨t, e, hv, he, hd⟩
    · have : Mc.run (n + 1) s = Mc.run n t := by unfold Mc.run; rw [Mc.steps, e]
      rw [this]
      obtain ⟨a, b⟩ := ih he
      omega
    · have : Mc.run (n + 1) s = t := by unfold Mc.run; rw [Mc.steps, e]
      rw [this]
      exact ⟨Nat.le_of_eq hv.2.2.2.2.2.2.2.1.symm, Nat.le_of_eq hv.2.2.2.2.2.2.2.2.symm⟩
/-- MachineMore: with more steps it goes on from where it was; ended, it is the same -/
theorem run_more (n m : Nat) {s : St} (h : Er s) :
    ((Mc.run n s).err = 53 → (Mc.run n s).steps = s.steps + n ∧ (Mc.run n s).steps ≤ (Mc.run (n + m) s).steps ∧ (Mc.run n s).peak ≤ (Mc.run (n + m) s).peak) ∧ ((Mc.run n s).err ≠ 53 → Mc.run (n + m) s = Mc.run n s) := by
  induction n generalizing s with
  | zero =>
    rw [Nat.zero_add]
    rcases hn : next s with ⟨u, o⟩
    have h0 := next_er h
    have hv := next_vis s
    rw [hn] at h0 hv
    cases o with
    | none =>
      have e0 : Mc.run 0 s = u := by unfold Mc.run; rw [Mc.steps]; simp only; rw [hn]
      rw [e0]
      refine ⟨fun hh => ?_, fun _ => ?_⟩
      · have := h0.1; simp only at this hh; omega
      · cases m with
        | zero => exact e0
        | succ m => unfold Mc.run; rw [Mc.steps, step_none hn]
    | some x =>
      have e0 : Mc.run 0 s = { u with err := 53 } := by unfold Mc.run; rw [Mc.steps]; simp only; rw [hn]
      rw [e0]
      refine ⟨fun _ => ?_, fun hh => absurd rfl hh⟩
      have hg := run_grows m h
      have a : u.steps = s.steps := hv.2.2.2.2.2.2.2.1
      have b : u.peak = s.peak := hv.2.2.2.2.2.2.2.2
      simp only
      omega
  | succ n ih =>
    rcases step_cases s h with ⟨t, e, e1, e2, he, _⟩ | ⟨t, e, hv, he, hd⟩
    · have a : Mc.run (n + 1) s = Mc.run n t := by unfold Mc.run; rw [Mc.steps, e]
      have b : Mc.run (n + 1 + m) s = Mc.run (n + m) t := by unfold Mc.run; rw [show n + 1 + m = (n + m) + 1 by omega, Mc.steps, e]
      rw [a, b]
      obtain ⟨c, d⟩ := ih he
      refine ⟨fun hh => ?_, d⟩
      obtain ⟨c1, c2⟩ := c hh
      exact ⟨by omega, c2⟩
    · have a : Mc.run (n + 1) s = t := by unfold Mc.run; rw [Mc.steps, e]
      have b : Mc.run (n + 1 + m) s = t := by unfold Mc.run; rw [show n + 1 + m = (n + m) + 1 by omega, Mc.steps, e]
      rw [a, b]
      refine ⟨fun hh => ?_, fun _ => rfl⟩
      have := he.1
      omega
theorem begin_er (p : Pg) (z : Zn) : Er (begin_ p z) := ⟨.inl rfl, fun h => absurd rfl h⟩
end Mr
end Go.Proofs.YthdmdgmchkhngaaGreat

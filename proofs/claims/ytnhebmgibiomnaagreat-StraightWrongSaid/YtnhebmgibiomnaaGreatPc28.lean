/- Parts of the proof, joined: BuM BuN. -/
import Derived.Test.YtnhebmgibiomnaaGreatPc27
set_option linter.unusedVariables false
set_option linter.unusedSimpArgs false
namespace Go.Proofs.YtnhebmgibiomnaaGreat
namespace Sm
open Mc
def F (x : Int) : Prop := k32 x = x
theorem k32_F (x : Int) : F (k32 x) := by unfold F k32; omega
theorem F0 : F 0 := rfl
def core (s o : St) : St := { s with funcs := o.funcs, frames := o.frames, stack := o.stack, steps := o.steps, peak := o.peak, ended := o.ended, err := o.err }
structure Kp (s : St) : Prop where
  stack : ∀ x ∈ s.stack, F x
  cvt : ∀ x ∈ s.cvt, F x
  store : ∀ x ∈ s.store, F x
  cur : ∀ p ∈ s.cur, F p.1 ∧ F p.2
  org : ∀ p ∈ s.org, F p.1 ∧ F p.2
  size : F s.size
theorem getD_F {l : List Int} (h : ∀ x ∈ l, F x) (i : Nat) : F (l.getD i 0) := by
  rw [List.getD_eq_getElem?_getD]
  cases e : l[i]? with
  | none => exact F0
  | some x => exact h x (List.mem_of_getElem? e)
theorem getP_F {l : List (Int × Int)} (h : ∀ p ∈ l, F p.1 ∧ F p.2) (i : Nat) : F (l.getD i (0, 0)).1 ∧ F (l.getD i (0, 0)).2 := by
  rw [List.getD_eq_getElem?_getD]
  cases e : l[i]? with
  | none => exact ⟨F0, F0⟩
  | some x => exact h x (List.mem_of_getElem? e)
theorem at_F {l : List Int} (h : ∀ x ∈ l, F x) (i : Int) : F (at_ l i) := by
  unfold at_
  split
  · exact getD_F h _
  · exact F0
theorem put_F {l : List Int} (h : ∀ x ∈ l, F x) (i : Int) {v : Int} (hv : F v) : ∀ x ∈ put_ l i v, F x := by
  unfold put_
  split
  · intro x hx
    rcases List.mem_or_eq_of_mem_set hx with hx | rfl
    · exact h x hx
    · exact hv
  · exact h
theorem coord_F {l : List (Int × Int)} (h : ∀ p ∈ l, F p.1 ∧ F p.2) (a : Int) (i : Nat) : F (coord a (l.getD i (0, 0))) := by
  unfold coord
  split
  · exact (getP_F h i).2
  · exact (getP_F h i).1
theorem to_F {p : Int × Int} (h : F p.1 ∧ F p.2) (a v : Int) : F (to_ a p v).1 ∧ F (to_ a p v).2 := by
  unfold to_
  split
  · exact ⟨h.1, k32_F _⟩
  · exact ⟨k32_F _, h.2⟩
theorem setP_F {l : List (Int × Int)} (h : ∀ p ∈ l, F p.1 ∧ F p.2) (i : Nat) (a v : Int) : ∀ p ∈ l.set i (to_ a (l.getD i (0, 0)) v), F p.1 ∧ F p.2 := by
  intro p hp
  rcases List.mem_or_eq_of_mem_set hp with hp | rfl
  · exact h p hp
  · exact to_F (getP_F h i) a v
theorem seg_F (org : List (Int × Int)) (ax : Int) (c : Nat × Nat) (a b : Nat) : ∀ (n p : Nat) (cur : List (Int × Int)), (∀ p ∈ cur, F p.1 ∧ F p.2) → ∀ q ∈ seg org ax c a b n p cur, F q.1 ∧ F q.2
  | 0, _, _, h => h
  | n + 1, p, cur, h => by
    unfold seg
    split
    · exact h
    · exact seg_F org ax c a b n _ _ (setP_F h _ _ _)
theorem foldl_F {α β : Type} (Q : β → Prop) (f : β → α → β) (hf : ∀ b a, Q b → Q (f b a)) : ∀ (l : List α) (b : β), Q b → Q (l.foldl f b)
  | [], _, h => h
  | a :: l, b, h => foldl_F Q f hf l _ (hf b a h)
theorem contour_F (org : List (Int × Int)) (touch : List Int) (ax : Int) (cur : List (Int × Int)) (c : Nat × Nat) (h : ∀ p ∈ cur, F p.1 ∧ F p.2) : ∀ p ∈ contour org touch ax cur c, F p.1 ∧ F p.2 :=
  foldl_F (fun cur : List (Int × Int) => ∀ p ∈ cur, F p.1 ∧ F p.2) _ (fun _ _ hb => seg_F _ _ _ _ _ _ _ _ hb) _ _ h
theorem inter_F {s : St} (h : Kp s) (ax : Int) : Kp (inter s ax) :=
  ⟨h.stack, h.cvt, h.store, foldl_F (fun cur : List (Int × Int) => ∀ p ∈ cur, F p.1 ∧ F p.2) _ (fun _ _ hb => contour_F _ _ _ _ _ hb) _ _ h.cur, h.org, h.size⟩
theorem Kp.push {s : St} (h : Kp s) (v : Int) : Kp (push v s) := ⟨fun x hx => by
  simp only [Mc.push, List.mem_cons] at hx
  rcases hx with rfl | hx
  · exact k32_F _
  · exact h.stack x hx, h.cvt, h.store, h.cur, h.org, h.size⟩
theorem Kp.drop {s : St} (h : Kp s) (n : Nat) : Kp { s with stack := s.stack.drop n } := ⟨fun x hx => h.stack x (List.mem_of_mem_drop hx), h.cvt, h.store, h.cur, h.org, h.size⟩
theorem Kp.goes {s : St} (h : Kp s) (p : Nat) (a v : Int) : Kp (goes s p a v) := ⟨h.stack, h.cvt, h.store, setP_F h.cur _ _ _, h.org, h.size⟩
theorem Kp.pass {s : St} (h : Kp s) (n : Int) : Kp (pass s n) := by
  unfold Mc.pass
  split
  · exact h
  · exact ⟨h.stack, h.cvt, h.store, h.cur, h.org, h.size⟩
theorem Kp.call {s : St} (h : Kp s) (a n : Int) : Kp (call s a n) := by
  unfold Mc.call
  split
  · exact ⟨h.stack, h.cvt, h.store, h.cur, h.org, h.size⟩
  · exact h
theorem deed_kp {s : St} (h : Kp s) (op a : Int) : Kp (deed op a s) := by
  have h1 := h.drop 1
  have h2 := h.drop 2
  have hx := getD_F h.stack 0
  unfold deed
  simp only [two, one]
  split
  all_goals first
    | exact h.push _
    | exact h1.push _
    | exact h2.push _
    | exact h1
    | exact (h1.push _).push _
    | exact (h2.push _).push _
    | exact ⟨h.stack, h.cvt, h.store, h.cur, h.org, h.size⟩
    | exact ⟨h2.stack, put_F h.cvt _ hx, h.store, h.cur, h.org, h.size⟩
    | exact ⟨h2.stack, h.cvt, put_F h.store _ hx, h.cur, h.org, h.size⟩
    | exact inter_F h _
    | exact h.pass _
    | exact h.call _ _
    | exact h1.call _ _
    | exact h
    | (split <;> first | exact h2.goes _ _ _ | exact h2 | exact h1.pass _ | exact h1)
structure Sim (s : St) (q : Sr.St) : Prop where
  co : ∃ o, q.m = core s o
  rl : q.regs.length = 64
  stk : ∀ i, i < s.stack.length → q.regs.getD (s.stack.length - 1 - i) 0 = s.stack.getD i 0
  kp : Kp s
theorem Sim.drop {s : St} {q : Sr.St} (h : Sim s q) (n : Nat) : Sim { s with stack := s.stack.drop n } q := by
  obtain ⟨o, ho⟩ := h.co
  refine ⟨⟨o, ho⟩, h.rl, fun i hi => ?_, h.kp.drop n⟩
  simp only [List.length_drop] at hi ⊢
  have := h.stk (n + i) (by omega)
  rw [show s.stack.length - n - 1 - i = s.stack.length - 1 - (n + i) by omega, this]
  simp only [List.getD_eq_getElem?_getD, List.getElem?_drop]
theorem Sim.put {s : St} {q : Sr.St} (h : Sim s q) (v u : Int) {d : Int} (hd : d = (s.stack.length : Int)) (hl : s.stack.length < 64) (hu : u = k32 v) : Sim { s with stack := k32 v :: s.stack } (Sr.put q d u) := by
  obtain ⟨o, ho⟩ := h.co
  subst hd hu
  refine ⟨⟨o, ho⟩, by simp [Sr.put, h.rl], fun i hi => ?_, ⟨fun x hx => ?_, h.kp.cvt, h.kp.store, h.kp.cur, h.kp.org, h.kp.size⟩⟩
  · simp only [List.length_cons] at hi ⊢
    simp only [Sr.put, Int.toNat_natCast, List.getD_eq_getElem?_getD, List.getElem?_set]
    cases i with
    | zero => simp [h.rl, hl]
    | succ i =>
      rw [if_neg (by omega)]
      have := h.stk i (by omega)
      simp only [List.getD_eq_getElem?_getD] at this
      rw [show s.stack.length + 1 - 1 - (i + 1) = s.stack.length - 1 - i by omega, this]
      simp
  · simp only [List.mem_cons] at hx
    rcases hx with rfl | hx
    · exact k32_F _
    · exact h.kp.stack x hx
theorem Sim.aside {s : St} {q : Sr.St} (h : Sim s q) (v : Int) {d : Int} (hd : (s.stack.length : Int) ≤ d) : Sim s (Sr.put q d v) := by
  obtain ⟨o, ho⟩ := h.co
  refine ⟨⟨o, ho⟩, by simp [Sr.put, h.rl], fun i hi => ?_, h.kp⟩
  have := h.stk i hi
  simp only [Sr.put, List.getD_eq_getElem?_getD, List.getElem?_set] at this ⊢
  rw [if_neg (by omega), this]
theorem Sim.go {s : St} {q : Sr.St} (h : Sim s q) (pc st : Nat) : Sim s { q with pc := pc, steps := st } := ⟨h.co, h.rl, h.stk, h.kp⟩
theorem Sim.eqv {s : St} {q : Sr.St} (h : Sim s q) (fu : List (List (Int × Int))) (fr : List Fm) (n p : Nat) (e : Bool) (er : Int) : Sim { s with funcs := fu, frames := fr, steps := n, peak := p, ended := e, err := er } q :=
  ⟨h.co, h.rl, h.stk, ⟨h.kp.stack, h.kp.cvt, h.kp.store, h.kp.cur, h.kp.org, h.kp.size⟩⟩
theorem Sim.top {s : St} {q : Sr.St} (h : Sim s q) {d : Int} (hd : d = (s.stack.length : Int) - 1) (hl : 1 ≤ s.stack.length) : Sr.get q d = s.stack.getD 0 0 := by
  have := h.stk 0 (by omega)
  unfold Sr.get
  rw [← this]
  congr 1
  omega
theorem Sim.second {s : St} {q : Sr.St} (h : Sim s q) {d : Int} (hd : d = (s.stack.length : Int) - 2) (hl : 2 ≤ s.stack.length) : Sr.get q d = s.stack.getD 1 0 := by
  have := h.stk 1 (by omega)
  unfold Sr.get
  rw [← this]
  congr 1
  omega
theorem rounded_F (m x : Int) : F (rounded m x) := k32_F _
theorem sim_one {s : St} {q : Sr.St} (h : Sim s q) (op a : Int) (ho : (Sr.uses op).1 = 3) (h40 : op ≠ 40) (hl : 1 ≤ s.stack.length) (h64 : s.stack.length ≤ 32) {d : Int} (hd : d = (s.stack.length : Int) - 1) : Sim (deed op a s) (Sr.deed ⟨op, d, d, 0, 0⟩ q) := by
  have hx := h.top hd hl
  have h1 := h.drop 1
  have key : ∀ v u, u = k32 v → Sim { s with stack := k32 v :: s.stack.drop 1 } (Sr.put q d u) := fun v u hu => h1.put v u (by simp only [List.length_drop]; omega) (by simp only [List.length_drop]; omega) hu
  have hco := h.co
  have hkp := h.kp
  generalize hxx : s.stack.getD 0 0 = x at *
  obtain ⟨regs, m, pc, st⟩ := q
  obtain ⟨o, rfl⟩ : ∃ o, m = core s o := hco
  have hc : op = 9 ∨ op = 10 ∨ op = 13 ∨ op = 14 ∨ op = 15 ∨ op = 19 ∨ op = 25 ∨ op = 27 ∨ op = 29 ∨ op = 30 := by
    unfold Sr.uses at ho
    repeat' split at ho
    all_goals first | omega | (exfalso; simp at ho)
  rcases hc with rfl | rfl | rfl | rfl | rfl | rfl | rfl | rfl | rfl | rfl
  all_goals subst hxx
  · exact key (-(s.stack.getD 0 0)) (k32 (-(Sr.get _ d))) (by rw [hx])
  · exact key (max (s.stack.getD 0 0) (-(s.stack.getD 0 0))) (k32 (max (Sr.get _ d) (-(Sr.get _ d)))) (by rw [hx])
  · exact key (rounded 4 (s.stack.getD 0 0)) (k32 (rounded 4 (Sr.get _ d))) (by rw [hx])
  · exact key (rounded 5 (s.stack.getD 0 0)) (k32 (rounded 5 (Sr.get _ d))) (by rw [hx])
  · exact key (rounded s.mode (s.stack.getD 0 0)) (rounded s.mode (Sr.get _ d)) (by rw [hx]; exact (rounded_F _ _).symm)
  · exact key (truth (decide (s.stack.getD 0 0 = 0))) (k32 (truth (decide (Sr.get _ d = 0)))) (by rw [hx])
  · exact key (at_ s.cvt (s.stack.getD 0 0)) (at_ s.cvt (Sr.get _ d)) (by rw [hx]; exact (at_F hkp.cvt _).symm)
  · exact key (at_ s.store (s.stack.getD 0 0)) (at_ s.store (Sr.get _ d)) (by rw [hx]; exact (at_F hkp.store _).symm)
  · refine key (if has s (s.stack.getD 0 0) then coord s.look (s.cur.getD (s.stack.getD 0 0).toNat (0, 0)) else 0) (if has s (Sr.get _ d) then coord s.look (s.cur.getD (Sr.get _ d).toNat (0, 0)) else 0) ?_
    rw [hx]
    split
    · exact (coord_F hkp.cur _ _).symm
    · rfl
  · refine key (if has s (s.stack.getD 0 0) then coord s.look (s.org.getD (s.stack.getD 0 0).toNat (0, 0)) else 0) (if has s (Sr.get _ d) then coord s.look (s.org.getD (Sr.get _ d).toNat (0, 0)) else 0) ?_
    rw [hx]
    split
    · exact (coord_F hkp.org _ _).symm
    · rfl
theorem sim_two {s : St} {q : Sr.St} (h : Sim s q) (op a : Int) (ho : (Sr.uses op).1 = 7) (hl : 2 ≤ s.stack.length) (h64 : s.stack.length ≤ 32) {d t : Int} (hd : d = (s.stack.length : Int) - 2) (ht : t = (s.stack.length : Int) - 1) : Sim (deed op a s) (Sr.deed ⟨op, d, d, t, 0⟩ q) := by
  have hx := h.top ht (by omega)
  have hy := h.second hd hl
  have h1 := h.drop 2
  have key : ∀ v u, u = k32 v → Sim { s with stack := k32 v :: s.stack.drop 2 } (Sr.put q d u) := fun v u hu => h1.put v u (by simp only [List.length_drop]; omega) (by simp only [List.length_drop]; omega) hu
  have hc : op = 5 ∨ op = 6 ∨ op = 7 ∨ op = 8 ∨ op = 11 ∨ op = 12 ∨ op = 16 ∨ op = 17 ∨ op = 18 ∨ op = 20 ∨ op = 21 := by
    unfold Sr.uses at ho
    repeat' split at ho
    all_goals first | omega | (exfalso; simp at ho)
  rcases hc with rfl | rfl | rfl | rfl | rfl | rfl | rfl | rfl | rfl | rfl | rfl
  · exact key (s.stack.getD 1 0 + s.stack.getD 0 0) (k32 (Sr.get q d + Sr.get q t)) (by rw [hx, hy])
  · exact key (s.stack.getD 1 0 - s.stack.getD 0 0) (k32 (Sr.get q d - Sr.get q t)) (by rw [hx, hy])
  · exact key (k32 (s.stack.getD 1 0 * s.stack.getD 0 0 / 64)) (k32 (k32 (Sr.get q d * Sr.get q t / 64))) (by rw [hx, hy])
  · exact key (k32 (divd (64 * s.stack.getD 1 0) (s.stack.getD 0 0))) (k32 (k32 (divd (64 * Sr.get q d) (Sr.get q t)))) (by rw [hx, hy])
  · exact key (min (s.stack.getD 1 0) (s.stack.getD 0 0)) (k32 (min (Sr.get q d) (Sr.get q t))) (by rw [hx, hy])
  · exact key (max (s.stack.getD 1 0) (s.stack.getD 0 0)) (k32 (max (Sr.get q d) (Sr.get q t))) (by rw [hx, hy])
  · exact key (truth (decide (s.stack.getD 1 0 < s.stack.getD 0 0))) (k32 (truth (decide (Sr.get q d < Sr.get q t)))) (by rw [hx, hy])
  · exact key (truth (decide (s.stack.getD 1 0 ≤ s.stack.getD 0 0))) (k32 (truth (decide (Sr.get q d ≤ Sr.get q t)))) (by rw [hx, hy])
  · exact key (truth (decide (s.stack.getD 1 0 = s.stack.getD 0 0))) (k32 (truth (decide (Sr.get q d = Sr.get q t)))) (by rw [hx, hy])
  · exact key (truth (decide (s.stack.getD 1 0 ≠ 0 ∧ s.stack.getD 0 0 ≠ 0))) (k32 (truth (decide (Sr.get q d ≠ 0 ∧ Sr.get q t ≠ 0)))) (by rw [hx, hy])
  · exact key (truth (decide (s.stack.getD 1 0 ≠ 0 ∨ s.stack.getD 0 0 ≠ 0))) (k32 (truth (decide (Sr.get q d ≠ 0 ∨ Sr.get q t ≠ 0)))) (by rw [hx, hy])
theorem sim_six {s : St} {q : Sr.St} (h : Sim s q) (op a : Int) (ho : (Sr.uses op).1 = 6) (hl : 2 ≤ s.stack.length) {d t : Int} (hd : d = (s.stack.length : Int) - 2) (ht : t = (s.stack.length : Int) - 1) : Sim (deed op a s) (Sr.deed ⟨op, 0, d, t, 0⟩ q) := by
  have hx := h.top ht (by omega)
  have hy := h.second hd hl
  have h1 := h.drop 2
  have hkp := deed_kp h.kp op a
  obtain ⟨regs, m, pc, st⟩ := q
  obtain ⟨o, rfl⟩ : ∃ o, m = core s o := h.co
  have hc : op = 26 ∨ op = 28 ∨ op = 31 ∨ op = 32 ∨ op = 33 := by
    unfold Sr.uses at ho
    repeat' split at ho
    all_goals first | omega | (exfalso; simp at ho)
  rcases hc with rfl | rfl | rfl | rfl | rfl
  · refine ⟨⟨o, ?_⟩, h1.rl, h1.stk, hkp⟩
    show ({ core s o with cvt := put_ s.cvt (Sr.get ⟨regs, core s o, pc, st⟩ d) (Sr.get ⟨regs, core s o, pc, st⟩ t) } : St) = core { s with stack := s.stack.drop 2, cvt := put_ s.cvt (s.stack.getD 1 0) (s.stack.getD 0 0) } o
    rw [hx, hy]
    rfl
  · refine ⟨⟨o, ?_⟩, h1.rl, h1.stk, hkp⟩
    show ({ core s o with store := put_ s.store (Sr.get ⟨regs, core s o, pc, st⟩ d) (Sr.get ⟨regs, core s o, pc, st⟩ t) } : St) = core { s with stack := s.stack.drop 2, store := put_ s.store (s.stack.getD 1 0) (s.stack.getD 0 0) } o
    rw [hx, hy]
    rfl
  · have e1 : deed 31 a s = if has s (s.stack.getD 1 0) then goes { s with stack := s.stack.drop 2 } (s.stack.getD 1 0).toNat s.move (coord s.move (s.cur.getD (s.stack.getD 1 0).toNat (0, 0)) + s.stack.getD 0 0) else { s with stack := s.stack.drop 2 } := rfl
    have e2 : Sr.deed ⟨31, 0, d, t, 0⟩ ⟨regs, core s o, pc, st⟩ = if has s (Sr.get ⟨regs, core s o, pc, st⟩ d) then ⟨regs, goes (core s o) (Sr.get ⟨regs, core s o, pc, st⟩ d).toNat s.move (coord s.move (s.cur.getD (Sr.get ⟨regs, core s o, pc, st⟩ d).toNat (0, 0)) + Sr.get ⟨regs, core s o, pc, st⟩ t), pc, st⟩ else ⟨regs, core s o, pc, st⟩ := rfl
    rw [e1] at hkp ⊢
    rw [e2, hx, hy]
    split at hkp
    · rename_i hh
      rw [if_pos hh, if_pos hh]
      exact ⟨⟨o, rfl⟩, h1.rl, h1.stk, hkp⟩
    · rename_i hh
      rw [if_neg hh, if_neg hh]
      exact h1
  · have e1 : deed 32 a s = if s.look = s.move ∧ has s (s.stack.getD 1 0) then goes { s with stack := s.stack.drop 2 } (s.stack.getD 1 0).toNat s.move (s.stack.getD 0 0) else { s with stack := s.stack.drop 2 } := rfl
    have e2 : Sr.deed ⟨32, 0, d, t, 0⟩ ⟨regs, core s o, pc, st⟩ = if s.look = s.move ∧ has s (Sr.get ⟨regs, core s o, pc, st⟩ d) then ⟨regs, goes (core s o) (Sr.get ⟨regs, core s o, pc, st⟩ d).toNat s.move (Sr.get ⟨regs, core s o, pc, st⟩ t), pc, st⟩ else ⟨regs, core s o, pc, st⟩ := rfl
    rw [e1] at hkp ⊢
    rw [e2, hx, hy]
    split at hkp
    · rename_i hh
      rw [if_pos hh, if_pos hh]
      exact ⟨⟨o, rfl⟩, h1.rl, h1.stk, hkp⟩
    · rename_i hh
      rw [if_neg hh, if_neg hh]
      exact h1
  · have e1 : deed 33 a s = if s.look = s.move ∧ has s (s.stack.getD 1 0) ∧ has s (s.stack.getD 0 0) then goes { s with stack := s.stack.drop 2 } (s.stack.getD 0 0).toNat s.move (coord s.move (s.cur.getD (s.stack.getD 1 0).toNat (0, 0))) else { s with stack := s.stack.drop 2 } := rfl
    have e2 : Sr.deed ⟨33, 0, d, t, 0⟩ ⟨regs, core s o, pc, st⟩ = if s.look = s.move ∧ has s (Sr.get ⟨regs, core s o, pc, st⟩ d) ∧ has s (Sr.get ⟨regs, core s o, pc, st⟩ t) then ⟨regs, goes (core s o) (Sr.get ⟨regs, core s o, pc, st⟩ t).toNat s.move (coord s.move (s.cur.getD (Sr.get ⟨regs, core s o, pc, st⟩ d).toNat (0, 0))), pc, st⟩ else ⟨regs, core s o, pc, st⟩ := rfl
    rw [e1] at hkp ⊢
    rw [e2, hx, hy]
    split at hkp
    · rename_i hh
      rw [if_pos hh, if_pos hh]
      exact ⟨⟨o, rfl⟩, h1.rl, h1.stk, hkp⟩
    · rename_i hh
      rw [if_neg hh, if_neg hh]
      exact h1
theorem sim_none {s : St} {q : Sr.St} (h : Sim s q) (op a : Int) (ho : op = 22 ∨ op = 23 ∨ op = 24 ∨ op = 34) : Sim (deed op a s) (Sr.deed ⟨op, 0, 0, 0, a⟩ q) := by
  have hkp := deed_kp h.kp op a
  obtain ⟨regs, m, pc, st⟩ := q
  obtain ⟨o, rfl⟩ : ∃ o, m = core s o := h.co
  rcases ho with rfl | rfl | rfl | rfl
  all_goals exact ⟨⟨o, rfl⟩, h.rl, h.stk, hkp⟩
def RGoes (code : List Sr.Reg) (n : Nat) (q q' : Sr.St) : Prop := (∀ m, Sr.runs (n + m) code q = Sr.runs m code q') ∧ q'.steps = q.steps + n ∧ q.pc + n ≤ q'.pc
theorem RGoes.refl (code : List Sr.Reg) (q : Sr.St) : RGoes code 0 q q := ⟨fun m => by rw [Nat.zero_add], rfl, Nat.le_refl _⟩
theorem RGoes.trans {code : List Sr.Reg} {n k : Nat} {q q1 q2 : Sr.St} (h : RGoes code n q q1) (g : RGoes code k q1 q2) : RGoes code (n + k) q q2 :=
  ⟨fun m => by rw [Nat.add_assoc, h.1, g.1], by rw [g.2.1, h.2.1, Nat.add_assoc], by have := h.2.2; have := g.2.2; omega⟩
def At (code : List Sr.Reg) (pc : Nat) (l : List Sr.Reg) : Prop := ∀ i r, l[i]? = some r → code[pc + i]? = some r
theorem At.left {code : List Sr.Reg} {pc : Nat} {a b : List Sr.Reg} (h : At code pc (a ++ b)) : At code pc a := fun i r hr => h i r (by rw [List.getElem?_append_left (List.getElem?_eq_some_iff.1 hr).1]; exact hr)
theorem At.right {code : List Sr.Reg} {pc : Nat} {a b : List Sr.Reg} (h : At code pc (a ++ b)) : At code (pc + a.length) b := fun i r hr => by
  rw [Nat.add_assoc]
  exact h (a.length + i) r (by rw [List.getElem?_append_right (by omega), Nat.add_sub_cancel_left]; exact hr)
theorem At.head {code : List Sr.Reg} {pc : Nat} {r : Sr.Reg} {b : List Sr.Reg} (h : At code pc (r :: b)) : code[pc]? = some r := h 0 r rfl
theorem At.tail {code : List Sr.Reg} {pc : Nat} {r : Sr.Reg} {b : List Sr.Reg} (h : At code pc (r :: b)) : At code (pc + 1) b := At.right (a := [r]) h
theorem At.flat {code : List Sr.Reg} {g : Nat → List Sr.Reg} {L : Nat} (hL : ∀ k, (g k).length = L) : ∀ (n pc : Nat), At code pc ((List.range n).flatMap g) → ∀ k, k < n → At code (pc + k * L) (g k) := by
  intro n
  induction n with
  | zero => intro pc _ k hk; omega
  | succ n ih =>
    intro pc h k hk
    rw [List.range_succ, List.flatMap_append] at h
    by_cases hkn : k < n
    · exact ih pc h.left k hkn
    · obtain rfl : k = n := by omega
      have h2 := h.right
      have hl : ((List.range k).flatMap g).length = k * L := by
        clear h h2 ih hk hkn
        induction k with
        | zero => simp
        | succ k ih => rw [List.range_succ, List.flatMap_append, List.length_append, ih, List.flatMap_singleton, hL, Nat.succ_mul]
      rw [hl, List.flatMap_singleton] at h2
      exact h2
theorem deed_flat {r : Sr.Reg} (h : Sr.leaps r.op = false) (q : Sr.St) : (Sr.deed r q).pc = q.pc ∧ (Sr.deed r q).steps = q.steps := by
  have n35 : ¬ r.op.toNat = 35 := fun e => by rw [show r.op = 35 by omega] at h; cases h
  have n36 : ¬ r.op.toNat = 36 := fun e => by rw [show r.op = 36 by omega] at h; cases h
  have n41 : ¬ r.op.toNat = 41 := fun e => by rw [show r.op = 41 by omega] at h; cases h
  clear h
  unfold Sr.deed
  split
  all_goals (simp only [Sr.put, Sr.pass]; refine ⟨?_, ?_⟩ <;> (repeat' split) <;> first | trivial | rfl | omega)
theorem run1 {code : List Sr.Reg} {q : Sr.St} {r : Sr.Reg} (h : code[q.pc]? = some r) (h42 : r.op ≠ 42) (m : Nat) : Sr.runs (1 + m) code q = Sr.runs m code (Sr.deed r { q with pc := q.pc + 1, steps := q.steps + 1 }) := by
  have hg : code.getD q.pc Sr.nop = r := by rw [List.getD_eq_getElem?_getD, h]; rfl
  rw [Nat.add_comm, Sr.runs, hg, if_neg h42]
  unfold Sr.step
  rw [hg]
theorem goes1 {code : List Sr.Reg} {q : Sr.St} {r : Sr.Reg} (h : code[q.pc]? = some r) (h42 : r.op ≠ 42) (hl : Sr.leaps r.op = false) : RGoes code 1 q (Sr.deed r { q with pc := q.pc + 1, steps := q.steps + 1 }) ∧ (Sr.deed r { q with pc := q.pc + 1, steps := q.steps + 1 }).pc = q.pc + 1 := by
  obtain ⟨h1, h2⟩ := deed_flat hl { q with pc := q.pc + 1, steps := q.steps + 1 }
  exact ⟨⟨run1 h h42, h2, by rw [h1]; exact Nat.le_refl _⟩, h1⟩
def Keep (n : Nat) (q q' : Sr.St) : Prop := ∀ i, i < n → q'.regs.getD (32 + i) 0 = q.regs.getD (32 + i) 0
theorem Keep.refl (n : Nat) (q : Sr.St) : Keep n q q := fun _ _ => rfl
theorem Keep.trans {n : Nat} {q q1 q2 : Sr.St} (h : Keep n q q1) (g : Keep n q1 q2) : Keep n q q2 := fun i hi => (g i hi).trans (h i hi)
theorem deed_regs (r : Sr.Reg) (q : Sr.St) : (Sr.deed r q).regs = q.regs ∨ ∃ v, (Sr.deed r q).regs = q.regs.set r.d.toNat v := by
  unfold Sr.deed
  split
  all_goals first
    | exact .inl rfl
    | exact .inr ⟨_, rfl⟩
    | (simp only [Sr.pass]; split <;> exact .inl rfl)
    | (simp only; split <;> exact .inl rfl)
theorem keep_deed {n : Nat} {r : Sr.Reg} (h : r.d.toNat < 32 ∨ 32 + n ≤ r.d.toNat) (q : Sr.St) (pc st : Nat) : Keep n q (Sr.deed r { q with pc := pc, steps := st }) := by
  intro i hi
  rcases deed_regs r { q with pc := pc, steps := st } with e | ⟨v, e⟩
  · rw [e]
  · rw [e]
    simp only [List.getD_eq_getElem?_getD, List.getElem?_set]
    rw [if_neg (by omega)]
end Sm
end Go.Proofs.YtnhebmgibiomnaaGreat
namespace Go.Proofs.YtnhebmgibiomnaaGreat
namespace Sm
open Mc Hd
theorem single {code : List Sr.Reg} {q : Sr.St} {r : Sr.Reg} {loops : Nat} {t : St} (hat : At code q.pc [r]) (h42 : r.op ≠ 42) (hl : Sr.leaps r.op = false) (hd : r.d.toNat < 32 ∨ 32 + loops ≤ r.d.toNat) (hs : ∀ pc st, Sim t (Sr.deed r { q with pc := pc, steps := st })) :
    ∃ n q', RGoes code n q q' ∧ q'.pc = q.pc + [r].length ∧ Sim t q' ∧ Keep loops q q' := by
  obtain ⟨h1, h2⟩ := goes1 hat.head h42 hl
  exact ⟨1, _, h1, h2, hs _ _, keep_deed hd q _ _⟩
theorem stepE_plain (es : List Bu.Emit) {op : Int} (a next loops : Int) (h : op ≠ 1 ∧ op ≠ 2 ∧ op ≠ 3 ∧ op ≠ 4 ∧ op ≠ 35 ∧ op ≠ 36 ∧ op ≠ 37 ∧ op ≠ 38 ∧ op ≠ 39) : Bu.stepE es (op, a) next loops = Bu.plainE (op, a) (next - 1) (next - 2) := by
  obtain ⟨h1, h2, h3, h4, h5, h6, h7, h8, h9⟩ := h
  unfold Bu.stepE
  simp only [h1, h2, h3, h4, h5, h6, h7, h8, h9, if_false]
theorem uses_of {op : Int} (h : 1 ≤ op ∧ op ≤ 39) (hn : op ≠ 1 ∧ op ≠ 2 ∧ op ≠ 3 ∧ op ≠ 4 ∧ op ≠ 35 ∧ op ≠ 36 ∧ op ≠ 37 ∧ op ≠ 38 ∧ op ≠ 39) :
    ((Sr.uses op).1 = 3 ∧ takes op = 1 ∧ leaves op = 1) ∨ ((Sr.uses op).1 = 7 ∧ takes op = 2 ∧ leaves op = 1) ∨ ((Sr.uses op).1 = 6 ∧ takes op = 2 ∧ leaves op = 0) ∨ ((op = 22 ∨ op = 23 ∨ op = 24 ∨ op = 34) ∧ (Sr.uses op).1 = 0 ∧ takes op = 0 ∧ leaves op = 0) := by
  have hc : op = 5 ∨ op = 6 ∨ op = 7 ∨ op = 8 ∨ op = 9 ∨ op = 10 ∨ op = 11 ∨ op = 12 ∨ op = 13 ∨ op = 14 ∨ op = 15 ∨ op = 16 ∨ op = 17 ∨ op = 18 ∨ op = 19 ∨ op = 20 ∨ op = 21 ∨ op = 22 ∨ op = 23 ∨ op = 24 ∨ op = 25 ∨ op = 26 ∨ op = 27 ∨ op = 28 ∨ op = 29 ∨ op = 30 ∨ op = 31 ∨ op = 32 ∨ op = 33 ∨ op = 34 := by omega
  clear h hn
  rcases hc with rfl | rfl | rfl | rfl | rfl | rfl | rfl | rfl | rfl | rfl | rfl | rfl | rfl | rfl | rfl | rfl | rfl | rfl | rfl | rfl | rfl | rfl | rfl | rfl | rfl | rfl | rfl | rfl | rfl | rfl
  all_goals decide
theorem leaps_not {op : Int} (h : op ≠ 35 ∧ op ≠ 36 ∧ op ≠ 41) : Sr.leaps op = false := by
  unfold Sr.leaps
  simp [h.1, h.2.1, h.2.2]
theorem stack_cons {s : St} (h : 1 ≤ s.stack.length) : s.stack = s.stack.getD 0 0 :: s.stack.drop 1 := by
  cases hs : s.stack with
  | nil => rw [hs] at h; simp at h
  | cons x r => rfl
theorem piece_sim {s : St} {q : Sr.St} {code : List Sr.Reg} {es : List Bu.Emit} (h : Sim s q) {op a : Int} (hop : 1 ≤ op ∧ op ≤ 39) (hc : op ≠ 35 ∧ op ≠ 36 ∧ op ≠ 37 ∧ op ≠ 38) (h1 : takes op ≤ s.stack.length) (h2 : s.stack.length + leaves op ≤ 32 + takes op) (hs : s.stack.length ≤ 32) (loops : Nat) (hl : loops ≤ 30) {next : Int} (hnx : next = (s.stack.length : Int)) (hat : At code q.pc (Bu.stepE es (op, a) next loops)) :
    ∃ n q', RGoes code n q q' ∧ q'.pc = q.pc + (Bu.stepE es (op, a) next loops).length ∧ Sim (deed op a s) q' ∧ Keep loops q q' := by
  obtain ⟨c35, c36, c37, c38⟩ := hc
  by_cases hb : op = 1 ∨ op = 2 ∨ op = 3 ∨ op = 4 ∨ op = 39
  · rcases hb with rfl | rfl | rfl | rfl | rfl
    · have hh : s.stack.length ≤ 31 := by
        have : takes 1 = 0 := rfl
        have : leaves 1 = 1 := rfl
        omega
      exact single hat (by simp) (leaps_not (by simp)) (.inl (by show next.toNat < 32; omega)) fun pc st => (h.go pc st).put a (k32 a) hnx (by omega) rfl
    · exact ⟨0, q, RGoes.refl _ _, rfl, h.drop 1, Keep.refl _ _⟩
    · have hh : s.stack.length ≤ 31 := by
        have : takes 3 = 1 := rfl
        have : leaves 3 = 2 := rfl
        omega
      have h1' : 1 ≤ s.stack.length := h1
      have e := stack_cons h1'
      refine single hat (by simp) (leaps_not (by simp)) (.inl (by show next.toNat < 32; omega)) fun pc st => ?_
      have := (h.go pc st).put (s.stack.getD 0 0) (k32 (Sr.get { q with pc := pc, steps := st } (next - 1))) hnx (by omega) (by rw [(h.go pc st).top (by omega) h1'])
      have e2 : deed 3 a s = { s with stack := k32 (s.stack.getD 0 0) :: s.stack } := by
        show ({ s with stack := k32 (s.stack.getD 0 0) :: k32 (s.stack.getD 0 0) :: s.stack.drop 1 } : St) = _
        rw [getD_F h.kp.stack 0, ← e]
      rw [e2]
      exact this
    · have h1' : 2 ≤ s.stack.length := h1
      obtain ⟨g1, p1⟩ := goes1 (q := q) hat.head (by simp) (leaps_not (by simp))
      generalize hq1 : Sr.deed ⟨40, 63, next - 1, 0, 0⟩ { q with pc := q.pc + 1, steps := q.steps + 1 } = q1 at *
      have hat2 : At code q1.pc [⟨40, next - 1, next - 2, 0, 0⟩, ⟨40, next - 2, 63, 0, 0⟩] := by rw [p1]; exact hat.tail
      obtain ⟨g2, p2⟩ := goes1 (q := q1) hat2.head (by simp) (leaps_not (by simp))
      generalize hq2 : Sr.deed ⟨40, next - 1, next - 2, 0, 0⟩ { q1 with pc := q1.pc + 1, steps := q1.steps + 1 } = q2 at *
      have hat3 : At code q2.pc [⟨40, next - 2, 63, 0, 0⟩] := by rw [p2]; exact hat2.tail
      obtain ⟨g3, p3⟩ := goes1 (q := q2) hat3.head (by simp) (leaps_not (by simp))
      have k1 : Keep loops q q1 := hq1 ▸ keep_deed (.inr (by show 32 + loops ≤ 63; omega)) q _ _
      have k2 : Keep loops q1 q2 := hq2 ▸ keep_deed (.inl (by show (next - 1).toNat < 32; omega)) q1 _ _
      refine ⟨1 + 1 + 1, _, (g1.trans g2).trans g3, by rw [p3, p2, p1]; rfl, ?_, (k1.trans k2).trans (keep_deed (.inl (by show (next - 2).toNat < 32; omega)) q2 _ _)⟩
      have hx := h.top (d := next - 1) (by omega) (by omega)
      have hy := h.second (d := next - 2) (by omega) h1'
      have e1 : q1 = { q with pc := q.pc + 1, steps := q.steps + 1, regs := q.regs.set 63 (k32 (s.stack.getD 0 0)) } := by
        rw [← hq1, ← hx]
        rfl
      have hx2 : Sr.get q1 (next - 2) = s.stack.getD 1 0 := by
        rw [← hy, e1]
        unfold Sr.get
        simp only [List.getD_eq_getElem?_getD, List.getElem?_set]
        rw [if_neg (by omega)]
      have e2 : q2 = { q1 with pc := q1.pc + 1, steps := q1.steps + 1, regs := q1.regs.set (next - 1).toNat (k32 (s.stack.getD 1 0)) } := by
        rw [← hq2, ← hx2]
        rfl
      have hx3 : Sr.get q2 63 = k32 (s.stack.getD 0 0) := by
        rw [e2, e1]
        unfold Sr.get
        simp only [List.getD_eq_getElem?_getD, List.getElem?_set, List.length_set, h.rl]
        rw [if_neg (by omega)]
        simp
      have hS1 : Sim { s with stack := s.stack.drop 2 } q1 := by
        rw [e1]
        have := ((h.drop 2).go (q.pc + 1) (q.steps + 1)).aside (k32 (s.stack.getD 0 0)) (d := 63) (by simp only [List.length_drop]; omega)
        exact this
      have hl2 : ((s.stack.drop 2).length : Int) = next - 2 := by simp only [List.length_drop]; omega
      have hS2 := (hS1.put (s.stack.getD 0 0) (k32 (k32 (s.stack.getD 0 0))) (d := next - 2) hl2.symm (by simp only [List.length_drop]; omega) (k32_F _)).put (s.stack.getD 1 0) (k32 (s.stack.getD 1 0)) (d := next - 1) (by simp only [List.length_cons]; omega) (by simp only [List.length_cons, List.length_drop]; omega) rfl
      have hfin : ({ q2 with pc := q2.pc + 1, steps := q2.steps + 1, regs := q2.regs.set (next - 2).toNat (k32 (Sr.get q2 63)) } : Sr.St) = { Sr.put (Sr.put q1 (next - 2) (k32 (k32 (s.stack.getD 0 0)))) (next - 1) (k32 (s.stack.getD 1 0)) with pc := q2.pc + 1, steps := q2.steps + 1 } := by
        rw [hx3, e2]
        simp only [Sr.put]
        rw [List.set_comm _ _ (by omega)]
      have hgoal : Sr.deed ⟨40, next - 2, 63, 0, 0⟩ { q2 with pc := q2.pc + 1, steps := q2.steps + 1 } = { q2 with pc := q2.pc + 1, steps := q2.steps + 1, regs := q2.regs.set (next - 2).toNat (k32 (Sr.get q2 63)) } := rfl
      rw [hgoal, hfin]
      exact hS2.go _ _
    · have hh : s.stack.length ≤ 31 := by
        have : takes 39 = 0 := rfl
        have : leaves 39 = 1 := rfl
        omega
      obtain ⟨o, ho⟩ := h.co
      refine single hat (by simp) (leaps_not (by simp)) (.inl (by show next.toNat < 32; omega)) fun pc st => (h.go pc st).put s.size q.m.size hnx (by omega) ?_
      rw [ho]
      exact h.kp.size.symm
  · have hn : op ≠ 1 ∧ op ≠ 2 ∧ op ≠ 3 ∧ op ≠ 4 ∧ op ≠ 35 ∧ op ≠ 36 ∧ op ≠ 37 ∧ op ≠ 38 ∧ op ≠ 39 := by omega
    have hlp : Sr.leaps op = false := leaps_not (by omega)
    rw [stepE_plain es a next loops hn] at hat ⊢
    unfold Bu.plainE at hat ⊢
    simp only at hat ⊢
    rcases uses_of hop hn with ⟨hu, ht, _⟩ | ⟨hu, ht, _⟩ | ⟨hu, ht, _⟩ | ⟨ho, hu, ht, _⟩
    · rw [if_pos hu] at hat ⊢
      exact single hat (by show op ≠ 42; omega) hlp (.inl (by show (next - 1).toNat < 32; omega)) fun pc st => sim_one (h.go pc st) op a hu (by omega) (by omega) hs (by omega)
    · rw [if_neg (by omega), if_pos hu] at hat ⊢
      exact single hat (by show op ≠ 42; omega) hlp (.inl (by show (next - 2).toNat < 32; omega)) fun pc st => sim_two (h.go pc st) op a hu (by omega) hs (by omega) (by omega)
    · rw [if_neg (by omega), if_neg (by omega), if_pos hu] at hat ⊢
      exact single hat (by show op ≠ 42; omega) hlp (.inl (by show (0 : Int).toNat < 32; decide)) fun pc st => sim_six (h.go pc st) op a hu (by omega) (by omega) (by omega)
    · rw [if_neg (by omega), if_neg (by omega), if_neg (by omega)] at hat ⊢
      exact single hat (by show op ≠ 42; omega) hlp (.inl (by show (0 : Int).toNat < 32; decide)) fun pc st => sim_none (h.go pc st) op a ho
theorem goes_jump {code : List Sr.Reg} {q : Sr.St} {n : Int} (h : code[q.pc]? = some ⟨35, 0, 0, 0, n⟩) : RGoes code 1 q { q with pc := q.pc + 1 + n.toNat, steps := q.steps + 1 } :=
  ⟨run1 h (by simp), rfl, by show q.pc + 1 ≤ q.pc + 1 + n.toNat; omega⟩
theorem goes_jumpZ {code : List Sr.Reg} {q : Sr.St} {a n : Int} (h : code[q.pc]? = some ⟨36, 0, a, 0, n⟩) : RGoes code 1 q { q with pc := if Sr.get q a = 0 then q.pc + 1 + n.toNat else q.pc + 1, steps := q.steps + 1 } := by
  have e : Sr.deed ⟨36, 0, a, 0, n⟩ { q with pc := q.pc + 1, steps := q.steps + 1 } = { q with pc := if Sr.get q a = 0 then q.pc + 1 + n.toNat else q.pc + 1, steps := q.steps + 1 } := by
    show Sr.pass _ n (decide (Sr.get q a = 0)) = _
    unfold Sr.pass
    by_cases hz : Sr.get q a = 0 <;> simp [hz]
  refine ⟨fun m => by rw [run1 h (by show (36 : Int) ≠ 42; decide), e], rfl, ?_⟩
  show q.pc + 1 ≤ if Sr.get q a = 0 then q.pc + 1 + n.toNat else q.pc + 1
  split <;> omega
theorem goes_pass {code : List Sr.Reg} {q : Sr.St} {a b n : Int} (h : code[q.pc]? = some ⟨41, 0, a, b, n⟩) : RGoes code 1 q { q with pc := if Sr.get q a ≤ b then q.pc + 1 + n.toNat else q.pc + 1, steps := q.steps + 1 } := by
  have e : Sr.deed ⟨41, 0, a, b, n⟩ { q with pc := q.pc + 1, steps := q.steps + 1 } = { q with pc := if Sr.get q a ≤ b then q.pc + 1 + n.toNat else q.pc + 1, steps := q.steps + 1 } := by
    show Sr.pass _ n (decide (Sr.get q a ≤ b)) = _
    unfold Sr.pass
    by_cases hz : Sr.get q a ≤ b <;> simp [hz]
  refine ⟨fun m => by rw [run1 h (by show (41 : Int) ≠ 42; decide), e], rfl, ?_⟩
  show q.pc + 1 ≤ if Sr.get q a ≤ b then q.pc + 1 + n.toNat else q.pc + 1
  split <;> omega
def GoodS (fl : List (List (Int × Int))) (code : List Sr.Reg) (es : List Bu.Emit) (j : Nat) (c : Bd.Cost) : Prop :=
  ∀ (s : St) (m : Nat) (r : List Fm) (q : Sr.St) (loops : Nat), s.frames = ⟨fl.getD j [], 0, m⟩ :: r → s.ended = false → s.err = 0 → s.funcs = fl → c.need ≤ s.stack.length → s.stack.length + c.peak ≤ 32 → r.length + 1 + j ≤ 21 → loops ≤ r.length → Sim s q → At code q.pc (Bu.em es j s.stack.length loops) →
    ∃ k t n q', Goes k s t ∧ Out s t k (⟨fl.getD j [], (fl.getD j []).length, m⟩ :: r) (s.stack.length + c.peak) ∧ (t.stack.length : Int) = s.stack.length + c.delta ∧ (k : Int) ≤ c.steps ∧ RGoes code n q q' ∧ q'.pc = q.pc + (Bu.em es j s.stack.length loops).length ∧ Sim t q' ∧ Keep loops q q'
theorem settle_next {l : List (Int × Int)} {m : Nat} {r : List Fm} : settle (⟨l, 0, m⟩ :: r) = settle (⟨l, l.length, m + 1⟩ :: r) := by
  by_cases h : 0 < l.length
  · exact (settle_again h).symm
  · obtain rfl : l = [] := List.length_eq_zero_iff.1 (by omega)
    rw [settle_empty]
    exact (settle_empty (m := m + 1)).symm
theorem far_end (k L : Nat) (hk : k < 16) : k * (1 + L) + 1 + ((16 - (k : Int)) * (1 + (L : Int)) - 1).toNat = 16 * (1 + L) := by
  have h : k = 0 ∨ k = 1 ∨ k = 2 ∨ k = 3 ∨ k = 4 ∨ k = 5 ∨ k = 6 ∨ k = 7 ∨ k = 8 ∨ k = 9 ∨ k = 10 ∨ k = 11 ∨ k = 12 ∨ k = 13 ∨ k = 14 ∨ k = 15 := by omega
  rcases h with rfl | rfl | rfl | rfl | rfl | rfl | rfl | rfl | rfl | rfl | rfl | rfl | rfl | rfl | rfl | rfl <;> omega
theorem loop_sim {fl : List (List (Int × Int))} {code : List Sr.Reg} {es : List Bu.Emit} {j : Nat} {c : Bd.Cost} (hg : GoodS fl code es j c) (hd : c.delta = 0) (loops : Nat) (x : Int) (pc0 L h : Nat) (hL : (Bu.em es j h ((loops : Int) + 1)).length = L)
    (hat : ∀ i : Nat, i < 16 → At code (pc0 + i * (1 + L)) (⟨41, 0, 32 + (loops : Int), (i : Int), (16 - (i : Int)) * (1 + (L : Int)) - 1⟩ :: Bu.em es j h ((loops : Int) + 1))) :
    ∀ (mm k : Nat) (s : St) (r : List Fm) (q : Sr.St), min x 16 = (k : Int) + mm + 1 → s.stack.length = h → s.frames = ⟨fl.getD j [], 0, mm⟩ :: r → s.ended = false → s.err = 0 → s.funcs = fl → c.need ≤ s.stack.length → s.stack.length + c.peak ≤ 32 → r.length + 1 + j ≤ 21 → loops + 1 ≤ r.length → Sim s q → q.pc = pc0 + k * (1 + L) → q.regs.getD (32 + loops) 0 = x →
    ∃ kk t n q', Goes kk s t ∧ Out s t kk r (s.stack.length + c.peak) ∧ t.stack.length = s.stack.length ∧ (kk : Int) ≤ (mm + 1) * c.steps ∧ RGoes code n q q' ∧ q'.pc = pc0 + 16 * (1 + L) ∧ Sim t q' ∧ Keep loops q q' := by
  intro mm
  induction mm with
  | zero =>
    intro k s r q hx hh h1 h2 h3 h4 h5 h6 h7 h8 hS hpc hcn
    have hk : k < 16 := by omega
    have ha := hat k hk
    rw [← hpc] at ha
    have hget : Sr.get q (32 + (loops : Int)) = x := by unfold Sr.get; rw [show (32 + (loops : Int)).toNat = 32 + loops by omega]; exact hcn
    have g1 := goes_pass ha.head
    rw [hget, if_neg (by omega)] at g1
    have ha2 : At code (q.pc + 1) (Bu.em es j s.stack.length ((loops + 1 : Nat) : Int)) := by rw [hh]; exact ha.tail
    obtain ⟨k1, t, n, q', e1, e2, e3, e4, e5, e6, e7, e8⟩ := hg s 0 r { q with pc := q.pc + 1, steps := q.steps + 1 } (loops + 1) h1 h2 h3 h4 h5 h6 h7 h8 (hS.go _ _) ha2
    obtain ⟨a, b⟩ := e2.left (Y := r) settle_end.symm
    have hS' : Sim { t with frames := r } q' := e7.eqv t.funcs r t.steps t.peak t.ended t.err
    have hk8 : Keep loops q q' := fun i hi => e8 i (by omega)
    rw [hh] at e6
    have hpc2 : q'.pc = pc0 + (k + 1) * (1 + L) := by
      rw [e6, Nat.succ_mul]
      show q.pc + 1 + (Bu.em es j h ((loops : Int) + 1)).length = _
      rw [hL, hpc]
      omega
    have hsl : (t.stack.length : Int) = s.stack.length := by omega
    by_cases hk1 : k + 1 < 16
    · have ha3 := hat (k + 1) hk1
      rw [← hpc2] at ha3
      have hget2 : Sr.get q' (32 + (loops : Int)) = x := by
        unfold Sr.get
        rw [show (32 + (loops : Int)).toNat = 32 + loops by omega, e8 loops (by omega)]
        exact hcn
      have g2 := goes_pass ha3.head
      rw [hget2, if_pos (by omega)] at g2
      have hfar := far_end (k + 1) L hk1
      refine ⟨k1, _, _, _, e1.eqv a, b, by simp only; omega, by simpa using e4, (g1.trans e5).trans g2, ?_, hS'.go _ _, hk8⟩
      simp only
      rw [hpc2]
      omega
    · refine ⟨k1, _, _, _, e1.eqv a, b, by simp only; omega, by simpa using e4, g1.trans e5, ?_, hS', hk8⟩
      rw [hpc2]
      obtain rfl : k = 15 := by omega
      rfl
  | succ mm ih =>
    intro k s r q hx hh h1 h2 h3 h4 h5 h6 h7 h8 hS hpc hcn
    have hk : k < 16 := by omega
    have ha := hat k hk
    rw [← hpc] at ha
    have hget : Sr.get q (32 + (loops : Int)) = x := by unfold Sr.get; rw [show (32 + (loops : Int)).toNat = 32 + loops by omega]; exact hcn
    have g1 := goes_pass ha.head
    rw [hget, if_neg (by omega)] at g1
    have ha2 : At code (q.pc + 1) (Bu.em es j s.stack.length ((loops + 1 : Nat) : Int)) := by rw [hh]; exact ha.tail
    obtain ⟨k1, t, n, q', e1, e2, e3, e4, e5, e6, e7, e8⟩ := hg s (mm + 1) r { q with pc := q.pc + 1, steps := q.steps + 1 } (loops + 1) h1 h2 h3 h4 h5 h6 h7 h8 (hS.go _ _) ha2
    obtain ⟨a, b⟩ := e2.left (Y := ⟨fl.getD j [], 0, mm⟩ :: r) settle_next
    have hS' : Sim { t with frames := ⟨fl.getD j [], 0, mm⟩ :: r } q' := e7.eqv t.funcs (⟨fl.getD j [], 0, mm⟩ :: r) t.steps t.peak t.ended t.err
    have hk8 : Keep loops q q' := fun i hi => e8 i (by omega)
    rw [hh] at e6
    have hpc2 : q'.pc = pc0 + (k + 1) * (1 + L) := by
      rw [e6, Nat.succ_mul]
      show q.pc + 1 + (Bu.em es j h ((loops : Int) + 1)).length = _
      rw [hL, hpc]
      omega
    have hsl : (t.stack.length : Int) = s.stack.length := by omega
    have hms : (((mm + 1 : Nat) : Int) + 1) * c.steps = ((mm : Int) + 1) * c.steps + c.steps := by rw [Int.add_mul]; simp
    obtain ⟨k', t', n', q2, f1, f2, f3, f4, f5, f6, f7, f8⟩ := ih (k + 1) { t with frames := ⟨fl.getD j [], 0, mm⟩ :: r } r q' (by omega) (by simp only; omega) rfl e2.en e2.er (e2.fu.trans h4) (by simp only; omega) (by simp only; omega) h7 h8 hS' hpc2 (by rw [e8 loops (by omega)]; exact hcn)
    exact ⟨k1 + k', t', _, q2, (e1.eqv a).trans f1, b.trans f2 (Int.le_refl _) (by simp only; omega), by rw [f3]; simp only; omega, by rw [hms]; omega, (g1.trans e5).trans f5, f6, f7, hk8.trans f8⟩
end Sm
end Go.Proofs.YtnhebmgibiomnaaGreat

/- Parts of the proof, joined: HdS Holds BuM BuO. -/
import Derived.Test.YtnhebmgibiomnaaGreatPa0
set_option linter.unusedVariables false
set_option linter.unusedSimpArgs false
namespace Go.Proofs.YtnhebmgibiomnaaGreat
namespace Hd
open Mc
def Same (s t : St) : Prop := t.funcs = s.funcs ∧ t.ended = s.ended ∧ t.err = s.err ∧ t.steps = s.steps ∧ t.peak = s.peak
theorem deed_same (op a : Int) (s : St) : Same s (deed op a s) := by
  unfold deed
  simp only
  split <;> (first | exact ⟨rfl, rfl, rfl, rfl, rfl⟩ | skip)
  all_goals (try unfold pass)
  all_goals (try unfold call)
  all_goals (repeat' split)
  all_goals exact ⟨rfl, rfl, rfl, rfl, rfl⟩
end Hd
end Go.Proofs.YtnhebmgibiomnaaGreat
namespace Go.Proofs.YtnhebmgibiomnaaGreat
namespace Hd
open Mc
def Ext (at_ : Nat) (pl P : List Bd.Place) : Prop :=
  (∀ i : Nat, i ≤ at_ → Bd.pat P i = Bd.pat pl i) ∧ ∀ i : Nat, (Bd.pat pl i).known = true → (Bd.pat P i).known = true ∧ (Bd.pat P i).high = (Bd.pat pl i).high ∧ (Bd.pat pl i).steps ≤ (Bd.pat P i).steps
structure StepOK (n : Nat) (fs : List Bd.Cost) (P : List Bd.Place) (need peak : Int) (at_ : Nat) (x : Int × Int) : Prop where
  al : Bd.always n fs.length at_ x = 0
  kn : (Bd.pat P at_).known = true → (Bd.effect fs (Bd.pat P at_) x).need ≤ need ∧ (Bd.effect fs (Bd.pat P at_) x).peak ≤ peak ∧ (x.1 = 38 → (Bd.fn fs x.2).delta = 0) ∧
    ∀ t ∈ Bd.ways at_ x, (Bd.pat P t).known = true ∧ (Bd.pat P t).high = (Bd.effect fs (Bd.pat P at_) x).high ∧ (Bd.effect fs (Bd.pat P at_) x).steps ≤ (Bd.pat P t).steps
structure Tab (n : Nat) (fs : List Bd.Cost) (l : List (Int × Int)) (c : Bd.Cost) (P : List Bd.Place) : Prop where
  p0 : (Bd.pat P 0).known = true ∧ (Bd.pat P 0).high = 0 ∧ (Bd.pat P 0).steps = 0
  ok : ∀ (i : Nat) x, l[i]? = some x → StepOK n fs P c.need c.peak i x
  de : c.delta = (Bd.pat P n).high
  st : c.steps = (Bd.pat P n).steps
  n0 : 0 ≤ c.need
  k0 : 0 ≤ c.peak
  n1 : c.need ≤ 32
  k1 : c.peak ≤ 32
  s1 : c.steps ≤ 4096
theorem pat_set {pl : List Bd.Place} {t i : Nat} {q : Bd.Place} (h : t < pl.length) : Bd.pat (pl.set t q) i = if i = t then q else Bd.pat pl i := by
  unfold Bd.pat
  rw [List.getD_eq_getElem?_getD, List.getD_eq_getElem?_getD, Int.toNat_natCast, List.getElem?_set]
  by_cases hi : i = t
  · subst hi; simp [h]
  · rw [if_neg (fun e => hi e.symm), if_neg hi]
theorem ways_nat {n nf at_ : Nat} {x : Int × Int} (h : Bd.always n nf at_ x = 0) (ha : at_ < n) : ∀ t ∈ Bd.ways at_ x, ∃ m : Nat, t = m ∧ at_ < m ∧ m ≤ n := by
  intro t ht
  unfold Bd.ways at ht
  simp only [List.mem_append] at ht
  rcases ht with ht | ht
  · split at ht
    · simp at ht
    · simp at ht; exact ⟨at_ + 1, by omega, by omega, by omega⟩
  · split at ht
    · rename_i hj
      simp at ht
      unfold Bd.always at h
      split at h
      · simp at h
      · split at h
        · simp at h
        · rename_i hk
          have : 0 ≤ x.2 ∧ x.2 ≤ (n : Int) - 1 - at_ := by
            by_cases hh : 0 ≤ x.2 ∧ x.2 ≤ (n : Int) - 1 - at_
            · exact hh
            · exact absurd ⟨hj, hh⟩ hk
          exact ⟨(at_ + 1 + x.2).toNat, by omega, by omega, by omega⟩
    · simp at ht
theorem marks {n : Nat} {e : Bd.Eff} : ∀ (ts : List Int) (pl : List Bd.Place), pl.length = n + 1 → (∀ t ∈ ts, ∃ m : Nat, t = m ∧ m ≤ n) →
    (ts.foldl (Bd.mark e) pl).length = n + 1 ∧
    (∀ i : Nat, (i : Int) ∉ ts → Bd.pat (ts.foldl (Bd.mark e) pl) i = Bd.pat pl i) ∧
    (∀ i : Nat, (i : Int) ∈ ts → (Bd.pat (ts.foldl (Bd.mark e) pl) i).known = true ∧ (Bd.pat (ts.foldl (Bd.mark e) pl) i).high = e.high ∧ e.steps ≤ (Bd.pat (ts.foldl (Bd.mark e) pl) i).steps) ∧
    (∀ i : Nat, (Bd.pat pl i).steps ≤ (Bd.pat (ts.foldl (Bd.mark e) pl) i).steps) := by
  intro ts
  induction ts with
  | nil => intro pl hl _; exact ⟨hl, fun _ _ => rfl, fun i hi => by simp at hi, fun _ => Int.le_refl _⟩
  | cons t r ih =>
    intro pl hl ht
    obtain ⟨m, rfl, hm⟩ := ht t (by simp)
    have hml : m < pl.length := by omega
    have hmk : Bd.mark e pl (m : Int) = pl.set m ⟨true, e.high, max (Bd.pat pl m).steps e.steps⟩ := by unfold Bd.mark; rw [Int.toNat_natCast]
    obtain ⟨a1, a2, a3, a4⟩ := ih (Bd.mark e pl m) (by rw [hmk]; simpa using hl) (fun t h => ht t (by simp [h]))
    simp only [List.foldl_cons]
    refine ⟨a1, fun i hi => ?_, fun i hi => ?_, fun i => ?_⟩
    · simp only [List.mem_cons, not_or] at hi
      rw [a2 i hi.2, hmk, pat_set hml, if_neg (by omega)]
    · by_cases hr : (i : Int) ∈ r
      · exact a3 i hr
      · have him : i = m := by
          simp only [List.mem_cons] at hi
          rcases hi with h | h
          · omega
          · exact absurd h hr
        rw [a2 i hr, hmk, pat_set hml, if_pos him]
        exact ⟨rfl, rfl, Int.le_max_right _ _⟩
    · refine Int.le_trans ?_ (a4 i)
      rw [hmk, pat_set hml]
      split
      · rename_i h; subst h; exact Int.le_max_left _ _
      · exact Int.le_refl _
theorem rest_sound (n : Nat) (fs : List Bd.Cost) : ∀ (r : List (Int × Int)) (at_ : Nat) (s : Bd.St) (c : Bd.Cost), Bd.rest n fs r at_ s = (c, 0, 0) → s.pl.length = n + 1 → at_ + r.length = n →
    ∃ P, Ext at_ s.pl P ∧ (∀ (i : Nat) x, r[i]? = some x → StepOK n fs P c.need c.peak (at_ + i) x) ∧ c.delta = (Bd.pat P n).high ∧ c.steps = (Bd.pat P n).steps ∧ s.need ≤ c.need ∧ s.peak ≤ c.peak ∧ c.delta = (Bd.pat P n).high := by
  intro r
  induction r with
  | nil =>
    intro at_ s c h hl hn
    unfold Bd.rest at h
    simp at h hn
    subst h
    refine ⟨s.pl, ⟨fun _ _ => rfl, fun i hi => ⟨hi, rfl, Int.le_refl _⟩⟩, fun i x hx => by simp at hx, ?_, ?_, Int.le_refl _, Int.le_refl _, ?_⟩ <;> simp only [hn]
  | cons x r ih =>
    intro at_ s c h hl hn
    unfold Bd.rest at h
    simp at hn
    split at h
    · rename_i hne
      simp at h
      exact absurd h.2.2 hne
    · rename_i hz
      have hz : (Bd.look n fs s at_ x).1 = 0 := by omega
      have hat : at_ < n := by omega
      unfold Bd.look at h hz
      split at hz
      · rename_i h1; exact absurd hz h1
      · rename_i h1
        rw [if_neg h1] at h
        have hal : Bd.always n fs.length at_ x = 0 := by omega
        have hw := ways_nat hal hat
        split at hz
        · rename_i h2
          rw [if_pos h2] at h
          obtain ⟨P, ⟨e1, e2⟩, b, c1, c2, c3, c4, c5⟩ := ih (at_ + 1) s c (by simpa using h) hl (by omega)
          refine ⟨P, ⟨fun i hi => e1 i (by omega), e2⟩, fun i y hy => ?_, c1, c2, c3, c4, c5⟩
          cases i with
          | zero =>
            simp at hy
            subst hy
            refine ⟨hal, fun hk => ?_⟩
            rw [Nat.add_zero, e1 at_ (by omega), h2] at hk
            cases hk
          | succ i =>
            have := b i y (by simpa using hy)
            rw [show at_ + (i + 1) = at_ + 1 + i by omega]
            exact this
        · rename_i h2
          rw [if_neg h2] at h
          have hk : (Bd.pat s.pl at_).known = true := by simpa using h2
          simp only at h hz
          generalize he : Bd.effect fs (Bd.pat s.pl at_) x = e at *
          split at hz
          · rename_i h3; exact absurd hz h3
          · rename_i h3
            rw [if_neg h3] at h
            have hre : Bd.reached fs s.pl (max s.need e.need) (max s.peak e.peak) at_ x e = 0 := by omega
            have hd : (x.1 = 38 → (Bd.fn fs x.2).delta = 0) ∧ Bd.agrees s.pl at_ x e.high = true := by
              unfold Bd.reached at hre
              split at hre
              · simp at hre
              · rename_i q1
                split at hre
                · simp at hre
                · split at hre
                  · simp at hre
                  · rename_i q2
                    exact ⟨fun hx => by
                      by_cases hh : (Bd.fn fs x.2).delta = 0
                      · exact hh
                      · exact absurd ⟨hx, hh⟩ q1, by simpa using q2⟩
            have hag : ∀ t ∈ Bd.ways at_ x, (Bd.pat s.pl t).known = true → (Bd.pat s.pl t).high = e.high := fun t ht hk => by
              have := List.all_eq_true.1 hd.2 t ht
              unfold Bd.agree1 at this
              rw [hk] at this
              simpa using this
            obtain ⟨m1, m2, m3, m4⟩ := marks (e := e) (Bd.ways at_ x) s.pl hl (fun t ht => by obtain ⟨m, q, _, q2⟩ := hw t ht; exact ⟨m, q, q2⟩)
            generalize hpl : (Bd.ways at_ x).foldl (Bd.mark e) s.pl = pl' at *
            obtain ⟨P, ⟨e1, e2⟩, b, c1, c2, c3, c4, c5⟩ := ih (at_ + 1) ⟨pl', max s.need e.need, max s.peak e.peak⟩ c (by simpa using h) m1 (by omega)
            simp only at e1 e2 c3 c4
            have hle : ∀ i : Nat, i ≤ at_ → (i : Int) ∉ Bd.ways at_ x := fun i hi hm => by obtain ⟨m, q, q1, _⟩ := hw i hm; omega
            have hext : Ext at_ s.pl P := by
              refine ⟨fun i hi => by rw [e1 i (by omega), m2 i (hle i hi)], fun i hi => ?_⟩
              by_cases hm : (i : Int) ∈ Bd.ways at_ x
              · obtain ⟨k1, k2, k3⟩ := m3 i hm
                obtain ⟨k4, k5, k6⟩ := e2 i k1
                exact ⟨k4, by rw [k5, k2, hag i hm hi], Int.le_trans (m4 i) k6⟩
              · have q := m2 i hm
                obtain ⟨k4, k5, k6⟩ := e2 i (by rw [q]; exact hi)
                rw [q] at k5 k6
                exact ⟨k4, k5, k6⟩
            refine ⟨P, hext, fun i y hy => ?_, c1, c2, by omega, by omega, c5⟩
            cases i with
            | zero =>
              simp at hy
              subst hy
              rw [Nat.add_zero]
              refine ⟨hal, fun _ => ?_⟩
              rw [hext.1 at_ (Nat.le_refl _), he]
              refine ⟨by omega, by omega, hd.1, fun t ht => ?_⟩
              obtain ⟨m, rfl, _, _⟩ := hw t ht
              obtain ⟨k1, k2, k3⟩ := m3 m ht
              obtain ⟨k4, k5, k6⟩ := e2 m k1
              exact ⟨k4, by rw [k5, k2], Int.le_trans k3 k6⟩
            | succ i =>
              have := b i y (by simpa using hy)
              rw [show at_ + (i + 1) = at_ + 1 + i by omega]
              exact this
theorem rest_bds (n : Nat) (fs : List Bd.Cost) (hf : fs.all Bd.mayBe = true) : ∀ (r : List (Int × Int)) (at_ : Int) (s : Bd.St) (c : Bd.Cost), Bd.rest n fs r at_ s = (c, 0, 0) → Bd.Ok n s → c.need ≤ 32 ∧ c.peak ≤ 32 ∧ 0 ≤ c.steps ∧ c.steps ≤ 4096 ∧ c.delta ≤ 32 := by
  intro r
  induction r with
  | nil =>
    intro at_ s c h hs
    unfold Bd.rest at h
    simp at h
    have hp := Bd.pat_bd hs at_
    unfold Bd.okP at hp
    have h1 := hs.need
    have h2 := hs.peak
    subst h
    exact ⟨h1.2, h2.2, hp.2.2.1, hp.2.2.2, hp.2.1⟩
  | cons x r ih =>
    intro at_ s c h hs
    unfold Bd.rest at h
    split at h
    · rename_i hne
      simp at h
      exact absurd h.2.2 hne
    · rename_i hz
      exact ih _ _ c h (Bd.look_ok hf hs (by omega))
theorem code_tab {l : List (Int × Int)} {fs : List Bd.Cost} {c : Bd.Cost} (h : Bd.code l fs = (c, 0, 0)) : ∃ P, Tab l.length fs l c P := by
  unfold Bd.code at h
  split at h
  · rename_i hf
    obtain ⟨P, ⟨e1, e2⟩, b, c1, c2, c3, c4, _⟩ := rest_sound l.length fs l 0 (Bd.start l.length) c h (by simp [Bd.start]) (by simp)
    obtain ⟨d1, d2, d3, d4, _⟩ := rest_bds l.length fs hf l 0 (Bd.start l.length) c h (Bd.start_ok _)
    refine ⟨P, ?_, fun i x hx => by have := b i x hx; rwa [Nat.zero_add] at this, c1, c2, c3, c4, d1, d2, d4⟩
    have := e1 0 (Nat.le_refl _)
    rw [show ((0 : Nat) : Int) = 0 from rfl] at this
    rw [this]
    exact ⟨rfl, rfl, rfl⟩
  · simp at h
def Eqv (s t : St) : Prop := s.ended = false ∧ ∃ X, t = { s with frames := X } ∧ settle X = settle s.frames
theorem Eqv.refl {s : St} (h : s.ended = false) : Eqv s s := ⟨h, s.frames, rfl, rfl⟩
theorem Eqv.trans {s t u : St} (h : Eqv s t) (k : Eqv t u) : Eqv s u := by
  obtain ⟨h1, X, rfl, hX⟩ := h
  obtain ⟨_, Y, rfl, hY⟩ := k
  exact ⟨h1, Y, rfl, hY.trans hX⟩
theorem next_eqv {s t : St} (h : Eqv s t) : next t = next s := by
  obtain ⟨h1, X, rfl, hX⟩ := h
  unfold next
  simp only [h1, hX]
  rfl
theorem step_eqv {s t : St} (h : Eqv s t) : Mc.step t = Mc.step s := by unfold Mc.step; rw [next_eqv h]
def Goes (k : Nat) (s t : St) : Prop := ∃ u, Mc.steps k s = (u, true) ∧ Eqv u t
theorem steps_add : ∀ (k j : Nat) (s u : St), Mc.steps k s = (u, true) → Mc.steps (k + j) s = Mc.steps j u
  | 0, j, s, u, h => by
    rw [Mc.steps] at h
    injection h with h1 _
    rw [h1, Nat.zero_add]
  | k + 1, j, s, u, h => by
    rw [show k + 1 + j = (k + j) + 1 by omega]
    rw [Mc.steps] at h ⊢
    rcases hs : Mc.step s with ⟨s', b⟩
    rw [hs] at h
    cases b with
    | true => exact steps_add k j s' u h
    | false => simp at h
theorem Goes.trans {k j : Nat} {s t v : St} (h : Goes k s t) (g : Goes j t v) : Goes (k + j) s v := by
  obtain ⟨u, h1, h2⟩ := h
  obtain ⟨x, g1, g2⟩ := g
  cases j with
  | zero =>
    rw [Mc.steps] at g1
    injection g1 with e _
    subst e
    exact ⟨u, h1, h2.trans g2⟩
  | succ j =>
    refine ⟨x, ?_, g2⟩
    rw [steps_add k (j + 1) s u h1, ← g1, Mc.steps, Mc.steps, step_eqv h2]
theorem Goes.one {s t : St} (h : Mc.step s = (t, true)) (he : t.ended = false) : Goes 1 s t := ⟨t, by rw [Mc.steps, h]; rfl, Eqv.refl he⟩
structure Out (s t : St) (k : Nat) (X : List Fm) (top : Int) : Prop where
  fr : t.frames = X
  en : t.ended = false
  er : t.err = 0
  fu : t.funcs = s.funcs
  st : t.steps = s.steps + k
  pk : (t.peak : Int) ≤ max (s.peak : Int) top
theorem Out.trans {s t u : St} {k j : Nat} {X Y : List Fm} {a b c : Int} (h : Out s t k X a) (g : Out t u j Y b) (ha : a ≤ c) (hb : b ≤ c) : Out s u (k + j) Y c :=
  ⟨g.fr, g.en, g.er, g.fu.trans h.fu, by rw [g.st, h.st]; omega, by have h1 := h.pk; have h2 := g.pk; omega⟩
theorem Out.left {s t : St} {k : Nat} {X Y : List Fm} {a : Int} (h : Out s t k X a) (hs : settle Y = settle X) : Eqv t { t with frames := Y } ∧ Out s { t with frames := Y } k Y a :=
  ⟨⟨h.en, Y, rfl, by rw [h.fr, hs]⟩, rfl, h.en, h.er, h.fu, h.st, h.pk⟩
theorem always_ok {n nf at_ : Int} {x : Int × Int} (h : Bd.always n nf at_ x = 0) : (1 ≤ x.1 ∧ x.1 ≤ 39) ∧ ((x.1 = 35 ∨ x.1 = 36) → 0 ≤ x.2 ∧ x.2 ≤ n - 1 - at_) ∧ ((x.1 = 37 ∨ x.1 = 38) → 0 ≤ x.2 ∧ x.2 < nf) := by
  unfold Bd.always at h
  split at h
  · simp at h
  · rename_i h1
    split at h
    · simp at h
    · rename_i h2
      split at h
      · simp at h
      · rename_i h3
        refine ⟨Classical.not_not.1 h1, fun q => ?_, fun q => ?_⟩
        · have : Bd.jumps x.1 = true := by simpa [Bd.jumps] using q
          exact Classical.not_not.1 fun hh => h2 ⟨this, hh⟩
        · have : Bd.calls x.1 = true := by simpa [Bd.calls] using q
          exact Classical.not_not.1 fun hh => h3 ⟨this, hh⟩
end Hd
end Go.Proofs.YtnhebmgibiomnaaGreat
namespace Go.Proofs.YtnhebmgibiomnaaGreat
namespace Sm
open Mc
def F (x : Int) : Prop := k32 x = x
theorem k32_F (x : Int) : F (k32 x) := by unfold F k32; omega
theorem F0 : F 0 := rfl
def core (s o : St) : St := { s with funcs := o.funcs, frames := o.frames, stack := o.stack, steps := o.steps, peak := o.peak, ended := o.ended, err := o.err }
structure Kp (s : St) : Prop where
  stack : ∀ x ∈ s.stack, F x
  cvt : ∀ x ∈ s.cvt, F x
  store : ∀ x ∈ s.store, F x
  cur : ∀ p ∈ s.cur, F p.1 ∧ F p.2
  org : ∀ p ∈ s.org, F p.1 ∧ F p.2
  size : F s.size
theorem getP_F {l : List (Int × Int)} (h : ∀ p ∈ l, F p.1 ∧ F p.2) (i : Nat) : F (l.getD i (0, 0)).1 ∧ F (l.getD i (0, 0)).2 := by
  rw [List.getD_eq_getElem?_getD]
  cases e : l[i]? with
  | none => exact ⟨F0, F0⟩
  | some x => exact h x (List.mem_of_getElem? e)
theorem to_F {p : Int × Int} (h : F p.1 ∧ F p.2) (a v : Int) : F (to_ a p v).1 ∧ F (to_ a p v).2 := by
  unfold to_
  split
  · exact ⟨h.1, k32_F _⟩
  · exact ⟨k32_F _, h.2⟩
theorem setP_F {l : List (Int × Int)} (h : ∀ p ∈ l, F p.1 ∧ F p.2) (i : Nat) (a v : Int) : ∀ p ∈ l.set i (to_ a (l.getD i (0, 0)) v), F p.1 ∧ F p.2 := by
  intro p hp
  rcases List.mem_or_eq_of_mem_set hp with hp | rfl
  · exact h p hp
  · exact to_F (getP_F h i) a v
theorem Kp.push {s : St} (h : Kp s) (v : Int) : Kp (push v s) := ⟨fun x hx => by
  simp only [Mc.push, List.mem_cons] at hx
  rcases hx with rfl | hx
  · exact k32_F _
  · exact h.stack x hx, h.cvt, h.store, h.cur, h.org, h.size⟩
theorem Kp.drop {s : St} (h : Kp s) (n : Nat) : Kp { s with stack := s.stack.drop n } := ⟨fun x hx => h.stack x (List.mem_of_mem_drop hx), h.cvt, h.store, h.cur, h.org, h.size⟩
theorem Kp.goes {s : St} (h : Kp s) (p : Nat) (a v : Int) : Kp (goes s p a v) := ⟨h.stack, h.cvt, h.store, setP_F h.cur _ _ _, h.org, h.size⟩
theorem Kp.pass {s : St} (h : Kp s) (n : Int) : Kp (pass s n) := by
  unfold Mc.pass
  split
  · exact h
  · exact ⟨h.stack, h.cvt, h.store, h.cur, h.org, h.size⟩
theorem Kp.call {s : St} (h : Kp s) (a n : Int) : Kp (call s a n) := by
  unfold Mc.call
  split
  · exact ⟨h.stack, h.cvt, h.store, h.cur, h.org, h.size⟩
  · exact h
structure Sim (s : St) (q : Sr.St) : Prop where
  co : ∃ o, q.m = core s o
  rl : q.regs.length = 64
  stk : ∀ i, i < s.stack.length → q.regs.getD (s.stack.length - 1 - i) 0 = s.stack.getD i 0
  kp : Kp s
theorem Sim.drop {s : St} {q : Sr.St} (h : Sim s q) (n : Nat) : Sim { s with stack := s.stack.drop n } q := by
  obtain ⟨o, ho⟩ := h.co
  refine ⟨⟨o, ho⟩, h.rl, fun i hi => ?_, h.kp.drop n⟩
  simp only [List.length_drop] at hi ⊢
  have := h.stk (n + i) (by omega)
  rw [show s.stack.length - n - 1 - i = s.stack.length - 1 - (n + i) by omega, this]
  simp only [List.getD_eq_getElem?_getD, List.getElem?_drop]
theorem Sim.put {s : St} {q : Sr.St} (h : Sim s q) (v u : Int) {d : Int} (hd : d = (s.stack.length : Int)) (hl : s.stack.length < 64) (hu : u = k32 v) : Sim { s with stack := k32 v :: s.stack } (Sr.put q d u) := by
  obtain ⟨o, ho⟩ := h.co
  subst hd hu
  refine ⟨⟨o, ho⟩, by simp [Sr.put, h.rl], fun i hi => ?_, ⟨fun x hx => ?_, h.kp.cvt, h.kp.store, h.kp.cur, h.kp.org, h.kp.size⟩⟩
  · simp only [List.length_cons] at hi ⊢
    simp only [Sr.put, Int.toNat_natCast, List.getD_eq_getElem?_getD, List.getElem?_set]
    cases i with
    | zero => simp [h.rl, hl]
    | succ i =>
      rw [if_neg (by omega)]
      have := h.stk i (by omega)
      simp only [List.getD_eq_getElem?_getD] at this
      rw [show s.stack.length + 1 - 1 - (i + 1) = s.stack.length - 1 - i by omega, this]
      simp
  · simp only [List.mem_cons] at hx
    rcases hx with rfl | hx
    · exact k32_F _
    · exact h.kp.stack x hx
theorem Sim.go {s : St} {q : Sr.St} (h : Sim s q) (pc st : Nat) : Sim s { q with pc := pc, steps := st } := ⟨h.co, h.rl, h.stk, h.kp⟩
theorem Sim.top {s : St} {q : Sr.St} (h : Sim s q) {d : Int} (hd : d = (s.stack.length : Int) - 1) (hl : 1 ≤ s.stack.length) : Sr.get q d = s.stack.getD 0 0 := by
  have := h.stk 0 (by omega)
  unfold Sr.get
  rw [← this]
  congr 1
  omega
def RGoes (code : List Sr.Reg) (n : Nat) (q q' : Sr.St) : Prop := (∀ m, Sr.runs (n + m) code q = Sr.runs m code q') ∧ q'.steps = q.steps + n ∧ q.pc + n ≤ q'.pc
theorem RGoes.refl (code : List Sr.Reg) (q : Sr.St) : RGoes code 0 q q := ⟨fun m => by rw [Nat.zero_add], rfl, Nat.le_refl _⟩
theorem RGoes.trans {code : List Sr.Reg} {n k : Nat} {q q1 q2 : Sr.St} (h : RGoes code n q q1) (g : RGoes code k q1 q2) : RGoes code (n + k) q q2 :=
  ⟨fun m => by rw [Nat.add_assoc, h.1, g.1], by rw [g.2.1, h.2.1, Nat.add_assoc], by have := h.2.2; have := g.2.2; omega⟩
def At (code : List Sr.Reg) (pc : Nat) (l : List Sr.Reg) : Prop := ∀ i r, l[i]? = some r → code[pc + i]? = some r
theorem At.left {code : List Sr.Reg} {pc : Nat} {a b : List Sr.Reg} (h : At code pc (a ++ b)) : At code pc a := fun i r hr => h i r (by rw [List.getElem?_append_left (List.getElem?_eq_some_iff.1 hr).1]; exact hr)
theorem At.right {code : List Sr.Reg} {pc : Nat} {a b : List Sr.Reg} (h : At code pc (a ++ b)) : At code (pc + a.length) b := fun i r hr => by
  rw [Nat.add_assoc]
  exact h (a.length + i) r (by rw [List.getElem?_append_right (by omega), Nat.add_sub_cancel_left]; exact hr)
def Keep (n : Nat) (q q' : Sr.St) : Prop := ∀ i, i < n → q'.regs.getD (32 + i) 0 = q.regs.getD (32 + i) 0
theorem Keep.refl (n : Nat) (q : Sr.St) : Keep n q q := fun _ _ => rfl
theorem Keep.trans {n : Nat} {q q1 q2 : Sr.St} (h : Keep n q q1) (g : Keep n q1 q2) : Keep n q q2 := fun i hi => (g i hi).trans (h i hi)
theorem Keep.mono {n m : Nat} {q q1 : Sr.St} (h : Keep n q q1) (hm : m ≤ n) : Keep m q q1 := fun i hi => h i (by omega)
theorem deed_regs (r : Sr.Reg) (q : Sr.St) : (Sr.deed r q).regs = q.regs ∨ ∃ v, (Sr.deed r q).regs = q.regs.set r.d.toNat v := by
  unfold Sr.deed
  split
  all_goals first
    | exact .inl rfl
    | exact .inr ⟨_, rfl⟩
    | (simp only [Sr.pass]; split <;> exact .inl rfl)
    | (simp only; split <;> exact .inl rfl)
end Sm
end Go.Proofs.YtnhebmgibiomnaaGreat
namespace Go.Proofs.YtnhebmgibiomnaaGreat
namespace Bu
def st (fs : List Bd.Cost) (ps : List Plan) (l : List (Int × Int)) (i : Nat) : PSt := planGo fs ps (l.take i) 0 (start l.length)
theorem planGo_app (fs : List Bd.Cost) (ps : List Plan) (l r : List (Int × Int)) : ∀ (i : Nat) (s : PSt), planGo fs ps (l ++ r) i s = planGo fs ps r (i + l.length) (planGo fs ps l i s) := by
  induction l with
  | nil => intro i s; rfl
  | cons x l ih =>
    intro i s
    rw [List.cons_append, planGo, planGo, ih, List.length_cons, Nat.add_assoc, Nat.add_comm 1]
theorem st_succ (fs : List Bd.Cost) (ps : List Plan) {l : List (Int × Int)} {i : Nat} {x : Int × Int} (h : l[i]? = some x) : st fs ps l (i + 1) = plan1 fs ps i x (st fs ps l i) := by
  have hi := (List.getElem?_eq_some_iff.1 h).1
  unfold st
  rw [List.take_add_one, h, Option.toList_some, planGo_app, List.length_take, Nat.min_eq_left (Nat.le_of_lt hi), Nat.zero_add]
  rfl
structure Len (n : Nat) (s : PSt) : Prop where
  known : s.known.length = n + 1
  high : s.high.length = n + 1
  index : s.index.length = n + 1
theorem st_len (fs : List Bd.Cost) (ps : List Plan) (l : List (Int × Int)) : ∀ i, i ≤ l.length → Len l.length (st fs ps l i) := by
  intro i
  induction i with
  | zero => intro _; exact ⟨by simp [st, planGo, start], by simp [st, planGo, start], by simp [st, planGo, start]⟩
  | succ i ih =>
    intro hi
    obtain ⟨x, hx⟩ : ∃ x, l[i]? = some x := ⟨_, List.getElem?_eq_getElem (by omega)⟩
    rw [st_succ fs ps hx]
    have h := ih (by omega)
    unfold plan1
    split
    · exact h
    · refine ⟨?_, ?_, ?_⟩
      · dsimp only
        split <;> simp [h.known]
      · dsimp only
        split <;> simp [h.high]
      · simp [h.index]
theorem getD_set_ne {α : Type} {l : List α} {i k : Nat} (a d : α) (h : i ≠ k) : (l.set i a).getD k d = l.getD k d := by
  simp only [List.getD_eq_getElem?_getD, List.getElem?_set, h, if_false]
theorem getD_set_eq {α : Type} {l : List α} {i : Nat} (a d : α) (h : i < l.length) : (l.set i a).getD i d = a := by
  simp [List.getD_eq_getElem?_getD, h]
theorem plan1_index (fs : List Bd.Cost) (ps : List Plan) (i : Nat) (x : Int × Int) (s : PSt) (k : Nat) (hk : k ≠ i) : (plan1 fs ps i x s).index.getD k 0 = s.index.getD k 0 := by
  unfold plan1
  split
  · rfl
  · exact getD_set_ne _ _ (fun e => hk e.symm)
theorem st_index (fs : List Bd.Cost) (ps : List Plan) (l : List (Int × Int)) (k : Nat) : ∀ d, k + 1 + d ≤ l.length → (st fs ps l (k + 1 + d)).index.getD k 0 = (st fs ps l (k + 1)).index.getD k 0 := by
  intro d
  induction d with
  | zero => intro _; rfl
  | succ d ih =>
    intro hd
    obtain ⟨x, hx⟩ : ∃ x, l[k + 1 + d]? = some x := ⟨_, List.getElem?_eq_getElem (by omega)⟩
    rw [← Nat.add_assoc, st_succ fs ps hx, plan1_index _ _ _ _ _ _ (by omega)]
    exact ih (by omega)
theorem plan1_steps (fs : List Bd.Cost) (ps : List Plan) (i : Nat) (x : Int × Int) (s : PSt) : ∃ r, (plan1 fs ps i x s).steps = s.steps ++ r := by
  unfold plan1
  split
  · exact ⟨[], by simp⟩
  · dsimp only
    split
    · exact ⟨_, rfl⟩
    · exact ⟨[], by simp⟩
theorem st_steps (fs : List Bd.Cost) (ps : List Plan) (l : List (Int × Int)) (k : Nat) : ∀ d, k + d ≤ l.length → ∃ r, (st fs ps l (k + d)).steps = (st fs ps l k).steps ++ r := by
  intro d
  induction d with
  | zero => intro _; exact ⟨[], by simp⟩
  | succ d ih =>
    intro hd
    obtain ⟨x, hx⟩ : ∃ x, l[k + d]? = some x := ⟨_, List.getElem?_eq_getElem (by omega)⟩
    rw [← Nat.add_assoc, st_succ fs ps hx]
    obtain ⟨r1, h1⟩ := ih (by omega)
    obtain ⟨r2, h2⟩ := plan1_steps fs ps (k + d) x (st fs ps l (k + d))
    exact ⟨r1 ++ r2, by rw [h2, h1, List.append_assoc]⟩
def cnt (fs : List Bd.Cost) (ps : List Plan) (l : List (Int × Int)) (i : Nat) : Nat := (st fs ps l i).steps.length
def kn (fs : List Bd.Cost) (ps : List Plan) (l : List (Int × Int)) (i : Nat) : Bool := (st fs ps l i).known.getD i false
theorem cnt_mono (fs : List Bd.Cost) (ps : List Plan) (l : List (Int × Int)) {i j : Nat} (h : i ≤ j) (hj : j ≤ l.length) : cnt fs ps l i ≤ cnt fs ps l j := by
  obtain ⟨r, hr⟩ := st_steps fs ps l i (j - i) (by omega)
  rw [show i + (j - i) = j by omega] at hr
  unfold cnt
  rw [hr, List.length_append]
  omega
theorem go_at (fs : List Bd.Cost) (ps : List Plan) (l : List (Int × Int)) {t : Nat} (ht : t ≤ l.length) (hk : kn fs ps l t = true) : ((st fs ps l l.length).index.set l.length (st fs ps l l.length).steps.length).getD t 0 = cnt fs ps l t := by
  have hlen := (st_len fs ps l l.length (Nat.le_refl _)).index
  by_cases htl : t = l.length
  · subst htl
    rw [getD_set_eq _ _ (by omega)]
    rfl
  · rw [getD_set_ne _ _ (fun e => htl e.symm)]
    have h1 := st_index fs ps l t (l.length - (t + 1)) (by omega)
    rw [show t + 1 + (l.length - (t + 1)) = l.length by omega] at h1
    rw [h1]
    obtain ⟨x, hx⟩ : ∃ x, l[t]? = some x := ⟨_, List.getElem?_eq_getElem (by omega)⟩
    rw [st_succ fs ps hx]
    unfold plan1
    unfold kn at hk
    rw [if_neg (by simpa using hk)]
    dsimp only
    rw [getD_set_eq _ _ (by have := (st_len fs ps l t ht).index; omega)]
    rfl
structure PlanOf (fs : List Bd.Cost) (ps : List Plan) (l : List (Int × Int)) (p : Plan) (P : List Bd.Place) : Prop where
  k0 : kn fs ps l 0 = true
  c0 : cnt fs ps l 0 = 0
  fin : cnt fs ps l l.length = p.steps.length
  known : ∀ i, i ≤ l.length → kn fs ps l i = true → (Bd.pat P i).known = true
  step : ∀ (i : Nat) x, l[i]? = some x → kn fs ps l i = true → (∀ t : Nat, (t : Int) ∈ Bd.ways i x → kn fs ps l t = true) ∧
    ((0 < sizeOf x ps ∧ p.steps[cnt fs ps l i]? = some ⟨x.1, x.2, (Bd.pat P i).high, cnt fs ps l (i + 1 + jump x)⟩ ∧ cnt fs ps l (i + 1) = cnt fs ps l i + 1) ∨ (sizeOf x ps ≤ 0 ∧ cnt fs ps l (i + 1) = cnt fs ps l i))
theorem growth_eff {fs : List Bd.Cost} {p : Bd.Place} {x : Int × Int} (h : 1 ≤ x.1 ∧ x.1 ≤ 39) : p.high + growth x fs = (Bd.effect fs p x).high := by
  obtain ⟨op, a⟩ := x
  simp only at h
  unfold growth Bd.effect
  simp only
  have hc : op = 1 ∨ op = 2 ∨ op = 3 ∨ op = 4 ∨ op = 5 ∨ op = 6 ∨ op = 7 ∨ op = 8 ∨ op = 9 ∨ op = 10 ∨ op = 11 ∨ op = 12 ∨ op = 13 ∨ op = 14 ∨ op = 15 ∨ op = 16 ∨ op = 17 ∨ op = 18 ∨ op = 19 ∨ op = 20 ∨ op = 21 ∨ op = 22 ∨ op = 23 ∨ op = 24 ∨ op = 25 ∨ op = 26 ∨ op = 27 ∨ op = 28 ∨ op = 29 ∨ op = 30 ∨ op = 31 ∨ op = 32 ∨ op = 33 ∨ op = 34 ∨ op = 35 ∨ op = 36 ∨ op = 37 ∨ op = 38 ∨ op = 39 := by omega
  clear h
  rcases hc with rfl | rfl | rfl | rfl | rfl | rfl | rfl | rfl | rfl | rfl | rfl | rfl | rfl | rfl | rfl | rfl | rfl | rfl | rfl | rfl | rfl | rfl | rfl | rfl | rfl | rfl | rfl | rfl | rfl | rfl | rfl | rfl | rfl | rfl | rfl | rfl | rfl | rfl | rfl
  all_goals (simp [Bd.calls, Bd.takes, Bd.leaves, Sr.uses]; try omega)
theorem ways_kn (fs : List Bd.Cost) (ps : List Plan) {l : List (Int × Int)} {i : Nat} {x : Int × Int} (hx : l[i]? = some x) (hal : Bd.always l.length fs.length i x = 0) (hk : kn fs ps l i = true) (t : Nat) (ht : (t : Int) ∈ Bd.ways i x) : t ≤ l.length ∧ i < t ∧ (st fs ps l (i + 1)).known.getD t false = true ∧ (st fs ps l (i + 1)).high.getD t 0 = (st fs ps l i).high.getD i 0 + growth x fs := by
  have hi := (List.getElem?_eq_some_iff.1 hx).1
  obtain ⟨m, hm, h1, h2⟩ := Hd.ways_nat hal hi t ht
  obtain rfl : t = m := by omega
  obtain ⟨a1, a2, a3⟩ := Hd.always_ok hal
  have hlen := st_len fs ps l i (by omega)
  have hkl := hlen.known
  have hhl := hlen.high
  refine ⟨h2, h1, ?_⟩
  rw [st_succ fs ps hx]
  unfold kn at hk
  unfold plan1
  rw [if_neg (by simpa using hk)]
  dsimp only
  unfold Bd.ways at ht
  by_cases h35 : x.1 = 35
  · have hj : jump x = x.2.toNat := by unfold jump; rw [if_pos (.inl h35)]
    have := a2 (.inl h35)
    have ht2 : t = i + 1 + jump x := by
      rw [if_pos h35, if_pos (by simp [Bd.jumps, h35])] at ht
      simp at ht
      omega
    rw [if_pos h35, if_pos h35, ← ht2]
    exact ⟨getD_set_eq _ _ (by omega), getD_set_eq _ _ (by omega)⟩
  · rw [if_neg h35, if_neg h35]
    by_cases hti : t = i + 1
    · subst hti
      exact ⟨getD_set_eq _ _ (by simp; omega), getD_set_eq _ _ (by simp; omega)⟩
    · by_cases h36 : x.1 = 36
      · have hj : jump x = x.2.toNat := by unfold jump; rw [if_pos (.inr h36)]
        have := a2 (.inr h36)
        have ht2 : t = i + 1 + jump x := by
          rw [if_neg h35, if_pos (by simp [Bd.jumps, h36])] at ht
          simp only [List.mem_append, List.mem_singleton] at ht
          omega
        rw [← ht2]
        exact ⟨by rw [getD_set_ne _ _ (by omega)]; exact getD_set_eq _ _ (by omega), by rw [getD_set_ne _ _ (by omega)]; exact getD_set_eq _ _ (by omega)⟩
      · exfalso
        rw [if_neg h35, if_neg (by simp [Bd.jumps, h35, h36])] at ht
        simp at ht
        omega
theorem st_tab {fs : List Bd.Cost} {ps : List Plan} {l : List (Int × Int)} {c : Bd.Cost} {P : List Bd.Place} (h : Hd.Tab l.length fs l c P) : ∀ i, i ≤ l.length → ∀ k, k ≤ l.length → (st fs ps l i).known.getD k false = true → (Bd.pat P k).known = true ∧ (st fs ps l i).high.getD k 0 = (Bd.pat P k).high := by
  intro i
  induction i with
  | zero =>
    intro _ k hk hkn
    have h0 := h.p0
    cases k with
    | zero => exact ⟨h0.1, by simp [st, planGo, start]; exact h0.2.1.symm⟩
    | succ k =>
      exfalso
      simp [st, planGo, start, List.getD_eq_getElem?_getD, List.getElem?_replicate] at hkn
      split at hkn <;> simp at hkn
  | succ i ih =>
    intro hi k hk hkn
    obtain ⟨x, hx⟩ : ∃ x, l[i]? = some x := ⟨_, List.getElem?_eq_getElem (by omega)⟩
    have hok := h.ok i x hx
    by_cases hki : kn fs ps l i = true
    · by_cases hw : (k : Int) ∈ Bd.ways i x
      · obtain ⟨_, _, w1, w2⟩ := ways_kn fs ps hx hok.al hki k hw
        obtain ⟨p1, p2⟩ := ih (by omega) i (by omega) hki
        obtain ⟨_, _, _, b4⟩ := hok.kn p1
        obtain ⟨q1, q2, _⟩ := b4 k hw
        refine ⟨q1, ?_⟩
        rw [w2, q2, p2, growth_eff (Hd.always_ok hok.al).1]
      · have hold : (st fs ps l (i + 1)).known.getD k false = (st fs ps l i).known.getD k false ∧ (st fs ps l (i + 1)).high.getD k 0 = (st fs ps l i).high.getD k 0 := by
          obtain ⟨a1, a2, a3⟩ := Hd.always_ok hok.al
          rw [st_succ fs ps hx]
          unfold kn at hki
          unfold plan1
          rw [if_neg (by simpa using hki)]
          dsimp only
          unfold Bd.ways at hw
          by_cases h35 : x.1 = 35
          · have hj : jump x = x.2.toNat := by unfold jump; rw [if_pos (.inl h35)]
            have := a2 (.inl h35)
            have hne : i + 1 + jump x ≠ k := fun e => hw (by
              rw [if_pos h35, if_pos (by simp [Bd.jumps, h35])]
              simp
              omega)
            rw [if_pos h35, if_pos h35]
            exact ⟨getD_set_ne _ _ hne, getD_set_ne _ _ hne⟩
          · have hne1 : i + 1 ≠ k := fun e => hw (by
              rw [if_neg h35]
              simp
              omega)
            have hne : i + 1 + jump x ≠ k := fun e => by
              by_cases h36 : x.1 = 36
              · have hj : jump x = x.2.toNat := by unfold jump; rw [if_pos (.inr h36)]
                have := a2 (.inr h36)
                exact hw (by
                  rw [if_neg h35, if_pos (by simp [Bd.jumps, h36])]
                  simp
                  omega)
              · have hj : jump x = 0 := by unfold jump; rw [if_neg (by omega)]
                omega
            rw [if_neg h35, if_neg h35]
            exact ⟨by rw [getD_set_ne _ _ hne1, getD_set_ne _ _ hne], by rw [getD_set_ne _ _ hne1, getD_set_ne _ _ hne]⟩
        rw [hold.1] at hkn
        rw [hold.2]
        exact ih (by omega) k hk hkn
    · have he : st fs ps l (i + 1) = st fs ps l i := by
        rw [st_succ fs ps hx]
        unfold plan1
        unfold kn at hki
        rw [if_pos (by simpa using hki)]
      rw [he] at hkn ⊢
      exact ih (by omega) k hk hkn
theorem planned_of {fs : List Bd.Cost} (ps : List Plan) {l : List (Int × Int)} {c : Bd.Cost} {P : List Bd.Place} (h : Hd.Tab l.length fs l c P) : PlanOf fs ps l (planned l fs ps) P := by
  have hpl : (planned l fs ps).steps = (st fs ps l l.length).steps.map fun p => { p with go := ((st fs ps l l.length).index.set l.length (st fs ps l l.length).steps.length).getD p.go 0 } := by
    unfold planned st
    rw [List.take_length]
  have hwk : ∀ (i : Nat) x, l[i]? = some x → kn fs ps l i = true → ∀ t : Nat, (t : Int) ∈ Bd.ways i x → kn fs ps l t = true := fun i x hx hk t ht => by
    obtain ⟨w1, w2, w3, _⟩ := ways_kn fs ps hx (h.ok i x hx).al hk t ht
    have := (List.getElem?_eq_some_iff.1 hx).1
    obtain ⟨hs1, _⟩ : (st fs ps l t).known.getD t false = (st fs ps l t).known.getD t false ∧ True := ⟨rfl, trivial⟩
    have key : ∀ d, i + 1 + d ≤ t → (st fs ps l (i + 1 + d)).known.getD t false = true := by
      intro d
      induction d with
      | zero => intro _; exact w3
      | succ d ih =>
        intro hd
        obtain ⟨y, hy⟩ : ∃ y, l[i + 1 + d]? = some y := ⟨_, List.getElem?_eq_getElem (by omega)⟩
        rw [← Nat.add_assoc, st_succ fs ps hy]
        have hp := ih (by omega)
        have hlen := (st_len fs ps l (i + 1 + d) (by omega)).known
        unfold plan1
        split
        · exact hp
        · dsimp only
          have hset : ∀ (m : Nat) (L : List Bool), L.getD t false = true → (L.set m true).getD t false = true := fun m L hL => by
            simp only [List.getD_eq_getElem?_getD, List.getElem?_set] at hL ⊢
            by_cases hm : m = t
            · subst hm
              have : m < L.length := by
                apply Classical.byContradiction
                intro hc
                rw [List.getElem?_eq_none (by omega)] at hL
                cases hL
              simp [this]
            · simpa [hm] using hL
          split
          · exact hset _ _ hp
          · exact hset _ _ (hset _ _ hp)
    have := key (t - (i + 1)) (by omega)
    rw [show i + 1 + (t - (i + 1)) = t by omega] at this
    exact this
  refine ⟨by simp [kn, st, planGo, start], by simp [cnt, st, planGo, start], by rw [hpl, List.length_map]; rfl, fun i hi hk => (st_tab h i hi i hi hk).1, fun i x hx hk => ⟨hwk i x hx hk, ?_⟩⟩
  have hi := (List.getElem?_eq_some_iff.1 hx).1
  have hhigh := (st_tab (ps := ps) h i (by omega) i (by omega) hk).2
  obtain ⟨a1, a2, a3⟩ := Hd.always_ok (h.ok i x hx).al
  have htl : ((i + 1 + jump x : Nat) : Int) ∈ Bd.ways i x := by
    unfold Bd.ways
    by_cases h35 : x.1 = 35
    · have hj : jump x = x.2.toNat := by unfold jump; rw [if_pos (.inl h35)]
      have := a2 (.inl h35)
      rw [if_pos h35, if_pos (by simp [Bd.jumps, h35])]
      simp
      omega
    · by_cases h36 : x.1 = 36
      · have hj : jump x = x.2.toNat := by unfold jump; rw [if_pos (.inr h36)]
        have := a2 (.inr h36)
        rw [if_neg h35, if_pos (by simp [Bd.jumps, h36])]
        simp
        omega
      · have hj : jump x = 0 := by unfold jump; rw [if_neg (by omega)]
        rw [hj, if_neg h35]
        simp
  have htk := hwk i x hx hk _ htl
  have htn := (ways_kn fs ps hx (h.ok i x hx).al hk _ htl).1
  have hs := st_succ fs ps hx
  unfold kn at hk
  unfold plan1 at hs
  rw [if_neg (by simpa using hk)] at hs
  by_cases hz : 0 < sizeOf x ps
  · left
    have hst : (st fs ps l (i + 1)).steps = (st fs ps l i).steps ++ [⟨x.1, x.2, (st fs ps l i).high.getD i 0, i + 1 + jump x⟩] := by
      rw [hs]
      dsimp only
      rw [if_pos hz]
    refine ⟨hz, ?_, ?_⟩
    · obtain ⟨r, hr⟩ := st_steps fs ps l (i + 1) (l.length - (i + 1)) (by omega)
      rw [show i + 1 + (l.length - (i + 1)) = l.length by omega, hst] at hr
      rw [hpl, List.getElem?_map]
      have : (st fs ps l l.length).steps[cnt fs ps l i]? = some ⟨x.1, x.2, (st fs ps l i).high.getD i 0, i + 1 + jump x⟩ := by
        rw [hr]
        unfold cnt
        rw [List.append_assoc, List.getElem?_append_right (by omega), Nat.sub_self]
        rfl
      rw [this]
      simp only [Option.map_some]
      rw [go_at fs ps l htn htk, hhigh]
    · unfold cnt
      rw [hst, List.length_append]
      rfl
  · right
    refine ⟨by omega, ?_⟩
    unfold cnt
    rw [hs]
    dsimp only
    rw [if_neg hz]
end Bu
end Go.Proofs.YtnhebmgibiomnaaGreat

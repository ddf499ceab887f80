/- Parts of the proof, joined: HdS Holds. -/
import Derived.Test.YtnhebmgibiomnaaGreatPc0
set_option linter.unusedVariables false
set_option linter.unusedSimpArgs false
namespace Go.Proofs.YtnhebmgibiomnaaGreat
namespace Hd
open Mc
theorem settle_at {l : List (Int × Int)} {i m : Nat} {r : List Fm} (h : i < l.length) : settle (⟨l, i, m⟩ :: r) = ⟨l, i, m⟩ :: r := by rw [settle, if_pos h]
theorem settle_end {l : List (Int × Int)} {r : List Fm} : settle (⟨l, l.length, 0⟩ :: r) = settle r := by rw [settle, if_neg (by simp), if_neg (by simp)]
theorem settle_again {l : List (Int × Int)} {m : Nat} {r : List Fm} (h : 0 < l.length) : settle (⟨l, l.length, m + 1⟩ :: r) = settle (⟨l, 0, m⟩ :: r) := by
  rw [settle, if_neg (by simp), if_pos ⟨by simp, h⟩, settle_at h]
  rfl
theorem settle_empty {m : Nat} {r : List Fm} : settle (⟨[], 0, m⟩ :: r) = settle r := by rw [settle, if_neg (by simp), if_neg (by simp)]
def Same (s t : St) : Prop := t.funcs = s.funcs ∧ t.ended = s.ended ∧ t.err = s.err ∧ t.steps = s.steps ∧ t.peak = s.peak
theorem deed_same (op a : Int) (s : St) : Same s (deed op a s) := by
  unfold deed
  simp only
  split <;> (first | exact ⟨rfl, rfl, rfl, rfl, rfl⟩ | skip)
  all_goals (try unfold pass)
  all_goals (try unfold call)
  all_goals (repeat' split)
  all_goals exact ⟨rfl, rfl, rfl, rfl, rfl⟩
theorem deed_frames (op a : Int) (s : St) (h1 : 1 ≤ op) (h2 : op < 35 ∨ op = 39) : (deed op a s).frames = s.frames := by
  unfold deed
  simp only
  split <;> (first | rfl | skip)
  all_goals (try (exfalso; omega))
  all_goals (repeat' split)
  all_goals rfl
theorem if_stack {p : Prop} [Decidable p] {s t : St} : (if p then s else t).stack = if p then s.stack else t.stack := by split <;> rfl
theorem pass_stack (s : St) (a : Int) : (pass s a).stack = s.stack := by unfold pass; split <;> rfl
theorem call_stack (s : St) (a b : Int) : (call s a b).stack = s.stack := by unfold call; split <;> rfl
theorem stack1 (a : Int) (s : St) : (deed 1 a s).stack.length = s.stack.length - 0 + 1 := rfl
theorem stack2 (a : Int) (s : St) : (deed 2 a s).stack.length = s.stack.length - 1 + 0 := by show (s.stack.drop 1).length = _; exact List.length_drop
theorem stack3 (a : Int) (s : St) : (deed 3 a s).stack.length = s.stack.length - 1 + 2 := by show (s.stack.drop 1).length + 1 + 1 = _; rw [List.length_drop]
theorem stack4 (a : Int) (s : St) : (deed 4 a s).stack.length = s.stack.length - 2 + 2 := by show (s.stack.drop 2).length + 1 + 1 = _; rw [List.length_drop]
theorem stack5 (a : Int) (s : St) : (deed 5 a s).stack.length = s.stack.length - 2 + 1 := by show (s.stack.drop 2).length + 1 = _; rw [List.length_drop]
theorem stack6 (a : Int) (s : St) : (deed 6 a s).stack.length = s.stack.length - 2 + 1 := by show (s.stack.drop 2).length + 1 = _; rw [List.length_drop]
theorem stack7 (a : Int) (s : St) : (deed 7 a s).stack.length = s.stack.length - 2 + 1 := by show (s.stack.drop 2).length + 1 = _; rw [List.length_drop]
theorem stack8 (a : Int) (s : St) : (deed 8 a s).stack.length = s.stack.length - 2 + 1 := by show (s.stack.drop 2).length + 1 = _; rw [List.length_drop]
theorem stack9 (a : Int) (s : St) : (deed 9 a s).stack.length = s.stack.length - 1 + 1 := by show (s.stack.drop 1).length + 1 = _; rw [List.length_drop]
theorem stack10 (a : Int) (s : St) : (deed 10 a s).stack.length = s.stack.length - 1 + 1 := by show (s.stack.drop 1).length + 1 = _; rw [List.length_drop]
theorem stack11 (a : Int) (s : St) : (deed 11 a s).stack.length = s.stack.length - 2 + 1 := by show (s.stack.drop 2).length + 1 = _; rw [List.length_drop]
theorem stack12 (a : Int) (s : St) : (deed 12 a s).stack.length = s.stack.length - 2 + 1 := by show (s.stack.drop 2).length + 1 = _; rw [List.length_drop]
theorem stack13 (a : Int) (s : St) : (deed 13 a s).stack.length = s.stack.length - 1 + 1 := by show (s.stack.drop 1).length + 1 = _; rw [List.length_drop]
theorem stack14 (a : Int) (s : St) : (deed 14 a s).stack.length = s.stack.length - 1 + 1 := by show (s.stack.drop 1).length + 1 = _; rw [List.length_drop]
theorem stack15 (a : Int) (s : St) : (deed 15 a s).stack.length = s.stack.length - 1 + 1 := by show (s.stack.drop 1).length + 1 = _; rw [List.length_drop]
theorem stack16 (a : Int) (s : St) : (deed 16 a s).stack.length = s.stack.length - 2 + 1 := by show (s.stack.drop 2).length + 1 = _; rw [List.length_drop]
theorem stack17 (a : Int) (s : St) : (deed 17 a s).stack.length = s.stack.length - 2 + 1 := by show (s.stack.drop 2).length + 1 = _; rw [List.length_drop]
theorem stack18 (a : Int) (s : St) : (deed 18 a s).stack.length = s.stack.length - 2 + 1 := by show (s.stack.drop 2).length + 1 = _; rw [List.length_drop]
theorem stack19 (a : Int) (s : St) : (deed 19 a s).stack.length = s.stack.length - 1 + 1 := by show (s.stack.drop 1).length + 1 = _; rw [List.length_drop]
theorem stack20 (a : Int) (s : St) : (deed 20 a s).stack.length = s.stack.length - 2 + 1 := by show (s.stack.drop 2).length + 1 = _; rw [List.length_drop]
theorem stack21 (a : Int) (s : St) : (deed 21 a s).stack.length = s.stack.length - 2 + 1 := by show (s.stack.drop 2).length + 1 = _; rw [List.length_drop]
theorem stack22 (a : Int) (s : St) : (deed 22 a s).stack.length = s.stack.length - 0 + 0 := rfl
theorem stack23 (a : Int) (s : St) : (deed 23 a s).stack.length = s.stack.length - 0 + 0 := rfl
theorem stack24 (a : Int) (s : St) : (deed 24 a s).stack.length = s.stack.length - 0 + 0 := rfl
theorem stack25 (a : Int) (s : St) : (deed 25 a s).stack.length = s.stack.length - 1 + 1 := by show (s.stack.drop 1).length + 1 = _; rw [List.length_drop]
theorem stack26 (a : Int) (s : St) : (deed 26 a s).stack.length = s.stack.length - 2 + 0 := by show (s.stack.drop 2).length = _; exact List.length_drop
theorem stack27 (a : Int) (s : St) : (deed 27 a s).stack.length = s.stack.length - 1 + 1 := by show (s.stack.drop 1).length + 1 = _; rw [List.length_drop]
theorem stack28 (a : Int) (s : St) : (deed 28 a s).stack.length = s.stack.length - 2 + 0 := by show (s.stack.drop 2).length = _; exact List.length_drop
theorem stack29 (a : Int) (s : St) : (deed 29 a s).stack.length = s.stack.length - 1 + 1 := by show (s.stack.drop 1).length + 1 = _; rw [List.length_drop]
theorem stack30 (a : Int) (s : St) : (deed 30 a s).stack.length = s.stack.length - 1 + 1 := by show (s.stack.drop 1).length + 1 = _; rw [List.length_drop]
theorem stack31 (a : Int) (s : St) : (deed 31 a s).stack.length = s.stack.length - 2 + 0 := by
  show (ite _ _ _ : St).stack.length = _
  rw [if_stack]
  split
  · show (s.stack.drop 2).length = _; exact List.length_drop
  · show (s.stack.drop 2).length = _; exact List.length_drop
theorem stack32 (a : Int) (s : St) : (deed 32 a s).stack.length = s.stack.length - 2 + 0 := by
  show (ite _ _ _ : St).stack.length = _
  rw [if_stack]
  split
  · show (s.stack.drop 2).length = _; exact List.length_drop
  · show (s.stack.drop 2).length = _; exact List.length_drop
theorem stack33 (a : Int) (s : St) : (deed 33 a s).stack.length = s.stack.length - 2 + 0 := by
  show (ite _ _ _ : St).stack.length = _
  rw [if_stack]
  split
  · show (s.stack.drop 2).length = _; exact List.length_drop
  · show (s.stack.drop 2).length = _; exact List.length_drop
theorem stack34 (a : Int) (s : St) : (deed 34 a s).stack.length = s.stack.length - 0 + 0 := rfl
theorem stack35 (a : Int) (s : St) : (deed 35 a s).stack.length = s.stack.length - 0 + 0 := by show (pass s a).stack.length = _; rw [pass_stack]; rfl
theorem stack36 (a : Int) (s : St) : (deed 36 a s).stack.length = s.stack.length - 1 + 0 := by
  show (ite _ _ _ : St).stack.length = _
  rw [if_stack]
  split
  · rw [pass_stack]; show (s.stack.drop 1).length = _; exact List.length_drop
  · show (s.stack.drop 1).length = _; exact List.length_drop
theorem stack37 (a : Int) (s : St) : (deed 37 a s).stack.length = s.stack.length - 0 + 0 := by show (call s a 1).stack.length = _; rw [call_stack]; rfl
theorem stack38 (a : Int) (s : St) : (deed 38 a s).stack.length = s.stack.length - 1 + 0 := by show (call { s with stack := s.stack.drop 1 } a _).stack.length = _; rw [call_stack]; show (s.stack.drop 1).length = _; exact List.length_drop
theorem stack39 (a : Int) (s : St) : (deed 39 a s).stack.length = s.stack.length - 0 + 1 := rfl
theorem deed_stack (op a : Int) (s : St) (h1 : 1 ≤ op) (h2 : op ≤ 39) : (deed op a s).stack.length = s.stack.length - takes op + leaves op := by
  have hc : op = 1 ∨ op = 2 ∨ op = 3 ∨ op = 4 ∨ op = 5 ∨ op = 6 ∨ op = 7 ∨ op = 8 ∨ op = 9 ∨ op = 10 ∨ op = 11 ∨ op = 12 ∨ op = 13 ∨ op = 14 ∨ op = 15 ∨ op = 16 ∨ op = 17 ∨ op = 18 ∨ op = 19 ∨ op = 20 ∨ op = 21 ∨ op = 22 ∨ op = 23 ∨ op = 24 ∨ op = 25 ∨ op = 26 ∨ op = 27 ∨ op = 28 ∨ op = 29 ∨ op = 30 ∨ op = 31 ∨ op = 32 ∨ op = 33 ∨ op = 34 ∨ op = 35 ∨ op = 36 ∨ op = 37 ∨ op = 38 ∨ op = 39 := by omega
  rcases hc with rfl | rfl | rfl | rfl | rfl | rfl | rfl | rfl | rfl | rfl | rfl | rfl | rfl | rfl | rfl | rfl | rfl | rfl | rfl | rfl | rfl | rfl | rfl | rfl | rfl | rfl | rfl | rfl | rfl | rfl | rfl | rfl | rfl | rfl | rfl | rfl | rfl | rfl | rfl
  · exact stack1 a s
  · exact stack2 a s
  · exact stack3 a s
  · exact stack4 a s
  · exact stack5 a s
  · exact stack6 a s
  · exact stack7 a s
  · exact stack8 a s
  · exact stack9 a s
  · exact stack10 a s
  · exact stack11 a s
  · exact stack12 a s
  · exact stack13 a s
  · exact stack14 a s
  · exact stack15 a s
  · exact stack16 a s
  · exact stack17 a s
  · exact stack18 a s
  · exact stack19 a s
  · exact stack20 a s
  · exact stack21 a s
  · exact stack22 a s
  · exact stack23 a s
  · exact stack24 a s
  · exact stack25 a s
  · exact stack26 a s
  · exact stack27 a s
  · exact stack28 a s
  · exact stack29 a s
  · exact stack30 a s
  · exact stack31 a s
  · exact stack32 a s
  · exact stack33 a s
  · exact stack34 a s
  · exact stack35 a s
  · exact stack36 a s
  · exact stack37 a s
  · exact stack38 a s
  · exact stack39 a s
end Hd
end Go.Proofs.YtnhebmgibiomnaaGreat
namespace Go.Proofs.YtnhebmgibiomnaaGreat
namespace Hd
open Mc
def Ext (at_ : Nat) (pl P : List Bd.Place) : Prop :=
  (∀ i : Nat, i ≤ at_ → Bd.pat P i = Bd.pat pl i) ∧ ∀ i : Nat, (Bd.pat pl i).known = true → (Bd.pat P i).known = true ∧ (Bd.pat P i).high = (Bd.pat pl i).high ∧ (Bd.pat pl i).steps ≤ (Bd.pat P i).steps
structure StepOK (n : Nat) (fs : List Bd.Cost) (P : List Bd.Place) (need peak : Int) (at_ : Nat) (x : Int × Int) : Prop where
  al : Bd.always n fs.length at_ x = 0
  kn : (Bd.pat P at_).known = true → (Bd.effect fs (Bd.pat P at_) x).need ≤ need ∧ (Bd.effect fs (Bd.pat P at_) x).peak ≤ peak ∧ (x.1 = 38 → (Bd.fn fs x.2).delta = 0) ∧
    ∀ t ∈ Bd.ways at_ x, (Bd.pat P t).known = true ∧ (Bd.pat P t).high = (Bd.effect fs (Bd.pat P at_) x).high ∧ (Bd.effect fs (Bd.pat P at_) x).steps ≤ (Bd.pat P t).steps
structure Tab (n : Nat) (fs : List Bd.Cost) (l : List (Int × Int)) (c : Bd.Cost) (P : List Bd.Place) : Prop where
  p0 : (Bd.pat P 0).known = true ∧ (Bd.pat P 0).high = 0 ∧ (Bd.pat P 0).steps = 0
  ok : ∀ (i : Nat) x, l[i]? = some x → StepOK n fs P c.need c.peak i x
  de : c.delta = (Bd.pat P n).high
  st : c.steps = (Bd.pat P n).steps
  n0 : 0 ≤ c.need
  k0 : 0 ≤ c.peak
  n1 : c.need ≤ 32
  k1 : c.peak ≤ 32
  s1 : c.steps ≤ 4096
theorem pat_set {pl : List Bd.Place} {t i : Nat} {q : Bd.Place} (h : t < pl.length) : Bd.pat (pl.set t q) i = if i = t then q else Bd.pat pl i := by
  unfold Bd.pat
  rw [List.getD_eq_getElem?_getD, List.getD_eq_getElem?_getD, Int.toNat_natCast, List.getElem?_set]
  by_cases hi : i = t
  · subst hi; simp [h]
  · rw [if_neg (fun e => hi e.symm), if_neg hi]
theorem ways_nat {n nf at_ : Nat} {x : Int × Int} (h : Bd.always n nf at_ x = 0) (ha : at_ < n) : ∀ t ∈ Bd.ways at_ x, ∃ m : Nat, t = m ∧ at_ < m ∧ m ≤ n := by
  intro t ht
  unfold Bd.ways at ht
  simp only [List.mem_append] at ht
  rcases ht with ht | ht
  · split at ht
    · simp at ht
    · simp at ht; exact ⟨at_ + 1, by omega, by omega, by omega⟩
  · split at ht
    · rename_i hj
      simp at ht
      unfold Bd.always at h
      split at h
      · simp at h
      · split at h
        · simp at h
        · rename_i hk
          have : 0 ≤ x.2 ∧ x.2 ≤ (n : Int) - 1 - at_ := by
            by_cases hh : 0 ≤ x.2 ∧ x.2 ≤ (n : Int) - 1 - at_
            · exact hh
            · exact absurd ⟨hj, hh⟩ hk
          exact ⟨(at_ + 1 + x.2).toNat, by omega, by omega, by omega⟩
    · simp at ht
theorem marks {n : Nat} {e : Bd.Eff} : ∀ (ts : List Int) (pl : List Bd.Place), pl.length = n + 1 → (∀ t ∈ ts, ∃ m : Nat, t = m ∧ m ≤ n) →
    (ts.foldl (Bd.mark e) pl).length = n + 1 ∧
    (∀ i : Nat, (i : Int) ∉ ts → Bd.pat (ts.foldl (Bd.mark e) pl) i = Bd.pat pl i) ∧
    (∀ i : Nat, (i : Int) ∈ ts → (Bd.pat (ts.foldl (Bd.mark e) pl) i).known = true ∧ (Bd.pat (ts.foldl (Bd.mark e) pl) i).high = e.high ∧ e.steps ≤ (Bd.pat (ts.foldl (Bd.mark e) pl) i).steps) ∧
    (∀ i : Nat, (Bd.pat pl i).steps ≤ (Bd.pat (ts.foldl (Bd.mark e) pl) i).steps) := by
  intro ts
  induction ts with
  | nil => intro pl hl _; exact ⟨hl, fun _ _ => rfl, fun i hi => by simp at hi, fun _ => Int.le_refl _⟩
  | cons t r ih =>
    intro pl hl ht
    obtain ⟨m, rfl, hm⟩ := ht t (by simp)
    have hml : m < pl.length := by omega
    have hmk : Bd.mark e pl (m : Int) = pl.set m ⟨true, e.high, max (Bd.pat pl m).steps e.steps⟩ := by unfold Bd.mark; rw [Int.toNat_natCast]
    obtain ⟨a1, a2, a3, a4⟩ := ih (Bd.mark e pl m) (by rw [hmk]; simpa using hl) (fun t h => ht t (by simp [h]))
    simp only [List.foldl_cons]
    refine ⟨a1, fun i hi => ?_, fun i hi => ?_, fun i => ?_⟩
    · simp only [List.mem_cons, not_or] at hi
      rw [a2 i hi.2, hmk, pat_set hml, if_neg (by omega)]
    · by_cases hr : (i : Int) ∈ r
      · exact a3 i hr
      · have him : i = m := by
          simp only [List.mem_cons] at hi
          rcases hi with h | h
          · omega
          · exact absurd h hr
        rw [a2 i hr, hmk, pat_set hml, if_pos him]
        exact ⟨rfl, rfl, Int.le_max_right _ _⟩
    · refine Int.le_trans ?_ (a4 i)
      rw [hmk, pat_set hml]
      split
      · rename_i h; subst h; exact Int.le_max_left _ _
      · exact Int.le_refl _
theorem rest_sound (n : Nat) (fs : List Bd.Cost) : ∀ (r : List (Int × Int)) (at_ : Nat) (s : Bd.St) (c : Bd.Cost), Bd.rest n fs r at_ s = (c, 0, 0) → s.pl.length = n + 1 → at_ + r.length = n →
    ∃ P, Ext at_ s.pl P ∧ (∀ (i : Nat) x, r[i]? = some x → StepOK n fs P c.need c.peak (at_ + i) x) ∧ c.delta = (Bd.pat P n).high ∧ c.steps = (Bd.pat P n).steps ∧ s.need ≤ c.need ∧ s.peak ≤ c.peak ∧ c.delta = (Bd.pat P n).high := by
  intro r
  induction r with
  | nil =>
    intro at_ s c h hl hn
    unfold Bd.rest at h
    simp at h hn
    subst h
    refine ⟨s.pl, ⟨fun _ _ => rfl, fun i hi => ⟨hi, rfl, Int.le_refl _⟩⟩, fun i x hx => by simp at hx, ?_, ?_, Int.le_refl _, Int.le_refl _, ?_⟩ <;> simp only [hn]
  | cons x r ih =>
    intro at_ s c h hl hn
    unfold Bd.rest at h
    simp at hn
    split at h
    · rename_i hne
      simp at h
      exact absurd h.2.2 hne
    · rename_i hz
      have hz : (Bd.look n fs s at_ x).1 = 0 := by omega
      have hat : at_ < n := by omega
      unfold Bd.look at h hz
      split at hz
      · rename_i h1; exact absurd hz h1
      · rename_i h1
        rw [if_neg h1] at h
        have hal : Bd.always n fs.length at_ x = 0 := by omega
        have hw := ways_nat hal hat
        split at hz
        · rename_i h2
          rw [if_pos h2] at h
          obtain ⟨P, ⟨e1, e2⟩, b, c1, c2, c3, c4, c5⟩ := ih (at_ + 1) s c (by simpa using h) hl (by omega)
          refine ⟨P, ⟨fun i hi => e1 i (by omega), e2⟩, fun i y hy => ?_, c1, c2, c3, c4, c5⟩
          cases i with
          | zero =>
            simp at hy
            subst hy
            refine ⟨hal, fun hk => ?_⟩
            rw [Nat.add_zero, e1 at_ (by omega), h2] at hk
            cases hk
          | succ i =>
            have := b i y (by simpa using hy)
            rw [show at_ + (i + 1) = at_ + 1 + i by omega]
            exact this
        · rename_i h2
          rw [if_neg h2] at h
          have hk : (Bd.pat s.pl at_).known = true := by simpa using h2
          simp only at h hz
          generalize he : Bd.effect fs (Bd.pat s.pl at_) x = e at *
          split at hz
          · rename_i h3; exact absurd hz h3
          · rename_i h3
            rw [if_neg h3] at h
            have hre : Bd.reached fs s.pl (max s.need e.need) (max s.peak e.peak) at_ x e = 0 := by omega
            have hd : (x.1 = 38 → (Bd.fn fs x.2).delta = 0) ∧ Bd.agrees s.pl at_ x e.high = true := by
              unfold Bd.reached at hre
              split at hre
              · simp at hre
              · rename_i q1
                split at hre
                · simp at hre
                · split at hre
                  · simp at hre
                  · rename_i q2
                    exact ⟨fun hx => by
                      by_cases hh : (Bd.fn fs x.2).delta = 0
                      · exact hh
                      · exact absurd ⟨hx, hh⟩ q1, by simpa using q2⟩
            have hag : ∀ t ∈ Bd.ways at_ x, (Bd.pat s.pl t).known = true → (Bd.pat s.pl t).high = e.high := fun t ht hk => by
              have := List.all_eq_true.1 hd.2 t ht
              unfold Bd.agree1 at this
              rw [hk] at this
              simpa using this
            obtain ⟨m1, m2, m3, m4⟩ := marks (e := e) (Bd.ways at_ x) s.pl hl (fun t ht => by obtain ⟨m, q, _, q2⟩ := hw t ht; exact ⟨m, q, q2⟩)
            generalize hpl : (Bd.ways at_ x).foldl (Bd.mark e) s.pl = pl' at *
            obtain ⟨P, ⟨e1, e2⟩, b, c1, c2, c3, c4, c5⟩ := ih (at_ + 1) ⟨pl', max s.need e.need, max s.peak e.peak⟩ c (by simpa using h) m1 (by omega)
            simp only at e1 e2 c3 c4
            have hle : ∀ i : Nat, i ≤ at_ → (i : Int) ∉ Bd.ways at_ x := fun i hi hm => by obtain ⟨m, q, q1, _⟩ := hw i hm; omega
            have hext : Ext at_ s.pl P := by
              refine ⟨fun i hi => by rw [e1 i (by omega), m2 i (hle i hi)], fun i hi => ?_⟩
              by_cases hm : (i : Int) ∈ Bd.ways at_ x
              · obtain ⟨k1, k2, k3⟩ := m3 i hm
                obtain ⟨k4, k5, k6⟩ := e2 i k1
                exact ⟨k4, by rw [k5, k2, hag i hm hi], Int.le_trans (m4 i) k6⟩
              · have q := m2 i hm
                obtain ⟨k4, k5, k6⟩ := e2 i (by rw [q]; exact hi)
                rw [q] at k5 k6
                exact ⟨k4, k5, k6⟩
            refine ⟨P, hext, fun i y hy => ?_, c1, c2, by omega, by omega, c5⟩
            cases i with
            | zero =>
              simp at hy
              subst hy
              rw [Nat.add_zero]
              refine ⟨hal, fun _ => ?_⟩
              rw [hext.1 at_ (Nat.le_refl _), he]
              refine ⟨by omega, by omega, hd.1, fun t ht => ?_⟩
              obtain ⟨m, rfl, _, _⟩ := hw t ht
              obtain ⟨k1, k2, k3⟩ := m3 m ht
              obtain ⟨k4, k5, k6⟩ := e2 m k1
              exact ⟨k4, by rw [k5, k2], Int.le_trans k3 k6⟩
            | succ i =>
              have := b i y (by simpa using hy)
              rw [show at_ + (i + 1) = at_ + 1 + i by omega]
              exact this
theorem rest_bds (n : Nat) (fs : List Bd.Cost) (hf : fs.all Bd.mayBe = true) : ∀ (r : List (Int × Int)) (at_ : Int) (s : Bd.St) (c : Bd.Cost), Bd.rest n fs r at_ s = (c, 0, 0) → Bd.Ok n s → c.need ≤ 32 ∧ c.peak ≤ 32 ∧ 0 ≤ c.steps ∧ c.steps ≤ 4096 ∧ c.delta ≤ 32 := by
  intro r
  induction r with
  | nil =>
    intro at_ s c h hs
    unfold Bd.rest at h
    simp at h
    have hp := Bd.pat_bd hs at_
    unfold Bd.okP at hp
    have h1 := hs.need
    have h2 := hs.peak
    subst h
    exact ⟨h1.2, h2.2, hp.2.2.1, hp.2.2.2, hp.2.1⟩
  | cons x r ih =>
    intro at_ s c h hs
    unfold Bd.rest at h
    split at h
    · rename_i hne
      simp at h
      exact absurd h.2.2 hne
    · rename_i hz
      exact ih _ _ c h (Bd.look_ok hf hs (by omega))
theorem code_tab {l : List (Int × Int)} {fs : List Bd.Cost} {c : Bd.Cost} (h : Bd.code l fs = (c, 0, 0)) : ∃ P, Tab l.length fs l c P := by
  unfold Bd.code at h
  split at h
  · rename_i hf
    obtain ⟨P, ⟨e1, e2⟩, b, c1, c2, c3, c4, _⟩ := rest_sound l.length fs l 0 (Bd.start l.length) c h (by simp [Bd.start]) (by simp)
    obtain ⟨d1, d2, d3, d4, _⟩ := rest_bds l.length fs hf l 0 (Bd.start l.length) c h (Bd.start_ok _)
    refine ⟨P, ?_, fun i x hx => by have := b i x hx; rwa [Nat.zero_add] at this, c1, c2, c3, c4, d1, d2, d4⟩
    have := e1 0 (Nat.le_refl _)
    rw [show ((0 : Nat) : Int) = 0 from rfl] at this
    rw [this]
    exact ⟨rfl, rfl, rfl⟩
  · simp at h
def Eqv (s t : St) : Prop := s.ended = false ∧ ∃ X, t = { s with frames := X } ∧ settle X = settle s.frames
theorem Eqv.refl {s : St} (h : s.ended = false) : Eqv s s := ⟨h, s.frames, rfl, rfl⟩
theorem Eqv.trans {s t u : St} (h : Eqv s t) (k : Eqv t u) : Eqv s u := by
  obtain ⟨h1, X, rfl, hX⟩ := h
  obtain ⟨_, Y, rfl, hY⟩ := k
  exact ⟨h1, Y, rfl, hY.trans hX⟩
theorem next_eqv {s t : St} (h : Eqv s t) : next t = next s := by
  obtain ⟨h1, X, rfl, hX⟩ := h
  unfold next
  simp only [h1, hX]
  rfl
theorem step_eqv {s t : St} (h : Eqv s t) : Mc.step t = Mc.step s := by unfold Mc.step; rw [next_eqv h]
def Goes (k : Nat) (s t : St) : Prop := ∃ u, Mc.steps k s = (u, true) ∧ Eqv u t
theorem steps_add : ∀ (k j : Nat) (s u : St), Mc.steps k s = (u, true) → Mc.steps (k + j) s = Mc.steps j u
  | 0, j, s, u, h => by
    rw [Mc.steps] at h
    injection h with h1 _
    rw [h1, Nat.zero_add]
  | k + 1, j, s, u, h => by
    rw [show k + 1 + j = (k + j) + 1 by omega]
    rw [Mc.steps] at h ⊢
    rcases hs : Mc.step s with ⟨s', b⟩
    rw [hs] at h
    cases b with
    | true => exact steps_add k j s' u h
    | false => simp at h
theorem Goes.trans {k j : Nat} {s t v : St} (h : Goes k s t) (g : Goes j t v) : Goes (k + j) s v := by
  obtain ⟨u, h1, h2⟩ := h
  obtain ⟨x, g1, g2⟩ := g
  cases j with
  | zero =>
    rw [Mc.steps] at g1
    injection g1 with e _
    subst e
    exact ⟨u, h1, h2.trans g2⟩
  | succ j =>
    refine ⟨x, ?_, g2⟩
    rw [steps_add k (j + 1) s u h1, ← g1, Mc.steps, Mc.steps, step_eqv h2]
theorem Goes.eqv {k : Nat} {s t v : St} (h : Goes k s t) (g : Eqv t v) : Goes k s v := by
  obtain ⟨u, h1, h2⟩ := h
  exact ⟨u, h1, h2.trans g⟩
theorem Goes.one {s t : St} (h : Mc.step s = (t, true)) (he : t.ended = false) : Goes 1 s t := ⟨t, by rw [Mc.steps, h]; rfl, Eqv.refl he⟩
theorem cast_if {p : Prop} [Decidable p] (a b : Nat) : ((if p then a else b : Nat) : Int) = if p then (a : Int) else (b : Int) := by split <;> rfl
theorem takes_eq (op : Int) : (takes op : Int) = Bd.takes op := by unfold takes Bd.takes; simp only [cast_if]; rfl
theorem leaves_eq (op : Int) : (leaves op : Int) = Bd.leaves op := by unfold leaves Bd.leaves; simp only [cast_if]; rfl
theorem one_step {s : St} {l : List (Int × Int)} {at_ m : Nat} {r : List Fm} {x : Int × Int} (hfr : s.frames = ⟨l, at_, m⟩ :: r) (hen : s.ended = false) (hx : l[at_]? = some x)
    (h1 : 1 ≤ x.1 ∧ x.1 ≤ 39) (h2 : takes x.1 ≤ s.stack.length) (h3 : s.stack.length + leaves x.1 ≤ 32 + takes x.1) (h4 : (x.1 = 35 ∨ x.1 = 36) → 0 ≤ x.2 ∧ x.2 ≤ (l.length - 1 - at_ : Int)) (h5 : (x.1 = 37 ∨ x.1 = 38) → 0 ≤ x.2 ∧ x.2 < s.funcs.length ∧ r.length + 1 ≤ 20) :
    Mc.step s = ({ deed x.1 x.2 { s with frames := ⟨l, at_ + 1, m⟩ :: r, err := 0, ended := false } with steps := (deed x.1 x.2 { s with frames := ⟨l, at_ + 1, m⟩ :: r, err := 0, ended := false }).steps + 1, peak := max (deed x.1 x.2 { s with frames := ⟨l, at_ + 1, m⟩ :: r, err := 0, ended := false }).peak (deed x.1 x.2 { s with frames := ⟨l, at_ + 1, m⟩ :: r, err := 0, ended := false }).stack.length }, true) := by
  obtain ⟨hlt, hxx⟩ := List.getElem?_eq_some_iff.1 hx
  have hw : wrong { s with frames := ⟨l, at_, m⟩ :: r } x.1 x.2 (l.length - 1 - at_ : Int) = 0 := by
    unfold wrong
    rw [if_neg (by omega), if_neg (by simp only; omega), if_neg ?_, if_neg ?_]
    · rintro ⟨q, q1⟩
      have := h5 q
      simp only [List.length_cons] at q1
      omega
    · rintro ⟨q, q1⟩
      have := h4 q
      omega
  have hn : next s = ({ s with frames := ⟨l, at_, m⟩ :: r, err := 0, ended := decide ((0 : Int) ≠ 0) }, some x) := by
    rw [hen] at hw
    unfold next
    rw [hen]
    simp only [Bool.false_eq_true, if_false]
    rw [hfr, settle_at hlt]
    simp only
    rw [show l.getD at_ (0, 0) = x by rw [List.getD_eq_getElem?_getD, hx]; rfl, hw]
    simp only [if_true]
  unfold Mc.step
  rw [hn]
  rfl
structure Out (s t : St) (k : Nat) (X : List Fm) (top : Int) : Prop where
  fr : t.frames = X
  en : t.ended = false
  er : t.err = 0
  fu : t.funcs = s.funcs
  st : t.steps = s.steps + k
  pk : (t.peak : Int) ≤ max (s.peak : Int) top
theorem Out.trans {s t u : St} {k j : Nat} {X Y : List Fm} {a b c : Int} (h : Out s t k X a) (g : Out t u j Y b) (ha : a ≤ c) (hb : b ≤ c) : Out s u (k + j) Y c :=
  ⟨g.fr, g.en, g.er, g.fu.trans h.fu, by rw [g.st, h.st]; omega, by have h1 := h.pk; have h2 := g.pk; omega⟩
theorem Out.left {s t : St} {k : Nat} {X Y : List Fm} {a : Int} (h : Out s t k X a) (hs : settle Y = settle X) : Eqv t { t with frames := Y } ∧ Out s { t with frames := Y } k Y a :=
  ⟨⟨h.en, Y, rfl, by rw [h.fr, hs]⟩, rfl, h.en, h.er, h.fu, h.st, h.pk⟩
theorem effect_plain {fs : List Bd.Cost} {p : Bd.Place} {x : Int × Int} (h : ¬ (x.1 = 37 ∨ x.1 = 38)) : Bd.effect fs p x = ⟨Bd.takes x.1 - p.high, p.high - Bd.takes x.1 + Bd.leaves x.1, p.high - Bd.takes x.1 + Bd.leaves x.1, p.steps + 1⟩ := by
  unfold Bd.effect
  simp only
  rw [if_neg]
  simpa [Bd.calls] using h
theorem effect_call {fs : List Bd.Cost} {p : Bd.Place} {x : Int × Int} (h : x.1 = 37 ∨ x.1 = 38) : Bd.effect fs p x =
    ⟨max (Bd.takes x.1 - p.high) ((Bd.fn fs x.2).need - (p.high - Bd.takes x.1 + Bd.leaves x.1)), max (max (p.high - Bd.takes x.1 + Bd.leaves x.1) (p.high - Bd.takes x.1 + Bd.leaves x.1 + (Bd.fn fs x.2).peak)) (p.high - Bd.takes x.1 + Bd.leaves x.1 + (Bd.fn fs x.2).delta), p.high - Bd.takes x.1 + Bd.leaves x.1 + (Bd.fn fs x.2).delta, p.steps + 1 + (if x.1 = 38 then 16 else 1) * (Bd.fn fs x.2).steps⟩ := by
  unfold Bd.effect
  simp only
  rw [if_pos]
  simpa [Bd.calls] using h
theorem always_ok {n nf at_ : Int} {x : Int × Int} (h : Bd.always n nf at_ x = 0) : (1 ≤ x.1 ∧ x.1 ≤ 39) ∧ ((x.1 = 35 ∨ x.1 = 36) → 0 ≤ x.2 ∧ x.2 ≤ n - 1 - at_) ∧ ((x.1 = 37 ∨ x.1 = 38) → 0 ≤ x.2 ∧ x.2 < nf) := by
  unfold Bd.always at h
  split at h
  · simp at h
  · rename_i h1
    split at h
    · simp at h
    · rename_i h2
      split at h
      · simp at h
      · rename_i h3
        refine ⟨Classical.not_not.1 h1, fun q => ?_, fun q => ?_⟩
        · have : Bd.jumps x.1 = true := by simpa [Bd.jumps] using q
          exact Classical.not_not.1 fun hh => h2 ⟨this, hh⟩
        · have : Bd.calls x.1 = true := by simpa [Bd.calls] using q
          exact Classical.not_not.1 fun hh => h3 ⟨this, hh⟩
theorem code_bds {l : List (Int × Int)} {fs : List Bd.Cost} {c : Bd.Cost} (h : Bd.code l fs = (c, 0, 0)) : 0 ≤ c.steps := by
  unfold Bd.code at h
  split at h
  · rename_i hf
    exact (rest_bds l.length fs hf l 0 (Bd.start l.length) c h (Bd.start_ok _)).2.2.1
  · simp at h
theorem next_end {s : St} (h : s.ended = false) (h2 : settle s.frames = []) : next s = ({ s with frames := [], ended := true }, none) := by
  unfold next
  rw [h, h2]
  rfl
end Hd
end Go.Proofs.YtnhebmgibiomnaaGreat

/- Parts of the proof, joined: RefLaw. -/
import Derived.Test.YtnhebmgibiomnaaGreatPc0
set_option linter.unusedVariables false
set_option linter.unusedSimpArgs false
namespace Go.Proofs.YtnhebmgibiomnaaGreat
namespace Bd
def one (at_ : Int) (x : Int × Int) : Int := if x.1 = 35 then at_ + 1 + x.2 else at_ + 1
def two (at_ : Int) (x : Int × Int) : Int := if x.1 = 35 ∨ x.1 = 36 then at_ + 1 + x.2 else at_ + 1
theorem mark_twice (e : Eff) (pl : List Place) (t : Int) : mark e (mark e pl t) t = mark e pl t := by
  unfold mark
  by_cases h : t.toNat < pl.length
  · have hp : (pat (pl.set t.toNat ⟨true, e.high, max (pat pl t).steps e.steps⟩) t).steps = max (pat pl t).steps e.steps := by
      simp [pat, h]
    rw [hp, List.set_set]
    congr 2
    omega
  · rw [List.set_eq_of_length_le (by simp; omega)]
theorem ways_fold (e : Eff) (pl : List Place) (at_ : Int) (x : Int × Int) : (ways at_ x).foldl (mark e) pl = mark e (mark e pl (one at_ x)) (two at_ x) := by
  unfold ways one two jumps
  by_cases h1 : x.1 = 35
  · simp [h1, mark_twice]
  · by_cases h2 : x.1 = 36
    · simp [h2]
    · have h3 : (x.1 == 35) = false := by simpa using h1
      have h4 : (x.1 == 36) = false := by simpa using h2
      simp [h1, h2, h3, h4, mark_twice]
theorem ways_all (f : Int → Bool) (at_ : Int) (x : Int × Int) : (ways at_ x).all f = (f (one at_ x) && f (two at_ x)) := by
  unfold ways one two jumps
  by_cases h1 : x.1 = 35
  · simp [h1]
  · by_cases h2 : x.1 = 36
    · simp [h2]
    · have h3 : (x.1 == 35) = false := by simpa using h1
      have h4 : (x.1 == 36) = false := by simpa using h2
      simp [h1, h2, h3, h4]
theorem ways_bd {n nf at_ : Int} {x : Int × Int} (h : always n nf at_ x = 0) (h0 : 0 ≤ at_) (h1 : at_ < n) : 0 ≤ one at_ x ∧ one at_ x ≤ n ∧ 0 ≤ two at_ x ∧ two at_ x ≤ n := by
  have hj : jumps x.1 = true → 0 ≤ x.2 ∧ x.2 ≤ n - 1 - at_ := by
    intro hj
    unfold always at h
    split at h
    · simp at h
    · split at h
      · simp at h
      · rename_i h2; simp [hj] at h2; omega
  unfold jumps at hj
  unfold one two
  by_cases h2 : x.1 = 35
  · simp [h2] at hj ⊢; omega
  · by_cases h3 : x.1 = 36
    · simp [h3] at hj ⊢; omega
    · simp [h2, h3]; omega
theorem calls_bd {n nf at_ : Int} {x : Int × Int} (h : always n nf at_ x = 0) (hc : calls x.1 = true) : 0 ≤ x.2 ∧ x.2 < nf := by
  unfold always at h
  split at h
  · simp at h
  · split at h
    · simp at h
    · split at h
      · simp at h
      · rename_i h2; simp [hc] at h2; omega
theorem reached_eq (fs : List Cost) (pl : List Place) (need peak at_ : Int) (x : Int × Int) (e : Eff) :
    reached fs pl need peak at_ x e = if (x.1 = 38 ∧ (fn fs x.2).delta ≠ 0) ∨ need > 32 ∨ peak > 32 ∨ agree1 pl e.high (one at_ x) = false ∨ agree1 pl e.high (two at_ x) = false then 51 else if e.steps > 4096 then 53 else 0 := by
  unfold reached agrees
  rw [ways_all]
  by_cases h1 : x.1 = 38 ∧ (fn fs x.2).delta ≠ 0
  · rw [if_pos h1, if_pos (.inl h1)]
  · rw [if_neg h1]
    by_cases h2 : need ≤ 32 ∧ peak ≤ 32
    · rw [if_neg (by simpa using h2)]
      cases h3 : agree1 pl e.high (one at_ x) <;> cases h4 : agree1 pl e.high (two at_ x)
      · simp
      · simp
      · simp
      · have h5 : ¬ ((x.1 = 38 ∧ (fn fs x.2).delta ≠ 0) ∨ need > 32 ∨ peak > 32 ∨ true = false ∨ true = false) := by simp; exact ⟨by simpa using h1, by omega, by omega⟩
        rw [if_neg h5]
        by_cases h6 : e.steps ≤ 4096
        · simp [h6]
        · simp [h6]
    · rw [if_pos (by simpa using h2), if_pos (by omega)]
theorem mark_map {β : Type} (f : Place → β) (e : Eff) (pl : List Place) (t : Int) : (mark e pl t).map f = (pl.map f).set t.toNat (f ⟨true, e.high, max (pat pl t).steps e.steps⟩) := by
  simp [mark, List.map_set]
theorem look_ref (n : Int) (fs : List Cost) (s : St) (at_ : Int) (x : Int × Int) (hal : always n fs.length at_ x = 0) (hk : (pat s.pl at_).known = true) (ev : Eff) (hev : ev = effect fs (pat s.pl at_) x) (bad : Bool)
    (hbad : bad = ((x.1 == 38 && (fn fs x.2).delta != 0) || decide (32 < max s.need ev.need) || decide (32 < max s.peak ev.peak) || ((pat s.pl (one at_ x)).known && (pat s.pl (one at_ x)).high != ev.high) || ((pat s.pl (two at_ x)).known && (pat s.pl (two at_ x)).high != ev.high))) :
    look n fs s at_ x = if bad = true then (51, ⟨s.pl, max s.need ev.need, max s.peak ev.peak⟩) else if 4096 < ev.steps then (53, ⟨s.pl, max s.need ev.need, max s.peak ev.peak⟩) else (0, ⟨mark ev (mark ev s.pl (one at_ x)) (two at_ x), max s.need ev.need, max s.peak ev.peak⟩) := by
  have hr : reached fs s.pl (max s.need ev.need) (max s.peak ev.peak) at_ x ev = if bad = true then 51 else if 4096 < ev.steps then 53 else 0 := by
    rw [reached_eq]
    have hb : bad = true ↔ (x.1 = 38 ∧ (fn fs x.2).delta ≠ 0) ∨ max s.need ev.need > 32 ∨ max s.peak ev.peak > 32 ∨ agree1 s.pl ev.high (one at_ x) = false ∨ agree1 s.pl ev.high (two at_ x) = false := by
      rw [hbad]
      simp only [agree1, Bool.or_eq_true, Bool.and_eq_true, beq_iff_eq, bne_iff_ne, decide_eq_true_eq, Bool.not_eq_eq_eq_not, Bool.not_false, gt_iff_lt, or_assoc]
    by_cases h : bad = true
    · rw [if_pos (hb.1 h), if_pos h]
    · rw [if_neg (fun q => h (hb.2 q)), if_neg h]
  unfold look
  rw [if_neg (by simpa using hal), if_neg (by rw [hk]; simp)]
  simp only
  rw [← hev, hr, ways_fold]
  by_cases h : bad = true
  · simp [h]
  · rw [if_neg h]
    by_cases h2 : 4096 < ev.steps
    · simp [h2, h]
    · simp [h2, h]
theorem mark_pat_same (e : Eff) (pl : List Place) (t : Nat) (h : t < pl.length) : (pat (mark e pl t) t).steps = max (pat pl t).steps e.steps := by simp [mark, pat, h]
theorem mark_pat_other (e : Eff) (pl : List Place) (t u : Nat) (h : t ≠ u) : pat (mark e pl t) u = pat pl u := by simp [mark, pat, h]
end Bd
end Go.Proofs.YtnhebmgibiomnaaGreat

/- Code without jumps and calls, as a plain law of Bd.code. -/
import Derived.Test.YtgklchhgpnoliaaBoundSpec
namespace Go.Proofs.Ytgklchhgpnoliaa
namespace Bd

structure Sum where
  need : Int
  high : Int
  peak : Int

def stp (s : Sum) (x : Int × Int) : Sum := ⟨max s.need (takes x.1 - s.high), s.high - takes x.1 + leaves x.1, max s.peak (s.high - takes x.1 + leaves x.1)⟩
def good (x : Int × Int) : Prop := 1 ≤ x.1 ∧ x.1 ≤ 39 ∧ x.1 ≠ 35 ∧ x.1 ≠ 36 ∧ x.1 ≠ 37 ∧ x.1 ≠ 38
def sums (l : List (Int × Int)) : Sum := l.foldl stp ⟨0, 0, 0⟩

theorem stp_mono (l : List (Int × Int)) : ∀ s : Sum, s.need ≤ (l.foldl stp s).need ∧ s.peak ≤ (l.foldl stp s).peak := by
  induction l with
  | nil => intro s; simp
  | cons x r ih =>
    intro s
    have h := ih (stp s x)
    rw [List.foldl_cons]
    unfold stp at h ⊢
    simp only at h ⊢
    omega

theorem pat_set_eq (pl : List Place) (t : Int) (p : Place) (h : t.toNat < pl.length) : pat (pl.set t.toNat p) t = p := by
  unfold pat
  rw [List.getD_eq_getElem?_getD, List.getElem?_set_self h]; rfl
theorem pat_set_ne (pl : List Place) (t u : Int) (p : Place) (h : t.toNat ≠ u.toNat) : pat (pl.set t.toNat p) u = pat pl u := by
  unfold pat
  rw [List.getD_eq_getElem?_getD, List.getElem?_set_ne h, List.getD_eq_getElem?_getD]

theorem look_good (n : Int) (s : St) (at_ : Int) (x : Int × Int) (hx : good x) (h : Int) (h0 : 0 ≤ at_) (hp : pat s.pl at_ = ⟨true, h, at_⟩) (hq : pat s.pl (at_ + 1) = ⟨false, 0, 0⟩) (hs : at_ + 1 ≤ 4096) :
    look n [] s at_ x = if max s.need (takes x.1 - h) ≤ 32 ∧ max s.peak (h - takes x.1 + leaves x.1) ≤ 32 then (0, ⟨s.pl.set (at_ + 1).toNat ⟨true, h - takes x.1 + leaves x.1, at_ + 1⟩, max s.need (takes x.1 - h), max s.peak (h - takes x.1 + leaves x.1)⟩) else (51, ⟨s.pl, max s.need (takes x.1 - h), max s.peak (h - takes x.1 + leaves x.1)⟩) := by
  obtain ⟨g1, g2, g3, g4, g5, g6⟩ := hx
  have j : jumps x.1 = false := by simp [jumps, g3, g4]
  have c : calls x.1 = false := by simp [calls, g5, g6]
  have a : always n (([] : List Cost).length) at_ x = 0 := by unfold always; rw [if_neg (by simp; omega), j, c]; simp
  have e : effect [] ⟨true, h, at_⟩ x = ⟨takes x.1 - h, h - takes x.1 + leaves x.1, h - takes x.1 + leaves x.1, at_ + 1⟩ := by unfold effect; simp [c]
  have w : ways at_ x = [at_ + 1] := by unfold ways; simp [j, g3]
  have r : ∀ need peak, reached [] s.pl need peak at_ x ⟨takes x.1 - h, h - takes x.1 + leaves x.1, h - takes x.1 + leaves x.1, at_ + 1⟩ = if need ≤ 32 ∧ peak ≤ 32 then 0 else 51 := by
    intro need peak
    unfold reached
    rw [if_neg (by simp [g6])]
    by_cases hh : need ≤ 32 ∧ peak ≤ 32
    · rw [if_neg (by simpa using hh), if_neg (by simp [agrees, w, agree1, hq]), if_neg (by simpa using hs), if_pos hh]
    · rw [if_pos hh, if_neg hh]
  unfold look
  rw [a, if_neg (by simp), hp, if_neg (by simp), e]
  simp only [r, w]
  by_cases hh : max s.need (takes x.1 - h) ≤ 32 ∧ max s.peak (h - takes x.1 + leaves x.1) ≤ 32
  · rw [if_pos hh, if_pos hh, if_neg (by simp)]
    have hm : max 0 (at_ + 1) = at_ + 1 := by omega
    simp [mark, hq, hm]
  · rw [if_neg hh, if_neg hh, if_pos (by simp)]

theorem rest_good (n : Nat) : ∀ (r : List (Int × Int)) (at_ : Int) (s : St) (h : Int), (∀ x ∈ r, good x) → 0 ≤ at_ → at_ + r.length = n → (n : Int) ≤ 4096 → s.pl.length = n + 1 → pat s.pl at_ = ⟨true, h, at_⟩ → (∀ t, at_ < t → pat s.pl t = ⟨false, 0, 0⟩) → s.need ≤ 32 → s.peak ≤ 32 →
    (((r.foldl stp ⟨s.need, h, s.peak⟩).need ≤ 32 ∧ (r.foldl stp ⟨s.need, h, s.peak⟩).peak ≤ 32) → rest n [] r at_ s = (⟨(r.foldl stp ⟨s.need, h, s.peak⟩).need, (r.foldl stp ⟨s.need, h, s.peak⟩).high, (r.foldl stp ⟨s.need, h, s.peak⟩).peak, n⟩, 0, 0)) ∧
    (¬ ((r.foldl stp ⟨s.need, h, s.peak⟩).need ≤ 32 ∧ (r.foldl stp ⟨s.need, h, s.peak⟩).peak ≤ 32) → ∃ i, at_ ≤ i ∧ i < n ∧ rest n [] r at_ s = (⟨0, 0, 0, 0⟩, i, 51)) := by
  intro r
  induction r with
  | nil =>
    intro at_ s h _ h0 hn hN hl hp hq h1 h2
    refine ⟨fun _ => ?_, fun hh => absurd ⟨h1, h2⟩ hh⟩
    simp at hn
    subst hn
    simp [rest, hp]
  | cons x r ih =>
    intro at_ s h hg h0 hn hN hl hp hq h1 h2
    simp only [List.length_cons] at hn
    have L := look_good n s at_ x (hg x (by simp)) h h0 hp (hq _ (by omega)) (by omega)
    have M := stp_mono r (stp ⟨s.need, h, s.peak⟩ x)
    rw [List.foldl_cons]
    unfold rest
    rw [L]
    by_cases hh : max s.need (takes x.1 - h) ≤ 32 ∧ max s.peak (h - takes x.1 + leaves x.1) ≤ 32
    · rw [if_pos hh, if_neg (by simp)]
      have I := ih (at_ + 1) ⟨s.pl.set (at_ + 1).toNat ⟨true, h - takes x.1 + leaves x.1, at_ + 1⟩, max s.need (takes x.1 - h), max s.peak (h - takes x.1 + leaves x.1)⟩ (h - takes x.1 + leaves x.1) (fun y hy => hg y (by simp [hy])) (by omega) (by omega) hN (by simpa using hl)
        (pat_set_eq _ _ _ (by omega)) (fun t ht => by simp only; rw [pat_set_ne _ _ _ _ (by omega)]; exact hq t (by omega)) hh.1 hh.2
      refine ⟨I.1, fun k => ?_⟩
      obtain ⟨i, i1, i2, i3⟩ := I.2 k
      exact ⟨i, by omega, i2, i3⟩
    · rw [if_neg hh, if_pos (by simp)]
      exact ⟨fun k => absurd ⟨Int.le_trans M.1 k.1, Int.le_trans M.2 k.2⟩ hh, fun _ => ⟨at_, by omega, by omega, rfl⟩⟩

theorem code_good (l : List (Int × Int)) (hg : ∀ x ∈ l, good x) (hn : l.length ≤ 4096) :
    (((sums l).need ≤ 32 ∧ (sums l).peak ≤ 32) → code l [] = (⟨(sums l).need, (sums l).high, (sums l).peak, l.length⟩, 0, 0)) ∧
    (¬ ((sums l).need ≤ 32 ∧ (sums l).peak ≤ 32) → ∃ i : Int, 0 ≤ i ∧ i < l.length ∧ code l [] = (⟨0, 0, 0, 0⟩, i, 51)) := by
  have hc : code l [] = rest l.length [] l 0 (start l.length) := by unfold code; simp
  rw [hc]
  refine rest_good l.length l 0 (start l.length) 0 hg (by omega) (by omega) (by omega) (by simp [start]) (by simp [start, pat]) ?_ (by simp [start]) (by simp [start])
  intro t ht
  unfold pat start
  obtain ⟨m, hm⟩ : ∃ m, t.toNat = m + 1 := ⟨t.toNat - 1, by omega⟩
  rw [hm, List.getD_eq_getElem?_getD, List.getElem?_cons_succ, List.getElem?_replicate]
  split <;> rfl

theorem stp_bd (s : Sum) (x : Int × Int) (k : Int) (h : 0 ≤ s.need ∧ s.need ≤ 2 * k ∧ 0 ≤ s.peak ∧ s.peak ≤ 2 * k ∧ -(2 * k) ≤ s.high ∧ s.high ≤ 2 * k) :
    0 ≤ (stp s x).need ∧ (stp s x).need ≤ 2 * (k + 1) ∧ 0 ≤ (stp s x).peak ∧ (stp s x).peak ≤ 2 * (k + 1) ∧ -(2 * (k + 1)) ≤ (stp s x).high ∧ (stp s x).high ≤ 2 * (k + 1) := by
  have := takes_bd x.1
  have := leaves_bd x.1
  unfold stp
  simp only
  omega
end Bd
end Go.Proofs.Ytgklchhgpnoliaa

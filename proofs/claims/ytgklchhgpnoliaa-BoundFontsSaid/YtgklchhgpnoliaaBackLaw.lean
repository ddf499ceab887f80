/- One jump among pops; one call among functions that do nothing: plain laws of Bd.code and Bd.funcs. -/
import Derived.Test.YtgklchhgpnoliaaStraight
import Derived.Test.YtgklchhgpnoliaaBoundSpecB
namespace Go.Proofs.Ytgklchhgpnoliaa
namespace Bd

/-- pops so far: the place at_ is reached with k values less than at first, behind st steps; none behind it is reached yet -/
structure Down (n : Nat) (at_ k st : Int) (s : St) : Prop where
  len : s.pl.length = n + 1
  here : pat s.pl at_ = ⟨true, -k, st⟩
  far : ∀ t, at_ < t → pat s.pl t = ⟨false, 0, 0⟩
  need : s.need = k
  peak : s.peak = 0

theorem pop_step {n : Nat} {at_ k st : Int} {s : St} (h : Down n at_ k st s) (h0 : 0 ≤ at_) (h1 : at_ < n) (hk : 0 ≤ k) (hk1 : k + 1 ≤ 32) (hs : 0 ≤ st) (hs1 : st + 1 ≤ 4096) :
    ∃ s', look n [] s at_ (2, 0) = (0, s') ∧ Down n (at_ + 1) (k + 1) (st + 1) s' := by
  have a : always n (([] : List Cost).length) at_ (2, 0) = 0 := by simp [always, jumps, calls]
  have q := h.far (at_ + 1) (by omega)
  refine ⟨⟨s.pl.set (at_ + 1).toNat ⟨true, -(k + 1), st + 1⟩, k + 1, 0⟩, ?_, ?_⟩
  · have e : effect [] ⟨true, -k, st⟩ (2, 0) = ⟨1 + k, -(k + 1), -(k + 1), st + 1⟩ := by simp [effect, calls, takes, leaves]; omega
    have w : ways at_ (2, 0) = [at_ + 1] := by simp [ways, jumps]
    have m1 : max k (1 + k) = k + 1 := by omega
    have m2 : max (0 : Int) (-(k + 1)) = 0 := by omega
    have m3 : max 0 (st + 1) = st + 1 := by omega
    unfold look
    rw [a, if_neg (by simp), h.here, if_neg (by simp), e]
    simp only [h.need, h.peak, m1, m2, w]
    have r : reached [] s.pl (k + 1) 0 at_ (2, 0) ⟨1 + k, -(k + 1), -(k + 1), st + 1⟩ = 0 := by
      unfold reached
      rw [if_neg (by simp), if_neg (by simp; omega), if_neg (by simp [agrees, w, agree1, q]), if_neg (by simp; omega)]
    rw [r, if_neg (by simp)]
    simp [mark, q, m3]
  · refine ⟨by simpa using h.len, pat_set_eq _ _ _ (by have := h.len; omega), fun t ht => ?_, rfl, rfl⟩
    simp only
    rw [pat_set_ne _ _ _ _ (by omega)]
    exact h.far t (by omega)

theorem pops_run {n : Nat} (r : List (Int × Int)) : ∀ (m : Nat) {at_ k st : Int} {s : St}, Down n at_ k st s → 0 ≤ at_ → at_ + m ≤ n → 0 ≤ k → k + m ≤ 32 → 0 ≤ st → st + m ≤ 4096 →
    ∃ s', rest n [] (List.replicate m (2, 0) ++ r) at_ s = rest n [] r (at_ + m) s' ∧ Down n (at_ + m) (k + m) (st + m) s' := by
  intro m
  induction m with
  | zero => intro at_ k st s h _ _ _ _ _ _; exact ⟨s, by simp, by simpa using h⟩
  | succ m ih =>
    intro at_ k st s h h0 h1 hk hk1 hs hs1
    obtain ⟨s1, e1, d1⟩ := pop_step h h0 (by omega) hk (by omega) hs (by omega)
    obtain ⟨s2, e2, d2⟩ := ih d1 (by omega) (by omega) (by omega) (by omega) (by omega) (by omega)
    have c : ((m + 1 : Nat) : Int) = 1 + m := by omega
    refine ⟨s2, ?_, ?_⟩
    · rw [List.replicate_succ, List.cons_append, rest, e1]
      simp only [ne_eq, not_true_eq_false, if_false]
      rw [e2, c, Int.add_assoc]
    · rw [c, ← Int.add_assoc, ← Int.add_assoc, ← Int.add_assoc]; exact d2

theorem skip_run {n : Nat} (r : List (Int × Int)) (s : St) : ∀ (m : Nat) (at_ : Int), (∀ t, at_ ≤ t → t < at_ + m → pat s.pl t = ⟨false, 0, 0⟩) → rest n [] (List.replicate m (2, 0) ++ r) at_ s = rest n [] r (at_ + m) s := by
  intro m
  induction m with
  | zero => intro at_ _; simp
  | succ m ih =>
    intro at_ h
    have a : always n (([] : List Cost).length) at_ (2, 0) = 0 := by simp [always, jumps, calls]
    have e : look n [] s at_ (2, 0) = (0, s) := by unfold look; rw [a, if_neg (by simp), h at_ (by omega) (by omega)]; simp
    have c : ((m + 1 : Nat) : Int) = 1 + m := by omega
    rw [List.replicate_succ, List.cons_append, rest, e]
    simp only [ne_eq, not_true_eq_false, if_false]
    rw [ih (at_ + 1) (fun t h1 h2 => h t (by omega) (by omega)), c, Int.add_assoc]

theorem jump_step {n : Nat} {at_ k st far : Int} {s : St} (h : Down n at_ k st s) (h0 : 0 ≤ at_) (hf : 0 ≤ far) (h1 : far ≤ n - 1 - at_) (hk : 0 ≤ k) (hk1 : k ≤ 32) (hs : 0 ≤ st) (hs1 : st + 1 ≤ 4096) :
    ∃ s', look n [] s at_ (35, far) = (0, s') ∧ Down n (at_ + 1 + far) k (st + 1) s' ∧ ∀ t, at_ < t → t < at_ + 1 + far → pat s'.pl t = ⟨false, 0, 0⟩ := by
  have a : always n (([] : List Cost).length) at_ (35, far) = 0 := by simp [always, jumps, calls]; omega
  have q := h.far (at_ + 1 + far) (by omega)
  refine ⟨⟨s.pl.set (at_ + 1 + far).toNat ⟨true, -k, st + 1⟩, k, 0⟩, ?_, ?_, ?_⟩
  · have e : effect [] ⟨true, -k, st⟩ (35, far) = ⟨k, -k, -k, st + 1⟩ := by simp [effect, calls, takes, leaves]
    have w : ways at_ (35, far) = [at_ + 1 + far] := by simp [ways, jumps]
    have m1 : max k k = k := by omega
    have m2 : max (0 : Int) (-k) = 0 := by omega
    have m3 : max 0 (st + 1) = st + 1 := by omega
    unfold look
    rw [a, if_neg (by simp), h.here, if_neg (by simp), e]
    simp only [h.need, h.peak, m1, m2, w]
    have r : reached [] s.pl k 0 at_ (35, far) ⟨k, -k, -k, st + 1⟩ = 0 := by
      unfold reached
      rw [if_neg (by simp), if_neg (by simp; omega), if_neg (by simp [agrees, w, agree1, q]), if_neg (by simp; omega)]
    rw [r, if_neg (by simp)]
    simp [mark, q, m3]
  · refine ⟨by simpa using h.len, pat_set_eq _ _ _ (by have := h.len; omega), fun t ht => ?_, rfl, rfl⟩
    simp only
    rw [pat_set_ne _ _ _ _ (by omega)]
    exact h.far t (by omega)
  · intro t h1 h2
    simp only
    rw [pat_set_ne _ _ _ _ (by omega)]
    exact h.far t (by omega)

def backCode (n at_ : Nat) (far : Int) : List (Int × Int) := List.replicate at_ (2, 0) ++ (35, far) :: List.replicate (n - at_) (2, 0)

theorem start_down (n : Nat) : Down n 0 0 0 (start n) := by
  refine ⟨by simp [start], by simp [start, pat], fun t ht => ?_, rfl, rfl⟩
  unfold pat start
  obtain ⟨m, hm⟩ : ∃ m, t.toNat = m + 1 := ⟨t.toNat - 1, by omega⟩
  rw [hm, List.getD_eq_getElem?_getD, List.getElem?_cons_succ, List.getElem?_replicate]
  split <;> rfl

theorem code_back (n at_ : Nat) (far : Int) (hn : n ≤ 30) (ha : at_ ≤ n) :
    ((0 ≤ far ∧ far ≤ n - at_) → code (backCode n at_ far) [] = ((⟨(n : Int) - far, far - (n : Int), 0, (n : Int) + 1 - far⟩ : Cost), (0 : Int), (0 : Int))) ∧
    (¬ (0 ≤ far ∧ far ≤ n - at_) → code (backCode n at_ far) [] = (⟨0, 0, 0, 0⟩, (at_ : Int), 52)) := by
  have hl : (backCode n at_ far).length = n + 1 := by simp [backCode]; omega
  have hc : code (backCode n at_ far) [] = rest (n + 1 : Nat) [] (backCode n at_ far) 0 (start (n + 1)) := by unfold code; simp [hl]
  rw [hc]
  unfold backCode
  obtain ⟨s1, e1, d1⟩ := pops_run (n := n + 1) ((35, far) :: List.replicate (n - at_) (2, 0)) at_ (start_down (n + 1)) (by omega) (by omega) (by omega) (by omega) (by omega) (by omega)
  rw [e1]
  simp only [Int.zero_add] at d1 ⊢
  refine ⟨fun ⟨h1, h2⟩ => ?_, fun h => ?_⟩
  · obtain ⟨s2, e2, d2, q2⟩ := jump_step (far := far) d1 (by omega) h1 (by omega) (by omega) (by omega) (by omega) (by omega)
    rw [rest, e2]
    simp only [ne_eq, not_true_eq_false, if_false]
    obtain ⟨f, rfl⟩ : ∃ f : Nat, far = f := ⟨far.toNat, by omega⟩
    have hsp : List.replicate (n - at_) ((2 : Int), (0 : Int)) = List.replicate f (2, 0) ++ (List.replicate (n - at_ - f) (2, 0) ++ []) := by
      rw [List.append_nil, List.replicate_append_replicate]; congr 1; omega
    rw [hsp, skip_run _ _ _ _ (fun t h3 h4 => q2 t (by omega) h4)]
    obtain ⟨s3, e3, d3⟩ := pops_run (n := n + 1) [] (n - at_ - f) d2 (by omega) (by omega) (by omega) (by omega) (by omega) (by omega)
    rw [e3, rest, d3.here, d3.need, d3.peak]
    have c : ((n - at_ - f : Nat) : Int) = n - at_ - f := by omega
    rw [c]
    simp only [Prod.mk.injEq, Cost.mk.injEq, and_true, true_and]
    omega
  · have a : always (n + 1 : Nat) (([] : List Cost).length) at_ (35, far) = 52 := by
      unfold always
      rw [if_neg (by simp), if_pos ⟨by simp [jumps], by simp only; omega⟩]
    have e : look (n + 1 : Nat) [] s1 at_ (35, far) = (52, s1) := by unfold look; rw [a]; simp
    rw [rest, e]
    simp

theorem code_nil {cs : List Cost} (h : cs.all mayBe = true) : code [] cs = (⟨0, 0, 0, 0⟩, 0, 0) := by
  unfold code
  rw [if_pos h]
  rfl
theorem funcsGo_nils (r : List (List (Int × Int))) : ∀ (m : Nat) (i : Int) (cs : List Cost), cs.all mayBe = true → funcsGo (List.replicate m [] ++ r) i cs = funcsGo r (i + m) (cs ++ List.replicate m ⟨0, 0, 0, 0⟩) := by
  intro m
  induction m with
  | zero => intro i cs _; simp
  | succ m ih =>
    intro i cs h
    rw [List.replicate_succ, List.cons_append, funcsGo, code_nil h]
    simp only [ne_eq, not_true_eq_false, if_false]
    rw [ih (i + 1) _ (by simp only [List.all_append, h, Bool.true_and]; rfl), List.append_assoc, List.replicate_succ]
    rw [show i + 1 + (m : Int) = i + ((m + 1 : Nat) : Int) by omega]
    rfl

theorem funcs_back (calls_ by_ : Nat) (a : Int) (hc : calls_ ≤ 20) (hb : by_ < calls_) (ha : 0 ≤ a) :
    (a < by_ → (funcs ((List.replicate calls_ []).set by_ [(37, a)])).2.2 = 0) ∧ (¬ a < by_ → funcs ((List.replicate calls_ []).set by_ [(37, a)]) = ([], (by_ : Int), 54)) := by
  have hl : (List.replicate calls_ ([] : List (Int × Int))).set by_ [(37, a)] = List.replicate by_ [] ++ [(37, a)] :: (List.replicate (calls_ - by_ - 1) [] ++ []) := by
    rw [List.append_nil]
    have e : List.replicate calls_ ([] : List (Int × Int)) = List.replicate by_ [] ++ [] :: List.replicate (calls_ - by_ - 1) [] := by
      rw [← List.replicate_succ, List.replicate_append_replicate]; congr 1; omega
    rw [e, List.set_append_right _ _ (by simp)]
    simp
  have hf : funcs ((List.replicate calls_ []).set by_ [(37, a)]) = funcsGo ([(37, a)] :: (List.replicate (calls_ - by_ - 1) [] ++ [])) by_ (List.replicate by_ ⟨0, 0, 0, 0⟩) := by
    unfold funcs
    rw [if_neg (by simp; omega), hl, funcsGo_nils _ _ _ _ rfl]
    simp
  have hall : (List.replicate by_ (⟨0, 0, 0, 0⟩ : Cost)).all mayBe = true := by
    rw [List.all_replicate]; split <;> rfl
  have hcode : code [(37, a)] (List.replicate by_ ⟨0, 0, 0, 0⟩) = rest 1 (List.replicate by_ ⟨0, 0, 0, 0⟩) [(37, a)] 0 (start 1) := by unfold code; rw [if_pos hall]; rfl
  rw [hf]
  refine ⟨fun h => ?_, fun h => ?_⟩
  · have hal : always 1 (List.replicate by_ (⟨0, 0, 0, 0⟩ : Cost)).length 0 (37, a) = 0 := by
      simp [always, jumps, calls]; omega
    have hfn : fn (List.replicate by_ ⟨0, 0, 0, 0⟩) a = ⟨0, 0, 0, 0⟩ := by
      unfold fn
      rw [List.getD_eq_getElem?_getD, List.getElem?_replicate, if_pos (by omega)]; rfl
    have he : effect (List.replicate by_ ⟨0, 0, 0, 0⟩) ⟨true, 0, 0⟩ (37, a) = ⟨0, 0, 0, 1⟩ := by
      simp [effect, calls, hfn, takes, leaves]
    have hlk : look 1 (List.replicate by_ ⟨0, 0, 0, 0⟩) (start 1) 0 (37, a) = (0, ⟨[⟨true, 0, 0⟩, ⟨true, 0, 1⟩], 0, 0⟩) := by
      unfold look
      rw [hal, if_neg (by simp), show pat (start 1).pl 0 = ⟨true, 0, 0⟩ from rfl, if_neg (by simp), he]
      simp [reached, start, agrees, ways, jumps, agree1, pat, mark]
      decide
    have hcd : code [(37, a)] (List.replicate by_ ⟨0, 0, 0, 0⟩) = (⟨0, 0, 0, 1⟩, 0, 0) := by
      rw [hcode, rest, hlk]
      simp [rest, pat]
    rw [funcsGo, hcd]
    simp only [ne_eq, not_true_eq_false, if_false]
    rw [funcsGo_nils _ _ _ _ (by rw [List.all_append, hall]; rfl)]
    rfl
  · have hal : always 1 (List.replicate by_ (⟨0, 0, 0, 0⟩ : Cost)).length 0 (37, a) = 54 := by
      simp [always, jumps, calls]; omega
    have hlk : look 1 (List.replicate by_ ⟨0, 0, 0, 0⟩) (start 1) 0 (37, a) = (54, start 1) := by
      unfold look
      rw [hal]; simp
    have hcd : code [(37, a)] (List.replicate by_ ⟨0, 0, 0, 0⟩) = (⟨0, 0, 0, 0⟩, 0, 54) := by
      rw [hcode, rest, hlk]
      simp
    rw [funcsGo, hcd]
    simp
end Bd
end Go.Proofs.Ytgklchhgpnoliaa

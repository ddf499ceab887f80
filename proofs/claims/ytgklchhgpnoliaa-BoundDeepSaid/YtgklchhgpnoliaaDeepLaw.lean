/- BoundDeep's plain law. -/
import Derived.Test.YtgklchhgpnoliaaBoundSpecB
namespace Go.Proofs.Ytgklchhgpnoliaa
namespace Bd
def deepLl (n f : Nat) : List (List (Int × Int)) := List.replicate f (34, 0) :: (List.range n).map fun (i : Nat) => [(1, 99), (38, (i : Int))]
def deepSt (f : Nat) : Nat → Int × Int
  | 0 => (f, -1)
  | k + 1 => (min (2 + 16 * (deepSt f k).1) 4097, if 2 + 16 * (deepSt f k).1 > 4096 ∧ (deepSt f k).2 < 0 then ((k : Int) + 1) else (deepSt f k).2)
theorem deepLl_succ (n f : Nat) : deepLl (n + 1) f = deepLl n f ++ [[(1, 99), (38, (n : Int))]] := by simp [deepLl, List.range_succ]
theorem deepLl_len (n f : Nat) : (deepLl n f).length = n + 1 := by simp [deepLl]
theorem deepLl_small (n f : Nat) (hf : f < 10) : ∀ l ∈ deepLl n f, l.length ≤ 1000000000000 := by
  intro l hl
  simp only [deepLl, List.mem_cons, List.mem_map] at hl
  rcases hl with rfl | ⟨i, _, rfl⟩
  · simp; omega
  · simp
theorem deepSt_bd (f k : Nat) (hf : f < 10) : 0 ≤ (deepSt f k).1 ∧ (deepSt f k).1 ≤ 4097 ∧ -1 ≤ (deepSt f k).2 ∧ (deepSt f k).2 ≤ k := by
  induction k with
  | zero => simp [deepSt]; omega
  | succ k ih =>
    obtain ⟨h1, h2, h3, h4⟩ := ih
    simp only [deepSt]
    refine ⟨by omega, by omega, ?_⟩
    split <;> omega
def deepCheck (n f : Nat) : Bool :=
  let r := funcs (deepLl n f)
  let s := deepSt f n
  if 0 ≤ s.2 then r.1.length == 0 && r.2.1 == s.2 && r.2.2 == 53
  else r.1.length == n + 1 && r.2.2 == 0 && (r.1.getD n ⟨0, 0, 0, 0⟩).steps == s.1 && (r.1.getD n ⟨0, 0, 0, 0⟩).delta == 0 && (r.1.getD n ⟨0, 0, 0, 0⟩).need == 0 && (((r.1.getD n ⟨0, 0, 0, 0⟩).peak == 1) == decide (1 ≤ n))
theorem deep_all : ∀ n < 20, ∀ f < 10, deepCheck n f = true := by decide +kernel
theorem deep_law (n f : Nat) (hn : n < 20) (hf : f < 10) :
    (0 ≤ (deepSt f n).2 ∧ funcs (deepLl n f) = ([], (deepSt f n).2, 53)) ∨
    ((deepSt f n).2 < 0 ∧ ∃ (cs : List Cost) (i : Int) (c : Cost), funcs (deepLl n f) = (cs, i, 0) ∧ cs.length = n + 1 ∧ cs[n]? = some c ∧ c.steps = (deepSt f n).1 ∧ c.delta = 0 ∧ c.need = 0 ∧ (c.peak == 1) = decide (1 ≤ n)) := by
  have h := deep_all n hn f hf
  unfold deepCheck at h
  simp only at h
  generalize funcs (deepLl n f) = r at *
  generalize deepSt f n = s at *
  obtain ⟨cs, i, e⟩ := r
  split at h
  · simp at h
    exact .inl ⟨by assumption, by obtain ⟨⟨rfl, h2⟩, h3⟩ := h; rw [← h2, h3]⟩
  · simp only [Bool.and_eq_true, beq_iff_eq] at h
    obtain ⟨⟨⟨⟨⟨h1, rfl⟩, h2⟩, h3⟩, h4⟩, h5⟩ := h
    have hc : cs[n]? = some (cs[n]'(by omega)) := List.getElem?_eq_getElem (by omega)
    have hd : cs.getD n ⟨0, 0, 0, 0⟩ = cs[n]'(by omega) := by rw [List.getD_eq_getElem?_getD, hc]; rfl
    rw [hd] at h2 h3 h4 h5
    exact .inr ⟨by omega, cs, i, _, rfl, h1, hc, h2, h3, h4, h5⟩
end Bd
end Go.Proofs.Ytgklchhgpnoliaa

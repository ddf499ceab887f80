/- Arguments that are arrays of numbers, opened. -/
import Derived.Test.YtoklllbaihccnaaMemo
import Derived.ProofKit
import Derived.OpenShut
import Derived.Deep.Slices
import Derived.ChangeSame
namespace Go.Proofs.Ytoklllbaihccnaa
open Go.ChangeShapes Go.WideShapes Go.ChangeAt Go.RowKit Go.Deep

theorem nums_of : ∀ (cs : List Value), (∀ i, i < cs.length → ∃ y : Int, cs[i]? = some (.int .i64 y) ∧ I64 y) → ∃ l : List Int, cs = l.map (Value.int .i64) ∧ ∀ y ∈ l, I64 y
  | [], _ => ⟨[], rfl, fun y hy => by simp at hy⟩
  | c :: r, h => by
    obtain ⟨y, hy, hb⟩ := h 0 (by simp)
    obtain ⟨l, h1, h2⟩ := nums_of r (fun i hi => by have := h (i + 1) (by simpa using hi); simpa using this)
    refine ⟨y :: l, ?_, fun z hz => ?_⟩
    · simp only [List.getElem?_cons_zero, Option.some.injEq] at hy
      rw [hy, h1]; rfl
    · simp only [List.mem_cons] at hz
      rcases hz with rfl | hz
      · exact hb
      · exact h2 z hz
section
variable {H : Type} {enc : TypeId × Value → H} {P : Program} {w : World} {spare : Nat → Bool} {held : Bool}
theorem okWide_array {base n : Nat} {r : Reach} {t e : TypeId} {v : Value} (ht : P.underlying t = some (.array n e)) (h : Value.okWide P w r base t v) : ∃ cs, v = .agg cs ∧ cs.size = P.cellsOf t := by
  simp only [Value.okWide, ht] at h
  obtain ⟨cs, h1, h2, _⟩ := h
  exact ⟨cs, h1, h2⟩
theorem open_nums {fuel n : Nat} {t e : TypeId} {cs : List Value} {x : DataW H × List MemPlace} (ht : P.underlying t = some (.array n e)) (he : P.underlying e = some (.int .i64)) (hce : P.cellsOf e = 1) (hct : P.cellsOf t = n) (h : DataW.trod enc P w 0 spare held fuel t cs = some x) :
    ∃ l : List Int, cs = l.map (Value.int .i64) ∧ l.length = n ∧ ∀ y ∈ l, I64 y := by
  obtain ⟨xs, m, _, _, hl, hn, hi⟩ := DataW.trod_array ht h
  rw [hct] at hl
  have key : ∀ i, i < n → ∃ y : Int, cs[i]? = some (.int .i64 y) ∧ I64 y := by
    intro i hin
    have h1 := hi i hin
    rw [List.getElem?_eq_getElem (by omega)] at h1
    rw [hce, Nat.mul_one] at h1
    have h2 : (cs.drop i).take 1 = [cs[i]'(by omega)] := by rw [List.drop_eq_getElem_cons (by omega)]; rfl
    rw [h2] at h1
    obtain ⟨y, h3, _, hw⟩ := DataW.trod_int he h1
    injection h3 with h3
    exact ⟨y, by rw [List.getElem?_eq_getElem (by omega), h3], bounds_i64 hw⟩
  obtain ⟨l, h1, h2⟩ := nums_of cs (fun i hi => key i (by omega))
  exact ⟨l, h1, by rw [← hl, h1]; simp, h2⟩
end
end Go.Proofs.Ytoklllbaihccnaa

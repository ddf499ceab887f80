/- How instructions, code and costs lie in memory. -/
import Derived.Test.YtgklchhgpnoliaaBoundQ
import Derived.Test.YtgklchhgpnoliaaRep
namespace Go.Proofs.Ytgklchhgpnoliaa
open Go.RowKit

def insR (N0 : Nat) : Repr N0 (Int × Int) := Repr.pair Repr.int Repr.int
def codeR (N0 : Nat) : Repr N0 (List (Int × Int)) := Repr.row 25 (insR N0)
theorem insR_mk (N0 : Nat) (w : World) (B : Nat) (op a : Int) (h1 : I64 op) (h2 : I64 a) : (insR N0).rel w B (op, a) [.int .i64 op, .int .i64 a] := ⟨[_], [_], rfl, ⟨rfl, h1⟩, rfl, h2⟩
theorem insR_eq {N0 : Nat} {w : World} {B : Nat} {x : Int × Int} {cs : List Value} (h : (insR N0).rel w B x cs) : cs = [.int .i64 x.1, .int .i64 x.2] := by
  obtain ⟨_, _, rfl, ⟨rfl, _⟩, rfl, _⟩ := h; rfl
theorem insR_i64 {N0 : Nat} {w : World} {B : Nat} {x : Int × Int} {cs : List Value} (h : (insR N0).rel w B x cs) : I64 x.1 ∧ I64 x.2 := by
  obtain ⟨_, _, rfl, ⟨rfl, h1⟩, rfl, h2⟩ := h; exact ⟨h1, h2⟩
theorem insCells_flat (l : List (Int × Int)) : insCells l = l.flatMap fun x => [.int .i64 x.1, .int .i64 x.2] := by
  induction l with
  | nil => rfl
  | cons x r ih => simp [insCells, ih]
theorem codeR_reads {N0 : Nat} {w : World} {B : Nat} {A : Option Addr} {l : List (Int × Int)} (h : RowAt (insR N0) 25 w B A l) : Reads w B 2 A l.length (insCells l) := by
  rw [insCells_flat]; exact h.reads _ fun a cs h => insR_eq h
/-- all its numbers are such as an int can be -/
def Ints (l : List (Int × Int)) : Prop := ∀ x ∈ l, I64 x.1 ∧ I64 x.2
theorem codeR_ints {N0 : Nat} {w : World} {B : Nat} {A : Option Addr} {t : TypeId} {l : List (Int × Int)} (h : RowAt (insR N0) t w B A l) : Ints l := by
  intro x hx
  obtain ⟨i, hi⟩ := List.getElem?_of_mem hx
  obtain ⟨_, _, _, _, _, hr, _⟩ := h.get hi
  exact insR_i64 hr
theorem rowsR_at {N0 : Nat} {w : World} {B : Nat} {A : Option Addr} {ll : List (List (Int × Int))} (h : RowAt (codeR N0) 22 w B A ll) : RowsAt w B A ll := by
  obtain ⟨css, h1, h2, h3⟩ := h
  have key : ∀ (i : Nat) l cs, ll[i]? = some l → css[i]? = some cs → ∃ v, cs = [v] ∧ InsAt w B v l := by
    intro i l cs hl hc
    obtain ⟨A, c, rfl, _, _, hr⟩ := h2 i l cs hl hc
    exact ⟨_, rfl, A, c, rfl, codeR_reads hr⟩
  have hlen : ∀ cs ∈ css, cs.length = 1 := by
    intro cs hcs
    obtain ⟨i, hi⟩ := List.getElem?_of_mem hcs
    have hlt : i < css.length := (List.getElem?_eq_some_iff.1 hi).1
    obtain ⟨v, rfl, _⟩ := key i (ll[i]'(by omega)) cs (List.getElem?_eq_getElem (by omega)) hi
    rfl
  obtain ⟨f1, f2⟩ := flatten_get css hlen
  refine ⟨css.flatten, ⟨by omega, fun hn => ?_⟩, fun i l hl => ?_⟩
  · obtain ⟨b, off, xs, t', fz, e, hb, _, hh, hc⟩ := h3 hn
    refine ⟨b, off, e, hb, fun j u hu => ?_⟩
    have hj : j < css.length := by have := (List.getElem?_eq_some_iff.1 hu).1; omega
    have hcj : css[j]? = some (css[j]'hj) := List.getElem?_eq_getElem hj
    obtain ⟨v, hv, _⟩ := key j (ll[j]'(by omega)) _ (List.getElem?_eq_getElem (by omega)) hcj
    rw [hv] at hcj
    have h4 := f2 j 0 [v] v hcj rfl
    simp only [Nat.mul_one, Nat.add_zero] at h4
    rw [h4] at hu
    injection hu with hu
    subst hu
    rw [cell_of_row w b _ xs _ fz hh]
    have h5 := hc j 0 [v] v hcj rfl
    simpa [codeR, Repr.row] using h5
  · have hlt : i < css.length := by have := (List.getElem?_eq_some_iff.1 hl).1; omega
    obtain ⟨v, hv, hin⟩ := key i l _ hl (List.getElem?_eq_getElem hlt)
    refine ⟨v, ?_, hin⟩
    have h4 := f2 i 0 [v] v (by rw [List.getElem?_eq_getElem hlt, hv]) rfl
    simpa using h4

def costR (N0 : Nat) : Repr N0 Bd.Cost := Repr.map (fun c => (c.need, c.delta, c.peak, c.steps)) (Repr.pair Repr.int (Repr.pair Repr.int (Repr.pair Repr.int Repr.int)))
theorem costR_mk (N0 : Nat) (w : World) (B : Nat) (c0 c1 c2 c3 : Int) (h0 : I64 c0) (h1 : I64 c1) (h2 : I64 c2) (h3 : I64 c3) : (costR N0).rel w B ⟨c0, c1, c2, c3⟩ [.int .i64 c0, .int .i64 c1, .int .i64 c2, .int .i64 c3] :=
  ⟨[_], [_, _, _], rfl, ⟨rfl, h0⟩, [_], [_, _], rfl, ⟨rfl, h1⟩, [_], [_], rfl, ⟨rfl, h2⟩, rfl, h3⟩
theorem costR_eq {N0 : Nat} {w : World} {B : Nat} {x : Bd.Cost} {cs : List Value} (h : (costR N0).rel w B x cs) : cs = [.int .i64 x.need, .int .i64 x.delta, .int .i64 x.peak, .int .i64 x.steps] := by
  obtain ⟨_, _, rfl, ⟨rfl, _⟩, _, _, rfl, ⟨rfl, _⟩, _, _, rfl, ⟨rfl, _⟩, rfl, _⟩ := h; rfl
theorem costCells_flat (l : List Bd.Cost) : costCells l = l.flatMap fun x => [.int .i64 x.need, .int .i64 x.delta, .int .i64 x.peak, .int .i64 x.steps] := by
  induction l with
  | nil => rfl
  | cons x r ih => simp [costCells, ih]
theorem costR_reads {N0 : Nat} {w : World} {B : Nat} {A : Option Addr} {l : List Bd.Cost} (h : RowAt (costR N0) 28 w B A l) : Reads w B 4 A l.length (costCells l) := by
  rw [costCells_flat]; exact h.reads _ fun a cs h => costR_eq h
end Go.Proofs.Ytgklchhgpnoliaa

/- An argument '[]api.Ins', '[][]api.Ins' opened: it reads as a list. -/
import Derived.Test.YtgklchhgpnoliaaBoundP
import Derived.ProofKit
import Derived.OpenShut
import Derived.Lib.SmallJoins
import Derived.Deep.Slices
import Derived.ChangeSame
namespace Go.Proofs.Ytgklchhgpnoliaa
open Go.ChangeShapes Go.WideShapes Go.ChangeAt Go.RowKit Go.Deep

theorem insCells_get : ∀ (l : List (Int × Int)) (j : Nat) (u : Value), (insCells l)[j]? = some u → ∃ i x, l[i]? = some x ∧ ((j = i * 2 ∧ u = .int .i64 x.1) ∨ (j = i * 2 + 1 ∧ u = .int .i64 x.2)) := by
  intro l
  induction l with
  | nil => intro j u h; simp [insCells] at h
  | cons c r ih =>
    intro j u h
    match j, h with
    | 0, h => exact ⟨0, c, rfl, .inl ⟨rfl, by simpa [insCells] using h.symm⟩⟩
    | 1, h => exact ⟨0, c, rfl, .inr ⟨rfl, by simpa [insCells] using h.symm⟩⟩
    | j + 2, h =>
      obtain ⟨i, x, hx, hj⟩ := ih j u (by simpa [insCells] using h)
      rcases hj with ⟨rfl, hu⟩ | ⟨rfl, hu⟩
      · exact ⟨i + 1, x, by simpa using hx, .inl ⟨by omega, hu⟩⟩
      · exact ⟨i + 1, x, by simpa using hx, .inr ⟨by omega, hu⟩⟩

section
variable {H : Type} {enc : TypeId × Value → H} {w : World} {spare : Nat → Bool} {held : Bool}
set_option maxRecDepth 100000 in
theorem open_insRow {fuel : Nat} {cs : List Value} {x : DataW H × List MemPlace} (h : DataW.trod enc Try.prog w 0 spare held fuel 22 cs = some x) :
    ∃ A c l, cs = [.slice A (List.length l) c] ∧ Reads w w.heap.size 2 A l.length (insCells l) := by
  rcases open_slice Try.underlying22 h with ⟨rfl, _⟩ | ⟨a, len, cap, m, n, D, Pl, rfl, _, hl, _, hm, _, hi⟩
  · exact ⟨none, 0, [], rfl, Reads.none_⟩
  · have hlm : len ≤ m := by rw [hm]; split <;> omega
    rw [show Try.prog.cellsOf 25 = 2 by kernel_rfl] at hi
    have hcell : ∀ i, i < len → ∃ x : Int × Int, w.cell? (a.add (i * 2)) = some (.int .i64 x.1) ∧ w.cell? (a.add (i * 2 + 1)) = some (.int .i64 x.2) := by
      intro i hil
      obtain ⟨cs', hc, ht⟩ := hi i (by omega)
      obtain ⟨_, hlen, hat⟩ := World.cells?_some hc
      obtain ⟨y0, y1, n', _, _, h0, h1⟩ := trod_struct2 Try.underlying25 ht
      match cs', hlen with
      | [c0, c1], _ =>
        obtain ⟨z0, e0, _, _⟩ := DataW.trod_int Try.underlying3 h0
        obtain ⟨z1, e1, _, _⟩ := DataW.trod_int Try.underlying3 h1
        rw [show Try.prog.cellsOf 3 = 1 by kernel_rfl] at e0 e1
        simp at e0 e1
        have a0 := hat 0 (by omega)
        have a1 := hat 1 (by omega)
        rw [add_add] at a0 a1
        simp at a0 a1
        exact ⟨(z0, z1), by rw [a0, e0], by rw [a1, e1]⟩
    obtain ⟨f, hf⟩ := choose_lt hcell
    refine ⟨some a, cap, (List.range len).map f, by simp, by simp [insCells_len], fun hp => ?_⟩
    simp at hp
    obtain ⟨b, off, spot⟩ := a
    have hspot : spot = none := by
      have := (hf 0 hp).1
      simpa [Addr.add] using World.cell?_spot this
    subst hspot
    have hblk : b < w.heap.size := by
      have := (hf 0 hp).1
      rcases Nat.lt_or_ge b w.heap.size with h | h
      · exact h
      · simp [Addr.add, World.cell?, Array.getElem?_eq_none h] at this
    refine ⟨b, off, rfl, hblk, fun j u hu => ?_⟩
    obtain ⟨i, x, hx, hj⟩ := insCells_get _ j u hu
    simp only [List.getElem?_map, Option.map_eq_some_iff] at hx
    obtain ⟨i', hi', rfl⟩ := hx
    have hii : i' = i ∧ i < len := by
      obtain ⟨h1, h2⟩ := List.getElem?_eq_some_iff.1 hi'
      simp at h1 h2
      exact ⟨h2.symm, h1⟩
    obtain ⟨rfl, hil⟩ := hii
    rcases hj with ⟨rfl, rfl⟩ | ⟨rfl, rfl⟩
    · rw [← add_plain]; exact (hf i' hil).1
    · rw [← add_plain]; exact (hf i' hil).2
end
end Go.Proofs.Ytgklchhgpnoliaa

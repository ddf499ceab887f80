/- What the laws' walks share: a font's value, a font of a row that was copied and changed. Expanded from XCwK.src by expand.py. -/
import Derived.Test.YtoklllbaihccnaaCpE
import Derived.Test.YtoklllbaihccnaaCqI
set_option linter.unusedVariables false
set_option linter.unusedSimpArgs false
namespace Go.Proofs.Ytoklllbaihccnaa
open Go.RowKit Go.Shelf
abbrev fvC (A : Option Addr) (n c : Nat) : Fv := ⟨.int .i64 0, A, n, c, .slice none 0 0, .slice none 0 0, .slice none 0 0, .slice none 0 0, .slice none 0 0, .slice none 0 0, .slice none 0 0⟩
theorem fvC_one (A : Option Addr) (n c : Nat) : (fvC A n c).One := ⟨⟨_, rfl⟩, ⟨_, _, _, rfl⟩, ⟨_, _, _, rfl⟩, ⟨_, _, _, rfl⟩, ⟨_, _, _, rfl⟩, ⟨_, _, _, rfl⟩, ⟨_, _, _, rfl⟩, ⟨_, _, _, rfl⟩⟩
theorem flatten_set9 : ∀ {css : List (List Value)} {a : Nat} {cs : List Value} {j : Nat} {u : Value}, (∀ c ∈ css, c.length = 9) → css[a]? = some cs → j < 9 → css.flatten.set (a * 9 + j) u = (css.set a (cs.set j u)).flatten
  | [], _, _, _, _, _, h, _ => by simp at h
  | b :: l, 0, cs, j, u, hl, h, hj => by
    simp only [List.getElem?_cons_zero, Option.some.injEq] at h
    subst h
    have := hl b List.mem_cons_self
    rw [List.set_cons_zero, List.flatten_cons, List.flatten_cons, Nat.zero_mul, Nat.zero_add, List.set_append_left _ _ (by omega)]
  | b :: l, a + 1, cs, j, u, hl, h, hj => by
    have := hl b List.mem_cons_self
    rw [List.set_cons_succ, List.flatten_cons, List.flatten_cons, List.set_append_right _ _ (by omega)]
    have ih := flatten_set9 (css := l) (a := a) (cs := cs) (j := j) (u := u) (fun c hc => hl c (List.mem_cons_of_mem _ hc)) (by simpa using h) hj
    rw [← ih]
    congr 2
    omega
theorem FOne.lens {w : World} {B : Nat} {gl : List Gl} {css : List (List Value)} (h1 : css.length = gl.length) (h2 : ∀ (i : Nat) g cs, gl[i]? = some g → css[i]? = some cs → GlAt w B g cs) : ∀ c ∈ css, c.length = 9 := by
  intro c hc
  obtain ⟨i, hi⟩ := List.mem_iff_getElem?.1 hc
  have hil := (List.getElem?_eq_some_iff.1 hi).1
  obtain ⟨_, _, _, _, _, _, _, _, _, _, _, _, e, _⟩ := (h2 i _ c (List.getElem?_eq_getElem (by omega)) hi).is
  rw [e]; rfl
/-- behind an append onto a row of one's own, blocks of other types lie as they lay -/
theorem grown_others {W W9 : World} {base size n : Nat} {t : TypeId} {v : Value} {xs : List Value} (ho : W.ownsRow base t size v n xs) (hg : W.grownBy W9 v.ownBlock) : ∀ b t' cs, Blk W b t' cs → t' ≠ t → Blk W9 b t' cs := fun b t' cs hb ht => by
  refine (hg.block b hb.lt fun e => ?_).trans hb
  obtain ⟨_, _, cs', hb'⟩ := owns_block ho e.symm
  exact hb.ne_ hb' ht rfl
theorem owns_cell {W : World} {base size n c gb : Nat} {t : TypeId} {xs : List Value} (h : W.ownsRow base t size (.slice (some ⟨gb, 0, none⟩) n c) n xs) {j : Nat} {u : Value} (hj : xs[j]? = some u) : W.cell? ⟨gb, j, none⟩ = some u := by
  have h0 : 0 < n := by
    have h1 := h.1
    have h2 := (List.getElem?_eq_some_iff.1 hj).1
    rw [h1] at h2
    cases n with
    | zero => simp at h2
    | succ n => omega
  obtain ⟨g, c', hv, _, _, _, hc⟩ := owns_at h h0
  injection hv with hv1
  injection hv1 with hv1
  injection hv1 with hv1
  subst hv1
  exact hc j u hj
/-- a copied row of glyphs, in which one glyph's outline was replaced and its parts struck -/
theorem FAt.flatG {W W7 : World} {B gb c a n : Nat} {gl : List Gl} {css : List (List Value)} {pA eA : Option Addr} {pc ec : Nat} {o : Ol} (h1 : css.length = gl.length) (h2 : ∀ (i : Nat) g cs, gl[i]? = some g → css[i]? = some cs → GlAt W B g cs) (hf : gl.length ≤ 1000) (hn : n = gl.length)
    (ho : W.ownsRow B 45 9 (.slice (some ⟨gb, 0, none⟩) n c) n css.flatten) (ha : a < gl.length) (hol : OlOwn W B (.slice pA o.1.length pc) (.slice eA o.2.length ec) o)
    (hW7 : W7 = ((W.setCell ⟨gb, a * 9 + 3, none⟩ (.slice pA o.1.length pc)).setCell ⟨gb, a * 9 + 4, none⟩ (.slice eA o.2.length ec)).setCell ⟨gb, a * 9 + 5, none⟩ (.slice none 0 0))
    (hoi : Dp.OlI o) (hl1 : o.1.length ≤ 1000000) (hl2 : o.2.length ≤ 1000000) (hp : o.1.length ≤ pc) (he : o.2.length ≤ ec) (hBW : B ≤ W.heap.size) :
    FAt W7 W7.heap.size (some ⟨gb, 0, none⟩) (gl.set a ⟨[], o.1, o.2⟩) := by
  have h9 := FOne.lens h1 h2
  obtain ⟨hgb, hgl, gcs, hgbk⟩ := owns_block ho rfl
  obtain ⟨cs, hcs⟩ : ∃ cs, css[a]? = some cs := ⟨_, List.getElem?_eq_getElem (by omega)⟩
  obtain ⟨g, hg⟩ : ∃ g, gl[a]? = some g := ⟨_, List.getElem?_eq_getElem ha⟩
  obtain ⟨c0, c1, c2, pA0, pc0, eA0, ec0, qA0, qc0, c6, c7, c8, e, _⟩ := (h2 a g cs hg hcs).is
  have hS : W7.heap.size = W.heap.size := by rw [hW7]; simp
  have r1 := owns_setRow ho (a * 9 + 3) (.slice pA o.1.length pc)
  rw [flatten_set9 h9 hcs (by decide)] at r1
  have hcs1 : (css.set a (cs.set 3 (.slice pA o.1.length pc)))[a]? = some (cs.set 3 (.slice pA o.1.length pc)) := by rw [List.getElem?_set, if_pos rfl, if_pos (by omega)]
  have hlen : ∀ (css : List (List Value)) (cs : List Value), (∀ c ∈ css, c.length = 9) → cs.length = 9 → ∀ c ∈ css.set a cs, c.length = 9 := fun css cs h h' c hc => by
    rcases List.mem_or_eq_of_mem_set hc with hc | rfl
    · exact h c hc
    · exact h'
  have l9 : cs.length = 9 := h9 cs (List.mem_of_getElem? hcs)
  have r2 := owns_setRow r1 (a * 9 + 4) (.slice eA o.2.length ec)
  rw [flatten_set9 (hlen _ _ h9 (by simpa using l9)) hcs1 (by decide), List.set_set] at r2
  have hcs2 : (css.set a ((cs.set 3 (.slice pA o.1.length pc)).set 4 (.slice eA o.2.length ec)))[a]? = some ((cs.set 3 (.slice pA o.1.length pc)).set 4 (.slice eA o.2.length ec)) := by rw [List.getElem?_set, if_pos rfl, if_pos (by omega)]
  have r3 := owns_setRow r2 (a * 9 + 5) (.slice none 0 0)
  rw [flatten_set9 (hlen _ _ h9 (by simpa using l9)) hcs2 (by decide), List.set_set, ← hW7] at r3
  have hb7 : ∀ b t cs, Blk W b t cs → t ≠ 45 → Blk W7 b t cs := fun b t cs hb ht => by
    have hne := hb.ne_ hgbk ht
    rw [hW7]
    exact ((hb.far (p := ⟨gb, a * 9 + 3, none⟩) hne _).far (p := ⟨gb, a * 9 + 4, none⟩) hne _).far (p := ⟨gb, a * 9 + 5, none⟩) hne _
  have hk : ∀ p : Addr, p.block < B → W7.cell? p = W.cell? p := fun p hp => by
    rw [hW7]
    have hne : gb ≠ p.block := by simp only at hgb; omega
    rw [World.cell?_setCell_far _ _ _ _ hne, World.cell?_setCell_far _ _ _ _ hne, World.cell?_setCell_far _ _ _ _ hne]
  have hko : ∀ {base size n : Nat} {t : TypeId} {v : Value} {xs : List Value}, W.ownsRow base t size v n xs → t ≠ 45 → W7.ownsRow base t size v n xs := fun ho ht => owns_keep ho fun b e => by
    obtain ⟨_, _, cs, hb⟩ := owns_block ho e
    rw [show W7.heap[b]? = _ from hb7 b _ _ hb ht]; exact hb.symm
  refine ⟨⟨css.set a (((cs.set 3 (.slice pA o.1.length pc)).set 4 (.slice eA o.2.length ec)).set 5 (.slice none 0 0)), ?_, fun i g' cs' hg' hc' => ?_, ?_⟩, by simpa using hf⟩
  · simpa using h1
  · rw [List.getElem?_set] at hg' hc'
    by_cases hia : a = i
    · rw [if_pos hia, if_pos (by omega)] at hg' hc'
      injection hg' with hg'
      injection hc' with hc'
      subst hg'
      subst hc'
      rw [e]
      refine ⟨⟨c0, c1, c2, pA, pc, eA, ec, none, 0, c6, c7, c8, rfl, hp, he, Nat.le_refl _, ?_, ?_, ⟨rfl, fun h => absurd h (Nat.lt_irrefl 0)⟩⟩, ⟨hl1, hoi.1⟩, ⟨hl2, hoi.2⟩, ⟨Nat.zero_le _, fun p hp => by cases hp⟩⟩
      · exact Reads.of_own (hko hol.pts (by decide))
      · exact Reads.of_own (hko hol.ends (by decide))
    · rw [if_neg hia] at hg' hc'
      exact ((h2 i g' cs' hg' hc').keep hk).more (by omega)
  · have := Reads.of_own r3
    rw [hn] at this
    rw [List.length_set]
    exact this
end Go.Proofs.Ytoklllbaihccnaa

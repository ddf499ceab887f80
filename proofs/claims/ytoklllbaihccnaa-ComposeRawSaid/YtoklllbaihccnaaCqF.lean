/- The font that Made makes without loops has none: parts have greater numbers. No program in it. Expanded from XCqF.src by expand.py. -/
import Derived.Test.YtoklllbaihccnaaCpE
import Derived.Test.YtoklllbaihccnaaCqE
set_option linter.unusedVariables false
set_option linter.unusedSimpArgs false
namespace Go.Proofs.Ytoklllbaihccnaa
namespace M4
open Ln Wk Dp
/-- parts have greater numbers than what has them -/
def Up (n : Nat) (gl : List Gl) : Prop := ∀ (a : Nat) g, gl[a]? = some g → ∀ p ∈ g.parts, p.1 = -1 ∨ ((a : Int) < p.1 ∧ p.1 < n)
theorem add_up {n : Nat} (hn : 1 ≤ n) {gl : List Gl} (h : Up n gl) (x : Int) : Up n (add n false gl x) := by
  unfold add
  split
  · exact h
  · rename_i hc
    intro a g hg p hp
    rw [List.getElem?_set] at hg
    split at hg
    · rename_i e
      split at hg
      · rename_i hl
        injection hg with hg
        subst hg
        simp only [more, List.mem_append, List.mem_singleton] at hp
        have h3 := Int.emod_nonneg x (show (n : Int) ≠ 0 by omega)
        rcases hp with hp | rfl
        · rw [List.getD_eq_getElem?_getD, e, List.getElem?_eq_getElem (by omega)] at hp
          exact h a _ (List.getElem?_eq_getElem (by omega)) p hp
        · have hc' : kOf n false x < n := by simp at hc; exact hc
          have h1 := Int.emod_nonneg (x.tdiv 8) (show (n : Int) + 1 ≠ 0 by omega)
          show kOf n false x = -1 ∨ _ < kOf n false x ∧ kOf n false x < n
          have hk : kOf n false x = if 0 ≤ (x.tdiv 8) % (n + 1) - 1 ∧ (x.tdiv 8) % (n + 1) - 1 ≤ x % n then x % n + 1 else (x.tdiv 8) % (n + 1) - 1 := by unfold kOf; simp only [true_and]
          rw [hk] at hc' ⊢
          split <;> split at hc' <;> omega
      · cases hg
    · exact h a g hg p hp
theorem upto_up {s : List Int} {n : Nat} (hn : 1 ≤ n) (j : Nat) : Up n (upto s n false j) := by
  unfold upto
  have h0 : Up n ((List.range n).map glyph) := fun a g hg p hp => by
    have hm := List.mem_of_getElem? hg
    obtain ⟨i, _, rfl⟩ := List.mem_map.1 hm
    unfold glyph at hp
    split at hp <;> cases hp
  have : ∀ (l : List Int) (gl : List Gl), Up n gl → Up n (l.foldl (add n false) gl) := by
    intro l
    induction l with
    | nil => intro gl h; exact h
    | cons x l ih => intro gl h; rw [List.foldl_cons]; exact ih _ (add_up hn h x)
  exact this _ _ h0
theorem num_in (s : List Int) : 1 ≤ num s ∧ num s ≤ 8 := by
  unfold num
  split <;> omega
theorem made_upto (s : List Int) (loops : Bool) : made s loops = upto s (num s) loops 15 := rfl
theorem made_len (s : List Int) (loops : Bool) : (made s loops).length = num s := by rw [made_upto, upto_len]
theorem made_get (s : List Int) (loops : Bool) {g : Gl} (h : g ∈ made s loops) : Ok 15 g := upto_ok (num_in s) loops 15 g (by rw [← made_upto]; exact h)
theorem partsOf_len (s : List Int) (loops : Bool) (y : Nat) : (partsOf (made s loops) y).length ≤ 15 := by
  unfold partsOf psOf
  refine Nat.le_trans (List.length_filter_le _ _) ?_
  cases h : (made s loops)[y]? with
  | none => simp
  | some g => exact (made_get s loops (List.mem_of_getElem? h)).1
theorem own_len (s : List Int) (loops : Bool) (y : Int) : (ownO (made s loops) y).2.length ≤ 1 := by
  unfold ownO
  cases h : (made s loops)[y.toNat]? with
  | none => simp
  | some g =>
    have := (made_get s loops (List.mem_of_getElem? h)).2.2.2.2.1
    simpa using this
theorem made_parts (s : List Int) {y : Nat} {p : Prt} (h : p ∈ partsOf (made s false) y) : (y : Int) < p.1 := by
  unfold partsOf at h
  obtain ⟨h1, h2, _⟩ := mem_psOf h
  cases hg : (made s false)[y]? with
  | none => rw [hg] at h1; simp at h1
  | some g =>
    rw [hg] at h1
    have := upto_up (s := s) (num_in s).1 15 y g (by rw [← made_upto]; exact hg) p h1
    omega
theorem made_noloop (s : List Int) {x : Int} (hx : 0 ≤ x) : ¬ Ln.Loop (made s false) x := by
  rintro ⟨p, hp, hr⟩
  have h1 := made_parts s hp
  have h2 : p.1 ≤ x := by
    have hge : ∀ {a b : Int}, 0 ≤ a → Reach (made s false) a b → a ≤ b ∧ 0 ≤ b := by
      intro a b ha hr
      induction hr with
      | refl => exact ⟨Int.le_refl _, ha⟩
      | step q _ hq ih => have := made_parts s hq; omega
    exact (hge (by omega) hr).1
  omega
theorem made_p1000 (s : List Int) (loops : Bool) (g : Nat) : (partsOf (made s loops) g).length ≤ 1000 := by have := partsOf_len s loops g; omega
end M4
namespace Dp
open Ln Wk
/-- where nothing that can be reached is part of itself, all is told -/
theorem line_full {gl : List Gl} (hp : ∀ g, (partsOf gl g).length ≤ 1000) {g : Int} (hg : 0 ≤ g ∧ g < gl.length) (hl : ∀ x, Reach gl g x → ¬ Ln.Loop gl x) : ¬ (Ln.line gl ((Wk.all gl g).map Int.toNat)).length < (Wk.all gl g).length := by
  have ht := told_all hp (g := g) (by simpa [thereB] using hg)
  refine (full_iff (all_nodup hp hg) ht).1 fun x hx => ?_
  by_cases hxt : x ∈ Ln.line gl ((Wk.all gl g).map Int.toNat)
  · exact hxt
  · obtain ⟨y, ⟨hy, _⟩, _, hlo⟩ := loop_of (D := fun x => x ∈ Wk.all gl g ∧ x ∉ Ln.line gl ((Wk.all gl g).map Int.toNat)) (Wk.all gl g) (fun x hx => hx.1) (fun x hx => by
      obtain ⟨p, hpp, hpt⟩ := ht.rest x hx.1 hx.2
      exact ⟨p, hpp, ((Wk.all_ok hp hg).2 _).2 (.step p (((Wk.all_ok hp hg).2 x).1 hx.1) hpp), hpt⟩) ⟨hx, hxt⟩
    exact absurd hlo (hl y (((Wk.all_ok hp hg).2 y).1 hy))
theorem down_cases {gl : List Gl} (hp : ∀ g, (partsOf gl g).length ≤ 1000) {g : Int} (hg : 0 ≤ g ∧ g < gl.length) (hl : ∀ x, Reach gl g x → ¬ Ln.Loop gl x) : (down gl g).2.2 = 0 ∨ (down gl g).2.2 = 34 := by
  unfold down
  rw [if_pos (by simpa [thereB] using hg), if_neg (line_full hp hg hl)]
  split
  · exact .inr rfl
  · exact .inl rfl
theorem flat_cases {gl : List Gl} (hp : ∀ g, (partsOf gl g).length ≤ 1000) {g : Int} (hg : 0 ≤ g ∧ g < gl.length) (hl : ∀ x, Reach gl g x → ¬ Ln.Loop gl x) : (flat gl g).2 = 0 ∨ (flat gl g).2 = 34 ∨ (flat gl g).2 = 2 := by
  unfold flat
  rcases down_cases hp hg hl with h | h
  · rw [h]
    by_cases hm : 1001 ≤ learn (many gl) (down gl g).1 g
    · exact .inr (.inr (congrArg Prod.snd ((if_pos rfl).trans (if_pos hm))))
    · exact .inl (congrArg Prod.snd ((if_pos rfl).trans (if_neg hm)))
  · rw [h]
    exact .inr (.inl rfl)
theorem made_bd (s : List Int) (loops : Bool) (g : Int) (h : (down (M4.made s loops) g).2.2 = 0) (hm : learn (many (M4.made s loops)) (down (M4.made s loops) g).1 g ≤ 1000) :
    ∀ pre x post, (down (M4.made s loops) g).1 = pre ++ x :: post → ∀ y, (learnO (flatF (M4.made s loops)) pre y).1.length ≤ 90000 ∧ (learnO (flatF (M4.made s loops)) pre y).2.length ≤ 90000 := flat_bd (M4.made_p1000 s loops) (M4.own_len s loops) (M4.partsOf_len s loops) g h hm
end Dp
end Go.Proofs.Ytoklllbaihccnaa

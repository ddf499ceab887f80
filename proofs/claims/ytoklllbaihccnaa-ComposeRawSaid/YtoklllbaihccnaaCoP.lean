/- The heap of ints as a plain function: what is taken and laid is what is there. No program in it. -/
import Derived.Test.YtoklllbaihccnaaCoC
set_option linter.unusedVariables false
set_option linter.unusedSimpArgs false
namespace Go.Proofs.Ytoklllbaihccnaa
namespace Hp
theorem at_get {l : List Int} {i : Nat} (h : i < l.length) : l[i]? = some (at_ l i) := by simp [at_, List.getElem?_eq_getElem h]
theorem at_lt {l : List Int} {i : Nat} (h : i < l.length) : at_ l i = l[i] := by simp [at_, h]
theorem swap_perm {l : List Int} {i j : Nat} (hi : i < l.length) (hj : j < l.length) : (swap l i j).Perm l := by
  unfold swap
  rw [at_lt hi, at_lt hj]
  exact List.set_set_perm hi hj
theorem kid_lt {l : List Int} {i n : Nat} (h : ¬ n ≤ 2 * i + 1) : kid l i n < n ∧ i < kid l i n := by unfold kid; split <;> omega
theorem down_perm : ∀ (f : Nat) (l : List Int) (i n : Nat), n ≤ l.length → (down f l i n).Perm l
  | 0, _, _, _, _ => List.Perm.refl _
  | f + 1, l, i, n, hn => by
    unfold down
    split
    · exact List.Perm.refl _
    · rename_i h
      have := kid_lt (l := l) h
      split
      · exact (down_perm f _ _ n (by rw [swap_len]; exact hn)).trans (swap_perm (by omega) (by omega))
      · exact List.Perm.refl _
theorem up_perm : ∀ (f : Nat) (l : List Int) (j : Nat), j < l.length → (up f l j).Perm l
  | 0, _, _, _ => List.Perm.refl _
  | f + 1, l, j, hj => by
    unfold up
    split
    · exact List.Perm.refl _
    · split
      · exact (up_perm f _ _ (by rw [swap_len]; omega)).trans (swap_perm (by omega) hj)
      · exact List.Perm.refl _
theorem push_perm (l : List Int) (x : Int) : (push l x).Perm (l ++ [x]) := up_perm _ _ _ (by simp)
theorem init_perm (l : List Int) : (init l).Perm l := by
  unfold init
  have : ∀ (is : List Nat) (l' : List Int), l.length ≤ l'.length → (is.foldl (fun l' i => down l.length l' i l.length) l').Perm l' := by
    intro is
    induction is with
    | nil => intro l' _; exact List.Perm.refl _
    | cons i is ih => intro l' h; rw [List.foldl_cons]; exact (ih _ (by rw [down_len]; exact h)).trans (down_perm _ _ _ _ h)
  exact this _ _ (Nat.le_refl _)
theorem popped_perm {l : List Int} (h : 0 < l.length) : (popped l).Perm l := by
  unfold popped
  exact (down_perm _ _ _ _ (by rw [swap_len]; omega)).trans (swap_perm h (by omega))
theorem popped_len (l : List Int) : (popped l).length = l.length := by unfold popped; rw [down_len, swap_len]
theorem pop_perm {l : List Int} (h : 0 < l.length) : ((pop l).1 :: (pop l).2).Perm l := by
  have hp := popped_perm h
  have hl := popped_len l
  unfold pop
  simp only
  have e : popped l = (popped l).take (l.length - 1) ++ [at_ (popped l) (l.length - 1)] := by
    have h2 : l.length - 1 < (popped l).length := by omega
    have h1 : (popped l).take (l.length - 1) ++ [(popped l)[l.length - 1]] = (popped l).take (l.length - 1 + 1) := by rw [List.take_append_getElem]
    rw [at_lt h2, h1, List.take_of_length_le (by omega)]
  refine List.Perm.trans ?_ hp
  conv => rhs; rw [e]
  exact (List.perm_append_singleton _ _).symm
end Hp
end Go.Proofs.Ytoklllbaihccnaa

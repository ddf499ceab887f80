/- What is learnt along a row that Told holds of: each by its parts, whatever the row's order; a glyph's parts are right where it is. No program in it. Expanded from XCqC.src by expand.py. -/
import Derived.Test.YtoklllbaihccnaaCoW
import Derived.Test.YtoklllbaihccnaaCqB
set_option linter.unusedVariables false
set_option linter.unusedSimpArgs false
namespace Go.Proofs.Ytoklllbaihccnaa
namespace Dp
open Ln Wk
/-- what is learnt in a row, of any kind -/
def lrn {α : Type} (d : α) (F : Int → (Int → α) → α) (os : List Int) : Int → α := os.foldl (fun k g => upd k g (F g k)) (fun _ => d)
theorem lrn_int (F : Int → (Int → Int) → Int) (os : List Int) : learn F os = lrn 0 F os := rfl
theorem lrn_ol (F : Int → (Int → Ol) → Ol) (os : List Int) : learnO F os = lrn ([], []) F os := rfl
/-- F looks at the parts alone -/
def Loc {α : Type} (gl : List Gl) (F : Int → (Int → α) → α) : Prop := ∀ g k k', (∀ p ∈ partsOf gl g.toNat, k p.1 = k' p.1) → F g k = F g k'
section
variable {α : Type} {d : α} {F : Int → (Int → α) → α} {gl : List Gl}
theorem lrn_skip : ∀ (os : List Int) (k : Int → α) (x : Int), x ∉ os → (os.foldl (fun k g => upd k g (F g k)) k) x = k x
  | [], _, _, _ => rfl
  | g :: os, k, x, h => by
    rw [List.foldl_cons, lrn_skip os _ x (fun hm => h (List.mem_cons_of_mem _ hm)), upd_ne _ _ (fun e => h (by rw [e]; exact List.mem_cons_self))]
theorem lrn_app (os os' : List Int) (x : Int) (h : x ∉ os') : lrn d F (os ++ os') x = lrn d F os x := by
  unfold lrn
  rw [List.foldl_append]
  exact lrn_skip _ _ _ h
theorem lrn_told (hF : Loc gl F) {G t : List Int} (h : Ln.Told gl G t) {x : Int} (hx : x ∈ t) : lrn d F t x = F x (lrn d F t) := by
  obtain ⟨pre, post, e⟩ := List.append_of_mem hx
  have hn := h.nd
  rw [e, List.nodup_append] at hn
  obtain ⟨_, hn2, hn3⟩ := hn
  have hxp : x ∉ post := (List.nodup_cons.1 hn2).1
  have h1 : lrn d F t x = F x (lrn d F pre) := by
    rw [e, show pre ++ x :: post = (pre ++ [x]) ++ post by simp, lrn_app _ _ _ hxp]
    unfold lrn
    rw [List.foldl_append, List.foldl_cons, List.foldl_nil, upd_same]
  rw [h1]
  refine hF x _ _ fun p hp => ?_
  have hm := h.ord _ _ _ e p hp
  rw [e, lrn_app _ _ _ (fun hm2 => hn3 _ hm _ hm2 rfl)]
theorem lrn_out {t : List Int} {x : Int} (hx : x ∉ t) : lrn d F t x = d := by
  unfold lrn
  exact lrn_skip _ _ _ hx
/-- the row's order and what else stands in it do not matter -/
theorem lrn_same (hF : Loc gl F) {G G' t t' : List Int} (h : Ln.Told gl G t) (h' : Ln.Told gl G' t') : ∀ (n : Nat) (x : Int), t.idxOf x < n → x ∈ t → x ∈ t' → lrn d F t x = lrn d F t' x
  | 0, _, hn, _, _ => absurd hn (Nat.not_lt_zero _)
  | n + 1, x, hn, hx, hx' => by
    rw [lrn_told hF h hx, lrn_told hF h' hx']
    refine hF x _ _ fun p hp => ?_
    have h1 := h.rank hx hp
    exact lrn_same hF h h' n p.1 (by omega) h1.1 (h'.rank hx' hp).1
end
/-- where all are told, all of a part of them that holds its parts are told -/
theorem told_sub {gl : List Gl} {G G' t t' : List Int} (h : Ln.Told gl G t) (ha : ∀ x ∈ G, x ∈ t) (h' : Ln.Told gl G' t') (hs : ∀ x ∈ G', x ∈ G) (hc : ∀ x ∈ G', ∀ p ∈ partsOf gl x.toNat, p.1 ∈ G') : ∀ x ∈ G', x ∈ t' := by
  intro x hx
  by_cases hxt : x ∈ t'
  · exact hxt
  · obtain ⟨y, ⟨hy, _⟩, _, hl⟩ := loop_of (D := fun x => x ∈ G' ∧ x ∉ t') G' (fun x hx => hx.1) (fun x hx => by
      obtain ⟨p, hp, hpt⟩ := h'.rest x hx.1 hx.2
      exact ⟨p, hp, hc x hx.1 p hp, hpt⟩) ⟨hx, hxt⟩
    exact absurd hl (h.noloop (ha y (hs y hy)))
theorem loc_most (gl : List Gl) : Loc gl (most gl) := by
  intro g k k' h
  unfold most
  generalize partsOf gl g.toNat = l at h
  have : ∀ (l : List Prt) (m : Int), (∀ p ∈ l, k p.1 = k' p.1) → l.foldl (fun m p => max m (k p.1 + 1)) m = l.foldl (fun m p => max m (k' p.1 + 1)) m := by
    intro l
    induction l with
    | nil => intro m _; rfl
    | cons p l ih =>
      intro m h
      rw [List.foldl_cons, List.foldl_cons, h p List.mem_cons_self]
      exact ih _ fun q hq => h q (List.mem_cons_of_mem _ hq)
  exact this l 0 h
theorem loc_many (gl : List Gl) : Loc gl (many gl) := by
  intro g k k' h
  unfold many
  generalize partsOf gl g.toNat = l at h
  have : ∀ (l : List Prt) (m : Int), (∀ p ∈ l, k p.1 = k' p.1) → l.foldl (addN k) m = l.foldl (addN k') m := by
    intro l
    induction l with
    | nil => intro m _; rfl
    | cons p l ih =>
      intro m h
      rw [List.foldl_cons, List.foldl_cons, show addN k m p = addN k' m p by unfold addN; rw [h p List.mem_cons_self]]
      exact ih _ fun q hq => h q (List.mem_cons_of_mem _ hq)
  exact this l _ h
theorem loc_flat (gl : List Gl) : Loc gl (flatF gl) := by
  intro g k k' h
  unfold flatF flatOf
  generalize partsOf gl g.toNat = l at h
  have : ∀ (l : List Prt) (m : Ol), (∀ p ∈ l, k p.1 = k' p.1) → l.foldl (fun a p => behindO a (k p.1) p) m = l.foldl (fun a p => behindO a (k' p.1) p) m := by
    intro l
    induction l with
    | nil => intro m _; rfl
    | cons p l ih =>
      intro m h
      rw [List.foldl_cons, List.foldl_cons, h p List.mem_cons_self]
      exact ih _ fun q hq => h q (List.mem_cons_of_mem _ hq)
  exact this l _ h
end Dp
end Go.Proofs.Ytoklllbaihccnaa

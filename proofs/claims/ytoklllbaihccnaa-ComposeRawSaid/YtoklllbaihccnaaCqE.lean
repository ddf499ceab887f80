/- How long a glyph's outline is: flat_any's bound. No program in it. Expanded from XCqE.src by expand.py. -/
import Derived.Test.YtoklllbaihccnaaCqD
set_option linter.unusedVariables false
set_option linter.unusedSimpArgs false
namespace Go.Proofs.Ytoklllbaihccnaa
namespace Dp
open Ln Wk
section
variable {gl : List Gl} {g : Int} {t : List Int}
theorem Dn.many_le (h : Dn gl g t) (h0 : lrn 0 (many gl) t g ≤ 1000) {x : Int} (hx : Reach gl g x) : lrn 0 (many gl) t x ≤ 1000 := by
  induction hx with
  | refl => exact h0
  | step p hr hp ih =>
    rename_i x
    have h1 : lrn 0 (many gl) t x = many gl x (lrn 0 (many gl) t) := lrn_told (loc_many gl) h.told (h.mem hr)
    rw [h1] at ih
    have := (addN_le (fun x => (many_bd gl _ t rfl x).1) _ _ (own_bd gl x).1 ih).2 p hp
    have e : many gl x (lrn 0 (many gl) t) = (partsOf gl x.toNat).foldl (addN (lrn 0 (many gl) t)) (own gl x) := rfl
    rw [e] at ih
    exact Int.le_trans this ih
theorem Dn.deep_le (h : Dn gl g t) {x : Int} (hx : Reach gl g x) : lrn 0 (most gl) t x ≤ lrn 0 (most gl) t g := by
  induction hx with
  | refl => exact Int.le_refl _
  | step p hr hp ih =>
    rename_i x
    have h1 : lrn 0 (most gl) t x = most gl x (lrn 0 (most gl) t) := lrn_told (loc_most gl) h.told (h.mem hr)
    rw [h1] at ih
    have h2 := (mostOf_le (lrn 0 (most gl) t) (partsOf gl x.toNat) 0).2 p hp
    have e : most gl x (lrn 0 (most gl) t) = (partsOf gl x.toNat).foldl (fun m p => max m (lrn 0 (most gl) t p.1 + 1)) 0 := rfl
    rw [e] at ih
    omega
end
/-- e at most of its own and q parts at most: so many at depth d -/
def cap (e q : Nat) : Nat → Nat
  | 0 => e
  | d + 1 => e + q * cap e q d
theorem cap_mono (e q : Nat) : ∀ (d : Nat), cap e q d ≤ cap e q (d + 1)
  | 0 => by show e ≤ e + q * e; omega
  | d + 1 => by
    show e + q * cap e q d ≤ e + q * cap e q (d + 1)
    exact Nat.add_le_add_left (Nat.mul_le_mul_left q (cap_mono e q d)) e
theorem cap_le (e q : Nat) {a b : Nat} (h : a ≤ b) : cap e q a ≤ cap e q b := by
  induction h with
  | refl => exact Nat.le_refl _
  | step _ ih => exact Nat.le_trans ih (cap_mono e q _)
theorem pts_fold {k : Int → Ol} {c : Int → Int} (hc : ∀ x, 0 ≤ c x) : ∀ (l : List Prt) (a : Ol) (m : Int), (a.1.length : Int) = m → (∀ p ∈ l, ((k p.1).1.length : Int) = c p.1) → l.foldl (addN c) m ≤ 1000 → ((flatOf k a l).1.length : Int) = l.foldl (addN c) m
  | [], _, _, h, _, _ => h
  | p :: l, a, m, h, hk, hm => by
    rw [List.foldl_cons] at hm ⊢
    have hcp := hc p.1
    have h0 : 0 ≤ addN c m p := by unfold addN; omega
    have h1 := (addN_le hc l _ h0 hm).1
    have h2 := hk p List.mem_cons_self
    have e : flatOf k a (p :: l) = flatOf k (behindO a (k p.1) p) l := rfl
    rw [e]
    refine pts_fold hc l _ _ ?_ (fun q hq => hk q (List.mem_cons_of_mem _ hq)) hm
    rw [(behindO_len _ _ _).1]
    have h3 : addN c m p ≤ 1000 := by omega
    unfold addN at h3 ⊢
    omega
theorem ends_fold {k : Int → Ol} {C : Nat} : ∀ (l : List Prt) (a : Ol), (∀ p ∈ l, (k p.1).2.length ≤ C) → (flatOf k a l).2.length ≤ a.2.length + l.length * C
  | [], a, _ => by simp [flatOf]
  | p :: l, a, hk => by
    have e : flatOf k a (p :: l) = flatOf k (behindO a (k p.1) p) l := rfl
    have h1 := ends_fold l (behindO a (k p.1) p) fun q hq => hk q (List.mem_cons_of_mem _ hq)
    have h2 := hk p List.mem_cons_self
    rw [e, List.length_cons, Nat.add_mul, Nat.one_mul]
    rw [(behindO_len _ _ _).2] at h1
    omega
section
variable {gl : List Gl} {g : Int} {t : List Int}
theorem own_le {x : Int} (h : own gl x ≤ 1000) : ((ownO gl x).1.length : Int) = own gl x := by
  unfold own at h ⊢
  unfold ownO
  cases hx : gl[x.toNat]? with
  | none => rfl
  | some y =>
    rw [hx] at h
    simp only [Option.map_some, Option.getD_some, List.length_map] at h ⊢
    omega
theorem Dn.pts (h : Dn gl g t) (h0 : lrn 0 (many gl) t g ≤ 1000) : ∀ (n : Nat) (x : Int), t.idxOf x < n → Reach gl g x → ((lrn ([], []) (flatF gl) t x).1.length : Int) = lrn 0 (many gl) t x
  | 0, _, hn, _ => absurd hn (Nat.not_lt_zero _)
  | n + 1, x, hn, hx => by
    have hm := h.many_le h0 hx
    rw [lrn_told (loc_many gl) h.told (h.mem hx)] at hm ⊢
    rw [lrn_told (loc_flat gl) h.told (h.mem hx)]
    have hk : ∀ y, 0 ≤ lrn 0 (many gl) t y := fun y => (many_bd gl _ t rfl y).1
    have ho := (addN_le hk _ _ (own_bd gl x).1 hm).1
    have hm2 : (partsOf gl x.toNat).foldl (addN (lrn 0 (many gl) t)) (own gl x) ≤ 1000 := hm
    refine pts_fold hk _ _ _ (own_le (by omega)) (fun p hp => ?_) hm
    have h1 := h.told.rank (h.mem hx) hp
    exact h.pts h0 n p.1 (by omega) (.step p hx hp)
theorem Dn.ends (h : Dn gl g t) {e q : Nat} (he : ∀ y, (ownO gl y).2.length ≤ e) (hq : ∀ y, (partsOf gl y).length ≤ q) : ∀ (n : Nat) (x : Int), t.idxOf x < n → Reach gl g x → (lrn ([], []) (flatF gl) t x).2.length ≤ cap e q (lrn 0 (most gl) t x).toNat
  | 0, _, hn, _ => absurd hn (Nat.not_lt_zero _)
  | n + 1, x, hn, hx => by
    have hd : lrn 0 (most gl) t x = most gl x (lrn 0 (most gl) t) := lrn_told (loc_most gl) h.told (h.mem hx)
    have hml := mostOf_le (lrn 0 (most gl) t) (partsOf gl x.toNat) 0
    have hmx : ∀ p ∈ partsOf gl x.toNat, lrn 0 (most gl) t p.1 + 1 ≤ lrn 0 (most gl) t x := fun p hp => by rw [hd]; exact hml.2 p hp
    have hk : ∀ y, 0 ≤ lrn 0 (most gl) t y := fun y => (learn_bd gl _ t rfl y).1
    rw [lrn_told (loc_flat gl) h.told (h.mem hx)]
    have ho := he x
    have hl := hq x.toNat
    cases hn2 : (lrn 0 (most gl) t x).toNat with
    | zero =>
      have hnil : partsOf gl x.toNat = [] := by
        cases hl2 : partsOf gl x.toNat with
        | nil => rfl
        | cons p l =>
          have h1 := hmx p (by rw [hl2]; exact List.mem_cons_self)
          have h2 := hk p.1
          omega
      show (flatOf _ (ownO gl x) (partsOf gl x.toNat)).2.length ≤ e
      rw [hnil]
      exact ho
    | succ d =>
      have hf := ends_fold (k := lrn ([], []) (flatF gl) t) (C := cap e q d) (partsOf gl x.toNat) (ownO gl x) fun p hp => by
        have h1 := h.told.rank (h.mem hx) hp
        have h2 := hmx p hp
        have h3 := h.ends he hq n p.1 (by omega) (.step p hx hp)
        exact Nat.le_trans h3 (cap_le e q (by have := hk p.1; omega))
      have h4 : (partsOf gl x.toNat).length * cap e q d ≤ q * cap e q d := Nat.mul_le_mul_right _ hl
      show (flatOf _ (ownO gl x) (partsOf gl x.toNat)).2.length ≤ e + q * cap e q d
      omega
end
/-- flat_any's bound, for glyphs of at most one end and fifteen parts -/
theorem flat_bd {gl : List Gl} (hp : ∀ g, (partsOf gl g).length ≤ 1000) (he : ∀ y, (ownO gl y).2.length ≤ 1) (hq : ∀ y, (partsOf gl y).length ≤ 15) (g : Int) (h : (down gl g).2.2 = 0) (hm : learn (many gl) (down gl g).1 g ≤ 1000) :
    ∀ pre x post, (down gl g).1 = pre ++ x :: post → ∀ y, (learnO (flatF gl) pre y).1.length ≤ 90000 ∧ (learnO (flatF gl) pre y).2.length ≤ 90000 := by
  obtain ⟨t, hd, h4, e⟩ := (down_zero hp).1 h
  rw [e] at hm ⊢
  have hm' : lrn 0 (many gl) t g ≤ 1000 := hm
  intro pre x post hsp y
  have hsp' : t = pre ++ x :: post := hsp
  rw [lrn_ol]
  by_cases hy : y ∈ pre
  · have hyt : y ∈ t := by rw [hsp']; exact List.mem_append_left _ hy
    have hn := hd.told.nd
    rw [hsp', List.nodup_append] at hn
    have hyp : y ∉ x :: post := fun hm => hn.2.2 _ hy _ hm rfl
    have e1 : lrn ([], []) (flatF gl) pre y = lrn ([], []) (flatF gl) t y := by rw [hsp', lrn_app _ _ _ hyp]
    have hr : Reach gl g y := (hd.reach y).1 (hd.told.sub y hyt)
    rw [e1]
    have h1 := hd.pts hm' _ y (Nat.lt_succ_self _) hr
    have h2 := hd.many_le hm' hr
    have h3 := hd.ends he hq _ y (Nat.lt_succ_self _) hr
    have h5 := hd.deep_le hr
    have h6 : cap 1 15 (lrn 0 (most gl) t y).toNat ≤ cap 1 15 4 := cap_le 1 15 (by omega)
    have h7 : cap 1 15 4 = 54241 := rfl
    omega
  · rw [lrn_out hy]
    exact ⟨Nat.zero_le _, Nat.zero_le _⟩
end Dp
end Go.Proofs.Ytoklllbaihccnaa

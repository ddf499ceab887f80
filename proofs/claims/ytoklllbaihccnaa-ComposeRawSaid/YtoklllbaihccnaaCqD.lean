/- Deep and Flat by their parts: the plain laws. No program in it. Expanded from XCqD.src by expand.py. -/
import Derived.Test.YtoklllbaihccnaaCqC
set_option linter.unusedVariables false
set_option linter.unusedSimpArgs false
namespace Go.Proofs.Ytoklllbaihccnaa
namespace Dp
open Ln Wk
/-- what stands where down says that nothing is wrong -/
structure Dn (gl : List Gl) (g : Int) (t : List Int) : Prop where
  inR : 0 ≤ g ∧ g < gl.length
  told : Ln.Told gl (Wk.all gl g) t
  reach : ∀ x, x ∈ Wk.all gl g ↔ Reach gl g x
  full : ∀ x ∈ Wk.all gl g, x ∈ t
theorem told_all {gl : List Gl} (hp : ∀ g, (partsOf gl g).length ≤ 1000) {g : Int} (hg : thereB gl.length g = true) : Ln.Told gl (Wk.all gl g) (Ln.line gl ((Wk.all gl g).map Int.toNat)) := by
  obtain ⟨h1, h2, h3⟩ := all_nat hp hg
  have h := Ln.line_told (gl := gl) h3
  have e : asI ((Wk.all gl g).map Int.toNat) = Wk.all gl g := h1
  rw [e] at h
  exact h
theorem full_iff {gl : List Gl} {G t : List Int} (hG : G.Nodup) (h : Ln.Told gl G t) : (∀ x ∈ G, x ∈ t) ↔ ¬ t.length < G.length := by
  constructor
  · intro ha hl
    have := List.Nodup.length_le_of_subset hG (l₂ := t) fun x hx => ha x hx
    omega
  · intro hl x hx
    by_cases hxt : x ∈ t
    · exact hxt
    · have := List.Nodup.length_le_of_subset (List.nodup_cons.2 ⟨hxt, h.nd⟩) (l₂ := G) fun y hy => by
        rcases List.mem_cons.1 hy with rfl | hy
        · exact hx
        · exact h.sub y hy
      simp only [List.length_cons] at this
      omega
theorem all_nodup {gl : List Gl} (hp : ∀ g, (partsOf gl g).length ≤ 1000) {g : Int} (hg : 0 ≤ g ∧ g < gl.length) : (Wk.all gl g).Nodup := by
  have := (Wk.all_ok hp hg).1
  exact this.imp fun h e => by omega
theorem down_zero {gl : List Gl} (hp : ∀ g, (partsOf gl g).length ≤ 1000) {g : Int} : (down gl g).2.2 = 0 ↔ ∃ t, Dn gl g t ∧ lrn 0 (most gl) t g ≤ 4 ∧ down gl g = (t, lrn 0 (most gl) t g, 0) := by
  constructor
  · intro h
    unfold down at h ⊢
    split at h
    · rename_i hg
      rw [if_pos hg]
      have hr : 0 ≤ g ∧ g < gl.length := by simpa [thereB] using hg
      split at h
      · simp at h
      · rename_i hl
        rw [if_neg hl]
        split at h
        · simp at h
        · rename_i h4
          rw [if_neg h4]
          exact ⟨_, ⟨hr, told_all hp hg, (Wk.all_ok hp hr).2, (full_iff (all_nodup hp hr) (told_all hp hg)).2 hl⟩, by rw [lrn_int] at h4; omega, rfl⟩
    · simp at h
  · rintro ⟨t, _, _, e⟩
    rw [e]
/-- a part of what is right is right -/
theorem Dn.part {gl : List Gl} (hp : ∀ g, (partsOf gl g).length ≤ 1000) {g : Int} {t : List Int} (h : Dn gl g t) {q : Int} (hq : Reach gl g q) : ∃ t', Dn gl q t' ∧ t' = Ln.line gl ((Wk.all gl q).map Int.toNat) := by
  have hr := hq.inR h.inR
  have ht : thereB gl.length q = true := by simp [thereB]; omega
  refine ⟨_, ⟨hr, told_all hp ht, (Wk.all_ok hp hr).2, ?_⟩, rfl⟩
  refine told_sub h.told h.full (told_all hp ht) (fun x hx => (h.reach x).2 (hq.trans (((Wk.all_ok hp hr).2 x).1 hx))) fun x hx p hpp => ?_
  exact ((Wk.all_ok hp hr).2 p.1).2 (.step p (((Wk.all_ok hp hr).2 x).1 hx) hpp)
theorem Dn.mem {gl : List Gl} {g : Int} {t : List Int} (h : Dn gl g t) {q : Int} (hq : Reach gl g q) : q ∈ t := h.full q ((h.reach q).2 hq)
/-- what is learnt of a part does not ask in which row it is learnt -/
theorem Dn.same {gl : List Gl} {g q : Int} {t t' : List Int} (h : Dn gl g t) (h' : Dn gl q t') (hq : Reach gl g q) {α : Type} {d : α} {F : Int → (Int → α) → α} (hF : Loc gl F) {x : Int} (hx : Reach gl q x) : lrn d F t x = lrn d F t' x :=
  lrn_same hF h.told h'.told _ x (Nat.lt_succ_self _) (h.mem (hq.trans hx)) (h'.mem hx)
theorem mostOf_le (k : Int → Int) : ∀ (l : List Prt) (m : Int), m ≤ l.foldl (fun m p => max m (k p.1 + 1)) m ∧ ∀ p ∈ l, k p.1 + 1 ≤ l.foldl (fun m p => max m (k p.1 + 1)) m
  | [], m => ⟨Int.le_refl _, by simp⟩
  | p :: l, m => by
    obtain ⟨h1, h2⟩ := mostOf_le k l (max m (k p.1 + 1))
    rw [List.foldl_cons]
    refine ⟨by omega, fun q hq => ?_⟩
    rcases List.mem_cons.1 hq with rfl | hq
    · omega
    · exact h2 q hq
theorem down_part {gl : List Gl} (hp : ∀ g, (partsOf gl g).length ≤ 1000) {g : Int} (h : (down gl g).2.2 = 0) {p : Prt} (hpp : p ∈ partsOf gl g.toNat) : (down gl p.1).2.2 = 0 ∧ (down gl p.1).2.1 + 1 ≤ (down gl g).2.1 := by
  obtain ⟨t, hd, h4, e⟩ := (down_zero hp).1 h
  have hq : Reach gl g p.1 := .step p .refl hpp
  obtain ⟨t', hd', et⟩ := hd.part hp hq
  have h1 : lrn 0 (most gl) t g = most gl g (lrn 0 (most gl) t) := lrn_told (loc_most gl) hd.told (hd.mem .refl)
  have h2 : lrn 0 (most gl) t p.1 = lrn 0 (most gl) t' p.1 := hd.same hd' hq (loc_most gl) .refl
  have h3 : lrn 0 (most gl) t p.1 + 1 ≤ lrn 0 (most gl) t g := by
    rw [h1]
    exact (mostOf_le _ _ 0).2 p hpp
  have ht : thereB gl.length p.1 = true := by have := hd'.inR; simp [thereB]; omega
  have hl := (full_iff (all_nodup hp hd'.inR) hd'.told).1 hd'.full
  have e2 : down gl p.1 = (t', lrn 0 (most gl) t' p.1, 0) := by
    unfold down
    rw [if_pos ht, ← et, if_neg hl, lrn_int, if_neg (by omega)]
  rw [e2, e]
  exact ⟨rfl, by simp only; omega⟩
/-- how deep a glyph is, by how deep its parts are -/
theorem deep_eq {gl : List Gl} (hp : ∀ g, (partsOf gl g).length ≤ 1000) {g : Int} (h : (down gl g).2.2 = 0) : (down gl g).2.1 = most gl g fun x => (down gl x).2.1 := by
  obtain ⟨t, hd, h4, e⟩ := (down_zero hp).1 h
  rw [e]
  have h1 : lrn 0 (most gl) t g = most gl g (lrn 0 (most gl) t) := lrn_told (loc_most gl) hd.told (hd.mem .refl)
  rw [h1]
  refine loc_most gl g _ _ fun p hpp => ?_
  have hq : Reach gl g p.1 := .step p .refl hpp
  obtain ⟨t', hd', h4', e'⟩ := (down_zero hp).1 (down_part hp h hpp).1
  rw [e']
  exact hd.same hd' hq (loc_most gl) .refl
theorem addN_le {k : Int → Int} (hk : ∀ x, 0 ≤ k x) : ∀ (l : List Prt) (o : Int), 0 ≤ o → l.foldl (addN k) o ≤ 1000 → o ≤ l.foldl (addN k) o ∧ ∀ p ∈ l, k p.1 ≤ l.foldl (addN k) o
  | [], o, _, _ => ⟨Int.le_refl _, by simp⟩
  | p :: l, o, ho, h => by
    rw [List.foldl_cons] at h ⊢
    have hkp := hk p.1
    have h0 : 0 ≤ addN k o p := by unfold addN; omega
    obtain ⟨h1, h2⟩ := addN_le hk l _ h0 h
    have h3 : addN k o p ≤ 1000 := by omega
    unfold addN at h3
    refine ⟨by unfold addN at h1 ⊢; omega, fun q hq => ?_⟩
    rcases List.mem_cons.1 hq with rfl | hq
    · unfold addN at h1 ⊢; omega
    · exact h2 q hq
theorem flat_zero {gl : List Gl} (hp : ∀ g, (partsOf gl g).length ≤ 1000) {g : Int} (h : (flat gl g).2 = 0) : ∃ t, Dn gl g t ∧ (down gl g).2.2 = 0 ∧ lrn 0 (many gl) t g ≤ 1000 ∧ flat gl g = (lrn ([], []) (flatF gl) t g, 0) := by
  unfold flat at h ⊢
  split at h
  · rename_i h0
    obtain ⟨t, hd, h4, e⟩ := (down_zero hp).1 h0
    rw [e] at h ⊢
    by_cases hm : 1001 ≤ learn (many gl) t g
    · exact absurd ((congrArg Prod.snd (if_pos hm)).symm.trans h) (by decide)
    · have hm' : lrn 0 (many gl) t g ≤ 1000 := by have : ¬ 1001 ≤ lrn 0 (many gl) t g := hm; omega
      exact ⟨t, hd, rfl, hm', (if_pos rfl).trans (if_neg hm)⟩
  · rename_i h0
    exact absurd h h0
theorem flat_part {gl : List Gl} (hp : ∀ g, (partsOf gl g).length ≤ 1000) {g : Int} (h : (flat gl g).2 = 0) {p : Prt} (hpp : p ∈ partsOf gl g.toNat) : (flat gl p.1).2 = 0 := by
  obtain ⟨t, hd, h0, hm, e⟩ := flat_zero hp h
  have hq : Reach gl g p.1 := .step p .refl hpp
  obtain ⟨t', hd', h4', e'⟩ := (down_zero hp).1 (down_part hp h0 hpp).1
  have h1 : lrn 0 (many gl) t g = many gl g (lrn 0 (many gl) t) := lrn_told (loc_many gl) hd.told (hd.mem .refl)
  have h2 : lrn 0 (many gl) t p.1 = lrn 0 (many gl) t' p.1 := hd.same hd' hq (loc_many gl) .refl
  have h3 : lrn 0 (many gl) t p.1 ≤ lrn 0 (many gl) t g := by
    rw [h1] at hm ⊢
    exact (addN_le (fun x => (many_bd gl _ t rfl x).1) _ _ (own_bd gl g).1 hm).2 p hpp
  have hm' : ¬ 1001 ≤ learn (many gl) t' p.1 := fun hm2 => by have : 1001 ≤ lrn 0 (many gl) t' p.1 := hm2; omega
  unfold flat
  rw [e']
  exact congrArg Prod.snd ((if_pos rfl).trans (if_neg hm'))
/-- a glyph's outline: its own, then its parts' -/
theorem flat_eq {gl : List Gl} (hp : ∀ g, (partsOf gl g).length ≤ 1000) {g : Int} (h : (flat gl g).2 = 0) : (flat gl g).1 = flatF gl g fun x => (flat gl x).1 := by
  obtain ⟨t, hd, h0, hm, e⟩ := flat_zero hp h
  rw [e]
  have h1 : lrn ([], []) (flatF gl) t g = flatF gl g (lrn ([], []) (flatF gl) t) := lrn_told (loc_flat gl) hd.told (hd.mem .refl)
  rw [h1]
  refine loc_flat gl g _ _ fun p hpp => ?_
  have hq : Reach gl g p.1 := .step p .refl hpp
  obtain ⟨t', hd', h0', hm', e'⟩ := flat_zero hp (flat_part hp h hpp)
  rw [e']
  exact hd.same hd' hq (loc_flat gl) .refl
theorem flat_bad {gl : List Gl} {g : Int} (h : (flat gl g).2 ≠ 0) : (flat gl g).1 = ([], []) := by
  unfold flat at h ⊢
  split
  · rename_i h0
    rw [if_pos h0] at h
    split
    · rfl
    · rename_i hm
      rw [if_neg hm] at h
      exact absurd rfl h
  · rfl
end Dp
end Go.Proofs.Ytoklllbaihccnaa

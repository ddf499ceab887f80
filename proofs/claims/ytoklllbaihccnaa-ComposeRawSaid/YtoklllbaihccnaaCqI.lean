/- What Flat and Deep tell of a font that is changed: the plain laws of Flattens and Moves. No program in it. Expanded from XCqI.src by expand.py. -/
import Derived.Test.YtoklllbaihccnaaCqF
set_option linter.unusedVariables false
set_option linter.unusedSimpArgs false
namespace Go.Proofs.Ytoklllbaihccnaa
open Go.RowKit
theorem wrap64_i64 (n : Int) : I64 (wrap64 n) := by unfold I64 wrap64; omega
namespace Dp
open Ln Wk
/-- what is learnt in two fonts, side by side -/
theorem lrn_sim {α : Type} {d : α} {F F' : Int → (Int → α) → α} {gl gl' : List Gl} (hF' : Loc gl' F') {G' t t' : List Int} (h' : Ln.Told gl' G' t') {R : Int → α → α → Prop}
    (hR : ∀ x k', x ∈ t' → (∀ p ∈ partsOf gl' x.toNat, R p.1 (lrn d F t p.1) (k' p.1)) → R x (lrn d F t x) (F' x k')) : ∀ (n : Nat) (x : Int), t'.idxOf x < n → x ∈ t' → R x (lrn d F t x) (lrn d F' t' x)
  | 0, _, hn, _ => absurd hn (Nat.not_lt_zero _)
  | n + 1, x, hn, hx => by
    rw [lrn_told hF' h' hx]
    refine hR x _ hx fun p hp => ?_
    have h1 := h'.rank hx hp
    exact lrn_sim (gl := gl) hF' h' hR n p.1 (by omega) h1.1
abbrev tl (gl : List Gl) (g : Int) : List Int := Ln.line gl ((Wk.all gl g).map Int.toNat)
section
variable {gl : List Gl} {g : Int}
theorem dn_of (hp : ∀ g, (partsOf gl g).length ≤ 1000) (hg : 0 ≤ g ∧ g < gl.length) (hl : ∀ x, Reach gl g x → ¬ Ln.Loop gl x) : Dn gl g (tl gl g) :=
  ⟨hg, told_all hp (by simpa [thereB] using hg), (Wk.all_ok hp hg).2, (full_iff (all_nodup hp hg) (told_all hp (by simpa [thereB] using hg))).2 (line_full hp hg hl)⟩
theorem down_val (hp : ∀ g, (partsOf gl g).length ≤ 1000) (d : Dn gl g (tl gl g)) : down gl g = if 4 < lrn 0 (most gl) (tl gl g) g then ([], 0, 34) else (tl gl g, lrn 0 (most gl) (tl gl g) g, 0) := by
  unfold down
  rw [if_pos (by have := d.inR; simpa [thereB] using this), if_neg ((full_iff (all_nodup hp d.inR) d.told).1 d.full)]
  rfl
theorem flat_val (hp : ∀ g, (partsOf gl g).length ≤ 1000) (d : Dn gl g (tl gl g)) : flat gl g = if 4 < lrn 0 (most gl) (tl gl g) g then (([], []), 34) else if 1001 ≤ lrn 0 (many gl) (tl gl g) g then (([], []), 2) else (lrn ([], []) (flatF gl) (tl gl g) g, 0) := by
  unfold flat
  rw [down_val hp d]
  by_cases h : 4 < lrn 0 (most gl) (tl gl g) g
  · rw [if_pos h, if_pos h]; rfl
  · rw [if_neg h, if_neg h]; exact if_pos rfl
theorem Dn.noloop {t : List Int} (d : Dn gl g t) {x : Int} (hx : Reach gl g x) : ¬ Ln.Loop gl x := d.told.noloop (d.mem hx)
/-- how long an outline on the way is -/
theorem ol_bd {t : List Int} (hd : Dn gl g t) (h4 : lrn 0 (most gl) t g ≤ 4) (hm : lrn 0 (many gl) t g ≤ 1000) {e q : Nat} (he : ∀ y, (ownO gl y).2.length ≤ e) (hq : ∀ y, (partsOf gl y).length ≤ q) (hc : cap e q 4 ≤ 90000) {y : Int} (hr : Reach gl g y) :
    (lrn ([], []) (flatF gl) t y).1.length ≤ 90000 ∧ (lrn ([], []) (flatF gl) t y).2.length ≤ 90000 := by
  have h1 := hd.pts hm _ y (Nat.lt_succ_self _) hr
  have h2 := hd.many_le hm hr
  have h3 := hd.ends he hq _ y (Nat.lt_succ_self _) hr
  have h5 := hd.deep_le hr
  have h6 : cap e q (lrn 0 (most gl) t y).toNat ≤ cap e q 4 := cap_le e q (by omega)
  omega
/-- flat_any's bound, from what holds at the end -/
theorem bd_of {G t : List Int} (h : Ln.Told gl G t) (hb : ∀ y ∈ t, (lrn ([], []) (flatF gl) t y).1.length ≤ 90000 ∧ (lrn ([], []) (flatF gl) t y).2.length ≤ 90000) :
    ∀ pre x post, t = pre ++ x :: post → ∀ y, (learnO (flatF gl) pre y).1.length ≤ 90000 ∧ (learnO (flatF gl) pre y).2.length ≤ 90000 := by
  intro pre x post hsp y
  rw [lrn_ol]
  by_cases hy : y ∈ pre
  · have hn := h.nd
    rw [hsp, List.nodup_append] at hn
    have hyp : y ∉ x :: post := fun hm => hn.2.2 _ hy _ hm rfl
    have e1 : lrn ([], []) (flatF gl) pre y = lrn ([], []) (flatF gl) t y := by rw [hsp, lrn_app _ _ _ hyp]
    rw [e1]
    exact hb y (by rw [hsp]; exact List.mem_append_left _ hy)
  · rw [lrn_out hy]
    exact ⟨Nat.zero_le _, Nat.zero_le _⟩
def OlI (o : Ol) : Prop := (∀ p ∈ o.1, I64 p.1 ∧ I64 p.2.1) ∧ ∀ e ∈ o.2, I64 e
theorem flatOf_i64 {k : Int → Ol} : ∀ (l : List Prt) (a : Ol), OlI a → OlI (flatOf k a l)
  | [], _, h => h
  | p :: l, a, h => by
    have e : flatOf k a (p :: l) = flatOf k (behindO a (k p.1) p) l := rfl
    rw [e]
    refine flatOf_i64 l _ ⟨fun q hq => ?_, fun x hx => ?_⟩
    · rcases List.mem_append.1 hq with hq | hq
      · exact h.1 q hq
      · obtain ⟨r, _, rfl⟩ := List.mem_map.1 hq
        exact ⟨wrap64_i64 _, wrap64_i64 _⟩
    · rcases List.mem_append.1 hx with hx | hx
      · exact h.2 x hx
      · obtain ⟨r, _, rfl⟩ := List.mem_map.1 hx
        exact wrap64_i64 _
theorem lrn_i64 {G t : List Int} (h : Ln.Told gl G t) (ho : ∀ y, ∀ e ∈ (ownO gl y).2, I64 e) (x : Int) : OlI (lrn ([], []) (flatF gl) t x) := by
  by_cases hx : x ∈ t
  · rw [lrn_told (loc_flat gl) h hx]
    refine flatOf_i64 _ _ ⟨fun p hp => ?_, ho x⟩
    unfold ownO at hp
    cases hg : gl[x.toNat]? with
    | none => rw [hg] at hp; cases hp
    | some y =>
      rw [hg] at hp
      obtain ⟨r, _, rfl⟩ := List.mem_map.1 hp
      exact ⟨wrap64_i64 _, wrap64_i64 _⟩
  · rw [lrn_out hx]
    exact ⟨by simp, by simp⟩
theorem flat_i64 (hp : ∀ g, (partsOf gl g).length ≤ 1000) (ho : ∀ y, ∀ e ∈ (ownO gl y).2, I64 e) : OlI (flat gl g).1 := by
  by_cases h : (flat gl g).2 = 0
  · obtain ⟨t, hd, _, _, e⟩ := flat_zero hp h
    rw [e]
    exact lrn_i64 hd.told ho g
  · rw [flat_bad h]
    exact ⟨by simp, by simp⟩
theorem mv_id {l : List P3} (h : ∀ p ∈ l, I64 p.1 ∧ I64 p.2.1) : l.map (mvP 0 0) = l := by
  conv => rhs; rw [← List.map_id l]
  refine List.map_congr_left fun p hp => ?_
  obtain ⟨h1, h2⟩ := h p hp
  unfold I64 at h1 h2
  unfold mvP
  rw [Int.add_zero, Int.add_zero, IntWalk.wrap64_in _ h1, IntWalk.wrap64_in _ h2]
  rfl
/-- where two fonts are the same as far as a glyph reaches, it is the same in both -/
theorem same_font {gl' : List Gl} (hp : ∀ g, (partsOf gl g).length ≤ 1000) (hp' : ∀ g, (partsOf gl' g).length ≤ 1000) (hg : 0 ≤ g ∧ g < gl.length) (hg' : g < gl'.length) (hl : ∀ x, Reach gl g x → ¬ Ln.Loop gl x)
    (hs : ∀ x, Reach gl g x → gl'[x.toNat]? = gl[x.toNat]? ∧ partsOf gl' x.toNat = partsOf gl x.toNat) : (down gl' g).2 = (down gl g).2 ∧ flat gl' g = flat gl g := by
  have hr : ∀ x, Reach gl' g x → Reach gl g x := fun x hx => by
    induction hx with
    | refl => exact .refl
    | step p _ hpp ih => exact .step p ih (by rw [← (hs _ ih).2]; exact hpp)
  have hr2 : ∀ {a b}, Reach gl g a → Reach gl' a b → Reach gl a b := fun {a b} ha hx => by
    induction hx with
    | refl => exact .refl
    | step p _ hpp ih => exact .step p ih (by rw [← (hs _ (ha.trans ih)).2]; exact hpp)
  have d := dn_of hp hg hl
  have d' := dn_of hp' ⟨hg.1, hg'⟩ fun x hx ⟨p, hpp, hrr⟩ => hl x (hr x hx) ⟨p, by rw [← (hs _ (hr x hx)).2]; exact hpp, hr2 (.step p (hr x hx) (by rw [← (hs _ (hr x hx)).2]; exact hpp)) hrr⟩
  have hmem : ∀ x, x ∈ tl gl' g → x ∈ tl gl g ∧ Reach gl g x := fun x hx => by
    have := hr x ((d'.reach x).1 (d'.told.sub x hx))
    exact ⟨d.mem this, this⟩
  have key : ∀ {α : Type} {dd : α} {F F' : Int → (Int → α) → α}, Loc gl F → Loc gl' F' → (∀ x, Reach gl g x → ∀ k, F' x k = F x k) → lrn dd F' (tl gl' g) g = lrn dd F (tl gl g) g := fun {α dd F F'} hF hF' hFF => by
    refine (lrn_sim (gl := gl) (d := dd) (F := F) (t := tl gl g) hF' d'.told (R := fun _ a b => a = b) (fun x k' hx hk => ?_) _ g (Nat.lt_succ_self _) (d'.mem .refl)).symm
    obtain ⟨h1, h2⟩ := hmem x hx
    rw [lrn_told hF d.told h1, hFF x h2]
    exact hF x _ _ fun p hpp => hk p (by rw [(hs x h2).2]; exact hpp)
  have e1 := key (dd := (0 : Int)) (loc_most gl) (loc_most gl') fun x hx k => by unfold most; rw [(hs x hx).2]
  have e2 := key (dd := (0 : Int)) (loc_many gl) (loc_many gl') fun x hx k => by unfold many own; rw [(hs x hx).1, (hs x hx).2]
  have e3 := key (dd := (([], []) : Ol)) (loc_flat gl) (loc_flat gl') fun x hx k => by unfold flatF ownO; rw [(hs x hx).1, (hs x hx).2]
  rw [down_val hp d, down_val hp' d', flat_val hp d, flat_val hp' d', e1, e2, e3]
  refine ⟨?_, rfl⟩
  split <;> rfl
end
/-- a glyph whose flat outline becomes its own, and that has no parts -/
def flatG (gl : List Gl) (g : Int) : List Gl := gl.set g.toNat ⟨[], (flat gl g).1.1, (flat gl g).1.2⟩
section
variable {gl : List Gl} {g h : Int}
theorem flatG_parts (hg : 0 ≤ g ∧ g < gl.length) {x : Int} (hx : 0 ≤ x) : partsOf (flatG gl g) x.toNat = if x = g then [] else partsOf gl x.toNat := by
  unfold partsOf flatG
  rw [List.length_set, List.getElem?_set]
  by_cases e : x = g
  · subst e
    rw [if_pos rfl, if_pos (by omega), if_pos rfl]
    rfl
  · rw [if_neg (by omega), if_neg e]
theorem flatG_few (hp : ∀ g, (partsOf gl g).length ≤ 1000) (y : Nat) : (partsOf (flatG gl g) y).length ≤ 1000 := by
  have := hp y
  unfold partsOf flatG at *
  rw [List.length_set, List.getElem?_set]
  split
  · split
    · exact Nat.zero_le _
    · exact Nat.zero_le _
  · exact this
theorem most_mono {k k' : Int → Int} : ∀ (l : List Prt) (m m' : Int), m' ≤ m → (∀ p ∈ l, k' p.1 ≤ k p.1) → l.foldl (fun m p => max m (k' p.1 + 1)) m' ≤ l.foldl (fun m p => max m (k p.1 + 1)) m
  | [], _, _, h, _ => h
  | p :: l, m, m', h, hk => by
    rw [List.foldl_cons, List.foldl_cons]
    have := hk p List.mem_cons_self
    exact most_mono l _ _ (by omega) fun q hq => hk q (List.mem_cons_of_mem _ hq)
theorem flattens (hp : ∀ g, (partsOf gl g).length ≤ 1000) (ho : ∀ y, ∀ e ∈ (ownO gl y).2, I64 e) (hg : 0 ≤ g ∧ g < gl.length) (eg : (flat gl g).2 = 0) (eh : (flat gl h).2 = 0) {e q : Nat} (he : ∀ y, (ownO gl y).2.length ≤ e) (hq : ∀ y, (partsOf gl y).length ≤ q) (hc : cap e q 4 ≤ 90000) :
    flat (flatG gl g) h = flat gl h ∧ ∀ pre x post, (down (flatG gl g) h).1 = pre ++ x :: post → ∀ y, (learnO (flatF (flatG gl g)) pre y).1.length ≤ 90000 ∧ (learnO (flatF (flatG gl g)) pre y).2.length ≤ 90000 := by
  obtain ⟨t, d, e0, hm, ef⟩ := flat_zero hp eh
  obtain ⟨t0, d0, h40, e00⟩ := (down_zero hp).1 e0
  obtain ⟨tg, dg, eg0, hmg, efg⟩ := flat_zero hp eg
  have hoi : OlI (flat gl g).1 := flat_i64 hp ho
  have hin : ∀ x, Reach gl h x → 0 ≤ x ∧ x < gl.length := fun x hx => hx.inR d.inR
  have hlen : (flatG gl g).length = gl.length := List.length_set
  have hp' := flatG_few (g := g) hp
  have hsub : ∀ x : Int, 0 ≤ x → ∀ p ∈ partsOf (flatG gl g) x.toNat, p ∈ partsOf gl x.toNat := fun x hx p hpp => by
    rw [flatG_parts hg hx] at hpp
    split at hpp
    · cases hpp
    · exact hpp
  have hr : ∀ {a b : Int}, 0 ≤ a ∧ a < gl.length → Reach (flatG gl g) a b → Reach gl a b := fun {a b} ha hx => by
    induction hx with
    | refl => exact .refl
    | step p hx hpp ih => exact .step p ih (hsub _ (ih.inR ha).1 p hpp)
  have d' : Dn (flatG gl g) h (tl (flatG gl g) h) := by
    refine dn_of hp' (by rw [hlen]; exact d.inR) fun x hx ⟨p, hpp, hrr⟩ => ?_
    have hx' := hr d.inR hx
    have hpp' := hsub x (hin x hx').1 p hpp
    have hpr := hin p.1 (.step p hx' hpp')
    exact d.noloop hx' ⟨p, hpp', hr hpr hrr⟩
  have hmem : ∀ x, x ∈ tl (flatG gl g) h → x ∈ t ∧ Reach gl h x := fun x hx => by
    have := hr d.inR ((d'.reach x).1 (d'.told.sub x hx))
    exact ⟨d.mem this, this⟩
  have ownG : ∀ x : Int, x = g → (flatG gl g)[x.toNat]? = some ⟨[], (flat gl g).1.1, (flat gl g).1.2⟩ := fun x e => by
    subst e
    unfold flatG
    rw [List.getElem?_set, if_pos rfl, if_pos (by omega)]
  have ownN : ∀ x : Int, 0 ≤ x → x ≠ g → (flatG gl g)[x.toNat]? = gl[x.toNat]? := fun x hx e => by
    unfold flatG
    rw [List.getElem?_set, if_neg (by omega)]
  -- depth
  have k1 : ∀ x ∈ tl (flatG gl g) h, lrn 0 (most (flatG gl g)) (tl (flatG gl g) h) x ≤ lrn 0 (most gl) t x := fun x hx => by
    refine (lrn_sim (gl := gl) (d := (0 : Int)) (F := most gl) (t := t) (loc_most (flatG gl g)) d'.told (R := fun _ a b => b ≤ a) (fun x k' hx hk => ?_) _ x (Nat.lt_succ_self _) hx)
    obtain ⟨h1, h2⟩ := hmem x hx
    rw [lrn_told (loc_most gl) d.told h1]
    show (partsOf (flatG gl g) x.toNat).foldl _ 0 ≤ (partsOf gl x.toNat).foldl _ 0
    rw [flatG_parts hg (hin x h2).1] at hk ⊢
    by_cases e : x = g
    · rw [if_pos e]
      exact (mostOf_le _ _ 0).1
    · rw [if_neg e] at hk ⊢
      exact most_mono _ 0 0 (Int.le_refl _) hk
  -- what is learnt of g in either row
  have hgr : Reach gl h g → lrn ([], []) (flatF gl) t g = (flat gl g).1 ∧ lrn 0 (many gl) t g = ((flat gl g).1.1.length : Int) := fun hgh => by
    have e1 : lrn ([], []) (flatF gl) t g = lrn ([], []) (flatF gl) tg g := d.same dg hgh (loc_flat gl) .refl
    have e2 := d.pts hm _ g (Nat.lt_succ_self _) hgh
    rw [e1] at e2 ⊢
    rw [efg]
    exact ⟨rfl, e2.symm⟩
  have k2 : ∀ x ∈ tl (flatG gl g) h, lrn 0 (many gl) t x = lrn 0 (many (flatG gl g)) (tl (flatG gl g) h) x := fun x hx => by
    refine (lrn_sim (gl := gl) (d := (0 : Int)) (F := many gl) (t := t) (loc_many (flatG gl g)) d'.told (R := fun _ a b => a = b) (fun x k' hx hk => ?_) _ x (Nat.lt_succ_self _) hx)
    obtain ⟨h1, h2⟩ := hmem x hx
    by_cases e : x = g
    · subst e
      rw [(hgr h2).2]
      have hml := d.many_le hm h2
      rw [(hgr h2).2] at hml
      unfold many own
      rw [flatG_parts hg (hin x h2).1, if_pos rfl, ownG x rfl]
      show _ = min _ 1001
      simp only [Option.map_some, Option.getD_some]
      omega
    · rw [lrn_told (loc_many gl) d.told h1]
      unfold many own
      rw [flatG_parts hg (hin x h2).1, if_neg e] at hk ⊢
      rw [ownN x (hin x h2).1 e]
      exact loc_many gl x _ _ hk
  have k3 : ∀ x ∈ tl (flatG gl g) h, lrn ([], []) (flatF gl) t x = lrn ([], []) (flatF (flatG gl g)) (tl (flatG gl g) h) x := fun x hx => by
    refine (lrn_sim (gl := gl) (d := (([], []) : Ol)) (F := flatF gl) (t := t) (loc_flat (flatG gl g)) d'.told (R := fun _ a b => a = b) (fun x k' hx hk => ?_) _ x (Nat.lt_succ_self _) hx)
    obtain ⟨h1, h2⟩ := hmem x hx
    by_cases e : x = g
    · subst e
      rw [(hgr h2).1]
      unfold flatF ownO
      rw [flatG_parts hg (hin x h2).1, if_pos rfl, ownG x rfl]
      show _ = flatOf _ ((flat gl x).1.1.map (mvP 0 0), (flat gl x).1.2) []
      rw [mv_id hoi.1]
      rfl
    · rw [lrn_told (loc_flat gl) d.told h1]
      unfold flatF ownO
      rw [flatG_parts hg (hin x h2).1, if_neg e] at hk ⊢
      rw [ownN x (hin x h2).1 e]
      exact loc_flat gl x _ _ hk
  have hh := d'.mem (Reach.refl (gl := flatG gl g) (g := h))
  have h4 : lrn 0 (most gl) t h ≤ 4 := by
    have : lrn 0 (most gl) t h = lrn 0 (most gl) t0 h := d.same d0 .refl (loc_most gl) .refl
    omega
  have h4' := k1 h hh
  have hm' := k2 h hh
  refine ⟨?_, fun pre x post hsp => ?_⟩
  · rw [flat_val hp' d', if_neg (by omega), if_neg (by omega), ← k3 h hh, ef]
  · rw [down_val hp' d', if_neg (by omega)] at hsp
    refine bd_of d'.told (fun y hy => ?_) pre x post hsp
    rw [← k3 y hy]
    exact ol_bd d h4 hm he hq hc (hmem y hy).2
end
end Dp
end Go.Proofs.Ytoklllbaihccnaa

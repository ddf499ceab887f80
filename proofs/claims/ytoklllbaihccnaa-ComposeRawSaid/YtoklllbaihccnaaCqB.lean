/- What compose.line's plain function tells: a row in which each glyph stands behind its parts; what is left out leads round. No program in it. -/
import Derived.Test.YtoklllbaihccnaaCqA
set_option linter.unusedVariables false
set_option linter.unusedSimpArgs false
namespace Go.Proofs.Ytoklllbaihccnaa
namespace Ln
open Hp
/-- how often y is a part of x -/
def cnt (gl : List Gl) (x y : Int) : Nat := ((partsOf gl x.toNat).filter fun p => decide (p.1 = y)).length
/-- how many parts of x are not told -/
def miss (gl : List Gl) (told : List Int) (x : Int) : Nat := ((partsOf gl x.toNat).filter fun p => !told.contains p.1).length
abbrev asI (gs : List Nat) : List Int := gs.map (Nat.cast : Nat → Int)
theorem mem_asI {gs : List Nat} {x : Int} : x ∈ asI gs ↔ ∃ g ∈ gs, x = (g : Int) := by
  simp only [List.mem_map]
  exact ⟨fun ⟨g, h, e⟩ => ⟨g, h, e.symm⟩, fun ⟨g, h, e⟩ => ⟨g, h, e.symm⟩⟩
theorem use_fold (g : Nat) : ∀ (ps : List Prt) (s : Cs), (∀ x, (ps.foldl (use g) s).1 x = s.1 x + (if x = (g : Int) then (ps.length : Int) else 0)) ∧
    ∀ y z, ((ps.foldl (use g) s).2 y).count z = (s.2 y).count z + if z = (g : Int) then (ps.filter fun p => decide (p.1 = y)).length else 0
  | [], s => by simp
  | p :: ps, s => by
    obtain ⟨h1, h2⟩ := use_fold g ps (use g s p)
    rw [List.foldl_cons]
    refine ⟨fun x => ?_, fun y z => ?_⟩
    · rw [h1]
      simp only [use, upd, List.length_cons]
      by_cases e : x = (g : Int)
      · subst e; simp; omega
      · simp [e]
    · rw [h2]
      have e : ((use g s p).2 y).count z = (s.2 y).count z + if p.1 = y ∧ z = (g : Int) then 1 else 0 := by
        simp only [use, upd]
        by_cases e1 : y = p.1
        · subst e1
          rw [if_pos rfl, List.count_append, List.count_singleton]
          congr 1
          by_cases e2 : z = (g : Int)
          · simp [e2]
          · have : ¬ ((g : Int) = z) := fun e => e2 e.symm
            simp [e2, this]
        · rw [if_neg e1]
          simp [Ne.symm e1]
      rw [e, List.filter_cons]
      by_cases e2 : z = (g : Int)
      · by_cases e3 : p.1 = y
        · simp [e2, e3]; omega
        · simp [e2, e3]
      · simp [e2]
theorem firsts_fold (gl : List Gl) : ∀ (gs : List Nat) (st : Cs × List Int), gs.Nodup → (∀ g ∈ gs, st.1.1 (g : Int) = 0) →
    (∀ x, (gs.foldl (first gl) st).1.1 x = st.1.1 x + if x ∈ asI gs then ((partsOf gl x.toNat).length : Int) else 0) ∧
    (∀ y z, ((gs.foldl (first gl) st).1.2 y).count z = (st.1.2 y).count z + if z ∈ asI gs then cnt gl z y else 0) ∧
    (gs.foldl (first gl) st).2 = st.2 ++ asI (gs.filter fun g => decide ((partsOf gl g).length = 0))
  | [], st, _, _ => by simp
  | g :: gs, st, hn, h0 => by
    obtain ⟨hn1, hn2⟩ := List.nodup_cons.1 hn
    obtain ⟨u1, u2⟩ := use_fold g (partsOf gl g) st.1
    have hg0 := h0 g List.mem_cons_self
    have e1 : ∀ x, (first gl st g).1.1 x = st.1.1 x + (if x = (g : Int) then ((partsOf gl g).length : Int) else 0) := u1
    have e2 : ∀ y z, ((first gl st g).1.2 y).count z = (st.1.2 y).count z + if z = (g : Int) then cnt gl g y else 0 := u2
    have e3 : (first gl st g).2 = if (partsOf gl g).length = 0 then st.2 ++ [(g : Int)] else st.2 := by
      show (if (uses gl g st.1).1 g = 0 then st.2 ++ [(g : Int)] else st.2) = _
      have : (uses gl g st.1).1 g = ((partsOf gl g).length : Int) := by
        have := u1 g
        rw [if_pos rfl, hg0] at this
        unfold uses
        omega
      rw [this]
      by_cases h : (partsOf gl g).length = 0
      · rw [if_pos h, if_pos (by omega)]
      · rw [if_neg h, if_neg (by omega)]
    obtain ⟨r1, r2, r3⟩ := firsts_fold gl gs (first gl st g) hn2 fun k hk => by
      rw [e1, if_neg (fun e => hn1 (by have : k = g := by omega
                                       rw [← this]; exact hk)), h0 k (List.mem_cons_of_mem _ hk)]
      rfl
    have hni : (g : Int) ∉ asI gs := fun e => by
      obtain ⟨k, hk, e⟩ := mem_asI.1 e
      exact hn1 (by have : k = g := by omega
                    rw [← this]; exact hk)
    rw [List.foldl_cons]
    refine ⟨fun x => ?_, fun y z => ?_, ?_⟩
    · rw [r1, e1]
      by_cases e : x = (g : Int)
      · subst e
        rw [if_pos rfl, if_neg hni, if_pos (by simp)]
        simp
      · rw [if_neg e]
        have : x ∈ asI (g :: gs) ↔ x ∈ asI gs := by simp only [asI, List.map_cons, List.mem_cons]; exact ⟨fun h => h.resolve_left e, .inr⟩
        by_cases hx : x ∈ asI gs
        · rw [if_pos hx, if_pos (this.2 hx)]; omega
        · rw [if_neg hx, if_neg (fun h => hx (this.1 h))]; omega
    · rw [r2, e2]
      by_cases e : z = (g : Int)
      · subst e
        rw [if_pos rfl, if_neg hni, if_pos (by simp)]
        omega
      · rw [if_neg e]
        have : z ∈ asI (g :: gs) ↔ z ∈ asI gs := by simp only [asI, List.map_cons, List.mem_cons]; exact ⟨fun h => h.resolve_left e, .inr⟩
        by_cases hx : z ∈ asI gs
        · rw [if_pos hx, if_pos (this.2 hx)]; omega
        · rw [if_neg hx, if_neg (fun h => hx (this.1 h))]
    · rw [r3, e3, List.filter_cons]
      by_cases h : (partsOf gl g).length = 0
      · rw [if_pos h, if_pos (by simpa using h)]
        simp
      · rw [if_neg h, if_neg (by simpa using h)]
theorem firsts_c {gl : List Gl} {gs : List Nat} (hn : gs.Nodup) (x : Int) : (firsts gl gs).1.1 x = if x ∈ asI gs then ((partsOf gl x.toNat).length : Int) else 0 := by
  have := (firsts_fold gl gs ((fun _ => 0, fun _ => []), []) hn (fun _ _ => rfl)).1 x
  unfold firsts
  rw [this]
  simp
theorem firsts_u {gl : List Gl} {gs : List Nat} (hn : gs.Nodup) (y z : Int) : ((firsts gl gs).1.2 y).count z = if z ∈ asI gs then cnt gl z y else 0 := by
  have := (firsts_fold gl gs ((fun _ => 0, fun _ => []), []) hn (fun _ _ => rfl)).2.1 y z
  unfold firsts
  rw [this]
  simp
theorem firsts_l {gl : List Gl} {gs : List Nat} (hn : gs.Nodup) : (firsts gl gs).2 = asI (gs.filter fun g => decide ((partsOf gl g).length = 0)) := by
  have := (firsts_fold gl gs ((fun _ => 0, fun _ => []), []) hn (fun _ _ => rfl)).2.2
  unfold firsts
  rw [this]
  simp
theorem frees : ∀ (us : List Int) (s : Ps), (∀ x, (us.foldl free s).1 x = s.1 x - us.count x) ∧
    ((∀ u ∈ us, (us.count u : Int) ≤ s.1 u) → (∀ x, x ∈ (us.foldl free s).2 ↔ x ∈ s.2 ∨ (x ∈ us ∧ (us.foldl free s).1 x = 0)) ∧ (s.2.Nodup → (∀ x ∈ us, x ∉ s.2) → (us.foldl free s).2.Nodup))
  | [], s => by simp
  | u :: us, s => by
    obtain ⟨h1, h2⟩ := frees us (free s u)
    rw [List.foldl_cons]
    have hc : ∀ x, (us.foldl free (free s u)).1 x = s.1 x - (u :: us).count x := fun x => by
      rw [h1, List.count_cons]
      simp only [free, upd]
      by_cases e : x = u
      · subst e; simp; omega
      · rw [if_neg e]
        have : (u == x) = false := by simpa using Ne.symm e
        rw [this]; simp
    refine ⟨hc, fun hb => ?_⟩
    have hb' : ∀ v ∈ us, (us.count v : Int) ≤ (free s u).1 v := fun v hv => by
      have := hb v (List.mem_cons_of_mem _ hv)
      rw [List.count_cons] at this
      simp only [free, upd]
      by_cases e : v = u
      · subst e; simp at this ⊢; omega
      · rw [if_neg e]; omega
    obtain ⟨h3, h4⟩ := h2 hb'
    have hu := hb u List.mem_cons_self
    rw [List.count_cons_self] at hu
    by_cases hz : s.1 u - 1 = 0
    · have hnu : u ∉ us := fun h => by
        have := List.count_pos_iff.2 h
        omega
      have e2 : (free s u).2 = Hp.push s.2 u := by simp [free, hz]
      have hm : ∀ x, x ∈ (free s u).2 ↔ x ∈ s.2 ∨ x = u := fun x => by rw [e2, (Hp.push_perm _ _).mem_iff]; simp
      refine ⟨fun x => ?_, fun hn hd => h4 ?_ fun x hx => ?_⟩
      · rw [h3, hm]
        constructor
        · rintro ((h | rfl) | ⟨h, h'⟩)
          · exact .inl h
          · refine .inr ⟨List.mem_cons_self, ?_⟩
            rw [hc, List.count_cons_self, List.count_eq_zero_of_not_mem hnu]; omega
          · exact .inr ⟨List.mem_cons_of_mem _ h, h'⟩
        · rintro (h | ⟨h, h'⟩)
          · exact .inl (.inl h)
          · rcases List.mem_cons.1 h with rfl | h
            · exact .inl (.inr rfl)
            · exact .inr ⟨h, h'⟩
      · rw [e2, (Hp.push_perm _ _).nodup_iff]
        exact List.nodup_append.2 ⟨hn, by simp, fun a ha b hb e => by simp only [List.mem_singleton] at hb; subst hb; subst e; exact hd a List.mem_cons_self ha⟩
      · rw [hm]
        rintro (h | rfl)
        · exact hd x (List.mem_cons_of_mem _ hx) h
        · exact hnu hx
    · have e2 : (free s u).2 = s.2 := by simp [free, hz]
      rw [e2] at h3 h4
      refine ⟨fun x => ?_, fun hn hd => h4 hn fun x hx => hd x (List.mem_cons_of_mem _ hx)⟩
      rw [h3]
      constructor
      · rintro (h | ⟨h, h'⟩)
        · exact .inl h
        · exact .inr ⟨List.mem_cons_of_mem _ h, h'⟩
      · rintro (h | ⟨h, h'⟩)
        · exact .inl h
        · rcases List.mem_cons.1 h with rfl | h
          · by_cases hx : x ∈ us
            · exact .inr ⟨hx, h'⟩
            · rw [hc, List.count_cons_self, List.count_eq_zero_of_not_mem hx] at h'
              omega
          · exact .inr ⟨h, h'⟩
theorem miss_snoc (gl : List Gl) {told : List Int} {g : Int} (hg : g ∉ told) (x : Int) : miss gl told x = miss gl (told ++ [g]) x + cnt gl x g := by
  unfold miss cnt
  induction partsOf gl x.toNat with
  | nil => rfl
  | cons p ps ih =>
    simp only [List.filter_cons, List.contains_eq_mem, List.mem_append, List.mem_singleton] at ih ⊢
    by_cases e : p.1 = g
    · have : p.1 ∉ told := fun h => hg (e ▸ h)
      simp [e, hg]
      simp at ih
      omega
    · by_cases e2 : p.1 ∈ told
      · simp [e, e2]
        simp at ih
        omega
      · simp [e, e2]
        simp at ih
        omega
/-- what holds between two rounds -/
structure Inv (gl : List Gl) (G : List Int) (c : Int → Int) (h told : List Int) : Prop where
  nd : (h ++ told).Nodup
  mem : ∀ x, (x ∈ h ∨ x ∈ told) ↔ (x ∈ G ∧ c x = 0)
  cn : ∀ x ∈ G, c x = miss gl told x
  ord : ∀ pre x post, told = pre ++ x :: post → ∀ p ∈ partsOf gl x.toNat, p.1 ∈ pre
theorem miss_zero {gl : List Gl} {told : List Int} {x : Int} (h : miss gl told x = 0) : ∀ p ∈ partsOf gl x.toNat, p.1 ∈ told := fun p hp => by
  unfold miss at h
  have := List.eq_nil_of_length_eq_zero h
  rw [List.filter_eq_nil_iff] at this
  simpa using this p hp
theorem miss_pos {gl : List Gl} {told : List Int} {x : Int} (h : miss gl told x ≠ 0) : ∃ p ∈ partsOf gl x.toNat, p.1 ∉ told := by
  unfold miss at h
  cases hl : (partsOf gl x.toNat).filter fun p => !told.contains p.1 with
  | nil => rw [hl] at h; exact absurd rfl h
  | cons p ps =>
    have hm : p ∈ (partsOf gl x.toNat).filter fun p => !told.contains p.1 := by rw [hl]; exact List.mem_cons_self
    rw [List.mem_filter] at hm
    exact ⟨p, hm.1, by simpa using hm.2⟩
theorem snoc_split {told : List Int} {g : Int} {pre : List Int} {x : Int} {post : List Int} (h : told ++ [g] = pre ++ x :: post) : (post = [] ∧ x = g ∧ pre = told) ∨ ∃ post', post = post' ++ [g] ∧ told = pre ++ x :: post' := by
  rcases List.eq_nil_or_concat post with rfl | ⟨q, y, rfl⟩
  · left
    have h2 : told ++ [g] = pre ++ [x] := h
    have := List.append_inj' h2 rfl
    simp only [List.cons.injEq, and_true] at this
    exact ⟨rfl, this.2.symm, this.1.symm⟩
  · right
    have h2 : told ++ [g] = (pre ++ x :: q) ++ [y] := by rw [h]; simp
    have := List.append_inj' h2 rfl
    simp only [List.cons.injEq, and_true] at this
    exact ⟨q, by simp [this.2], this.1⟩
theorem round_inv {gl : List Gl} {G : List Int} {U : Int → List Int} (hU : ∀ y z, (U y).count z = if z ∈ G then cnt gl z y else 0) {c : Int → Int} {h told : List Int} (hi : Inv gl G c h told) (hne : h ≠ []) :
    Inv gl G (round U ((c, h), told)).1.1 (round U ((c, h), told)).1.2 (round U ((c, h), told)).2 := by
  have hp := Hp.pop_perm (l := h) (List.length_pos_iff.2 hne)
  unfold round
  simp only
  generalize (Hp.pop h).1 = g at hp ⊢
  generalize (Hp.pop h).2 = h' at hp ⊢
  have hmh : ∀ x, x ∈ h ↔ x = g ∨ x ∈ h' := fun x => by rw [← hp.mem_iff]; simp
  have hnd := hi.nd
  rw [List.nodup_append] at hnd
  obtain ⟨n1, n2, n3⟩ := hnd
  rw [← hp.nodup_iff, List.nodup_cons] at n1
  have hgh : g ∈ h := (hmh g).2 (.inl rfl)
  have hgt : g ∉ told := fun e => n3 g hgh g e rfl
  obtain ⟨hgG, hgc⟩ := (hi.mem g).1 (.inl hgh)
  have hcount : ∀ x ∈ G, ((U g).count x : Int) = cnt gl x g := fun x hx => by rw [hU, if_pos hx]
  have hUG : ∀ x ∈ U g, x ∈ G ∧ 0 < cnt gl x g := fun x hx => by
    have h1 := List.count_pos_iff.2 hx
    rw [hU] at h1
    split at h1
    · exact ⟨‹_›, h1⟩
    · omega
  have hms := fun x => miss_snoc gl hgt x
  obtain ⟨f1, f2⟩ := frees (U g) (c, h')
  obtain ⟨f3, f4⟩ := f2 fun u hu => by
    have h1 := hUG u hu
    show ((U g).count u : Int) ≤ c u
    rw [hcount u h1.1, hi.cn u h1.1, hms u]
    omega
  generalize (U g).foldl free (c, h') = s2 at f1 f3 f4
  obtain ⟨c2, h2⟩ := s2
  simp only at f1 f3 f4 ⊢
  have hc2 : ∀ x ∈ G, c2 x = miss gl (told ++ [g]) x := fun x hx => by
    rw [f1, hcount x hx, hi.cn x hx, hms x]; omega
  have hUn : ∀ x ∈ U g, x ∉ h ∧ x ∉ told := fun x hx => by
    have h1 := hUG x hx
    have h3 : c x ≠ 0 := by rw [hi.cn x h1.1, hms x]; omega
    exact ⟨fun e => h3 ((hi.mem x).1 (.inl e)).2, fun e => h3 ((hi.mem x).1 (.inr e)).2⟩
  refine ⟨?_, fun x => ?_, hc2, ?_⟩
  · rw [List.nodup_append]
    refine ⟨f4 n1.2 fun x hx e => (hUn x hx).1 ((hmh x).2 (.inr e)), ?_, fun a ha b hb e => ?_⟩
    · exact List.nodup_append.2 ⟨n2, by simp, fun a ha b hb e => by simp only [List.mem_singleton] at hb; subst hb; subst e; exact hgt ha⟩
    · subst e
      rcases (f3 a).1 ha with ha | ⟨ha, _⟩
      · rcases List.mem_append.1 hb with hb | hb
        · exact n3 a ((hmh a).2 (.inr ha)) a hb rfl
        · simp only [List.mem_singleton] at hb; subst hb; exact n1.1 ha
      · rcases List.mem_append.1 hb with hb | hb
        · exact (hUn a ha).2 hb
        · simp only [List.mem_singleton] at hb; subst hb; exact (hUn a ha).1 hgh
  · have hle : x ∈ G → c x = 0 → c2 x = 0 := fun hx h0 => by
      have h1 := hi.cn x hx
      have h2 := hms x
      rw [hc2 x hx]
      omega
    rw [f3, List.mem_append, List.mem_singleton]
    constructor
    · rintro ((hx | ⟨hx, h0⟩) | (hx | rfl))
      · have := (hi.mem x).1 (.inl ((hmh x).2 (.inr hx)))
        exact ⟨this.1, hle this.1 this.2⟩
      · exact ⟨(hUG x hx).1, h0⟩
      · have := (hi.mem x).1 (.inr hx)
        exact ⟨this.1, hle this.1 this.2⟩
      · exact ⟨hgG, hle hgG hgc⟩
    · rintro ⟨hx, h0⟩
      by_cases hc0 : c x = 0
      · rcases (hi.mem x).2 ⟨hx, hc0⟩ with h | h
        · rcases (hmh x).1 h with rfl | h
          · exact .inr (.inr rfl)
          · exact .inl (.inl h)
        · exact .inr (.inl h)
      · refine .inl (.inr ⟨List.count_pos_iff.1 ?_, h0⟩)
        have := f1 x
        omega
  · intro pre x post e p hp'
    rcases snoc_split e with ⟨rfl, rfl, rfl⟩ | ⟨post', rfl, e'⟩
    · exact miss_zero (by have := hi.cn x hgG; omega) p hp'
    · exact hi.ord pre x post' e' p hp'
theorem rounds_inv {gl : List Gl} {gs : List Nat} {U : Int → List Int} (hU : ∀ y z, (U y).count z = if z ∈ asI gs then cnt gl z y else 0) : ∀ (f : Nat) (c : Int → Int) (h told : List Int), Inv gl (asI gs) c h told → left gs c h ≤ f →
    ∃ c', Inv gl (asI gs) c' [] (rounds U f ((c, h), told)).2
  | 0, c, h, told, hi, hl => by
    unfold left at hl
    have : h = [] := List.eq_nil_of_length_eq_zero (by omega)
    subst this
    exact ⟨c, hi⟩
  | f + 1, c, h, told, hi, hl => by
    unfold rounds
    split
    · rename_i e
      simp only at e
      subst e
      exact ⟨c, hi⟩
    · rename_i hne
      have hne : h ≠ [] := hne
      have hr := round_inv hU hi hne
      have hlt : left gs (round U ((c, h), told)).1.1 (round U ((c, h), told)).1.2 + 1 ≤ left gs c h := by
        have hp := pop_len h
        have h0 : 0 < h.length := List.length_pos_iff.2 hne
        have h2 := frees_left (gs := gs) (U (Hp.pop h).1) (c, (Hp.pop h).2) fun u hu => mem_asI.1 (by
          have h1 := List.count_pos_iff.2 hu
          rw [hU] at h1
          split at h1
          · rename_i hm; exact hm
          · omega)
        have h3 : left gs c (Hp.pop h).2 + 1 = left gs c h := by unfold left; omega
        have h4 : left gs (round U ((c, h), told)).1.1 (round U ((c, h), told)).1.2 ≤ left gs c (Hp.pop h).2 := h2
        omega
      generalize hs : round U ((c, h), told) = s at hr hlt
      obtain ⟨⟨c2, h2⟩, t2⟩ := s
      exact rounds_inv hU f c2 h2 t2 hr (by simp only at hlt; omega)
/-- what is told: each glyph once, behind its parts; what is not told has a part that is not -/
structure Told (gl : List Gl) (G told : List Int) : Prop where
  nd : told.Nodup
  sub : ∀ x ∈ told, x ∈ G
  ord : ∀ pre x post, told = pre ++ x :: post → ∀ p ∈ partsOf gl x.toNat, p.1 ∈ pre
  rest : ∀ x ∈ G, x ∉ told → ∃ p ∈ partsOf gl x.toNat, p.1 ∉ told
theorem inv0 {gl : List Gl} {gs : List Nat} (hn : gs.Nodup) : Inv gl (asI gs) (firsts gl gs).1.1 (Hp.init (firsts gl gs).2) [] := by
  have hcn : ∀ x ∈ asI gs, (firsts gl gs).1.1 x = miss gl [] x := fun x hx => by
    rw [firsts_c hn, if_pos hx]
    unfold miss
    simp [List.filter_eq_self.2]
  have hpm := Hp.init_perm (firsts gl gs).2
  refine ⟨?_, fun x => ?_, hcn, fun pre x post e => by simp at e⟩
  · rw [List.append_nil, hpm.nodup_iff, firsts_l hn]
    have h1 := hn.filter fun g => decide ((partsOf gl g).length = 0)
    exact List.Pairwise.map _ (fun a b h e => h (by omega)) h1
  · simp only [List.not_mem_nil, or_false]
    rw [hpm.mem_iff, firsts_l hn, mem_asI, firsts_c hn]
    constructor
    · rintro ⟨g, hg, rfl⟩
      rw [List.mem_filter] at hg
      have h2 := of_decide_eq_true hg.2
      refine ⟨mem_asI.2 ⟨g, hg.1, rfl⟩, ?_⟩
      split
      · simp; simpa using h2
      · rfl
    · rintro ⟨hm, h2⟩
      obtain ⟨g, hg, rfl⟩ := mem_asI.1 hm
      rw [if_pos hm] at h2
      refine ⟨g, List.mem_filter.2 ⟨hg, decide_eq_true ?_⟩, rfl⟩
      simp at h2
      simpa using h2
theorem line_told {gl : List Gl} {gs : List Nat} (hn : gs.Nodup) : Told gl (asI gs) (line gl gs) := by
  have h0 := inv0 (gl := gl) hn
  have hl : left gs (firsts gl gs).1.1 (Hp.init (firsts gl gs).2) ≤ 2 * gs.length := by
    unfold left
    rw [init_len, firsts_l hn]
    have h1 := List.length_filter_le (fun g : Nat => decide (0 < (firsts gl gs).1.1 g)) gs
    have h2 := List.length_filter_le (fun g : Nat => decide ((partsOf gl g).length = 0)) gs
    rw [List.length_map]
    omega
  obtain ⟨c', hi⟩ := rounds_inv (firsts_u hn) (2 * gs.length) _ _ _ h0 hl
  have e : line gl gs = (rounds (firsts gl gs).1.2 (2 * gs.length) (((firsts gl gs).1.1, Hp.init (firsts gl gs).2), [])).2 := rfl
  rw [← e] at hi
  refine ⟨by simpa using hi.nd, fun x hx => ((hi.mem x).1 (.inr hx)).1, hi.ord, fun x hx hnt => ?_⟩
  refine miss_pos fun h0 => hnt ?_
  exact ((hi.mem x).2 ⟨hx, by rw [hi.cn x hx, h0]; rfl⟩).resolve_left (by simp)
theorem Told.rank {gl : List Gl} {G told : List Int} (h : Told gl G told) {x : Int} (hx : x ∈ told) {p : Prt} (hp : p ∈ partsOf gl x.toNat) : p.1 ∈ told ∧ told.idxOf p.1 < told.idxOf x := by
  have hl := List.idxOf_lt_length_of_mem hx
  have hsp : told = told.take (told.idxOf x) ++ x :: told.drop (told.idxOf x + 1) := by
    have := List.getElem_idxOf hl
    conv => lhs; rw [← List.take_append_drop (told.idxOf x) told, List.drop_eq_getElem_cons hl, this]
  have hm := h.ord _ _ _ hsp p hp
  refine ⟨List.mem_of_mem_take hm, ?_⟩
  have hi : told.idxOf p.1 = (told.take (told.idxOf x)).idxOf p.1 := by
    conv => lhs; rw [hsp]
    rw [List.idxOf_append, if_pos hm]
  have := List.idxOf_lt_length_of_mem hm
  rw [hi]
  rw [List.length_take] at this
  omega
theorem Told.reach {gl : List Gl} {G told : List Int} (h : Told gl G told) {x y : Int} (hr : Reach gl x y) (hx : x ∈ told) : y ∈ told ∧ told.idxOf y ≤ told.idxOf x := by
  induction hr with
  | refl => exact ⟨hx, Nat.le_refl _⟩
  | step p _ hp ih =>
    have := h.rank ih.1 hp
    exact ⟨this.1, by omega⟩
/-- x is part of itself -/
def Loop (gl : List Gl) (x : Int) : Prop := ∃ p ∈ partsOf gl x.toNat, Reach gl p.1 x
theorem Told.noloop {gl : List Gl} {G told : List Int} (h : Told gl G told) {x : Int} (hx : x ∈ told) : ¬ Loop gl x := fun ⟨p, hp, hr⟩ => by
  have h1 := h.rank hx hp
  have h2 := h.reach hr h1.1
  omega
/-- where each of some has a part among them, one of them is part of itself -/
theorem loop_of {gl : List Gl} {D : Int → Prop} (G : List Int) (hG : ∀ x, D x → x ∈ G) (hD : ∀ x, D x → ∃ p ∈ partsOf gl x.toNat, D p.1) {x : Int} (hx : D x) : ∃ y, D y ∧ Reach gl x y ∧ Loop gl y := by
  have main : ∀ (k : Nat) (seen : List Int) (x : Int), seen.Nodup → (∀ y ∈ seen, D y ∧ (∃ p ∈ partsOf gl y.toNat, Reach gl p.1 x)) → (∀ y ∈ seen, y ∈ G) → D x → G.length ≤ seen.length + k → ∃ y, D y ∧ Reach gl x y ∧ Loop gl y := by
    intro k
    induction k with
    | zero =>
      intro seen x hn hs hG' hx hk
      have hm : x ∈ seen := by
        by_cases h : x ∈ seen
        · exact h
        · have := List.Nodup.length_le_of_subset (List.nodup_cons.2 ⟨h, hn⟩) (l₂ := G) fun y hy => by
            rcases List.mem_cons.1 hy with rfl | hy
            · exact hG y hx
            · exact hG' y hy
          simp only [List.length_cons] at this
          omega
      exact ⟨x, hx, .refl, (hs x hm).2⟩
    | succ k ih =>
      intro seen x hn hs hG' hx hk
      by_cases hm : x ∈ seen
      · exact ⟨x, hx, .refl, (hs x hm).2⟩
      · obtain ⟨p, hp, hpD⟩ := hD x hx
        obtain ⟨y, h1, h2, h3⟩ := ih (x :: seen) p.1 (List.nodup_cons.2 ⟨hm, hn⟩) (fun y hy => by
          rcases List.mem_cons.1 hy with rfl | hy
          · exact ⟨hx, p, hp, .refl⟩
          · obtain ⟨a, q, hq, hr⟩ := hs y hy
            exact ⟨a, q, hq, .step p hr hp⟩) (fun y hy => by
          rcases List.mem_cons.1 hy with rfl | hy
          · exact hG y hx
          · exact hG' y hy) hpD (by simp only [List.length_cons]; omega)
        exact ⟨y, h1, (Reach.step p .refl hp).trans h2, h3⟩
  exact main G.length [] x List.nodup_nil (by simp) (by simp) hx (by simp)
end Ln
end Go.Proofs.Ytoklllbaihccnaa

/- What the reference's below tells, by rounds: all that is part of a glyph. No program in it. Expanded from XCqL.src by expand.py. -/
import Derived.Test.YtoklllbaihccnaaCqI
import Derived.Test.YtoklllbaihccnaaCrB
set_option linter.unusedVariables false
set_option linter.unusedSimpArgs false
namespace Go.Proofs.Ytoklllbaihccnaa
namespace Rf
open Ln Wk
def T (bs : List Bool) (x : Nat) : Prop := bs.getD x false = true
/-- x is part of g, or of a part, and so on -/
def Bel (gl : List Gl) (g : Nat) (x : Nat) : Prop := ∃ p ∈ partsOf gl g, Reach gl p.1 x
section
variable {gl : List Gl}
theorem part_in {g : Nat} {p : Prt} (h : p ∈ partsOf gl g) : 0 ≤ p.1 ∧ p.1 < gl.length := (mem_psOf h).2
theorem T_lt {bs : List Bool} {x : Nat} (h : T bs x) : x < bs.length := by
  unfold T at h
  rw [List.getD_eq_getElem?_getD] at h
  cases hx : bs[x]? with
  | none => rw [hx] at h; cases h
  | some b => exact (List.getElem?_eq_some_iff.1 hx).1
theorem T_mark {bs : List Bool} {p : Prt} {x : Nat} : T (mark bs p) x ↔ T bs x ∨ (x = p.1.toNat ∧ x < bs.length) := by
  unfold T mark
  rw [List.getD_eq_getElem?_getD, List.getD_eq_getElem?_getD, List.getElem?_set]
  by_cases e : p.1.toNat = x
  · rw [if_pos e]
    by_cases hl : p.1.toNat < bs.length
    · rw [if_pos hl]
      simp only [Option.getD_some, true_iff]
      exact .inr ⟨e.symm, by omega⟩
    · rw [if_neg hl]
      constructor
      · intro h; cases h
      · rintro (h | h)
        · have := T_lt (bs := bs) (x := x) (by unfold T; rw [List.getD_eq_getElem?_getD]; exact h)
          omega
        · omega
  · rw [if_neg e]
    exact ⟨.inl, fun h => h.elim id fun h => absurd h.1.symm e⟩
theorem T_marks {x : Nat} : ∀ (l : List Prt) (bs : List Bool), T (l.foldl mark bs) x ↔ T bs x ∨ (x < bs.length ∧ ∃ p ∈ l, x = p.1.toNat)
  | [], bs => by simp
  | p :: l, bs => by
    rw [List.foldl_cons, T_marks l, T_mark]
    have hl : (mark bs p).length = bs.length := by unfold mark; simp
    rw [hl]
    simp only [List.mem_cons, exists_eq_or_imp]
    constructor
    · rintro ((h | h) | h)
      · exact .inl h
      · exact .inr ⟨h.2, .inl h.1⟩
      · exact .inr ⟨h.1, .inr h.2⟩
    · rintro (h | ⟨h1, h | h⟩)
      · exact .inl (.inl h)
      · exact .inl (.inr ⟨h, h1⟩)
      · exact .inr ⟨h1, h⟩
theorem T_visit_of {bs : List Bool} {a x : Nat} (h : T bs x) : T (visit gl bs a) x := by
  unfold visit
  split
  · exact (T_marks _ _).2 (.inl h)
  · exact h
theorem T_visits_of {x : Nat} : ∀ (l : List Nat) {bs : List Bool}, T bs x → T (l.foldl (visit gl) bs) x
  | [], _, h => h
  | a :: l, _, h => T_visits_of l (T_visit_of h)
/-- marks that hold of what is marked hold of its parts -/
def Closed (gl : List Gl) (bs : List Bool) : Prop := ∀ a, T bs a → ∀ p ∈ partsOf gl a, T bs p.1.toNat
theorem visit_hit {bs : List Bool} (hl : bs.length = gl.length) {a : Nat} (ha : T bs a) {p : Prt} (hp : p ∈ partsOf gl a) : T (visit gl bs a) p.1.toNat := by
  unfold visit
  rw [if_pos (show bs.getD a false = true from ha)]
  have := part_in hp
  exact (T_marks _ _).2 (.inr ⟨by omega, p, hp, rfl⟩)
theorem round_hit {bs : List Bool} (hl : bs.length = gl.length) {a : Nat} (ha : T bs a) {p : Prt} (hp : p ∈ partsOf gl a) : T (round gl bs) p.1.toNat := by
  unfold round
  have han : a < gl.length := by rw [← hl]; exact T_lt ha
  have hsp : List.range gl.length = List.range a ++ (a :: (List.range gl.length).drop (a + 1)) := by
    have h1 : a < (List.range gl.length).length := by rw [List.length_range]; exact han
    conv => lhs; rw [← List.take_append_drop a (List.range gl.length), List.drop_eq_getElem_cons h1, List.getElem_range, List.take_range, Nat.min_eq_left (Nat.le_of_lt han)]
  rw [hsp, List.foldl_append, List.foldl_cons]
  exact T_visits_of _ (visit_hit (by rw [visits_len, hl]) (T_visits_of _ ha) hp)
theorem set_same {bs : List Bool} {i : Nat} (h : T bs i) : bs.set i true = bs := by
  have hi := T_lt h
  have hv : bs[i] = true := by
    unfold T at h
    rw [List.getD_eq_getElem?_getD, List.getElem?_eq_getElem hi] at h
    exact h
  conv => lhs; rw [← hv]
  exact List.set_getElem_self hi
theorem visit_closed {bs : List Bool} (h : Closed gl bs) (a : Nat) : visit gl bs a = bs := by
  unfold visit
  split
  · rename_i ha
    have key : ∀ (l : List Prt), (∀ p ∈ l, T bs p.1.toNat) → l.foldl mark bs = bs := by
      intro l
      induction l with
      | nil => intro _; rfl
      | cons p l ih =>
        intro hl
        rw [List.foldl_cons]
        have e : mark bs p = bs := set_same (hl p List.mem_cons_self)
        rw [e]
        exact ih fun q hq => hl q (List.mem_cons_of_mem _ hq)
    exact key _ (h a ha)
  · rfl
theorem round_closed {bs : List Bool} (h : Closed gl bs) : round gl bs = bs := by
  unfold round
  generalize List.range gl.length = l
  induction l with
  | nil => rfl
  | cons a l ih => rw [List.foldl_cons, visit_closed h, ih]
def cnt (n : Nat) (bs : List Bool) : Nat := ((List.range n).filter fun x => bs.getD x false).length
theorem rounds_prog {bs : List Bool} (hl : bs.length = gl.length) : ∀ k, Closed gl (rounds gl k bs) ∨ k ≤ cnt gl.length (rounds gl k bs)
  | 0 => .inr (Nat.zero_le _)
  | k + 1 => by
    rw [rounds_succ]
    have hlk : (rounds gl k bs).length = gl.length := by rw [rounds_len, hl]
    rcases rounds_prog hl k with h | h
    · rw [round_closed h]; exact .inl h
    · by_cases hc : Closed gl (rounds gl k bs)
      · rw [round_closed hc]; exact .inl hc
      · obtain ⟨a, ha⟩ := Classical.not_forall.1 hc
        obtain ⟨ha1, ha2⟩ := Classical.not_imp.1 ha
        obtain ⟨p, hp⟩ := Classical.not_forall.1 ha2
        obtain ⟨hp1, hp2⟩ := Classical.not_imp.1 hp
        have hpin := part_in hp1
        right
        have hsub := List.Nodup.length_le_of_subset (l₁ := p.1.toNat :: (List.range gl.length).filter fun x => (rounds gl k bs).getD x false) (l₂ := (List.range gl.length).filter fun x => (round gl (rounds gl k bs)).getD x false)
          (List.nodup_cons.2 ⟨fun hm => hp2 (List.mem_filter.1 hm).2, List.nodup_range.filter _⟩) (fun y hy => by
            rcases List.mem_cons.1 hy with rfl | hy
            · exact List.mem_filter.2 ⟨List.mem_range.2 (by omega), round_hit hlk ha1 hp1⟩
            · obtain ⟨h1, h2⟩ := List.mem_filter.1 hy
              exact List.mem_filter.2 ⟨h1, T_visits_of _ h2⟩)
        unfold cnt at h ⊢
        simp only [List.length_cons] at hsub
        omega
theorem cnt_full {bs : List Bool} {n : Nat} (h : n ≤ cnt n bs) {x : Nat} (hx : x < n) : T bs x := by
  by_cases hc : T bs x
  · exact hc
  · have := List.Nodup.length_le_of_subset (l₁ := x :: (List.range n).filter fun x => bs.getD x false) (l₂ := List.range n) (List.nodup_cons.2 ⟨fun hm => hc (List.mem_filter.1 hm).2, List.nodup_range.filter _⟩) (fun y hy => by
      rcases List.mem_cons.1 hy with rfl | hy
      · exact List.mem_range.2 hx
      · exact (List.mem_filter.1 hy).1)
    unfold cnt at h
    simp only [List.length_cons, List.length_range] at this
    omega
theorem below_closed (g : Nat) : Closed gl (below gl g) := by
  have hl : (start gl g).length = gl.length := by unfold start; rw [marks_len]; simp
  rcases rounds_prog hl gl.length with h | h
  · exact h
  · intro a _ p hp
    have := part_in hp
    exact cnt_full h (by omega)
theorem start_T (g x : Nat) : T (start gl g) x ↔ ∃ p ∈ partsOf gl g, x = p.1.toNat := by
  unfold start
  rw [T_marks]
  have h0 : ¬ T (List.replicate gl.length false) x := fun h => by
    unfold T at h
    rw [List.getD_eq_getElem?_getD, List.getElem?_replicate] at h
    split at h <;> cases h
  constructor
  · rintro (h | h)
    · exact absurd h h0
    · exact h.2
  · rintro ⟨p, hp, rfl⟩
    have := part_in hp
    exact .inr ⟨by simp; omega, p, hp, rfl⟩
theorem rounds_of {bs : List Bool} {x : Nat} (h : T bs x) : ∀ k, T (rounds gl k bs) x
  | 0 => h
  | k + 1 => by rw [rounds_succ]; exact T_visits_of _ (rounds_of h k)
/-- below tells just what is part of g -/
theorem below_ok {g x : Nat} : T (below gl g) x ↔ Bel gl g x := by
  constructor
  · -- all that is marked is part of g
    have snd : ∀ (bs : List Bool), (∀ y, T bs y → Bel gl g y) → ∀ a, ∀ y, T (visit gl bs a) y → Bel gl g y := fun bs h a y hy => by
      unfold visit at hy
      split at hy
      · rename_i ha
        rcases (T_marks _ _).1 hy with hy | ⟨_, p, hp, rfl⟩
        · exact h y hy
        · obtain ⟨q, hq, hr⟩ := h a ha
          have := part_in hp
          refine ⟨q, hq, ?_⟩
          rw [show ((p.1.toNat : Nat) : Int) = p.1 by omega]
          exact .step p hr (by rw [Int.toNat_natCast]; exact hp)
      · exact h y hy
    have snds : ∀ (l : List Nat) (bs : List Bool), (∀ y, T bs y → Bel gl g y) → ∀ y, T (l.foldl (visit gl) bs) y → Bel gl g y := by
      intro l
      induction l with
      | nil => intro bs h; exact h
      | cons a l ih => intro bs h; exact ih _ (snd bs h a)
    have key : ∀ k, ∀ y, T (rounds gl k (start gl g)) y → Bel gl g y := by
      intro k
      induction k with
      | zero =>
        intro y hy
        obtain ⟨p, hp, rfl⟩ := (start_T g y).1 hy
        have := part_in hp
        refine ⟨p, hp, ?_⟩
        rw [show ((p.1.toNat : Nat) : Int) = p.1 by omega]
        exact .refl
      | succ k ih =>
        intro y hy
        rw [rounds_succ] at hy
        exact snds _ _ ih y hy
    exact key gl.length x
  · rintro ⟨p, hp, hr⟩
    have hpin := part_in hp
    have h0 : T (below gl g) p.1.toNat := rounds_of ((start_T g _).2 ⟨p, hp, rfl⟩) _
    have key : ∀ {a b : Int}, 0 ≤ a ∧ a < gl.length → Reach gl a b → T (below gl g) a.toNat → T (below gl g) b.toNat := fun {a b} ha hr h => by
      induction hr with
      | refl => exact h
      | step q hq hqp ih => exact below_closed g _ ih q hqp
    have := key hpin hr h0
    rw [Int.toNat_natCast] at this
    exact this
theorem below_len (g : Nat) : (below gl g).length = gl.length := by unfold below start; rw [rounds_len, marks_len]; simp
theorem loop_iff {g : Nat} : T (below gl g) g ↔ Ln.Loop gl g := by
  rw [below_ok]
  unfold Bel Ln.Loop
  rw [Int.toNat_natCast]
def all (gl : List Gl) (g : Int) : List Int := if thereB gl.length g = true then ((List.range gl.length).filter fun a : Nat => decide ((a : Int) = g) || (below gl g.toNat).getD a false).map (Nat.cast : Nat → Int) else []
theorem sorted_ext : ∀ {l l' : List Int}, l.Pairwise (· < ·) → l'.Pairwise (· < ·) → (∀ x, x ∈ l ↔ x ∈ l') → l = l'
  | [], [], _, _, _ => rfl
  | [], y :: l', _, _, h => absurd ((h y).2 List.mem_cons_self) (by simp)
  | x :: l, [], _, _, h => absurd ((h x).1 List.mem_cons_self) (by simp)
  | x :: l, y :: l', h1, h2, h => by
    rw [List.pairwise_cons] at h1 h2
    have hxy : x = y := by
      have a := (h x).1 List.mem_cons_self
      have b := (h y).2 List.mem_cons_self
      rcases List.mem_cons.1 a with a | a
      · exact a
      · rcases List.mem_cons.1 b with b | b
        · exact b.symm
        · have := h1.1 y b
          have := h2.1 x a
          omega
    subst hxy
    refine congrArg (x :: ·) (sorted_ext h1.2 h2.2 fun z => ?_)
    constructor
    · intro hz
      have := (h z).1 (List.mem_cons_of_mem _ hz)
      rcases List.mem_cons.1 this with e | e
      · subst e; have := h1.1 z hz; omega
      · exact e
    · intro hz
      have := (h z).2 (List.mem_cons_of_mem _ hz)
      rcases List.mem_cons.1 this with e | e
      · subst e; have := h2.1 z hz; omega
      · exact e
theorem all_eq (hp : ∀ g, (partsOf gl g).length ≤ 1000) (g : Int) : all gl g = Wk.all gl g := by
  by_cases hg : 0 ≤ g ∧ g < gl.length
  · obtain ⟨n, rfl⟩ := Int.eq_ofNat_of_zero_le hg.1
    obtain ⟨h1, h2⟩ := Wk.all_ok hp hg
    unfold all
    rw [if_pos (by simpa [thereB] using hg), Int.toNat_natCast]
    refine sorted_ext (List.Pairwise.map _ (fun a b h => by omega) (List.pairwise_lt_range.filter _)) h1 fun x => ?_
    rw [h2, List.mem_map]
    constructor
    · rintro ⟨a, ha, rfl⟩
      obtain ⟨_, hb⟩ := List.mem_filter.1 ha
      simp only [Bool.or_eq_true, decide_eq_true_eq] at hb
      rcases hb with hb | hb
      · rw [hb]; exact .refl
      · obtain ⟨p, hpp, hr⟩ := below_ok.1 hb
        exact (Reach.step p .refl (by rw [Int.toNat_natCast]; exact hpp)).trans hr
    · intro hr
      have hx := hr.inR hg
      refine ⟨x.toNat, List.mem_filter.2 ⟨List.mem_range.2 (by omega), ?_⟩, by omega⟩
      simp only [Bool.or_eq_true, decide_eq_true_eq]
      have hfe : ∀ {a b : Int}, Reach gl a b → a = b ∨ ∃ p ∈ partsOf gl a.toNat, Reach gl p.1 b := fun {a b} h => by
        induction h with
        | refl => exact .inl rfl
        | step p hx hp ih =>
          rcases ih with e | ⟨q, hq, hr⟩
          · subst e; exact .inr ⟨p, hp, .refl⟩
          · exact .inr ⟨q, hq, .step p hr hp⟩
      rcases hfe hr with e | ⟨p, hpp, hr'⟩
      · exact .inl (by omega)
      · rw [Int.toNat_natCast] at hpp
        refine .inr (below_ok.2 ⟨p, hpp, ?_⟩)
        rw [show ((x.toNat : Nat) : Int) = x by omega]
        exact hr'
  · unfold all Wk.all
    rw [if_neg (by simpa [thereB] using hg), if_neg (by simpa [thereB] using hg)]
end
end Rf
end Go.Proofs.Ytoklllbaihccnaa

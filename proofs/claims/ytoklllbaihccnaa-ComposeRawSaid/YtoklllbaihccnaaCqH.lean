/- firstRound's plain function tells the least glyph that is part of itself. No program in it. Expanded from XCqH.src by expand.py. -/
import Derived.Test.YtoklllbaihccnaaCqG
set_option linter.unusedVariables false
set_option linter.unusedSimpArgs false
namespace Go.Proofs.Ytoklllbaihccnaa
namespace Fi
open Ln Wk
theorem minL_ok : ∀ {l : List Int}, l ≠ [] → minL l ∈ l ∧ ∀ x ∈ l, minL l ≤ x
  | [], h => absurd rfl h
  | a :: l, _ => by
    have e : minL (a :: l) = l.foldl min a := rfl
    rw [e]
    clear e
    have : ∀ (l : List Int) (a : Int), (l.foldl min a = a ∨ l.foldl min a ∈ l) ∧ l.foldl min a ≤ a ∧ ∀ x ∈ l, l.foldl min a ≤ x := by
      intro l
      induction l with
      | nil => intro a; simp
      | cons b l ih =>
        intro a
        obtain ⟨h1, h2, h3⟩ := ih (min a b)
        rw [List.foldl_cons]
        refine ⟨?_, by omega, fun x hx => ?_⟩
        · rcases h1 with h1 | h1
          · rw [h1]
            rcases Int.le_total a b with h | h
            · rw [Int.min_eq_left h]; exact .inl rfl
            · rw [Int.min_eq_right h]; exact .inr List.mem_cons_self
          · exact .inr (List.mem_cons_of_mem _ h1)
        · rcases List.mem_cons.1 hx with rfl | hx
          · omega
          · exact h3 x hx
    obtain ⟨h1, h2, h3⟩ := this l a
    refine ⟨?_, fun x hx => ?_⟩
    · rcases h1 with h1 | h1
      · rw [h1]; exact List.mem_cons_self
      · exact List.mem_cons_of_mem _ h1
    · rcases List.mem_cons.1 hx with rfl | hx
      · exact h2
      · exact h3 x hx
section
variable {gl : List Gl}
/-- what users of j glyphs hold -/
structure Uok (gl : List Gl) (j : Nat) (s : Us) : Prop where
  us : ∀ x y, y ∈ s.2 x ↔ 0 ≤ y ∧ y < j ∧ ∃ p ∈ partsOf gl y.toNat, p.1 = x
  le : ∀ y : Int, 0 ≤ y → y < j → (∃ p ∈ partsOf gl y.toNat, p.1 = y) → s.1 ≤ y
  is : s.1 = gl.length ∨ (0 ≤ s.1 ∧ s.1 < j ∧ ∃ p ∈ partsOf gl s.1.toNat, p.1 = s.1)
theorem uses_fold (g : Nat) : ∀ (ps : List Prt) (s : Us), (∀ x y, y ∈ (ps.foldl (use g) s).2 x ↔ y ∈ s.2 x ∨ (y = (g : Int) ∧ ∃ p ∈ ps, p.1 = x)) ∧
    (ps.foldl (use g) s).1 = (if ∃ p ∈ ps, p.1 = (g : Int) then min s.1 (g : Int) else s.1)
  | [], s => by simp
  | p :: ps, s => by
    obtain ⟨h1, h2⟩ := uses_fold g ps (use g s p)
    rw [List.foldl_cons]
    refine ⟨fun x y => ?_, ?_⟩
    · rw [h1]
      simp only [use, upd]
      by_cases e : x = p.1
      · subst e
        simp only [if_true, List.mem_append, List.mem_cons, List.not_mem_nil, or_false, exists_eq_or_imp, true_or, and_true]
        constructor
        · rintro ((h | h) | h)
          · exact .inl h
          · exact .inr h
          · exact .inr h.1
        · rintro (h | h)
          · exact .inl (.inl h)
          · exact .inl (.inr h)
      · have e' : ¬ p.1 = x := fun h => e h.symm
        simp only [if_neg e, List.mem_cons, exists_eq_or_imp, e', false_or]
    · rw [h2]
      simp only [use, List.mem_cons, exists_eq_or_imp]
      by_cases e1 : p.1 = (g : Int)
      · simp only [e1, if_true, true_or]
        split <;> omega
      · rw [if_neg e1]; simp only [e1, false_or]
theorem users_ok : ∀ j, j ≤ gl.length → Uok gl j (users gl j)
  | 0, _ => ⟨fun x y => by simp [users]; omega, fun y h1 h2 => by omega, .inl rfl⟩
  | j + 1, hj => by
    have h := users_ok j (by omega)
    obtain ⟨h1, h2⟩ := uses_fold j (partsOf gl j) (users gl j)
    rw [users_succ]
    unfold uses
    refine ⟨fun x y => ?_, fun y hy0 hy1 hyp => ?_, ?_⟩
    · rw [h1, h.us]
      constructor
      · rintro (⟨a, b, c⟩ | ⟨rfl, c⟩)
        · exact ⟨a, by omega, c⟩
        · exact ⟨by omega, by omega, by simpa using c⟩
      · rintro ⟨a, b, c⟩
        by_cases e : y = (j : Int)
        · subst e; exact .inr ⟨rfl, by simpa using c⟩
        · exact .inl ⟨a, by omega, c⟩
    · rw [h2]
      by_cases e : y = (j : Int)
      · subst e
        rw [if_pos (by simpa using hyp)]
        omega
      · have := h.le y hy0 (by omega) hyp
        split <;> omega
    · rw [h2]
      split
      · rename_i hc
        have hjl : (users gl j).1 ≤ gl.length := by
          rcases h.is with e | e
          · omega
          · omega
        rcases Int.le_total (users gl j).1 j with hle | hle
        · rw [Int.min_eq_left hle]
          exact h.is.imp id fun ⟨a, b, c⟩ => ⟨a, by omega, c⟩
        · rw [Int.min_eq_right hle]
          exact .inr ⟨by omega, by omega, by simpa using hc⟩
      · exact h.is.imp id fun ⟨a, b, c⟩ => ⟨a, by omega, c⟩
/-- a group grows: of v, behind what was grouped -/
structure Grp (gl : List Gl) (U : Int → List Int) (met0 : Int → Bool) (an : Int → Int → Prop) (v : Int) (i : Nat) (s : Gs) : Prop where
  ok : Gok gl.length s
  nd : s.2.Nodup
  met : ∀ x, s.1 x = true ↔ met0 x = true ∨ x ∈ s.2
  new : ∀ x ∈ s.2, met0 x = false ∧ (x = v ∨ an v x) ∧ Reach gl x v
  has : v ∈ s.2
  done : ∀ j, j < i → ∀ x, s.2[j]? = some x → ∀ u ∈ U x, s.1 u = true
  ile : i ≤ s.2.length
theorem look_met {s : Gs} {u y : Int} : (look s u).1 y = true ↔ s.1 y = true ∨ y = u := by
  unfold look
  split
  · rename_i h
    exact ⟨.inl, fun h' => h'.elim id fun e => e ▸ h⟩
  · show upd s.1 u true y = true ↔ _
    unfold upd
    split
    · rename_i e; simp [e]
    · rename_i e; simp [e]
theorem look_fold {U : Int → List Int} {met0 : Int → Bool} {an : Int → Int → Prop} {v : Int} {i : Nat} : ∀ (us : List Int) {s : Gs}, Grp gl U met0 an v i s → (∀ u ∈ us, 0 ≤ u ∧ u < (gl.length : Int)) →
    (∀ u ∈ us, met0 u = false → u ≠ v → an v u ∧ Reach gl u v) →
    Grp gl U met0 an v i (us.foldl look s) ∧ (∀ u ∈ us, (us.foldl look s).1 u = true) ∧ (∀ y, s.1 y = true → (us.foldl look s).1 y = true) ∧ ∀ (j : Nat) z, s.2[j]? = some z → (us.foldl look s).2[j]? = some z
  | [], s, h, _, _ => ⟨h, by simp, fun _ h => h, fun _ _ h => h⟩
  | u :: us, s, h, hin, hun => by
    have hu := hin u List.mem_cons_self
    have h1 : Grp gl U met0 an v i (look s u) ∧ ∀ (j : Nat) z, s.2[j]? = some z → (look s u).2[j]? = some z := by
      have hok := look_ok h.ok hu
      by_cases hm : s.1 u = true
      · have e : look s u = s := by unfold look; rw [if_pos hm]
        rw [e]
        exact ⟨h, fun _ _ h => h⟩
      · have e : look s u = (upd s.1 u true, s.2 ++ [u]) := by unfold look; rw [if_neg hm]
        have hn0 : met0 u = false := by
          cases hc : met0 u with
          | false => rfl
          | true => exact absurd ((h.met u).2 (.inl hc)) hm
        have hns : u ∉ s.2 := fun hc => hm ((h.met u).2 (.inr hc))
        have huv : u ≠ v := fun e => hns (e ▸ h.has)
        obtain ⟨a1, a2⟩ := hun u List.mem_cons_self hn0 huv
        have hget : ∀ (j : Nat) z, s.2[j]? = some z → (s.2 ++ [u])[j]? = some z := fun j z hz => by
          rw [List.getElem?_append_left (List.getElem?_eq_some_iff.1 hz).1]; exact hz
        refine ⟨⟨hok, ?_, fun y => ?_, fun y hy => ?_, ?_, fun j hj y hy w hw => look_met.2 (.inl ?_), ?_⟩, by rw [e]; exact hget⟩
        · rw [e]
          exact List.nodup_append.2 ⟨h.nd, by simp, fun a ha b hb e2 => by simp only [List.mem_singleton] at hb; subst hb; subst e2; exact hns ha⟩
        · rw [look_met, h.met, e, List.mem_append, List.mem_singleton, or_assoc]
        · rw [e] at hy
          rcases List.mem_append.1 hy with hy | hy
          · exact h.new y hy
          · rw [List.mem_singleton.1 hy]; exact ⟨hn0, .inr a1, a2⟩
        · rw [e]; exact List.mem_append_left _ h.has
        · rw [e] at hy
          rw [List.getElem?_append_left (by have := h.ile; omega)] at hy
          exact h.done j hj y hy w hw
        · rw [e, List.length_append]; have := h.ile; omega
    obtain ⟨b1, b2, b3, b4⟩ := look_fold us h1.1 (fun w hw => hin w (List.mem_cons_of_mem _ hw)) fun w hw => hun w (List.mem_cons_of_mem _ hw)
    rw [List.foldl_cons]
    refine ⟨b1, fun w hw => ?_, fun y hy => b3 y (look_met.2 (.inl hy)), fun j z hz => b4 j z (h1.2 j z hz)⟩
    rcases List.mem_cons.1 hw with rfl | hw
    · exact b3 _ (look_met.2 (.inr rfl))
    · exact b2 w hw
theorem grow_grp {U : Int → List Int} (hU : ∀ x y, y ∈ U x ↔ 0 ≤ y ∧ y < gl.length ∧ ∃ p ∈ partsOf gl y.toNat, p.1 = x) {met0 : Int → Bool} {an : Int → Int → Prop} {v : Int}
    (hK : ∀ x u, (x = v ∨ an v x) → u ∈ U x → met0 u = false → u ≠ v → an v u) : ∀ (f i : Nat) (s : Gs), Grp gl U met0 an v i s → gl.length < f + i → Grp gl U met0 an v (grow U f i s).2.length (grow U f i s)
  | 0, i, s, h, hf => by
    have := h.ok.sum
    have := h.ile
    omega
  | f + 1, i, s, h, hf => by
    unfold grow
    split
    · rename_i hlt
      have hx : s.2[i]? = some (Hp.at_ s.2 i) := by simp [Hp.at_, List.getD_eq_getElem?_getD, List.getElem?_eq_getElem hlt]
      generalize Hp.at_ s.2 i = x at hx ⊢
      have hxm := List.mem_of_getElem? hx
      obtain ⟨_, a2, a3⟩ := h.new x hxm
      obtain ⟨b1, b2, b3, b4⟩ := look_fold (U x) h (fun u hu => by have := (hU x u).1 hu; omega) fun u hu h0 hne => by
        obtain ⟨_, _, p, hp, hpx⟩ := (hU x u).1 hu
        exact ⟨hK x u a2 hu h0 hne, (Reach.step p .refl hp).trans (by rw [hpx]; exact a3)⟩
      have hlen : i + 1 ≤ ((U x).foldl look s).2.length := by have := looks_len (U x) s; omega
      refine grow_grp hU hK f (i + 1) _ ⟨b1.ok, b1.nd, b1.met, b1.new, b1.has, fun j hj y hy w hw => ?_, hlen⟩ (by omega)
      by_cases hji : j = i
      · subst hji
        rw [b4 j x hx] at hy
        injection hy with hy
        subst hy
        exact b2 w hw
      · exact b1.done j (by omega) y hy w hw
    · rename_i hge
      have := h.ile
      have e : i = s.2.length := by omega
      rw [← e]
      exact h
theorem up_closed {U : Int → List Int} (hU : ∀ x y, y ∈ U x ↔ 0 ≤ y ∧ y < gl.length ∧ ∃ p ∈ partsOf gl y.toNat, p.1 = x) {met : Int → Bool} (hc : ∀ x y, met x = true → y ∈ U x → met y = true) {z b : Int} (hz : 0 ≤ z ∧ z < gl.length) (h : Reach gl z b) : met b = true → met z = true := by
  induction h with
  | refl => exact id
  | step p hx hp ih =>
    intro hb
    have := hx.inR hz
    exact ih (hc _ _ hb ((hU _ _).2 ⟨this.1, this.2, p, hp, rfl⟩))
theorem first_edge {a b : Int} (h : Reach gl a b) : a = b ∨ ∃ p ∈ partsOf gl a.toNat, Reach gl p.1 b := by
  induction h with
  | refl => exact .inl rfl
  | step p hx hp ih =>
    rcases ih with e | ⟨q, hq, hr⟩
    · subst e; exact .inr ⟨p, hp, .refl⟩
    · exact .inr ⟨q, hq, .step p hr hp⟩
theorem two_of {l : List Int} (hn : l.Nodup) {a : Int} (ha : a ∈ l) : 1 < l.length ↔ ∃ b ∈ l, b ≠ a := by
  constructor
  · intro h
    match l, hn, ha, h with
    | x :: y :: l, hn, ha, _ =>
      have hxy : x ≠ y := fun e => by subst e; simp at hn
      by_cases e : x = a
      · exact ⟨y, by simp, fun e2 => hxy (e.trans e2.symm)⟩
      · exact ⟨x, by simp, e⟩
  · rintro ⟨b, hb, hne⟩
    match l, ha, hb with
    | [x], ha, hb =>
      simp only [List.mem_singleton] at ha hb
      exact absurd (hb.trans ha.symm) hne
    | x :: y :: l, _, _ => simp
/-- a group is all that leads to v and comes from it -/
theorem group_ok {U : Int → List Int} (hU : ∀ x y, y ∈ U x ↔ 0 ≤ y ∧ y < gl.length ∧ ∃ p ∈ partsOf gl y.toNat, p.1 = x) {L : List Int} {an : Int → Int → Prop} (P : Lf.Post gl L an) {met : Int → Bool} (hc : ∀ x y, met x = true → y ∈ U x → met y = true) {v : Int} (hv : 0 ≤ v ∧ v < gl.length) (hm : met v = false)
    (hun : unmet gl.length met ≤ gl.length) (hle : ∀ u : Int, 0 ≤ u → u < gl.length → met u = false → L.idxOf u ≤ L.idxOf v) :
    (group U gl.length met v).2.Nodup ∧ (∀ x, (group U gl.length met v).1 x = true ↔ met x = true ∨ x ∈ (group U gl.length met v).2) ∧ v ∈ (group U gl.length met v).2 ∧ (∀ x ∈ (group U gl.length met v).2, met x = false ∧ Reach gl v x ∧ Reach gl x v) ∧
      (∀ x y, (group U gl.length met v).1 x = true → y ∈ U x → (group U gl.length met v).1 y = true) := by
  have hvL := (P.mem v).2 hv
  have hK : ∀ x u, (x = v ∨ an v x) → u ∈ U x → met u = false → u ≠ v → an v u := by
    intro x u hx hu hmu hne
    obtain ⟨u1, u2, p, hp, hpx⟩ := (hU x u).1 hu
    have huL := (P.mem u).2 ⟨u1, u2⟩
    have hlt : L.idxOf u < L.idxOf v := by
      have h1 := hle u u1 u2 hmu
      have h2 : L.idxOf u ≠ L.idxOf v := fun e => hne (by
        have e1 := List.getElem_idxOf (List.idxOf_lt_length_of_mem huL)
        have e2 := List.getElem_idxOf (List.idxOf_lt_length_of_mem hvL)
        rw [← e1, ← e2]
        simp only [e])
      omega
    rcases P.part u huL p hp with h1 | h1 | h1
    · rw [hpx] at h1
      rcases hx with rfl | hx
      · exact absurd h1.symm hne
      · rw [← h1]; exact hx
    · rw [hpx] at h1
      rcases hx with rfl | hx
      · omega
      · exact P.mid v x u hx hvL huL h1 hlt
    · rw [hpx] at h1
      rcases hx with rfl | hx
      · exact h1
      · exact P.tr v x u h1 hx
  have h0 : Grp gl U met an v 0 (upd met v true, [v]) := by
    refine ⟨⟨?_, fun x hx => ?_⟩, by simp, fun x => ?_, fun x hx => ?_, by simp, fun j hj => by omega, Nat.zero_le _⟩
    · have := mark_ok hv hm
      simp only [List.length_singleton]
      omega
    · simp only [List.mem_singleton] at hx; rw [hx]; exact hv
    · show upd met v true x = true ↔ _
      unfold upd
      split
      · rename_i e; simp [e]
      · rename_i e; simp [e]
    · simp only [List.mem_singleton] at hx
      rw [hx]
      exact ⟨hm, .inl rfl, .refl⟩
  have h1 := grow_grp hU hK (gl.length + 1) 0 _ h0 (by omega)
  have e : group U gl.length met v = grow U (gl.length + 1) 0 (upd met v true, [v]) := rfl
  rw [← e] at h1
  refine ⟨h1.nd, h1.met, h1.has, fun x hx => ?_, fun x y hx hy => ?_⟩
  · obtain ⟨a1, a2, a3⟩ := h1.new x hx
    refine ⟨a1, ?_, a3⟩
    rcases a2 with rfl | a2
    · exact .refl
    · exact P.anr v x a2
  · rcases (h1.met x).1 hx with hx | hx
    · exact (h1.met y).2 (.inl (hc x y hx hy))
    · obtain ⟨j, hj⟩ := List.mem_iff_getElem?.1 hx
      exact h1.done j (List.getElem?_eq_some_iff.1 hj).1 x hj y hy
/-- between two turns -/
structure Tn (gl : List Gl) (U : Int → List Int) (s : Ts) (done : List Int) : Prop where
  done : ∀ x ∈ done, s.2 x = true
  closed : ∀ x y, s.2 x = true → y ∈ U x → s.2 y = true
  le : ∀ x : Int, s.2 x = true → Ln.Loop gl x → s.1 ≤ x
  self : ∀ x : Int, 0 ≤ x → x < gl.length → (∃ p ∈ partsOf gl x.toNat, p.1 = x) → s.1 ≤ x
  is : s.1 = gl.length ∨ (0 ≤ s.1 ∧ s.1 < gl.length ∧ Ln.Loop gl s.1)
theorem turn_ok {U : Int → List Int} (hU : ∀ x y, y ∈ U x ↔ 0 ≤ y ∧ y < gl.length ∧ ∃ p ∈ partsOf gl y.toNat, p.1 = x) {L : List Int} {an : Int → Int → Prop} (P : Lf.Post gl L an) {s : Ts} {done : List Int} (h : Tn gl U s done) {v : Int} (hv : 0 ≤ v ∧ v < gl.length)
    (hle : ∀ u : Int, 0 ≤ u → u < gl.length → s.2 u = false → L.idxOf u ≤ L.idxOf v) : Tn gl U (turn U gl.length s v) (done ++ [v]) := by
  unfold turn
  split
  · rename_i hm
    exact ⟨fun x hx => by
      rcases List.mem_append.1 hx with hx | hx
      · exact h.done x hx
      · rw [List.mem_singleton.1 hx]; exact hm, h.closed, h.le, h.self, h.is⟩
  · rename_i hm
    have hm : s.2 v = false := by simpa using hm
    have hun : unmet gl.length s.2 ≤ gl.length := by
      unfold unmet
      have := List.length_filter_le (fun g : Nat => !s.2 g) (List.range gl.length)
      rw [List.length_range] at this
      exact this
    obtain ⟨g1, g2, g3, g4, g5⟩ := group_ok hU P h.closed hv hm hun hle
    generalize group U gl.length s.2 v = G at g1 g2 g3 g4 g5
    have hne : G.2 ≠ [] := fun e => by rw [e] at g3; cases g3
    obtain ⟨m1, m2⟩ := minL_ok hne
    refine ⟨fun x hx => ?_, g5, fun x hx hl => ?_, fun x h1 h2 h3 => ?_, ?_⟩
    · show G.1 x = true
      rw [g2]
      rcases List.mem_append.1 hx with hx | hx
      · exact .inl (h.done x hx)
      · rw [List.mem_singleton.1 hx]; exact .inr g3
    · have hx : G.1 x = true := hx
      show (if 1 < G.2.length then min s.1 (minL G.2) else s.1) ≤ x
      rcases (g2 x).1 hx with hx | hx
      · have := h.le x hx hl
        split <;> omega
      · obtain ⟨_, r1, r2⟩ := g4 x hx
        have hxr := r1.inR hv
        obtain ⟨p, hp, hr⟩ := hl
        by_cases e : p.1 = x
        · have := h.self x hxr.1 hxr.2 ⟨p, hp, e⟩
          split <;> omega
        · have hvp : Reach gl v p.1 := .step p r1 hp
          have hpr := hvp.inR hv
          have hpv : Reach gl p.1 v := hr.trans r2
          have hpG : G.1 p.1 = true := up_closed hU g5 hpr hpv ((g2 v).2 (.inr g3))
          have hp2 : p.1 ∈ G.2 := by
            rcases (g2 _).1 hpG with hpm | hpm
            · have := up_closed hU h.closed hv hvp hpm
              rw [hm] at this; cases this
            · exact hpm
          rw [if_pos ((two_of g1 hx).2 ⟨p.1, hp2, e⟩)]
          have := m2 x hx
          omega
    · have := h.self x h1 h2 h3
      show (if 1 < G.2.length then min s.1 (minL G.2) else s.1) ≤ x
      split <;> omega
    · show (if 1 < G.2.length then min s.1 (minL G.2) else s.1) = _ ∨ 0 ≤ (if 1 < G.2.length then min s.1 (minL G.2) else s.1) ∧ (if 1 < G.2.length then min s.1 (minL G.2) else s.1) < _ ∧ Ln.Loop gl (if 1 < G.2.length then min s.1 (minL G.2) else s.1)
      split
      · rename_i hlen
        rcases Int.le_total s.1 (minL G.2) with hl | hl
        · rw [Int.min_eq_left hl]; exact h.is
        · rw [Int.min_eq_right hl]
          obtain ⟨b, hb, hba⟩ := (two_of g1 m1).1 hlen
          obtain ⟨_, a1, a2⟩ := g4 _ m1
          obtain ⟨_, b1, b2⟩ := g4 b hb
          have har := a1.inR hv
          refine .inr ⟨har.1, har.2, ?_⟩
          rcases first_edge (a2.trans b1) with e | ⟨p, hp, hr⟩
          · exact absurd e.symm hba
          · exact ⟨p, hp, hr.trans (b2.trans a1)⟩
      · exact h.is
theorem first_ok (hp : ∀ g, (Lf.raw gl g).length ≤ 1000) : (∀ x : Int, 0 ≤ x → x < gl.length → Ln.Loop gl x → first gl ≤ x) ∧ (first gl = gl.length ∨ (0 ≤ first gl ∧ first gl < gl.length ∧ Ln.Loop gl (first gl))) := by
  obtain ⟨an, P⟩ := Lf.left_post hp
  have hu := users_ok (gl := gl) gl.length (Nat.le_refl _)
  unfold first turns
  generalize Lf.left gl = L at P
  generalize users gl gl.length = us at hu
  have hU : ∀ x y, y ∈ us.2 x ↔ 0 ≤ y ∧ y < gl.length ∧ ∃ p ∈ partsOf gl y.toNat, p.1 = x := hu.us
  have key : ∀ (rest done : List Int) (s : Ts), L.reverse = done ++ rest → Tn gl us.2 s done → Tn gl us.2 (rest.foldl (turn us.2 gl.length) s) L.reverse := by
    intro rest
    induction rest with
    | nil => intro done s e h; rw [e, List.append_nil]; exact h
    | cons v rest ih =>
      intro done s e h
      have hvL : v ∈ L := by rw [← List.mem_reverse, e]; simp
      have eL : L = rest.reverse ++ v :: done.reverse := by
        have := congrArg List.reverse e
        simpa using this
      have hn := P.nd
      rw [eL, List.nodup_append] at hn
      obtain ⟨_, _, hn3⟩ := hn
      have hvr : v ∉ rest.reverse := fun hm => hn3 v hm v List.mem_cons_self rfl
      rw [List.foldl_cons]
      refine ih (done ++ [v]) _ (by rw [e]; simp) (turn_ok hU P h ((P.mem v).1 hvL) fun u h1 h2 h3 => ?_)
      have huL := (P.mem u).2 ⟨h1, h2⟩
      have hud : u ∉ done := fun hm => by rw [h.done u hm] at h3; cases h3
      have iv : L.idxOf v = rest.length := by rw [eL, List.idxOf_append, if_neg hvr]; simp
      rw [← List.mem_reverse, e] at huL
      rcases List.mem_append.1 huL with hm | hm
      · exact absurd hm hud
      · rcases List.mem_cons.1 hm with rfl | hm
        · exact Nat.le_refl _
        · have hmr : u ∈ rest.reverse := List.mem_reverse.2 hm
          have := List.idxOf_lt_length_of_mem hmr
          rw [List.length_reverse] at this
          rw [iv, eL, List.idxOf_append, if_pos hmr]
          omega
  have h0 : Tn gl us.2 (us.1, fun _ => false) [] := by
    refine ⟨by simp, by simp, by simp, fun x h1 h2 h3 => hu.le x h1 h2 h3, hu.is.imp id fun ⟨a, b, p, hp, e⟩ => ⟨a, b, p, hp, ?_⟩⟩
    rw [e]; exact .refl
  have h := key L.reverse [] _ (by simp) h0
  refine ⟨fun x h1 h2 h3 => h.le x (h.done x (List.mem_reverse.2 ((P.mem x).2 ⟨h1, h2⟩))) h3, h.is⟩
end
end Fi
namespace Fo
open Ln Wk
/-- where not all can be put in order, the glyph told is part of itself, and the least such -/
theorem order_bad {gl : List Gl} (hp : ∀ g, (Lf.raw gl g).length ≤ 1000) (h : (Ln.line gl (List.range gl.length)).length < gl.length) :
    0 ≤ Fi.first gl ∧ Fi.first gl < gl.length ∧ Ln.Loop gl (Fi.first gl) ∧ ∀ x : Int, 0 ≤ x → x < gl.length → Ln.Loop gl x → Fi.first gl ≤ x := by
  obtain ⟨h1, h2⟩ := Fi.first_ok hp
  have ht := Ln.line_told (gl := gl) (gs := List.range gl.length) List.nodup_range
  have hex : ∃ x ∈ asI (List.range gl.length), x ∉ Ln.line gl (List.range gl.length) := by
    by_cases hall : ∀ x ∈ asI (List.range gl.length), x ∈ Ln.line gl (List.range gl.length)
    · have hnd : (asI (List.range gl.length)).Nodup := List.Pairwise.map _ (fun a b h e => h (by omega)) List.nodup_range
      have := List.Nodup.length_le_of_subset hnd (l₂ := Ln.line gl (List.range gl.length)) fun x hx => hall x hx
      simp at this
      omega
    · obtain ⟨x, hx⟩ := Classical.not_forall.1 hall
      exact ⟨x, Classical.not_imp.1 hx⟩
  obtain ⟨x, hx, hxt⟩ := hex
  have hin : ∀ y, y ∈ asI (List.range gl.length) ↔ 0 ≤ y ∧ y < gl.length := fun y => by
    rw [mem_asI]
    constructor
    · rintro ⟨g, hg, rfl⟩; have := List.mem_range.1 hg; omega
    · rintro ⟨a, b⟩; exact ⟨y.toNat, List.mem_range.2 (by omega), by omega⟩
  obtain ⟨y, ⟨hy, _⟩, _, hl⟩ := loop_of (D := fun x => x ∈ asI (List.range gl.length) ∧ x ∉ Ln.line gl (List.range gl.length)) (asI (List.range gl.length)) (fun x hx => hx.1) (fun x hx => by
    obtain ⟨p, hp, hpt⟩ := ht.rest x hx.1 hx.2
    exact ⟨p, hp, (hin _).2 (mem_psOf hp).2, hpt⟩) ⟨hx, hxt⟩
  have hyr := (hin y).1 hy
  have h3 := h1 y hyr.1 hyr.2 hl
  rcases h2 with e | ⟨a, b, c⟩
  · omega
  · exact ⟨a, b, c, h1⟩
end Fo
end Go.Proofs.Ytoklllbaihccnaa

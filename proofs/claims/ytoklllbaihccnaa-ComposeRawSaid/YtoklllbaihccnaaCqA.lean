/- The walk down comes to just what can be reached; the sort of a row is its sorted form. No program in it. -/
import Derived.Test.YtoklllbaihccnaaCoL
set_option linter.unusedVariables false
set_option linter.unusedSimpArgs false
namespace Go.Proofs.Ytoklllbaihccnaa
/-- y is x, or part of it, or of a part, and so on -/
inductive Reach (gl : List Gl) (g : Int) : Int → Prop
  | refl : Reach gl g g
  | step {x : Int} (p : Prt) : Reach gl g x → p ∈ partsOf gl x.toNat → Reach gl g p.1
theorem Reach.trans {gl : List Gl} {a b c : Int} (h : Reach gl a b) (k : Reach gl b c) : Reach gl a c := by
  induction k with
  | refl => exact h
  | step p _ hp ih => exact .step p ih hp
theorem Reach.inR {gl : List Gl} {g x : Int} (h : Reach gl g x) (hg : 0 ≤ g ∧ g < gl.length) : 0 ≤ x ∧ x < gl.length := by
  induction h with
  | refl => exact hg
  | step p _ hp ih => exact (mem_psOf hp).2
namespace Wk
structure Went (gl : List Gl) (R : Int → Prop) (s s' : St) : Prop where
  more : ∃ ls ns, s'.later = s.later ++ ls ∧ s'.out = s.out ++ ns ∧ (∀ x, s'.met x = true ↔ s.met x = true ∨ x ∈ ns) ∧ ns.Nodup ∧
    (∀ x ∈ ns, s.met x = false ∧ R x ∧ ∀ p ∈ partsOf gl x.toNat, s'.met p.1 = true ∨ p.1 ∈ s'.later) ∧ ∀ x ∈ ls, R x
variable {gl : List Gl} {R : Int → Prop}
theorem Went.refl (s : St) : Went gl R s s := ⟨[], [], by simp, by simp, by simp, List.nodup_nil, by simp, by simp⟩
theorem Went.met {s s' : St} (h : Went gl R s s') {x : Int} (hx : s.met x = true ∨ x ∈ s.later) : s'.met x = true ∨ x ∈ s'.later := by
  obtain ⟨ls, ns, h1, _, h3, _⟩ := h.more
  rcases hx with hx | hx
  · exact .inl ((h3 x).2 (.inl hx))
  · right; rw [h1]; exact List.mem_append_left _ hx
theorem Went.trans {s s1 s2 : St} (h : Went gl R s s1) (k : Went gl R s1 s2) : Went gl R s s2 := by
  obtain ⟨ls, ns, h1, h2, h3, h4, h5, h6⟩ := h.more
  obtain ⟨ls', ns', k1, k2, k3, k4, k5, k6⟩ := k.more
  refine ⟨ls ++ ls', ns ++ ns', by rw [k1, h1, List.append_assoc], by rw [k2, h2, List.append_assoc], fun x => ?_, ?_, fun x hx => ?_, fun x hx => ?_⟩
  · rw [k3, h3, List.mem_append, or_assoc]
  · refine List.nodup_append.2 ⟨h4, k4, fun a ha b hb e => ?_⟩
    subst e
    have := (k5 a hb).1
    rw [(h3 a).2 (.inr ha)] at this; cases this
  · rcases List.mem_append.1 hx with hx | hx
    · obtain ⟨a1, a2, a3⟩ := h5 x hx
      exact ⟨a1, a2, fun p hp => k.met (a3 p hp)⟩
    · obtain ⟨a1, a2, a3⟩ := k5 x hx
      refine ⟨?_, a2, a3⟩
      cases hm : s.met x with
      | false => rfl
      | true => rw [(h3 x).2 (.inl hm)] at a1; cases a1
  · rcases List.mem_append.1 hx with hx | hx
    · exact h6 x hx
    · exact k6 x hx
theorem visit_went (hR : ∀ x, R x → ∀ p ∈ partsOf gl x.toNat, R p.1) : ∀ (L : Nat) (g : Int) (s : St), R g → Went gl R s (visit gl L g s) ∧ ((visit gl L g s).met g = true ∨ g ∈ (visit gl L g s).later)
  | 0, g, s, hg => by
    unfold visit
    split
    · rename_i hm; exact ⟨.refl s, .inl hm⟩
    · exact ⟨⟨[g], [], by simp [St.push], by simp [St.push], by simp [St.push], List.nodup_nil, by simp, by simpa using hg⟩, .inr (by simp [St.push])⟩
  | L + 1, g, s, hg => by
    unfold visit
    split
    · rename_i hm; exact ⟨.refl s, .inl hm⟩
    · rename_i hm
      have hfold : ∀ (ps : List Prt) (s' : St), (∀ p ∈ ps, R p.1) → Went gl R s' (ps.foldl (fun s p => visit gl L p.1 s) s') ∧ ∀ p ∈ ps, (ps.foldl (fun s p => visit gl L p.1 s) s').met p.1 = true ∨ p.1 ∈ (ps.foldl (fun s p => visit gl L p.1 s) s').later := by
        intro ps
        induction ps with
        | nil => intro s' _; exact ⟨.refl _, by simp⟩
        | cons p ps ih =>
          intro s' h
          obtain ⟨a1, a2⟩ := visit_went hR L p.1 s' (h p List.mem_cons_self)
          obtain ⟨b1, b2⟩ := ih (visit gl L p.1 s') fun q hq => h q (List.mem_cons_of_mem _ hq)
          rw [List.foldl_cons]
          refine ⟨a1.trans b1, fun q hq => ?_⟩
          rcases List.mem_cons.1 hq with rfl | hq
          · exact b1.met a2
          · exact b2 q hq
      obtain ⟨c1, c2⟩ := hfold (partsOf gl g.toNat) ((s.mark g).tell g) fun p hp => hR g hg p hp
      generalize (partsOf gl g.toNat).foldl (fun s p => visit gl L p.1 s) ((s.mark g).tell g) = s2 at c1 c2
      obtain ⟨ls, ns, h1, h2, h3, h4, h5, h6⟩ := c1.more
      have hmet : ∀ x, ((s.mark g).tell g).met x = true ↔ s.met x = true ∨ x = g := fun x => by
        show upd s.met g true x = true ↔ _
        unfold upd
        split
        · rename_i e; simp [e]
        · rename_i e; simp [e]
      have hg' : s.met g = false := by simpa using hm
      refine ⟨⟨ls, g :: ns, h1, by rw [h2]; simp [St.tell, St.mark], fun x => by rw [h3, hmet, List.mem_cons, or_assoc], List.nodup_cons.2 ⟨fun e => ?_, h4⟩, fun x hx => ?_, h6⟩, .inl ((h3 g).2 (.inl ((hmet g).2 (.inr rfl))))⟩
      · have := (h5 g e).1
        rw [(hmet g).2 (.inr rfl)] at this; cases this
      · rcases List.mem_cons.1 hx with rfl | hx
        · exact ⟨hg', hg, c2⟩
        · obtain ⟨a1, a2, a3⟩ := h5 x hx
          refine ⟨?_, a2, a3⟩
          cases hm2 : s.met x with
          | false => rfl
          | true => rw [(hmet x).2 (.inl hm2)] at a1; cases a1
/-- what holds of a walk's state between two visits -/
structure Wok (gl : List Gl) (g : Int) (s : St) : Prop where
  nd : s.out.Nodup
  met : ∀ x, s.met x = true ↔ x ∈ s.out
  out : ∀ x ∈ s.out, Reach gl g x ∧ ∀ p ∈ partsOf gl x.toNat, s.met p.1 = true ∨ p.1 ∈ s.later
  later : ∀ x ∈ s.later, Reach gl g x
  has : s.met g = true ∨ g ∈ s.later
theorem start_ok (g : Int) : Wok gl g (start g) := ⟨List.nodup_nil, by simp [start], by simp [start], by simp [start]; exact .refl, .inr (by simp [start])⟩
theorem at_last {l : List Int} (h : l ≠ []) : Hp.at_ l (l.length - 1) = l.getLast h := by
  have : 0 < l.length := List.length_pos_iff.2 h
  simp [Hp.at_, List.getLast_eq_getElem, List.getD_eq_getElem?_getD, List.getElem?_eq_getElem (show l.length - 1 < l.length by omega)]
theorem round_ok {g : Int} {s : St} (h : Wok gl g s) (hl : s.later ≠ []) (L : Nat) : Wok gl g (visit gl L (Hp.at_ s.later (s.later.length - 1)) s.pop) := by
  obtain ⟨t, ht⟩ : ∃ t, Hp.at_ s.later (s.later.length - 1) = t := ⟨_, rfl⟩
  have hsp : s.later = s.pop.later ++ [t] := by
    show s.later = s.later.take (s.later.length - 1) ++ [t]
    rw [← ht, at_last hl, ← List.dropLast_eq_take, List.dropLast_concat_getLast]
  rw [ht]
  obtain ⟨a1, a2⟩ := visit_went (gl := gl) (R := Reach gl g) (fun x hx p hp => .step p hx hp) L t s.pop (h.later t (by rw [hsp]; simp))
  generalize visit gl L t s.pop = s2 at a1 a2
  have hkeep : ∀ x, (s.met x = true ∨ x ∈ s.later) → s2.met x = true ∨ x ∈ s2.later := fun x hx => by
    rcases hx with hx | hx
    · exact a1.met (.inl hx)
    · rw [hsp] at hx
      rcases List.mem_append.1 hx with hx | hx
      · exact a1.met (.inr hx)
      · simp only [List.mem_singleton] at hx; rw [hx]; exact a2
  obtain ⟨ls, ns, h1, h2, h3, h4, h5, h6⟩ := a1.more
  have eo : s.pop.out = s.out := rfl
  have em : s.pop.met = s.met := rfl
  rw [eo] at h2
  rw [em] at h3 h5
  refine ⟨?_, fun x => ?_, fun x hx => ?_, fun x hx => ?_, hkeep g h.has⟩
  · rw [h2]
    refine List.nodup_append.2 ⟨h.nd, h4, fun a ha b hb e => ?_⟩
    subst e
    have := (h5 a hb).1
    rw [(h.met a).2 ha] at this; cases this
  · rw [h3, h.met, h2, List.mem_append]
  · rw [h2] at hx
    rcases List.mem_append.1 hx with hx | hx
    · exact ⟨(h.out x hx).1, fun p hp => hkeep _ ((h.out x hx).2 p hp)⟩
    · exact (h5 x hx).2
  · rw [h1] at hx
    rcases List.mem_append.1 hx with hx | hx
    · exact h.later x (by rw [hsp]; exact List.mem_append_left _ hx)
    · exact h6 x hx
theorem walk_ok (hp : ∀ g, (partsOf gl g).length ≤ 1000) {g : Int} : ∀ (f : Nat) (s : St), Wok gl g s → pot gl.length s ≤ f → (∀ x ∈ s.later, 0 ≤ x ∧ x < (gl.length : Int)) → Wok gl g (walk gl f s) ∧ (walk gl f s).later = []
  | 0, s, h, hf, _ => by
    unfold walk
    unfold pot at hf
    exact ⟨h, List.eq_nil_of_length_eq_zero (by omega)⟩
  | f + 1, s, h, hf, hi => by
    unfold walk
    split
    · rename_i e; exact ⟨h, e⟩
    · rename_i hne
      have hlen : 0 < s.later.length := List.length_pos_iff.2 hne
      obtain ⟨h0, h1⟩ := hi (Hp.at_ s.later (s.later.length - 1)) (by rw [at_last hne]; exact List.getLast_mem hne)
      have hh := round_ok h hne 16
      have hin : ∀ x ∈ s.pop.later, 0 ≤ x ∧ x < (gl.length : Int) := fun x hx => hi x (List.mem_of_mem_take hx)
      have hpp : pot gl.length s.pop + 1 = pot gl.length s := by
        have e1 : rest gl.length s.pop = rest gl.length s := rfl
        have e2 : s.pop.later.length = s.later.length - 1 := by simp [St.pop]
        unfold pot
        rw [e1, e2]; omega
      obtain ⟨k, hk⟩ := Int.eq_ofNat_of_zero_le h0
      rw [hk] at hh h1 ⊢
      have hv : pot gl.length (visit gl 16 (k : Int) s.pop) ≤ _ := visit_pot1 gl hp 15 k s.pop (by omega)
      exact walk_ok hp f _ hh (by omega) (visit_in gl 16 k s.pop ⟨by omega, h1⟩ hin)
end Wk
namespace Is
open Hp
theorem set2_at (l : List Int) (i j k : Nat) (hi : i < l.length) (hj : j < l.length) : at_ (swap l i j) k = if k = j then at_ l i else if k = i then at_ l j else at_ l k := by
  unfold swap
  generalize at_ l i = a
  generalize at_ l j = b
  unfold at_
  simp only [List.getD_eq_getElem?_getD, List.getElem?_set, List.length_set]
  by_cases e : j = k
  · subst e; simp [hj]
  · rw [if_neg e, if_neg (Ne.symm e)]
    by_cases e2 : i = k
    · subst e2; simp [hi]
    · rw [if_neg e2, if_neg (Ne.symm e2)]
theorem ins_sorted : ∀ (f : Nat) (l : List Int) (j m : Nat), j < f → j ≤ m → m < l.length → (∀ a b, a < b → b ≤ m → b ≠ j → at_ l a ≤ at_ l b) → ∀ a b, a < b → b ≤ m → at_ (ins f l j) a ≤ at_ (ins f l j) b
  | 0, _, _, _, h, _, _, _ => by omega
  | f + 1, l, j, m, hf, hj, hm, h => by
    unfold ins
    split
    · rename_i e
      subst e
      intro a b hab hb
      exact h a b hab hb (by omega)
    · rename_i e
      split
      · rename_i hlt
        refine ins_sorted f (swap l j (j - 1)) (j - 1) m (by omega) (by omega) (by rw [swap_len]; exact hm) fun a b hab hb hne => ?_
        have e1 := set2_at l j (j - 1) a (by omega) (by omega)
        have e2 := set2_at l j (j - 1) b (by omega) (by omega)
        rw [e1, e2]
        have h1 := h a (j - 1)
        have h2 := h a b
        have h3 := h j b
        have h4 := h (j - 1) b
        repeat' split
        all_goals omega
      · rename_i hge
        intro a b hab hb
        by_cases eb : b = j
        · subst eb
          by_cases ea : a = b - 1
          · subst ea; omega
          · have := h a (b - 1) (by omega) (by omega) (by omega)
            omega
        · exact h a b hab hb eb
theorem sortTo_sorted (l : List Int) : ∀ k, k ≤ l.length → ∀ a b, a < b → b < k → at_ (sortTo k l) a ≤ at_ (sortTo k l) b
  | 0, _ => by omega
  | k + 1, hk => by
    unfold sortTo
    intro a b hab hb
    refine ins_sorted (k + 1) (sortTo k l) k k (by omega) (Nat.le_refl _) (by rw [sortTo_len]; omega) (fun a b hab hb hne => ?_) a b hab (by omega)
    exact sortTo_sorted l k (by omega) a b hab (by omega)
theorem ins_perm : ∀ (f : Nat) (l : List Int) (j : Nat), j < l.length → (ins f l j).Perm l
  | 0, _, _, _ => List.Perm.refl _
  | f + 1, l, j, hj => by
    unfold ins
    split
    · exact List.Perm.refl _
    · split
      · exact (ins_perm f _ _ (by rw [swap_len]; omega)).trans (swap_perm hj (by omega))
      · exact List.Perm.refl _
theorem sortTo_perm (l : List Int) : ∀ k, k ≤ l.length → (sortTo k l).Perm l
  | 0, _ => List.Perm.refl _
  | k + 1, hk => by
    unfold sortTo
    exact (ins_perm _ _ _ (by rw [sortTo_len]; omega)).trans (sortTo_perm l k (by omega))
theorem sort_perm (l : List Int) : (sort l).Perm l := sortTo_perm l _ (Nat.le_refl _)
theorem sort_sorted (l : List Int) : (sort l).Pairwise (· ≤ ·) := by
  rw [List.pairwise_iff_getElem]
  intro i j hi hj hij
  have hl : (sort l).length = l.length := sortTo_len _ _
  have := sortTo_sorted l l.length (Nat.le_refl _) i j hij (by omega)
  have e : ∀ k (hk : k < (sort l).length), at_ (sort l) k = (sort l)[k] := fun k hk => at_lt hk
  rw [← e i hi, ← e j hj]
  exact this
end Is
namespace Wk
theorem all_ok {gl : List Gl} (hp : ∀ g, (partsOf gl g).length ≤ 1000) {g : Int} (hg : 0 ≤ g ∧ g < gl.length) : (all gl g).Pairwise (· < ·) ∧ ∀ x, x ∈ all gl g ↔ Reach gl g x := by
  unfold all
  rw [if_pos (by simpa [thereB] using hg)]
  have hpot : pot gl.length (start g) ≤ 1 + 1000 * gl.length := by
    unfold pot rest
    have := List.length_filter_le (fun x : Nat => !(start g).met x) (List.range gl.length)
    rw [List.length_range] at this
    simp only [start, List.length_singleton]
    simp only [start] at this
    omega
  obtain ⟨h1, h2⟩ := walk_ok hp (1 + 1000 * gl.length) (start g) (start_ok g) hpot (by simpa [start] using hg)
  generalize walk gl (1 + 1000 * gl.length) (start g) = s at h1 h2
  have hmem : ∀ x, x ∈ s.out ↔ Reach gl g x := fun x => by
    refine ⟨fun h => (h1.out x h).1, fun h => ?_⟩
    induction h with
    | refl => exact (h1.met g).1 (h1.has.resolve_right (by rw [h2]; simp))
    | step p _ hp' ih => exact (h1.met _).1 (((h1.out _ ih).2 p hp').resolve_right (by rw [h2]; simp))
  refine ⟨?_, fun x => (Is.sort_perm _).mem_iff.trans (hmem x)⟩
  have hs := Is.sort_sorted s.out
  have hn : (Is.sort s.out).Nodup := (Is.sort_perm _).nodup_iff.2 h1.nd
  exact (hs.and hn).imp fun h => by omega
end Wk
end Go.Proofs.Ytoklllbaihccnaa

/- The heap's order, and that the row that is told is the least one. · The reference's depths and counts are package compose's. No program in it. · What the reference tells is what package compose tells. No program in it. -/
import Derived.Test.YtoklllbaihccnaaCqB
import Derived.Test.YtoklllbaihccnaaCqA
import Derived.Test.YtoklllbaihccnaaCrJ
import Derived.Test.YtoklllbaihccnaaCqI
import Derived.Test.YtoklllbaihccnaaCqL
import Derived.Test.YtoklllbaihccnaaCqH
set_option linter.unusedVariables false
set_option linter.unusedSimpArgs false
namespace Go.Proofs.Ytoklllbaihccnaa
namespace Hp
/-- each stands at or above its parent, where the parent is lo or behind it -/
def Hpd (l : List Int) (n lo : Nat) : Prop := ∀ k, 0 < k → k < n → lo ≤ (k - 1) / 2 → at_ l ((k - 1) / 2) ≤ at_ l k
theorem kid_spec (l : List Int) (i n : Nat) (h : ¬ n ≤ 2 * i + 1) : kid l i n < n ∧ (kid l i n - 1) / 2 = i ∧ i < kid l i n ∧ ∀ k, 0 < k → k < n → (k - 1) / 2 = i → at_ l (kid l i n) ≤ at_ l k := by
  unfold kid
  split
  · rename_i e
    refine ⟨by omega, by omega, by omega, fun k h0 h1 h2 => ?_⟩
    have : k = 2 * i + 1 ∨ k = 2 * i + 2 := by omega
    rcases this with rfl | rfl <;> omega
  · rename_i e
    refine ⟨by omega, by omega, by omega, fun k h0 h1 h2 => ?_⟩
    have : k = 2 * i + 1 ∨ k = 2 * i + 2 := by omega
    rcases this with rfl | rfl <;> omega
theorem down_heap : ∀ (f : Nat) (l : List Int) (i n lo : Nat), n ≤ l.length → n ≤ i + f → lo ≤ i →
    (∀ k, 0 < k → k < n → lo ≤ (k - 1) / 2 → (k - 1) / 2 ≠ i → at_ l ((k - 1) / 2) ≤ at_ l k) →
    (∀ k, 0 < k → k < n → (k - 1) / 2 = i → 0 < i → lo ≤ (i - 1) / 2 → at_ l ((i - 1) / 2) ≤ at_ l k) → Hpd (down f l i n) n lo
  | 0, l, i, n, lo, _, hf, _, h1, _ => fun k k0 k1 k2 => h1 k k0 k1 k2 (by omega)
  | f + 1, l, i, n, lo, hn, hf, hlo, h1, h2 => by
    unfold down
    split
    · exact fun k k0 k1 k2 => h1 k k0 k1 k2 (by omega)
    · rename_i hc
      obtain ⟨j1, j2, j3, j4⟩ := kid_spec l i n hc
      generalize kid l i n = j at j1 j2 j3 j4
      split
      · rename_i hlt
        have hs := fun k => Is.set2_at l i j k (by omega) (by omega)
        refine down_heap f (swap l i j) j n lo (by rw [swap_len]; exact hn) (by omega) (by omega) (fun k k0 k1 k2 k3 => ?_) (fun k k0 k1 k2 k3 k4 => ?_)
        · rw [hs, hs, if_neg k3]
          by_cases e : k = j
          · subst e; rw [if_pos j2, if_pos rfl]; omega
          · rw [if_neg e]
            by_cases e2 : (k - 1) / 2 = i
            · rw [if_pos e2, if_neg (by omega)]; exact j4 k k0 k1 e2
            · rw [if_neg e2]
              by_cases e3 : k = i
              · subst e3; rw [if_pos rfl]; exact h2 j (by omega) j1 j2 k0 k2
              · rw [if_neg e3]; exact h1 k k0 k1 k2 e2
        · rw [hs, hs, j2, if_neg (by omega), if_pos rfl, if_neg (by omega), if_neg (by omega)]
          have := h1 k k0 k1 (by omega) (by omega)
          rw [k2] at this
          exact this
      · rename_i hge
        intro k k0 k1 k2
        by_cases e : (k - 1) / 2 = i
        · rw [e]; have := j4 k k0 k1 e; omega
        · exact h1 k k0 k1 k2 e
theorem up_heap : ∀ (f : Nat) (l : List Int) (j n : Nat), n = l.length → j < f → j < n →
    (∀ k, 0 < k → k < n → k ≠ j → at_ l ((k - 1) / 2) ≤ at_ l k) →
    (∀ k, 0 < k → k < n → (k - 1) / 2 = j → 0 < j → at_ l ((j - 1) / 2) ≤ at_ l k) → Hpd (up f l j) n 0
  | 0, _, _, _, _, h, _, _, _ => by omega
  | f + 1, l, j, n, hn, hf, hj, h1, h2 => by
    unfold up
    split
    · exact fun k k0 k1 _ => h1 k k0 k1 (by omega)
    · rename_i h0
      split
      · rename_i hlt
        obtain ⟨p, hp⟩ : ∃ p, (j - 1) / 2 = p := ⟨_, rfl⟩
        rw [hp] at hlt ⊢
        have hs := fun k => Is.set2_at l p j k (by omega) (by omega)
        refine up_heap f (swap l p j) p n (by rw [swap_len]; exact hn) (by omega) (by omega) (fun k k0 k1 k2 => ?_) (fun k k0 k1 k2 k3 => ?_)
        · rw [hs, hs]
          by_cases e : k = j
          · subst e; rw [if_neg (by omega), if_pos hp, if_pos rfl]; omega
          · rw [if_neg e, if_neg k2]
            have hk := h1 k k0 k1 e
            by_cases e2 : (k - 1) / 2 = j
            · rw [if_pos e2]; have := h2 k k0 k1 e2 (by omega); rw [hp] at this; exact this
            · rw [if_neg e2]
              by_cases e3 : (k - 1) / 2 = p
              · rw [if_pos e3]; rw [e3] at hk; omega
              · rw [if_neg e3]; exact hk
        · have hpp := h1 p k3 (by omega) (by omega)
          rw [hs, hs, if_neg (by omega), if_neg (by omega)]
          by_cases e : k = j
          · rw [if_pos e]; exact hpp
          · rw [if_neg e, if_neg (by omega)]
            have := h1 k k0 k1 e
            rw [k2] at this
            omega
      · rename_i hge
        intro k k0 k1 _
        by_cases e : k = j
        · subst e; omega
        · exact h1 k k0 k1 e
theorem left_heap (n : Nat) : ∀ (i : Nat) (l : List Int), n = l.length → Hpd l n i → Hpd (left_ n l i) n 0
  | 0, l, _, h => h
  | i + 1, l, hn, h => by
    rw [left_succ]
    refine left_heap n i _ (by rw [down_len]; exact hn) ?_
    exact down_heap n l i n i (by omega) (by omega) (Nat.le_refl _) (fun k k0 k1 k2 k3 => h k k0 k1 (by omega)) (fun k k0 k1 k2 k3 k4 => by omega)
theorem init_heap (l : List Int) : Hpd (init l) l.length 0 :=
  left_heap l.length (l.length / 2) l rfl fun k k0 k1 k2 => by omega
theorem down_behind : ∀ (f : Nat) (l : List Int) (i n k : Nat), n ≤ l.length → n ≤ k → at_ (down f l i n) k = at_ l k
  | 0, _, _, _, _, _, _ => rfl
  | f + 1, l, i, n, k, hn, hk => by
    unfold down
    split
    · rfl
    · rename_i hc
      obtain ⟨j1, _, j3, _⟩ := kid_spec l i n hc
      split
      · rw [down_behind f _ _ n k (by rw [swap_len]; exact hn) hk, Is.set2_at l i _ k (by omega) (by omega), if_neg (by omega), if_neg (by omega)]
      · rfl
theorem at_take (l : List Int) (m k : Nat) (h : k < m) : at_ (l.take m) k = at_ l k := by
  unfold at_
  rw [List.getD_eq_getElem?_getD, List.getD_eq_getElem?_getD, List.getElem?_take_of_lt h]
theorem pop_first {l : List Int} (h : 0 < l.length) : (pop l).1 = at_ l 0 := by
  unfold pop popped
  simp only
  rw [down_behind _ _ _ _ _ (by rw [swap_len]; omega) (Nat.le_refl _), Is.set2_at l 0 _ _ h (by omega), if_pos rfl]
theorem pop_heap {l : List Int} (h : 0 < l.length) (hh : Hpd l l.length 0) : Hpd (pop l).2 (pop l).2.length 0 := by
  have hlen : (pop l).2.length = l.length - 1 := by
    unfold pop popped
    simp only
    rw [List.length_take, down_len, swap_len]; omega
  rw [hlen]
  have hd : Hpd (popped l) (l.length - 1) 0 := by
    unfold popped
    refine down_heap _ _ _ _ _ (by rw [swap_len]; omega) (by omega) (Nat.le_refl _) (fun k k0 k1 k2 k3 => ?_) (fun k k0 k1 k2 k3 k4 => by omega)
    rw [Is.set2_at l 0 _ _ h (by omega), Is.set2_at l 0 _ _ h (by omega), if_neg (by omega), if_neg k3, if_neg (by omega), if_neg (by omega)]
    exact hh k k0 (by omega) (Nat.zero_le _)
  intro k k0 k1 k2
  unfold pop
  simp only
  rw [at_take _ _ _ (by omega), at_take _ _ _ k1]
  exact hd k k0 k1 k2
theorem at_app (l : List Int) (x : Int) (k : Nat) (h : k < l.length) : at_ (l ++ [x]) k = at_ l k := by
  unfold at_
  rw [List.getD_eq_getElem?_getD, List.getD_eq_getElem?_getD, List.getElem?_append_left h]
theorem push_heap {l : List Int} (x : Int) (h : Hpd l l.length 0) : Hpd (push l x) (push l x).length 0 := by
  unfold push
  rw [up_len, List.length_append, List.length_singleton]
  refine up_heap _ _ _ _ (by simp) (by omega) (by omega) (fun k k0 k1 k2 => ?_) (fun k k0 k1 k2 k3 => by omega)
  rw [at_app _ _ _ (by omega), at_app _ _ _ (by omega)]
  exact h k k0 (by omega) (Nat.zero_le _)
theorem heap_least {l : List Int} (h : Hpd l l.length 0) : ∀ (k : Nat), k < l.length → at_ l 0 ≤ at_ l k := by
  intro k
  induction k using Nat.strongRecOn with
  | ind k ih =>
    intro hk
    by_cases e : k = 0
    · subst e; exact Int.le_refl _
    · have h1 := h k (by omega) hk (Nat.zero_le _)
      have h2 := ih ((k - 1) / 2) (by omega) (by omega)
      omega
theorem heap_mem {l : List Int} (h : Hpd l l.length 0) {x : Int} (hx : x ∈ l) : at_ l 0 ≤ x := by
  obtain ⟨k, hk, rfl⟩ := List.getElem_of_mem hx
  have := heap_least h k hk
  have e : at_ l k = l[k] := by unfold at_; rw [List.getD_eq_getElem?_getD, List.getElem?_eq_getElem hk]; rfl
  omega
end Hp
namespace Ln
theorem frees_heap : ∀ (us : List Int) (s : Ps), Hp.Hpd s.2 s.2.length 0 → Hp.Hpd (us.foldl free s).2 (us.foldl free s).2.length 0
  | [], _, h => h
  | u :: us, s, h => by
    rw [List.foldl_cons]
    refine frees_heap us _ ?_
    unfold free
    simp only
    split
    · exact Hp.push_heap u h
    · exact h
/-- each that is told is the least that may be told there -/
def Lst (gl : List Gl) (G told : List Int) : Prop := ∀ pre x post, told = pre ++ x :: post → ∀ y ∈ G, y < x → y ∉ pre → ∃ p ∈ partsOf gl y.toNat, p.1 ∉ pre
theorem round_lst {gl : List Gl} {G : List Int} {U : Int → List Int} {c : Int → Int} {h told : List Int} (hi : Inv gl G c h told) (hne : h ≠ []) (hh : Hp.Hpd h h.length 0) (hl : Lst gl G told) :
    Hp.Hpd (round U ((c, h), told)).1.2 (round U ((c, h), told)).1.2.length 0 ∧ Lst gl G (round U ((c, h), told)).2 := by
  have h0 : 0 < h.length := List.length_pos_iff.2 hne
  refine ⟨?_, ?_⟩
  · exact frees_heap _ _ (Hp.pop_heap h0 hh)
  · intro pre x post e y hy hlt hny
    have e' : told ++ [(Hp.pop h).1] = pre ++ x :: post := e
    rcases snoc_split e' with ⟨_, rfl, rfl⟩ | ⟨post', _, e2⟩
    · by_cases h3 : miss gl pre y = 0
      · exfalso
        rcases (hi.mem y).2 ⟨hy, by rw [hi.cn y hy, h3]; rfl⟩ with h4 | h4
        · have := Hp.heap_mem hh h4
          rw [Hp.pop_first h0] at hlt
          omega
        · exact hny h4
      · exact miss_pos h3
    · exact hl pre x post' e2 y hy hlt hny
theorem rounds_lst {gl : List Gl} {G : List Int} {U : Int → List Int} (hU : ∀ y z, (U y).count z = if z ∈ G then cnt gl z y else 0) : ∀ (f : Nat) (c : Int → Int) (h told : List Int), Inv gl G c h told → Hp.Hpd h h.length 0 → Lst gl G told → Lst gl G (rounds U f ((c, h), told)).2
  | 0, _, _, _, _, _, hl => hl
  | f + 1, c, h, told, hi, hh, hl => by
    unfold rounds
    split
    · exact hl
    · rename_i hne
      have hne : h ≠ [] := hne
      have hr := round_inv hU hi hne
      obtain ⟨h1, h2⟩ := round_lst (U := U) hi hne hh hl
      generalize round U ((c, h), told) = s at hr h1 h2
      obtain ⟨⟨c2, g2⟩, t2⟩ := s
      exact rounds_lst hU f c2 g2 t2 hr h1 h2
theorem line_lst {gl : List Gl} {gs : List Nat} (hn : gs.Nodup) : Lst gl (asI gs) (line gl gs) := by
  have := rounds_lst (firsts_u hn) (2 * gs.length) _ _ _ (inv0 (gl := gl) hn) (by rw [init_len]; exact Hp.init_heap _) (fun pre x post e => by simp at e)
  exact this
/-- where none is left out: the reference's row -/
theorem line_gr {gl : List Gl} (hf : (line gl (List.range gl.length)).length = gl.length) : Rf.Gr gl (line gl (List.range gl.length)) := by
  have ht := line_told (gl := gl) (gs := List.range gl.length) List.nodup_range
  have hl := line_lst (gl := gl) (gs := List.range gl.length) List.nodup_range
  refine ⟨ht.nd, fun x hx => ?_, fun pre x post e => ⟨ht.ord pre x post e, fun y hy0 hy1 hy => ?_⟩⟩
  · obtain ⟨a, ha, rfl⟩ := mem_asI.1 (ht.sub x hx)
    have := List.mem_range.1 ha
    omega
  · have hx := ht.sub x (by rw [e]; simp)
    obtain ⟨a, ha, rfl⟩ := mem_asI.1 hx
    have := List.mem_range.1 ha
    exact hl pre _ post e y (mem_asI.2 ⟨y.toNat, List.mem_range.2 (by omega), by omega⟩) hy1 hy
end Ln
end Go.Proofs.Ytoklllbaihccnaa
namespace Go.Proofs.Ytoklllbaihccnaa
namespace Rf
open Dp
/-- depths of some glyphs, whose parts are among them -/
structure Dd (gl : List Gl) (S : Int → Prop) (D : Int → Int) : Prop where
  inr : ∀ x, S x → 0 ≤ x ∧ x < gl.length
  cl : ∀ x, S x → ∀ p ∈ partsOf gl x.toNat, S p.1
  pos : ∀ x, S x → 0 ≤ D x
  up : ∀ x, S x → ∀ p ∈ partsOf gl x.toNat, D p.1 + 1 ≤ D x
  lo : ∀ x, S x → D x = 0 ∨ ∃ p ∈ partsOf gl x.toNat, D x = D p.1 + 1
def Up (S : Int → Prop) (D : Int → Int) (o : List Int) : Prop := ∀ x, S x → o.getD x.toNat 0 ≤ min 5 (D x)
theorem bumps_le {n g : Nat} (hg : g < n) : ∀ (l : List Prt) {o : List Int}, DB n o → ∀ i, o.getD i 0 ≤ (l.foldl (bump g) o).getD i 0
  | [], _, _, _ => Int.le_refl _
  | p :: l, o, h, i => by
    rw [List.foldl_cons]
    refine Int.le_trans ?_ (bumps_le hg l (h.bump hg p) i)
    rw [bump_at (by rw [h.1]; exact hg)]
    have h1 := h.2 g
    split
    · rename_i e; subst e; omega
    · exact Int.le_refl _
theorem bumps_ge {n g : Nat} (hg : g < n) : ∀ (l : List Prt) {o : List Int}, DB n o → ∀ p ∈ l, min 5 (o.getD p.1.toNat 0 + 1) ≤ (l.foldl (bump g) o).getD g 0
  | [], _, _, p, hp => by cases hp
  | q :: l, o, h, p, hp => by
    rw [List.foldl_cons]
    rcases List.mem_cons.1 hp with rfl | hp
    · refine Int.le_trans ?_ (bumps_le hg l (h.bump hg p) g)
      rw [bump_at (by rw [h.1]; exact hg), if_pos rfl]
      omega
    · have h1 := bumps_ge hg l (h.bump hg q) p hp
      have h2 := bumps_le hg [q] h p.1.toNat
      have e : [q].foldl (bump g) o = bump g o q := rfl
      rw [e] at h2
      omega
section
variable {gl : List Gl} {S : Int → Prop} {D : Int → Int}
theorem Dd.bumps (h : Dd gl S D) {g : Nat} (hg : g < gl.length) : ∀ (l : List Prt) {o : List Int}, (∀ p ∈ l, p ∈ partsOf gl g) → DB gl.length o → Up S D o → Up S D (l.foldl (bump g) o)
  | [], _, _, _, hu => hu
  | p :: l, o, hl, ho, hu => by
    rw [List.foldl_cons]
    refine h.bumps hg l (fun q hq => hl q (List.mem_cons_of_mem _ hq)) (ho.bump hg p) fun x hx => ?_
    rw [bump_at (by rw [ho.1]; exact hg)]
    split
    · rename_i e
      have hpp : p ∈ partsOf gl x.toNat := by rw [e]; exact hl p List.mem_cons_self
      have h1 := h.up x hx p hpp
      have h2 := hu _ (h.cl x hx p hpp)
      have h3 := hu x hx
      rw [e] at h3
      omega
    · exact hu x hx
theorem Dd.visits (h : Dd gl S D) (j : Int) : ∀ (l : List Nat) {o : List Int}, (∀ g ∈ l, g < gl.length) → DB gl.length o → Up S D o → (∀ x, S x → min j (min 5 (D x)) ≤ o.getD x.toNat 0) →
    Up S D (l.foldl (dvisit gl) o) ∧ (∀ i, o.getD i 0 ≤ (l.foldl (dvisit gl) o).getD i 0) ∧ ∀ x, S x → x.toNat ∈ l → min (j + 1) (min 5 (D x)) ≤ (l.foldl (dvisit gl) o).getD x.toNat 0
  | [], o, _, _, hu, _ => ⟨hu, fun _ => Int.le_refl _, fun x _ hx => by cases hx⟩
  | g :: l, o, hl, ho, hu, hj => by
    rw [List.foldl_cons]
    have hg := hl g List.mem_cons_self
    have ho1 : DB gl.length (dvisit gl o g) := DB.bumps hg _ ho
    have hle : ∀ i, o.getD i 0 ≤ (dvisit gl o g).getD i 0 := bumps_le hg _ ho
    obtain ⟨a, b, c⟩ := h.visits j l (fun y hy => hl y (List.mem_cons_of_mem _ hy)) ho1 (h.bumps hg _ (fun _ hp => hp) ho hu) (fun x hx => Int.le_trans (hj x hx) (hle _))
    refine ⟨a, fun i => Int.le_trans (hle i) (b i), fun x hx hm => ?_⟩
    rcases List.mem_cons.1 hm with e | hm
    · refine Int.le_trans ?_ (b _)
      rcases h.lo x hx with h0 | ⟨p, hp, hd⟩
      · have := (ho1.2 x.toNat).1
        omega
      · have h1 := bumps_ge hg (partsOf gl g) ho p (by rw [← e]; exact hp)
        have h2 := hj _ (h.cl x hx p hp)
        have h3 : ((partsOf gl g).foldl (bump g) o).getD g 0 = (dvisit gl o g).getD x.toNat 0 := by rw [e]; rfl
        omega
    · exact c x hx hm
theorem Dd.rounds (h : Dd gl S D) : ∀ k : Nat, Up S D (drounds gl k (List.replicate gl.length 0)) ∧ ∀ x, S x → min (k : Int) (min 5 (D x)) ≤ (drounds gl k (List.replicate gl.length 0)).getD x.toNat 0
  | 0 => by
    have e : ∀ i, (drounds gl 0 (List.replicate gl.length 0)).getD i 0 = 0 := fun i => by
      show (List.replicate gl.length (0 : Int)).getD i 0 = 0
      rw [List.getD_eq_getElem?_getD, List.getElem?_replicate]
      split <;> rfl
    exact ⟨fun x hx => by rw [e]; have := h.pos x hx; omega, fun x hx => by rw [e]; omega⟩
  | k + 1 => by
    obtain ⟨a, b⟩ := h.rounds k
    obtain ⟨a', _, c⟩ := h.visits k (List.range gl.length) (fun g hg => List.mem_range.1 hg) ((DB.zero gl.length).rounds k) a b
    rw [drounds_succ]
    exact ⟨a', fun x hx => by have := c x hx (List.mem_range.2 (by have := h.inr x hx; omega)); rw [Int.natCast_succ]; exact this⟩
theorem Dd.deeps (h : Dd gl S D) {x : Int} (hx : S x) : (Rf.deeps gl).getD x.toNat 0 = min 5 (D x) := by
  obtain ⟨a, b⟩ := h.rounds 6
  have h1 := a x hx
  have h2 := b x hx
  have e : (drounds gl 6 (List.replicate gl.length 0)).getD x.toNat 0 = (Rf.deeps gl).getD x.toNat 0 := rfl
  rw [e] at h1 h2
  omega
/-- counts of some glyphs -/
structure Cc (gl : List Gl) (S : Int → Prop) (M : Int → Int) : Prop where
  pos : ∀ x, S x → 0 ≤ M x
  eq : ∀ x, S x → M x = (partsOf gl x.toNat).foldl (fun m p => min (m + M p.1) 1001) (min (ownN gl x.toNat) 1001)
theorem addc_len (g : Nat) (o : List Int) (p : Prt) : (addc g o p).length = o.length := by unfold addc; split <;> simp
theorem addc_at {g : Nat} {o : List Int} (hg : g < o.length) (p : Prt) (i : Nat) : (addc g o p).getD i 0 = if i = g then (if o.getD g 0 ≤ 1000 then o.getD g 0 + o.getD p.1.toNat 0 else o.getD g 0) else o.getD i 0 := by
  unfold addc
  by_cases e : o.getD g 0 ≤ 1000
  · rw [if_pos e, if_pos e, set_at _ hg]
  · rw [if_neg e, if_neg e]
    split
    · rename_i e2; rw [e2]
    · rfl
theorem addcs {M : Int → Int} {g : Nat} : ∀ (l : List Prt) (o : List Int), g < o.length → (∀ p ∈ l, p.1.toNat ≠ g ∧ o.getD p.1.toNat 0 = M p.1 ∧ 0 ≤ M p.1) →
    (l.foldl (addc g) o).length = o.length ∧ (∀ i, i ≠ g → (l.foldl (addc g) o).getD i 0 = o.getD i 0) ∧ min ((l.foldl (addc g) o).getD g 0) 1001 = l.foldl (fun m p => min (m + M p.1) 1001) (min (o.getD g 0) 1001)
  | [], o, _, _ => ⟨rfl, fun _ _ => rfl, rfl⟩
  | p :: l, o, hg, hl => by
    rw [List.foldl_cons, List.foldl_cons]
    obtain ⟨h1, h2, h3⟩ := hl p List.mem_cons_self
    obtain ⟨a, b, c⟩ := addcs (M := M) l (addc g o p) (by rw [addc_len]; exact hg) fun q hq => by
      obtain ⟨k1, k2, k3⟩ := hl q (List.mem_cons_of_mem _ hq)
      exact ⟨k1, by rw [addc_at hg, if_neg k1]; exact k2, k3⟩
    refine ⟨by rw [a, addc_len], fun i hi => by rw [b i hi, addc_at hg, if_neg hi], ?_⟩
    rw [c, addc_at hg, if_pos rfl, h2]
    congr 1
    split <;> omega
theorem addcs_len (g : Nat) : ∀ (l : List Prt) (o : List Int), (l.foldl (addc g) o).length = o.length
  | [], _ => rfl
  | p :: l, o => by rw [List.foldl_cons, addcs_len g l, addc_len]
theorem addcs_ne {g : Nat} : ∀ (l : List Prt) (o : List Int), g < o.length → ∀ i, i ≠ g → (l.foldl (addc g) o).getD i 0 = o.getD i 0
  | [], _, _, _, _ => rfl
  | p :: l, o, hg, i, hi => by rw [List.foldl_cons, addcs_ne l _ (by rw [addc_len]; exact hg) i hi, addc_at hg, if_neg hi]
theorem cvisit_len (dp : List Int) (d : Nat) (o : List Int) (g : Nat) : (cvisit gl dp d o g).length = o.length := by
  unfold cvisit
  split
  · unfold ctop; rw [List.length_set, addcs_len, List.length_set]
  · rfl
theorem cvisit_ne (dp : List Int) (d : Nat) {o : List Int} {g : Nat} (hg : g < o.length) {i : Nat} (hi : i ≠ g) : (cvisit gl dp d o g).getD i 0 = o.getD i 0 := by
  unfold cvisit
  split
  · unfold ctop
    rw [set_at _ (by rw [addcs_len, List.length_set]; exact hg), if_neg hi, addcs_ne _ _ (by rw [List.length_set]; exact hg) _ hi, set_at _ hg, if_neg hi]
  · rfl
theorem Cc.visits {M : Int → Int} (h : Dd gl S D) (hc : Cc gl S M) {dp : List Int} (hdp : ∀ x, S x → dp.getD x.toNat 0 = min 5 (D x)) {d : Nat} (h5 : d < 5) : ∀ (l : List Nat) (o : List Int), (∀ g ∈ l, g < gl.length) → o.length = gl.length →
    (∀ x, S x → D x < d → o.getD x.toNat 0 = M x) → (l.foldl (cvisit gl dp d) o).length = gl.length ∧ (∀ x, S x → D x < d → (l.foldl (cvisit gl dp d) o).getD x.toNat 0 = M x) ∧ (∀ i, i ∉ l → (l.foldl (cvisit gl dp d) o).getD i 0 = o.getD i 0) ∧
    ∀ x, S x → D x = d → x.toNat ∈ l → (l.foldl (cvisit gl dp d) o).getD x.toNat 0 = M x
  | [], o, _, ho, hm => ⟨ho, hm, fun _ _ => rfl, fun x _ _ hx => by cases hx⟩
  | g :: l, o, hl, ho, hm => by
    rw [List.foldl_cons]
    have hg := hl g List.mem_cons_self
    have hgo : g < o.length := by omega
    have hm1 : ∀ x, S x → D x < d → (cvisit gl dp d o g).getD x.toNat 0 = M x := fun x hx hd => by
      by_cases e : x.toNat = g
      · unfold cvisit
        have := hdp x hx
        rw [e] at this
        have hp := h.pos x hx
        rw [if_neg (by omega)]
        exact hm x hx hd
      · rw [cvisit_ne dp d hgo e]; exact hm x hx hd
    obtain ⟨a, b, c, f⟩ := hc.visits h hdp h5 l (cvisit gl dp d o g) (fun y hy => hl y (List.mem_cons_of_mem _ hy)) (by rw [cvisit_len]; exact ho) hm1
    refine ⟨a, b, fun i hi => by rw [c i (fun hm => hi (List.mem_cons_of_mem _ hm)), cvisit_ne dp d hgo (fun e => hi (by rw [e]; exact List.mem_cons_self))], fun x hx hd hm' => ?_⟩
    by_cases hxl : x.toNat ∈ l
    · exact f x hx hd hxl
    · have e : x.toNat = g := (List.mem_cons.1 hm').resolve_right hxl
      rw [c _ hxl, hc.eq x hx]
      unfold cvisit
      have h1 := hdp x hx
      rw [e] at h1 ⊢
      rw [if_pos (by omega)]
      obtain ⟨k1, _, k3⟩ := addcs (M := M) (g := g) (partsOf gl g) (o.set g (ownN gl g)) (by rw [List.length_set]; exact hgo) fun p hp => by
        have hpp : p ∈ partsOf gl x.toNat := by rw [e]; exact hp
        have hup := h.up x hx p hpp
        have hps := h.cl x hx p hpp
        have hpr := h.inr _ hps
        have hxr := h.inr _ hx
        have hne : p.1.toNat ≠ g := fun e2 => by
          have : p.1 = x := by omega
          rw [this] at hup; omega
        exact ⟨hne, by rw [set_at _ hgo, if_neg hne]; exact hm _ hps (by omega), hc.pos _ hps⟩
      unfold ctop
      rw [set_at _ (by rw [k1, List.length_set]; exact hgo), if_pos rfl, k3, set_at _ hgo, if_pos rfl]
theorem Cc.rounds {M : Int → Int} (h : Dd gl S D) (hc : Cc gl S M) : ∀ k : Nat, k ≤ 5 → (crounds gl k).length = gl.length ∧ ∀ x, S x → D x < k → (crounds gl k).getD x.toNat 0 = M x
  | 0, _ => ⟨by simp [crounds], fun x hx h0 => by have := h.pos x hx; omega⟩
  | k + 1, hk => by
    obtain ⟨a, b⟩ := hc.rounds h k (by omega)
    obtain ⟨c1, c2, _, c4⟩ := hc.visits h (fun x hx => h.deeps hx) (by omega : k < 5) (List.range gl.length) (crounds gl k) (fun g hg => List.mem_range.1 hg) a b
    rw [crounds_succ]
    refine ⟨c1, fun x hx hd => ?_⟩
    by_cases e : D x = k
    · exact c4 x hx e (List.mem_range.2 (by have := h.inr x hx; omega))
    · exact c2 x hx (by omega)
theorem Cc.counts {M : Int → Int} (h : Dd gl S D) (hc : Cc gl S M) {x : Int} (hx : S x) (h4 : D x ≤ 4) : (Rf.counts gl).getD x.toNat 0 = M x := (hc.rounds h 5 (Nat.le_refl _)).2 x hx (by omega)
end
end Rf
end Go.Proofs.Ytoklllbaihccnaa
namespace Go.Proofs.Ytoklllbaihccnaa
theorem Reach.first {gl : List Gl} {g x : Int} (h : Reach gl g x) : x = g ∨ ∃ p ∈ partsOf gl g.toNat, Reach gl p.1 x := by
  induction h with
  | refl => exact .inl rfl
  | step p hr hp ih =>
    rcases ih with e | ⟨q, hq, hr2⟩
    · rw [e] at hp; exact .inr ⟨p, hp, .refl⟩
    · exact .inr ⟨q, hq, .step p hr2 hp⟩
namespace Dp
open Ln Wk
theorem mostOf_lo (k : Int → Int) : ∀ (l : List Prt) (m : Int), l.foldl (fun m p => max m (k p.1 + 1)) m = m ∨ ∃ p ∈ l, l.foldl (fun m p => max m (k p.1 + 1)) m = k p.1 + 1
  | [], m => .inl rfl
  | p :: l, m => by
    rw [List.foldl_cons]
    rcases mostOf_lo k l (max m (k p.1 + 1)) with h | ⟨q, hq, h⟩
    · by_cases e : k p.1 + 1 ≤ m
      · exact .inl (by omega)
      · exact .inr ⟨p, List.mem_cons_self, by omega⟩
    · exact .inr ⟨q, List.mem_cons_of_mem _ hq, h⟩
section
variable {gl : List Gl} {g : Int} {t : List Int}
theorem Dn.most_eq (h : Dn gl g t) {x : Int} (hx : Reach gl g x) : lrn 0 (most gl) t x = (partsOf gl x.toNat).foldl (fun m p => max m (lrn 0 (most gl) t p.1 + 1)) 0 := lrn_told (loc_most gl) h.told (h.mem hx)
theorem Dn.dd (h : Dn gl g t) : Rf.Dd gl (Reach gl g) (lrn 0 (most gl) t) where
  inr := fun x hx => hx.inR h.inR
  cl := fun x hx p hp => .step p hx hp
  pos := fun x hx => by rw [h.most_eq hx]; exact (mostOf_le _ _ 0).1
  up := fun x hx p hp => by rw [h.most_eq hx]; exact (mostOf_le _ _ 0).2 p hp
  lo := fun x hx => by rw [h.most_eq hx]; exact mostOf_lo _ _ 0
theorem Dn.cc (h : Dn gl g t) : Rf.Cc gl (Reach gl g) (lrn 0 (many gl) t) where
  pos := fun x _ => (many_bd gl _ t rfl x).1
  eq := fun x hx => by
    have e : lrn 0 (many gl) t x = many gl x (lrn 0 (many gl) t) := lrn_told (loc_many gl) h.told (h.mem hx)
    exact e
theorem deepR_eq (hp : ∀ g, (partsOf gl g).length ≤ 1000) (g : Int) : Rf.deepR gl g = ((down gl g).2.1, (down gl g).2.2) := by
  unfold Rf.deepR
  by_cases ht : thereB gl.length g = true
  · rw [if_pos ht]
    have hr : 0 ≤ g ∧ g < gl.length := by simpa [thereB] using ht
    obtain ⟨q, rfl⟩ := Int.eq_ofNat_of_zero_le hr.1
    by_cases hb : (List.range gl.length).any (Rf.bad gl (q : Int).toNat) = true
    · rw [if_pos hb]
      obtain ⟨a, _, hab⟩ := List.any_eq_true.1 hb
      unfold Rf.bad at hab
      rw [Bool.and_eq_true, Bool.or_eq_true, decide_eq_true_eq, Int.toNat_natCast] at hab
      have hla : Ln.Loop gl (a : Int) := Rf.loop_iff.1 hab.2
      have hra : Reach gl (q : Int) (a : Int) := by
        rcases hab.1 with rfl | h1
        · exact .refl
        · obtain ⟨p, hpp, hpr⟩ := Rf.below_ok.1 h1
          exact (Reach.step p .refl (by rw [Int.toNat_natCast]; exact hpp)).trans hpr
      have hlt : (Ln.line gl ((Wk.all gl (q : Int)).map Int.toNat)).length < (Wk.all gl (q : Int)).length := Classical.byContradiction fun hn =>
        Dn.noloop ⟨hr, told_all hp ht, (Wk.all_ok hp hr).2, (full_iff (all_nodup hp hr) (told_all hp ht)).2 hn⟩ hra hla
      unfold down
      rw [if_pos ht, if_pos hlt]
    · rw [if_neg hb]
      have hl : ∀ x, Reach gl (q : Int) x → ¬ Ln.Loop gl x := fun x hx hlx => hb (by
        have hxr := hx.inR hr
        obtain ⟨a, rfl⟩ := Int.eq_ofNat_of_zero_le hxr.1
        refine List.any_eq_true.2 ⟨a, List.mem_range.2 (by omega), ?_⟩
        unfold Rf.bad
        rw [Bool.and_eq_true, Bool.or_eq_true, decide_eq_true_eq, Int.toNat_natCast]
        refine ⟨?_, Rf.loop_iff.2 hlx⟩
        rcases hx.first with e | ⟨p, hpp, hpr⟩
        · exact .inl (by omega)
        · exact .inr (Rf.below_ok.2 ⟨p, by rw [Int.toNat_natCast] at hpp; exact hpp, hpr⟩))
      have d := dn_of hp hr hl
      rw [down_val hp d, d.dd.deeps .refl]
      have hpos := d.dd.pos _ .refl
      by_cases h4 : 4 < lrn 0 (most gl) (tl gl (q : Int)) (q : Int)
      · rw [if_pos (by omega), if_pos h4]
      · rw [if_neg (by omega), if_neg h4]
        simp only [Prod.mk.injEq, and_true]
        omega
  · rw [if_neg ht]
    unfold down
    rw [if_neg ht]
theorem flat_hok (hp : ∀ g, (partsOf gl g).length ≤ 1000) {e q : Nat} (he : ∀ y, (ownO gl y).2.length ≤ e) (hq : ∀ y, (partsOf gl y).length ≤ q) (hc : cap e q 4 ≤ 90000) (g : Int) (h : (Rf.deepR gl g).2 = 0) :
    0 ≤ g ∧ g < gl.length ∧ ((Rf.counts gl).getD g.toNat 0 ≤ 1000 → ∃ G t, Ln.Told gl G t ∧ g ∈ t ∧ (∀ y ∈ t, (lrn ([], []) (flatF gl) t y).1.length ≤ 90000 ∧ (lrn ([], []) (flatF gl) t y).2.length ≤ 90000) ∧ lrn ([], []) (flatF gl) t g = (flat gl g).1) := by
  rw [deepR_eq hp] at h
  obtain ⟨t, d, h4, ed⟩ := (down_zero hp).1 h
  refine ⟨d.inR.1, d.inR.2, fun hm => ?_⟩
  rw [d.cc.counts d.dd .refl h4] at hm
  refine ⟨_, t, d.told, d.mem .refl, fun y hy => ol_bd d h4 hm he hq hc ((d.reach y).1 (d.told.sub y hy)), ?_⟩
  have hm' : ¬ 1001 ≤ learn (many gl) t g := by rw [lrn_int]; omega
  unfold flat
  rw [if_pos h, ed, if_neg hm']
  rfl
theorem flat_eqR (hp : ∀ g, (partsOf gl g).length ≤ 1000) {g E : Int} {o : Ol} (h : (E = (Rf.deepR gl g).2 ∧ E ≠ 0 ∧ o = ([], [])) ∨ ((Rf.deepR gl g).2 = 0 ∧ ((1000 < (Rf.counts gl).getD g.toNat 0 ∧ E = 2 ∧ o = ([], [])) ∨ ((Rf.counts gl).getD g.toNat 0 ≤ 1000 ∧ E = 0 ∧ o = (flat gl g).1)))) :
    E = (flat gl g).2 ∧ o = (flat gl g).1 := by
  rw [deepR_eq hp] at h
  simp only at h
  rcases h with ⟨h1, h2, rfl⟩ | ⟨h0, h⟩
  · unfold flat
    rw [if_neg (by omega)]
    exact ⟨h1, rfl⟩
  · obtain ⟨t, d, h4, ed⟩ := (down_zero hp).1 h0
    rw [d.cc.counts d.dd .refl h4] at h
    rcases h with ⟨h1, rfl, rfl⟩ | ⟨h1, rfl, rfl⟩
    · have hm' : 1001 ≤ learn (many gl) t g := by rw [lrn_int]; omega
      unfold flat
      rw [if_pos h0, ed, if_pos hm']
      exact ⟨rfl, rfl⟩
    · have hm' : ¬ 1001 ≤ learn (many gl) t g := by rw [lrn_int]; omega
      unfold flat
      rw [if_pos h0, ed, if_neg hm']
      exact ⟨rfl, rfl⟩
theorem order_eqR (hp : ∀ g, (Lf.raw gl g).length ≤ 1000) {L : List Int} {N E : Int} (h : (L = [] ∧ E = 33 ∧ ∃ a : Nat, N = a ∧ a < gl.length ∧ Rf.T (Rf.below gl a) a ∧ ∀ b : Nat, b < a → ¬ Rf.T (Rf.below gl b) b) ∨
    (N = 0 ∧ E = 0 ∧ L.length = gl.length ∧ Rf.Gr gl L ∧ ∀ b : Nat, b < gl.length → ¬ Rf.T (Rf.below gl b) b)) : Fo.order gl = (L, N, E) := by
  have ht := line_told (gl := gl) (gs := List.range gl.length) List.nodup_range
  have hnd : (asI (List.range gl.length)).Nodup := List.Pairwise.map _ (fun a b h e => h (by omega)) List.nodup_range
  have hlen : (asI (List.range gl.length)).length = gl.length := by simp
  have hfull := full_iff hnd ht
  rw [hlen] at hfull
  unfold Fo.order
  rcases h with ⟨rfl, rfl, a, rfl, han, hla, hmin⟩ | ⟨rfl, rfl, hL, hgr, hno⟩
  · have hlt : (line gl (List.range gl.length)).length < gl.length := Classical.byContradiction fun hn =>
      ht.noloop (hfull.2 hn (a : Int) (mem_asI.2 ⟨a, List.mem_range.2 han, rfl⟩)) (Rf.loop_iff.1 hla)
    rw [if_pos hlt]
    obtain ⟨h0, h1, h2, h3⟩ := Fo.order_bad hp hlt
    obtain ⟨b, hb⟩ := Int.eq_ofNat_of_zero_le h0
    have hab := h3 (a : Int) (by omega) (by omega) (Rf.loop_iff.1 hla)
    rw [hb] at h2 hab ⊢
    have hba : ¬ b < a := fun hlt2 => hmin b hlt2 (Rf.loop_iff.2 h2)
    have : b = a := by omega
    rw [this]
  · have hge : ¬ (line gl (List.range gl.length)).length < gl.length := fun hlt => by
      obtain ⟨h0, h1, h2, _⟩ := Fo.order_bad hp hlt
      obtain ⟨b, hb⟩ := Int.eq_ofNat_of_zero_le h0
      rw [hb] at h1 h2
      exact hno b (by omega) (Rf.loop_iff.2 h2)
    have hle : (line gl (List.range gl.length)).length ≤ gl.length := by
      have := List.Nodup.length_le_of_subset ht.nd (l₂ := asI (List.range gl.length)) fun x hx => ht.sub x hx
      rw [hlen] at this
      exact this
    rw [if_neg hge, Rf.Gr.uniq hgr (line_gr (by omega)) (by omega)]
end
end Dp
end Go.Proofs.Ytoklllbaihccnaa

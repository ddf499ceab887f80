/- A region that draws its order, whose operations do not disturb one another: as wp_region_conc, but with a relation between any two of the values (so that what two of them made may be told apart). -/
import Derived.Test.YthdmdgmchkhngaaSeq
namespace Go.Proofs.Ythdmdgmchkhngaa
open Go

section
variable {P : Program} {ops : Array Oper} {Q : Exit → Act → World → Prop}
theorem wp_region_concD {id : Nat} {a0 : Act} {w : World} (V : Nat → Value → World → Prop) (D : Nat → Value → Nat → Value → Prop) (G : World → Prop) (Rel : World → World → Prop) (hm : P.follows .mixedOrders = true) (hchk : concOk ops a0.tmps.size = true)
    (n1 : Nat) (hn1 : ops.size = n1 + 1) (hst : ∀ i v w w', V i v w → Rel w w' → V i v w') (hG : G w.drew)
    (hop : ∀ (i : Nat) (ev : Operand → Value) (val : Nat → Value) (w : World) (T : Nat → Prop), i < n1 → G w → Ev ops a0 val i ev → (∀ j, T j → V j (val j) w) → (∀ j, T j → isDep ops j i = false) → (∀ j, isDep ops i j = true → V j (val j) w) → ∃ o, ops[i]? = some o ∧ o.guard = none ∧ yields P o ev w fun v w' => V i v w' ∧ G w' ∧ Rel w w' ∧ ∀ j, T j → D i v j (val j))
    (hend : ∀ (val : Nat → Value) (w : World), G w → (∀ i, i < n1 → V i (val i) w) → (∀ i j, i < n1 → j < n1 → i ≠ j → D i (val i) j (val j) ∨ D j (val j) i (val i)) → wpOp P ops Q n1 (Q .normal) (fillA ops val a0 n1) w) : (Code.region id ops true).wp P Q a0 w := by
  obtain ⟨c0, c1, c2, c3⟩ := concOk_at hchk
  have hn2 : n1 = ops.size - 1 := by omega
  subst hn2
  have key : ∀ (fuel : Nat) (listed : Array Bool) (a : Act) (w : World) (val : Nat → Value), listed.size = ops.size → listed.getD (ops.size - 1) true = false → unl ops.size listed ≤ fuel →
      (∀ i j, listed.getD i false = true → isDep ops i j = true → listed.getD j false = true) → G w → (∀ i, listed.getD i false = true → V i (val i) w) → (∀ i j, listed.getD i false = true → listed.getD j false = true → i ≠ j → D i (val i) j (val j) ∨ D j (val j) i (val i)) → a = fillF ops val (fun i => listed.getD i false) a0 (ops.size - 1) → wpAny P .any ops Q fuel listed a w := by
    intro fuel
    have unlisted : ∀ (listed : Array Bool), listed.size = ops.size → ∀ i, i < ops.size → listed.getD i false = listed.getD i true := fun listed hz i hi => by simp [hz, hi]
    induction fuel with
    | zero =>
      intro listed a w val hz hlast hf _ _ _ _ _
      exfalso
      unfold unl at hf
      have : ops.size - 1 ∈ (List.range ops.size).filter fun i => !listed.getD i true := List.mem_filter.2 ⟨List.mem_range.2 (by omega), by rw [hlast]; rfl⟩
      rw [List.countP_eq_length_filter] at hf
      have := List.length_pos_of_mem this
      omega
    | succ fuel ih =>
      intro listed a w val hz hlast hf hdown hGw hV hDD ha
      refine ⟨fun hr => ?_, fun i hi => ?_⟩
      · exfalso
        -- the first one that was not taken is ready
        have ex : ∀ n, n ≤ ops.size → (∃ i, i < n ∧ listed.getD i false = false) → ∃ i, i ∈ Region.ready .any ops listed := by
          intro n
          induction n with
          | zero => intro _ ⟨i, hi, _⟩; omega
          | succ n ihn =>
            intro hn ⟨i, hi, hl⟩
            by_cases hex : ∃ i, i < n ∧ listed.getD i false = false
            · exact ihn (by omega) hex
            · have hin : i = n := by rcases Nat.lt_or_ge i n with h' | h'; exact absurd ⟨i, h', hl⟩ hex; omega
              subst hin
              refine ⟨i, mem_ready.2 ⟨by rw [← unlisted listed hz i (by omega)]; exact hl, ops[i], Array.getElem?_eq_getElem (by omega), fun e he hb => ?_⟩⟩
              have hd : isDep ops i e.on = true := by
                unfold isDep
                rw [Array.getElem?_eq_getElem (by omega : i < ops.size)]
                exact Array.any_eq_true'.2 ⟨e, he, by simp [hb]⟩
              have hlt := c2 i e.on hd
              cases hc : listed.getD e.on false with
              | true => rfl
              | false => exact absurd ⟨e.on, hlt, hc⟩ hex
        obtain ⟨i, hi⟩ := ex ops.size (Nat.le_refl _) ⟨ops.size - 1, by omega, by rw [unlisted listed hz _ (by omega)]; exact hlast⟩
        rw [hr] at hi
        cases hi
      · obtain ⟨hun, o, ho, hall⟩ := mem_ready.1 hi
        have hil : i < ops.size := (Array.getElem?_eq_some_iff.1 ho).1
        have hdeps : ∀ j, isDep ops i j = true → listed.getD j false = true := fun j hd => by
          unfold isDep at hd
          rw [ho] at hd
          obtain ⟨e, he, hb⟩ := Array.any_eq_true'.1 hd
          simp only [Bool.and_eq_true, beq_iff_eq] at hb
          rw [← hb.2]
          exact hall e he hb.1
        have hunF : listed.getD i false = false := by rw [unlisted listed hz i hil]; exact hun
        by_cases hl : i + 1 = ops.size
        · -- the last one
          have hi1 : i = ops.size - 1 := by omega
          have hallL : ∀ k j, j + k + 1 = ops.size → 0 < k → listed.getD j false = true := by
            intro k
            induction k using Nat.strongRecOn with
            | ind k ihk =>
              intro j hj hk
              obtain ⟨i', hi', hd⟩ := c3 j (by omega)
              have hlt := c2 i' j hd
              by_cases he : i' = i
              · subst he; exact hdeps j hd
              · exact hdown i' j (ihk (ops.size - 1 - i') (by omega) i' (by omega) (by omega)) hd
          have hAll : ∀ j, j < ops.size - 1 → listed.getD j false = true := fun j hj => hallL (ops.size - 1 - j) j (by omega) (by omega)
          have hE := hend val w hGw (fun j hj => hV j (hAll j (by omega))) fun k j hk hj hne => hDD k j (hAll k (by omega)) (hAll j (by omega)) hne
          rw [ha, fillF_all a0 _ fun j hj => hAll j hj, hi1]
          refine wpOp_mono (fun a' w' hq => ?_) hE
          refine wpAny_all ?_ hq fuel
          refine List.eq_nil_iff_forall_not_mem.2 fun j hj => ?_
          obtain ⟨hju, oj, hoj, _⟩ := mem_ready.1 hj
          have hjl : j < ops.size := (Array.getElem?_eq_some_iff.1 hoj).1
          by_cases hje : ops.size - 1 = j
          · subst hje; simp [hz] at hju
          · rw [getD_set_ne true hje, ← unlisted listed hz j hjl, hAll j (by omega)] at hju
            cases hju
        · have hio : i + 1 < ops.size := by omega
          have hev : Ev ops a0 val i a.eval := by
            refine ⟨fun c => rfl, fun f => rfl, fun k hk => ?_, fun j d hd hjd => ?_⟩
            · rw [ha]
              refine fillF_other a0 _ _ fun j hj d hd he => ?_
              injection he with he
              simp only [List.all_eq_true, List.mem_range, bne_iff_ne, ne_eq] at hk
              exact hk j (by omega) (by rw [hd, he])
            · have hlt := c2 i j hd
              rw [ha]
              exact fillF_at a0 hjd (hdeps j hd) (c1 j d (by omega) hjd).1 (c1 j d (by omega) hjd).2 _ (by omega)
          obtain ⟨o', ho', hg, hy⟩ := hop i a.eval val w (fun j => listed.getD j false = true) (by omega) hGw hev (fun j hj => hV j hj) (fun j hj => by
            cases hc : isDep ops j i with
            | false => rfl
            | true => have := hdown j i hj hc; rw [hunF] at this; cases this) fun j hd => hV j (hdeps j hd)
          refine wpOp_mono (fun a' w' hk => ?_) (yields_wpOp (Q := Q) ho' hg hy)
          obtain ⟨v, hv, hVi, hGw', hrel, hDi⟩ := hk
          have hset : ∀ j, (listed.setIfInBounds i true).getD j false = if j = i then true else listed.getD j false := fun j => by
            by_cases hij : i = j
            · subst hij; simp [hz, hil]
            · rw [getD_set_ne false hij, if_neg (Ne.symm hij)]
          refine ih (listed.setIfInBounds i true) a' w' (fun j => if j = i then v else val j) (by simp [hz]) (by rw [getD_set_ne true (by omega)]; exact hlast) ?_ ?_ hGw' ?_ ?_ ?_
          · have := unl_set hil hz hun; omega
          · intro k j hk hd
            rw [hset] at hk ⊢
            by_cases hki : k = i
            · subst hki
              have := hdeps j hd
              simp [this]
            · rw [if_neg hki] at hk
              have := hdown k j hk hd
              simp [this]
          · intro k hk
            rw [hset] at hk
            by_cases hki : k = i
            · subst hki; simpa using hVi
            · rw [if_neg hki] at hk
              simpa [hki] using hst k _ w w' (hV k hk) hrel
          · intro k j hk hj hne
            rw [hset] at hk hj
            by_cases hki : k = i
            · by_cases hji : j = i
              · omega
              · rw [if_neg hji] at hj
                refine .inl ?_
                simp only [hki, hji, if_true, if_false]
                exact hDi j hj
            · rw [if_neg hki] at hk
              by_cases hji : j = i
              · refine .inr ?_
                simp only [hki, hji, if_true, if_false]
                exact hDi k hk
              · rw [if_neg hji] at hj
                simp only [hki, hji, if_false]
                exact hDD k j hk hj hne
          · rw [hv, ha]
            have hd : dstOf ops i = o'.dst := by unfold dstOf; rw [ho']; rfl
            rw [← hd, ← fillF_set a0 v hunF (fun j hj d h1 h2 => ?_) _ (by omega)]
            · exact fillF_congr a0 _ fun j _ => ⟨(hset j).symm, fun _ => rfl⟩
            · exact (c1 i d hil h2).2 j hj h1
  have r0 : ∀ i, (Array.replicate ops.size false).getD i false = false := fun i => by rcases Nat.lt_or_ge i ops.size with h | h <;> simp [h]
  refine wp_region_any hm (key ops.size _ a0 _ (fun _ => undef) (by simp) (by have hh : ops.size - 1 < ops.size := (by omega); simp [hh]) ?_ ?_ hG ?_ ?_ ?_)
  · unfold unl; exact Nat.le_trans List.countP_le_length (by simp)
  · intro i j h; rw [r0] at h; cases h
  · intro i h; rw [r0] at h; cases h
  · intro i j h; rw [r0] at h; cases h
  · have h0 : ∀ n, fillF ops (fun _ => undef) (fun i => (Array.replicate ops.size false).getD i false) a0 n = a0 := by
      intro n
      induction n with
      | zero => rfl
      | succ n ih => unfold fillF; rw [r0, ih]; simp
    exact (h0 _).symm
end
end Go.Proofs.Ythdmdgmchkhngaa
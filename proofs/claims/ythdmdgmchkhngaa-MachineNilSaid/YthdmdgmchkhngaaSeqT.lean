/- Regions that draw their order, walked in one order: what waits for an operation through others is known to come behind it. -/
import Derived.Test.YthdmdgmchkhngaaSeq
namespace Go.Proofs.Ythdmdgmchkhngaa
open Go

section
variable {P : Program} {ops : Array Oper} {Q : Exit → Act → World → Prop} {ob : Nat → World → World → Prop} {S1 : World → Prop}
theorem wpAnyG_firstT {i : Nat} {oi : Oper} {v : Value} (dep : Nat → Bool) (hi : ops[i]? = some oi) (hsel : ∀ (j : Nat) (o : Oper) cs b, ops[j]? = some o → o.op ≠ .select cs b)
    (hQ : ∀ c a w, Q (.panic c) (a.put oi.dst v) w → Q (.panic c) a w) (hob : ∀ w, ob i w w)
    (hdep : ∀ j oj, ops[j]? = some oj → dep j = true → ∃ e ∈ oj.after, Region.binds .any e = true ∧ (e.on = i ∨ dep e.on = true)) :
    ∀ (fuel : Nat) (listed : Array Bool) (a : Act) (w : World),
      (∀ j, dep j = true → listed[j]? = some false) →
      (∀ j oj, ops[j]? = some oj → j ≠ i → listed.getD j true = false → dep j = false → oi.apart ops oj = true ∧ ∀ w w', S1 w → ob j w w' → S1 w') →
      i ∈ Region.ready .any ops listed → YieldsIf P ops S1 oi v a → S1 w →
      wpAnyG P ops Q ob fuel (listed.setIfInBounds i true) (a.put oi.dst v) w → wpAnyG P ops Q ob (fuel + 1) listed a w := by
  intro fuel
  induction fuel with
  | zero =>
    intro listed a w _ _ hr hy hS H
    refine ⟨fun h => (by rw [h] at hr; cases hr), fun j hj => ?_⟩
    by_cases hji : j = i
    · subst hji; exact hy.wpOp hi hS ⟨hob w, H⟩
    · have := ready_mono hj hji
      rw [H.1] at this
      cases this
  | succ fuel ih =>
    intro listed a w hun hfree hr hy hS H
    refine ⟨fun h => (by rw [h] at hr; cases hr), fun j hj => ?_⟩
    by_cases hji : j = i
    · subst hji; exact hy.wpOp hi hS ⟨hob w, H⟩
    · have h1 := H.2 j (ready_mono hj hji)
      obtain ⟨hjun, oj, hoj, hall⟩ := mem_ready.1 hj
      have hnot : dep j = false := by
        rcases hd : dep j with _ | _
        · rfl
        · exfalso
          obtain ⟨e, he, hb, hk⟩ := hdep j oj hoj hd
          have h2 := hall e he hb
          rcases hk with hk | hk
          · have h0 := (mem_ready.1 hr).1
            rw [hk] at h2
            rcases Nat.lt_or_ge i listed.size with h' | h'
            · simp [h'] at h0 h2; rw [h0] at h2; cases h2
            · simp [Array.getElem?_eq_none h'] at h2
          · have h3 := hun _ hk
            simp only [Array.getD_eq_getD_getElem?, h3] at h2
            simp at h2
      obtain ⟨hap, hnd⟩ := hfree j oj hoj hji hjun hnot
      have h2 := wpOp_putIf hoj hap (fun cs b => hsel i oi cs b hi) (fun cs b => hsel j oj cs b hoj) hQ hy h1
      have hfree' : ∀ k ok, ops[k]? = some ok → k ≠ i → (listed.setIfInBounds j true).getD k true = false →
          dep k = false → oi.apart ops ok = true ∧ ∀ w w', S1 w → ob k w w' → S1 w' := fun k ok hk hki hun hno => by
        refine hfree k ok hk hki ?_ hno
        by_cases hjk : j = k
        · subst hjk; exact hjun
        · rw [getD_set_ne true hjk] at hun; exact hun
      have hun' : ∀ k, dep k = true → (listed.setIfInBounds j true)[k]? = some false := fun k hk => by
        rw [Array.getElem?_setIfInBounds_ne (fun e => by rw [e, hk] at hnot; cases hnot)]
        exact hun k hk
      refine wpOp_mono (fun a' w' h3 => ⟨h3.2.1, ih (listed.setIfInBounds j true) a' w' hun' hfree' (ready_mono hr (Ne.symm hji)) h3.1 (hnd w w' hS h3.2.1) ?_⟩) h2
      rw [Array.setIfInBounds_comm _ _ hji]
      exact h3.2.2
end

section
variable {P : Program} {ops : Array Oper} {Q : Exit → Act → World → Prop} {S : World → Prop} {T U need : Nat → Bool}
/-- which ones wait for number i, through others too -/
def waits (ops : Array Oper) (listed : Array Bool) (i : Nat) : Array Bool :=
  (List.range ops.size).foldl (fun d j => d.push (!listed.getD j true && match ops[j]? with
    | some oj => oj.after.any fun e => Region.binds .any e && (e.on == i || d.getD e.on false)
    | none => false)) #[]
def waitsOk (ops : Array Oper) (listed : Array Bool) (i : Nat) (d : Array Bool) : Bool :=
  d.size == ops.size && (List.range ops.size).all fun j => !d.getD j false || (listed[j]? == some false && match ops[j]? with
    | some oj => oj.after.any fun e => Region.binds .any e && (e.on == i || d.getD e.on false)
    | none => false)
/-- number i may be taken now -/
def seqFreeT (ops : Array Oper) (T U need : Nat → Bool) (listed : Array Bool) (i : Nat) (d : Array Bool) : Bool :=
  match ops[i]? with
  | none => false
  | some oi => (List.range ops.size).all fun j => j == i || listed.getD j true || match ops[j]? with
      | some oj => d.getD j false || (oi.apart ops oj && (!U i || (T j || need j)))
      | none => true
def seqOkT (ops : Array Oper) (T U need : Nat → Bool) : List Nat → Array Bool → Bool
  | [], listed => (Region.ready .any ops listed).isEmpty
  | i :: r, listed => (if T i then (Region.ready .any ops listed).contains i && (let d := waits ops listed i; waitsOk ops listed i d && seqFreeT ops T U need listed i d) else Region.ready .any ops listed == [i]) && seqOkT ops T U need r (listed.setIfInBounds i true)

theorem wpAnyG_of_seqT (hsel : Region.noSelect ops = true) : ∀ (order : List Nat) (listed : Array Bool) (a : Act) (w : World), seqOkT ops T U need order listed = true → wpSeq P ops Q S T U need order a w → wpAnyG P ops Q (seqOb S T need) order.length listed a w
  | [], listed, a, w, hc, h => by
    simp only [seqOkT, List.isEmpty_iff] at hc
    exact ⟨hc, h⟩
  | i :: r, listed, a, w, hc, h => by
    simp only [seqOkT, Bool.and_eq_true] at hc
    obtain ⟨h1, h2⟩ := hc
    unfold wpSeq at h
    by_cases hT : T i = true
    · rw [if_pos hT] at h1 h
      obtain ⟨o, v, ho, hy, hS, hQ, hk⟩ := h
      simp only [Bool.and_eq_true] at h1
      generalize waits ops listed i = d at h1
      obtain ⟨h1a, h1b, h1c⟩ := h1
      simp only [waitsOk, Bool.and_eq_true, beq_iff_eq, List.all_eq_true, List.mem_range] at h1b
      obtain ⟨hds, hda⟩ := h1b
      have hdl : ∀ j, d.getD j false = true → j < ops.size := fun j hj => by
        rcases Nat.lt_or_ge j d.size with h | h
        · omega
        · rw [Array.getD_eq_getD_getElem?, Array.getElem?_eq_none h] at hj; cases hj
      refine wpAnyG_firstT (fun j => d.getD j false) ho (Region.noSelect_spec hsel) hQ (fun w => by unfold seqOb; rw [if_pos hT]) ?_ r.length listed a w ?_ ?_ (by simpa using h1a) hy hS (wpAnyG_of_seqT hsel r _ _ _ h2 hk)
      · intro j oj hj hd
        have := hda j (hdl j hd)
        simp only [hd, Bool.not_true, Bool.false_or, hj, Bool.and_eq_true] at this
        obtain ⟨e, he, hb⟩ := Array.any_eq_true'.1 this.2
        simp only [Bool.and_eq_true, Bool.or_eq_true, beq_iff_eq] at hb
        exact ⟨e, he, hb.1, hb.2⟩
      · intro j hd
        have := hda j (hdl j hd)
        simp only [hd, Bool.not_true, Bool.false_or, Bool.and_eq_true, beq_iff_eq] at this
        exact this.1
      · intro j oj hj hne hun hno
        simp only [seqFreeT, ho, List.all_eq_true, List.mem_range] at h1c
        have hf1 := h1c j (Array.getElem?_eq_some_iff.1 hj).1
        simp only [hj, Bool.or_eq_true, beq_iff_eq, hne, false_or, hun, hno, Bool.false_eq_true, Bool.and_eq_true, Bool.not_eq_eq_eq_not, Bool.not_true] at hf1
        obtain ⟨hf1, hf2⟩ := hf1
        refine ⟨hf1, fun w w' hs hob hu => ?_⟩
        rcases hf2 with hf2 | hf2
        · rw [hf2] at hu; cases hu
        · unfold seqOb at hob
          by_cases hTj : T j = true
          · rw [if_pos hTj] at hob; rw [hob]; exact hs hu
          · rw [if_neg hTj] at hob
            rcases hf2 with hf2 | hf2
            · exact absurd hf2 hTj
            · exact hob hf2
    · rw [if_neg hT] at h1 h
      have hr : Region.ready .any ops listed = [i] := by simpa using h1
      refine ⟨fun h0 => (by rw [hr] at h0; cases h0), fun j hj => ?_⟩
      rw [hr] at hj
      simp only [List.mem_singleton] at hj
      subst hj
      exact wpOp_mono (fun a' w' h3 => ⟨by unfold seqOb; rw [if_neg hT]; exact h3.1, wpAnyG_of_seqT hsel r _ _ _ h2 h3.2⟩) h

theorem wp_region_seqT {id : Nat} {a : Act} {w : World} (T U need : Nat → Bool) (order : List Nat) (S : World → Prop) (hm : P.follows .mixedOrders = true) (hsel : Region.noSelect ops = true) (hlen : order.length = ops.size)
    (hc : seqOkT ops T U need order (Array.replicate ops.size false) = true) (h : wpSeq P ops Q S T U need order a w.drew) : (Code.region id ops true).wp P Q a w :=
  wp_region_any hm (by have := wpAny_of_G _ _ _ _ (wpAnyG_of_seqT hsel order _ a w.drew hc h); rw [hlen] at this; exact this)
end
end Go.Proofs.Ythdmdgmchkhngaa

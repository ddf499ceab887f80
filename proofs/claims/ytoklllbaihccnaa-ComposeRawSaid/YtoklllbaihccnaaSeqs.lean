/- Regions that draw their order: walked in one order; where two operations may come up at once; and where the operations do not disturb one another, each shown once. · Regions that draw their order, walked in one order: what waits for an operation through others is known to come behind it. · A region that draws its order, whose operations do not disturb one another: as wp_region_conc, but with a relation between any two of the values (so that what two of them made may be told apart). -/
import Derived.OrdersHeld
import Derived.Deep.Draws
import Derived.WalkKit
import Derived.KernelRfl
import Derived.Tactics
namespace Go.Proofs.Ytoklllbaihccnaa
open Go

section
variable {P : Program} {ops : Array Oper} {Q : Exit → Act → World → Prop} {ob : Nat → World → World → Prop} {S1 : World → Prop}

def wpAnyG (P : Program) (ops : Array Oper) (Q : Exit → Act → World → Prop) (ob : Nat → World → World → Prop) : Nat → Array Bool → Act → World → Prop
  | 0, listed, a, w => Region.ready .any ops listed = [] ∧ Q .normal a w
  | fuel + 1, listed, a, w =>
    (Region.ready .any ops listed = [] → Q .normal a w) ∧
    ∀ i ∈ Region.ready .any ops listed, wpOp P ops Q i (fun a' w' => ob i w w' ∧ wpAnyG P ops Q ob fuel (listed.setIfInBounds i true) a' w') a w

theorem wpAny_of_G : ∀ (fuel : Nat) (listed : Array Bool) (a : Act) (w : World), wpAnyG P ops Q ob fuel listed a w → wpAny P .any ops Q fuel listed a w
  | 0, _, _, _, h => h
  | fuel + 1, _, _, _, h => ⟨h.1, fun i hi => wpOp_mono (fun a' w' h' => wpAny_of_G fuel _ a' w' h'.2) (h.2 i hi)⟩

theorem wpAnyG_first {i : Nat} {oi : Oper} {v : Value} (hi : ops[i]? = some oi) (hsel : ∀ (j : Nat) (o : Oper) cs b, ops[j]? = some o → o.op ≠ .select cs b)
    (hQ : ∀ c a w, Q (.panic c) (a.put oi.dst v) w → Q (.panic c) a w) (hob : ∀ w, ob i w w) :
    ∀ (fuel : Nat) (listed : Array Bool) (a : Act) (w : World),
      (∀ j oj, ops[j]? = some oj → j ≠ i → listed.getD j true = false → (∀ e ∈ oj.after, Region.binds .any e = true → e.on ≠ i) → oi.apart ops oj = true ∧ ∀ w w', S1 w → ob j w w' → S1 w') →
      i ∈ Region.ready .any ops listed → YieldsIf P ops S1 oi v a → S1 w →
      wpAnyG P ops Q ob fuel (listed.setIfInBounds i true) (a.put oi.dst v) w → wpAnyG P ops Q ob (fuel + 1) listed a w := by
  intro fuel
  induction fuel with
  | zero =>
    intro listed a w _ hr hy hS H
    refine ⟨fun h => (by rw [h] at hr; cases hr), fun j hj => ?_⟩
    by_cases hji : j = i
    · subst hji; exact hy.wpOp hi hS ⟨hob w, H⟩
    · have := ready_mono hj hji
      rw [H.1] at this
      cases this
  | succ fuel ih =>
    intro listed a w hfree hr hy hS H
    refine ⟨fun h => (by rw [h] at hr; cases hr), fun j hj => ?_⟩
    by_cases hji : j = i
    · subst hji; exact hy.wpOp hi hS ⟨hob w, H⟩
    · have h1 := H.2 j (ready_mono hj hji)
      obtain ⟨hjun, oj, hoj, hall⟩ := mem_ready.1 hj
      have hnot : ∀ e ∈ oj.after, Region.binds .any e = true → e.on ≠ i := fun e he hb heq => by
        have h2 := hall e he hb
        have h0 := (mem_ready.1 hr).1
        rw [heq] at h2
        rcases Nat.lt_or_ge i listed.size with h' | h'
        · simp [h'] at h0 h2; rw [h0] at h2; cases h2
        · simp [Array.getElem?_eq_none h'] at h2
      obtain ⟨hap, hnd⟩ := hfree j oj hoj hji hjun hnot
      have h2 := wpOp_putIf hoj hap (fun cs b => hsel i oi cs b hi) (fun cs b => hsel j oj cs b hoj) hQ hy h1
      have hfree' : ∀ k ok, ops[k]? = some ok → k ≠ i → (listed.setIfInBounds j true).getD k true = false →
          (∀ e ∈ ok.after, Region.binds .any e = true → e.on ≠ i) → oi.apart ops ok = true ∧ ∀ w w', S1 w → ob k w w' → S1 w' := fun k ok hk hki hun hno => by
        refine hfree k ok hk hki ?_ hno
        by_cases hjk : j = k
        · subst hjk; exact hjun
        · rw [getD_set_ne true hjk] at hun; exact hun
      refine wpOp_mono (fun a' w' h3 => ⟨h3.2.1, ih (listed.setIfInBounds j true) a' w' hfree' (ready_mono hr (Ne.symm hji)) h3.1 (hnd w w' hS h3.2.1) ?_⟩) h2
      rw [Array.setIfInBounds_comm _ _ hji]
      exact h3.2.2
end

section
variable {P : Program} {ops : Array Oper} {Q : Exit → Act → World → Prop} {S : World → Prop} {T U need : Nat → Bool}
/-- what holds behind number i -/
def seqOb (S : World → Prop) (T need : Nat → Bool) (i : Nat) (w w' : World) : Prop := if T i = true then w' = w else (need i = true → S w')
/-- the walk in one order: T: the light ones; U: the loads -/
def wpSeq (P : Program) (ops : Array Oper) (Q : Exit → Act → World → Prop) (S : World → Prop) (T U need : Nat → Bool) : List Nat → Act → World → Prop
  | [], a, w => Q .normal a w
  | i :: r, a, w =>
    if T i = true then ∃ o v, ops[i]? = some o ∧ YieldsIf P ops (fun w => U i = true → S w) o v a ∧ (U i = true → S w) ∧ (∀ c a w, Q (.panic c) (a.put o.dst v) w → Q (.panic c) a w) ∧ wpSeq P ops Q S T U need r (a.put o.dst v) w
    else wpOp P ops Q i (fun a' w' => (need i = true → S w') ∧ wpSeq P ops Q S T U need r a' w') a w

/-- number i may be taken now -/
def seqFree (ops : Array Oper) (T U need : Nat → Bool) (listed : Array Bool) (i : Nat) : Bool :=
  match ops[i]? with
  | none => false
  | some oi => (List.range ops.size).all fun j => j == i || listed.getD j true || match ops[j]? with
      | some oj => oj.after.any (fun e => Region.binds .any e && e.on == i) || (oi.apart ops oj && (!U i || (T j || need j)))
      | none => true
def seqOk (ops : Array Oper) (T U need : Nat → Bool) : List Nat → Array Bool → Bool
  | [], listed => (Region.ready .any ops listed).isEmpty
  | i :: r, listed => (if T i then (Region.ready .any ops listed).contains i && seqFree ops T U need listed i else Region.ready .any ops listed == [i]) && seqOk ops T U need r (listed.setIfInBounds i true)

theorem wpAnyG_of_seq (hsel : Region.noSelect ops = true) : ∀ (order : List Nat) (listed : Array Bool) (a : Act) (w : World), seqOk ops T U need order listed = true → wpSeq P ops Q S T U need order a w → wpAnyG P ops Q (seqOb S T need) order.length listed a w
  | [], listed, a, w, hc, h => by
    simp only [seqOk, List.isEmpty_iff] at hc
    exact ⟨hc, h⟩
  | i :: r, listed, a, w, hc, h => by
    simp only [seqOk, Bool.and_eq_true] at hc
    obtain ⟨h1, h2⟩ := hc
    unfold wpSeq at h
    by_cases hT : T i = true
    · rw [if_pos hT] at h1 h
      obtain ⟨o, v, ho, hy, hS, hQ, hk⟩ := h
      simp only [Bool.and_eq_true] at h1
      refine wpAnyG_first ho (Region.noSelect_spec hsel) hQ (fun w => by unfold seqOb; rw [if_pos hT]) r.length listed a w ?_ (by simpa using h1.1) hy hS (wpAnyG_of_seq hsel r _ _ _ h2 hk)
      intro j oj hj hne hun hno
      have hf := h1.2
      simp only [seqFree, ho, List.all_eq_true, List.mem_range] at hf
      have hf1 := hf j (Array.getElem?_eq_some_iff.1 hj).1
      simp only [hj, Bool.or_eq_true, beq_iff_eq, hne, false_or, hun, Bool.false_eq_true, Bool.and_eq_true, Bool.not_eq_eq_eq_not, Bool.not_true] at hf1
      rcases hf1 with hf1 | ⟨hf1, hf2⟩
      · exfalso
        obtain ⟨e, he, hb⟩ := Array.any_eq_true'.1 hf1
        simp only [Bool.and_eq_true, beq_iff_eq] at hb
        exact hno e he hb.1 hb.2
      · refine ⟨hf1, fun w w' hs hob hu => ?_⟩
        rcases hf2 with hf2 | hf2
        · rw [hf2] at hu; cases hu
        · unfold seqOb at hob
          by_cases hTj : T j = true
          · rw [if_pos hTj] at hob; rw [hob]; exact hs hu
          · rw [if_neg hTj] at hob
            rcases hf2 with hf2 | hf2
            · exact absurd hf2 hTj
            · exact hob hf2
    · rw [if_neg hT] at h1 h
      have hr : Region.ready .any ops listed = [i] := by simpa using h1
      refine ⟨fun h0 => (by rw [hr] at h0; cases h0), fun j hj => ?_⟩
      rw [hr] at hj
      simp only [List.mem_singleton] at hj
      subst hj
      exact wpOp_mono (fun a' w' h3 => ⟨by unfold seqOb; rw [if_neg hT]; exact h3.1, wpAnyG_of_seq hsel r _ _ _ h2 h3.2⟩) h

theorem wp_region_seq {id : Nat} {a : Act} {w : World} (T U need : Nat → Bool) (order : List Nat) (S : World → Prop) (hm : P.follows .mixedOrders = true) (hsel : Region.noSelect ops = true) (hlen : order.length = ops.size)
    (hc : seqOk ops T U need order (Array.replicate ops.size false) = true) (h : wpSeq P ops Q S T U need order a w.drew) : (Code.region id ops true).wp P Q a w :=
  wp_region_any hm (by have := wpAny_of_G _ _ _ _ (wpAnyG_of_seq hsel order _ a w.drew hc h); rw [hlen] at this; exact this)

/-- one that only reckons -/
theorem wpSeq_pure {i : Nat} {r : List Nat} {a : Act} {w : World} {o : Oper} {v : Value} (hT : T i = true) (hU : U i = false) (ho : ops[i]? = some o) (hw : Region.wanted o (yielded ops a.tmps) = true)
    (hQ : ∀ c a w, Q (.panic c) (a.put o.dst v) w → Q (.panic c) a w) (hy : ∀ wq, (execOp a.eval o).run P wq = .ok (.value v) wq)
    (h : wpSeq P ops Q S T U need r (a.put o.dst v) w) : wpSeq P ops Q S T U need (i :: r) a w := by
  unfold wpSeq; rw [if_pos hT]; exact ⟨o, v, ho, .inl ⟨hw, fun wq _ => hy wq⟩, fun h => (by rw [hU] at h; cases h), hQ, h⟩
/-- one that is passed over -/
theorem wpSeq_skip {i : Nat} {r : List Nat} {a : Act} {w : World} {o : Oper} (hT : T i = true) (hU : U i = false) (ho : ops[i]? = some o) (hw : Region.wanted o (yielded ops a.tmps) = false)
    (hQ : ∀ c a w, Q (.panic c) (a.put o.dst undef) w → Q (.panic c) a w)
    (h : wpSeq P ops Q S T U need r (a.put o.dst undef) w) : wpSeq P ops Q S T U need (i :: r) a w := by
  unfold wpSeq; rw [if_pos hT]; exact ⟨o, undef, ho, .inr ⟨hw, rfl⟩, fun h => (by rw [hU] at h; cases h), hQ, h⟩
/-- a load -/
theorem wpSeq_load {i : Nat} {r : List Nat} {a : Act} {w : World} {o : Oper} {v : Value} (hT : T i = true) (ho : ops[i]? = some o) (hw : Region.wanted o (yielded ops a.tmps) = true)
    (hQ : ∀ c a w, Q (.panic c) (a.put o.dst v) w → Q (.panic c) a w) (hS : S w) (hU : U i = true) (hy : ∀ wq, S wq → (execOp a.eval o).run P wq = .ok (.value v) wq)
    (h : wpSeq P ops Q S T U need r (a.put o.dst v) w) : wpSeq P ops Q S T U need (i :: r) a w := by
  unfold wpSeq; rw [if_pos hT]; exact ⟨o, v, ho, .inl ⟨hw, fun wq hq => hy wq (hq hU)⟩, fun _ => hS, hQ, h⟩
/-- another one: it comes now -/
theorem wpSeq_heavy {i : Nat} {r : List Nat} {a : Act} {w : World} {o : Oper} (hT : T i = false) (ho : ops[i]? = some o)
    (h : ∀ K : Act → World → Prop, (∀ a' w', (need i = true → S w') → wpSeq P ops Q S T U need r a' w' → K a' w') → if Region.wanted o (yielded ops a.tmps) = true then o.wp P a w K Q else K (a.put o.dst undef) w) : wpSeq P ops Q S T U need (i :: r) a w := by
  unfold wpSeq
  rw [if_neg (by rw [hT]; simp)]
  unfold wpOp
  simp only [ho]
  have := h (fun a' w' => (need i = true → S w') ∧ wpSeq P ops Q S T U need r a' w') (fun a' w' h1 h2 => ⟨h1, h2⟩)
  split
  · rename_i hw; rw [if_pos hw] at this; exact .inl this
  · rename_i hw; rw [if_neg hw] at this; exact this
theorem wpSeq_end {a : Act} {w : World} (h : Q .normal a w) : wpSeq P ops Q S T U need [] a w := h
/-- the same, whose checks fill themselves in -/
theorem wpSeq_pureA {i : Nat} {r : List Nat} {a : Act} {w : World} {o : Oper} {v : Value} (hT : T i = true) (hU : U i = false) (ho : ops[i]? = some o) (h : wpSeq P ops Q S T U need r (a.put o.dst v) w)
    (hw : Region.wanted o (yielded ops a.tmps) = true := by kernel_rfl) (hQ : ∀ c a w, Q (.panic c) (a.put o.dst v) w → Q (.panic c) a w := by exact fun _ _ _ h => h) (hy : ∀ wq, (execOp a.eval o).run P wq = .ok (.value v) wq := by intro wq; first | (go_simp; done) | (go_simp; rfl)) :
    wpSeq P ops Q S T U need (i :: r) a w := wpSeq_pure hT hU ho hw hQ hy h
theorem wpSeq_loadA {i : Nat} {r : List Nat} {a : Act} {w : World} {o : Oper} {v : Value} (hT : T i = true) (ho : ops[i]? = some o) (hS : S w) (hU : U i = true) (h : wpSeq P ops Q S T U need r (a.put o.dst v) w)
    (hw : Region.wanted o (yielded ops a.tmps) = true := by kernel_rfl) (hQ : ∀ c a w, Q (.panic c) (a.put o.dst v) w → Q (.panic c) a w := by exact fun _ _ _ h => h)
    (hy : ∀ wq, S wq → (execOp a.eval o).run P wq = .ok (.value v) wq := by intro wq hq; (try have hq1 := hq.1); (try have hq2 := hq.2.1); (try have hq3 := hq.2.2.1); (try have hq4 := hq.2.2.2.1); (try have hq5 := hq.2.2.2.2.1); (try have hq6 := hq.2.2.2.2.2.1); (try have hq7 := hq.2.2.2.2.2.2); (try have hr2 := hq.2); (try have hr3 := hq.2.2); (try have hr4 := hq.2.2.2); (try have hr5 := hq.2.2.2.2); first | (go_simp; done) | (go_simp; rfl)) :
    wpSeq P ops Q S T U need (i :: r) a w := wpSeq_load hT ho hw hQ hS hU hy h
end
end Go.Proofs.Ytoklllbaihccnaa
namespace Go.Proofs.Ytoklllbaihccnaa
open Go

section
variable {P : Program} {ops : Array Oper} {Q : Exit → Act → World → Prop} {S : World → Prop} {T U need : Nat → Bool}
/-- orders: one behind the other; or two that may come up -/
inductive Ord where
  | nil : Ord
  | one : Nat → Ord → Ord
  | two : Nat → Ord → Nat → Ord → Ord
def Ord.len : Ord → Nat
  | .nil => 0
  | .one _ t => t.len + 1
  | .two _ t _ _ => t.len + 1
def Ord.of : List Nat → Ord → Ord
  | [], t => t
  | i :: r, t => .one i (Ord.of r t)
def wpOrd (P : Program) (ops : Array Oper) (Q : Exit → Act → World → Prop) (S : World → Prop) (T U need : Nat → Bool) : Ord → Act → World → Prop
  | .nil, a, w => Q .normal a w
  | .one i t, a, w =>
    if T i = true then ∃ o v, ops[i]? = some o ∧ YieldsIf P ops (fun w => U i = true → S w) o v a ∧ (U i = true → S w) ∧ (∀ c a w, Q (.panic c) (a.put o.dst v) w → Q (.panic c) a w) ∧ wpOrd P ops Q S T U need t (a.put o.dst v) w
    else wpOp P ops Q i (fun a' w' => (need i = true → S w') ∧ wpOrd P ops Q S T U need t a' w') a w
  | .two i t j t', a, w => wpOp P ops Q i (fun a' w' => (need i = true → S w') ∧ wpOrd P ops Q S T U need t a' w') a w ∧ wpOp P ops Q j (fun a' w' => (need j = true → S w') ∧ wpOrd P ops Q S T U need t' a' w') a w
def ordOk (ops : Array Oper) (T U need : Nat → Bool) : Ord → Array Bool → Bool
  | .nil, listed => (Region.ready .any ops listed).isEmpty
  | .one i t, listed => (if T i then (Region.ready .any ops listed).contains i && seqFree ops T U need listed i else Region.ready .any ops listed == [i]) && ordOk ops T U need t (listed.setIfInBounds i true)
  | .two i t j t', listed => Region.ready .any ops listed == [i, j] && !T i && !T j && t.len == t'.len && ordOk ops T U need t (listed.setIfInBounds i true) && ordOk ops T U need t' (listed.setIfInBounds j true)

theorem wpAnyG_of_ord (hsel : Region.noSelect ops = true) : ∀ (t : Ord) (listed : Array Bool) (a : Act) (w : World), ordOk ops T U need t listed = true → wpOrd P ops Q S T U need t a w → wpAnyG P ops Q (seqOb S T need) t.len listed a w
  | .nil, listed, a, w, hc, h => by
    simp only [ordOk, List.isEmpty_iff] at hc
    exact ⟨hc, h⟩
  | .one i r, listed, a, w, hc, h => by
    simp only [ordOk, Bool.and_eq_true] at hc
    obtain ⟨h1, h2⟩ := hc
    unfold wpOrd at h
    by_cases hT : T i = true
    · rw [if_pos hT] at h1 h
      obtain ⟨o, v, ho, hy, hS, hQ, hk⟩ := h
      simp only [Bool.and_eq_true] at h1
      refine wpAnyG_first ho (Region.noSelect_spec hsel) hQ (fun w => by unfold seqOb; rw [if_pos hT]) r.len listed a w ?_ (by simpa using h1.1) hy hS (wpAnyG_of_ord hsel r _ _ _ h2 hk)
      intro j oj hj hne hun hno
      have hf := h1.2
      simp only [seqFree, ho, List.all_eq_true, List.mem_range] at hf
      have hf1 := hf j (Array.getElem?_eq_some_iff.1 hj).1
      simp only [hj, Bool.or_eq_true, beq_iff_eq, hne, false_or, hun, Bool.false_eq_true, Bool.and_eq_true, Bool.not_eq_eq_eq_not, Bool.not_true] at hf1
      rcases hf1 with hf1 | ⟨hf1, hf2⟩
      · exfalso
        obtain ⟨e, he, hb⟩ := Array.any_eq_true'.1 hf1
        simp only [Bool.and_eq_true, beq_iff_eq] at hb
        exact hno e he hb.1 hb.2
      · refine ⟨hf1, fun w w' hs hob hu => ?_⟩
        rcases hf2 with hf2 | hf2
        · rw [hf2] at hu; cases hu
        · unfold seqOb at hob
          by_cases hTj : T j = true
          · rw [if_pos hTj] at hob; rw [hob]; exact hs hu
          · rw [if_neg hTj] at hob
            rcases hf2 with hf2 | hf2
            · exact absurd hf2 hTj
            · exact hob hf2
    · rw [if_neg hT] at h1 h
      have hr : Region.ready .any ops listed = [i] := by simpa using h1
      refine ⟨fun h0 => (by rw [hr] at h0; cases h0), fun j hj => ?_⟩
      rw [hr] at hj
      simp only [List.mem_singleton] at hj
      subst hj
      exact wpOp_mono (fun a' w' h3 => ⟨by unfold seqOb; rw [if_neg hT]; exact h3.1, wpAnyG_of_ord hsel r _ _ _ h2 h3.2⟩) h
  | .two i t j t', listed, a, w, hc, h => by
    simp only [ordOk, Bool.and_eq_true, beq_iff_eq, Bool.not_eq_eq_eq_not, Bool.not_true] at hc
    obtain ⟨⟨⟨⟨⟨hr, hTi⟩, hTj⟩, hl⟩, h1⟩, h2⟩ := hc
    unfold wpOrd at h
    refine ⟨fun h0 => (by rw [hr] at h0; cases h0), fun k hk => ?_⟩
    rw [hr] at hk
    simp only [List.mem_cons, List.not_mem_nil, or_false] at hk
    rcases hk with rfl | rfl
    · exact wpOp_mono (fun a' w' h3 => ⟨by unfold seqOb; rw [hTi]; simpa using h3.1, wpAnyG_of_ord hsel t _ _ _ h1 h3.2⟩) h.1
    · exact wpOp_mono (fun a' w' h3 => ⟨by unfold seqOb; rw [hTj]; simpa using h3.1, by rw [hl]; exact wpAnyG_of_ord hsel t' _ _ _ h2 h3.2⟩) h.2

theorem wp_region_ord {id : Nat} {a : Act} {w : World} (T U need : Nat → Bool) (t : Ord) (S : World → Prop) (hm : P.follows .mixedOrders = true) (hsel : Region.noSelect ops = true) (hlen : t.len = ops.size)
    (hc : ordOk ops T U need t (Array.replicate ops.size false) = true) (h : wpOrd P ops Q S T U need t a w.drew) : (Code.region id ops true).wp P Q a w :=
  wp_region_any hm (by have := wpAny_of_G _ _ _ _ (wpAnyG_of_ord hsel t _ a w.drew hc h); rw [hlen] at this; exact this)
/-- from here on in one order -/
theorem wpOrd_seq : ∀ (r : List Nat) (a : Act) (w : World), wpSeq P ops Q S T U need r a w → wpOrd P ops Q S T U need (Ord.of r .nil) a w
  | [], _, _, h => h
  | i :: r, a, w, h => by
    unfold Ord.of
    unfold wpOrd
    unfold wpSeq at h
    by_cases hT : T i = true
    · rw [if_pos hT] at h ⊢
      obtain ⟨o, v, ho, hy, hS, hQ, hk⟩ := h
      exact ⟨o, v, ho, hy, hS, hQ, wpOrd_seq r _ _ hk⟩
    · rw [if_neg hT] at h ⊢
      exact wpOp_mono (fun a' w' h3 => ⟨h3.1, wpOrd_seq r _ _ h3.2⟩) h
theorem wpOrd_pure {i : Nat} {r : Ord} {a : Act} {w : World} {o : Oper} {v : Value} (hT : T i = true) (hU : U i = false) (ho : ops[i]? = some o) (hw : Region.wanted o (yielded ops a.tmps) = true)
    (hQ : ∀ c a w, Q (.panic c) (a.put o.dst v) w → Q (.panic c) a w) (hy : ∀ wq, (execOp a.eval o).run P wq = .ok (.value v) wq)
    (h : wpOrd P ops Q S T U need r (a.put o.dst v) w) : wpOrd P ops Q S T U need (.one i r) a w := by
  unfold wpOrd; rw [if_pos hT]; exact ⟨o, v, ho, .inl ⟨hw, fun wq _ => hy wq⟩, fun h => (by rw [hU] at h; cases h), hQ, h⟩
theorem wpOrd_load {i : Nat} {r : Ord} {a : Act} {w : World} {o : Oper} {v : Value} (hT : T i = true) (ho : ops[i]? = some o) (hw : Region.wanted o (yielded ops a.tmps) = true)
    (hQ : ∀ c a w, Q (.panic c) (a.put o.dst v) w → Q (.panic c) a w) (hS : S w) (hU : U i = true) (hy : ∀ wq, S wq → (execOp a.eval o).run P wq = .ok (.value v) wq)
    (h : wpOrd P ops Q S T U need r (a.put o.dst v) w) : wpOrd P ops Q S T U need (.one i r) a w := by
  unfold wpOrd; rw [if_pos hT]; exact ⟨o, v, ho, .inl ⟨hw, fun wq hq => hy wq (hq hU)⟩, fun _ => hS, hQ, h⟩
/-- two may come up: each of them with what follows -/
theorem wpOrd_two {i j : Nat} {r r' : List Nat} {a : Act} {w : World} (h1 : wpSeq P ops Q S T U need (i :: r) a w) (h2 : wpSeq P ops Q S T U need (j :: r') a w) (hi : T i = false) (hj : T j = false) : wpOrd P ops Q S T U need (.two i (Ord.of r .nil) j (Ord.of r' .nil)) a w := by
  unfold wpSeq at h1 h2
  rw [if_neg (by rw [hi]; simp)] at h1
  rw [if_neg (by rw [hj]; simp)] at h2
  unfold wpOrd
  exact ⟨wpOp_mono (fun a' w' h3 => ⟨h3.1, wpOrd_seq r _ _ h3.2⟩) h1, wpOp_mono (fun a' w' h3 => ⟨h3.1, wpOrd_seq r' _ _ h3.2⟩) h2⟩
end
end Go.Proofs.Ytoklllbaihccnaa
namespace Go.Proofs.Ytoklllbaihccnaa
open Go

section
variable {P : Program} {ops : Array Oper} {Q : Exit → Act → World → Prop}
/-- an operation that yields a value, or calls a function that does -/
def yields (P : Program) (o : Oper) (ev : Operand → Value) (w : World) (K : Value → World → Prop) : Prop :=
  match (execOp ev o).run P w with
  | .ok (.value v) w' => K v w'
  | .ok (.enter f args) w' => Calls P f args w' fun e w'' => ∃ v, e = .returned v ∧ K v w''
  | .ok .skip w' => o.dst = none ∧ ∃ v, K v w'
  | _ => False
theorem yields_wpOp {i : Nat} {o : Oper} {a : Act} {w : World} {K : Value → World → Prop} (ho : ops[i]? = some o) (hg : o.guard = none) (h : yields P o a.eval w K) :
    wpOp P ops Q i (fun a' w' => ∃ v, a' = a.put o.dst v ∧ K v w') a w := by
  unfold wpOp
  simp only [ho]
  rw [if_pos (by simp [Region.wanted, hg])]
  refine .inl ?_
  unfold Oper.wp
  unfold yields at h
  generalize (execOp a.eval o).run P w = r at *
  cases r with
  | ok nx w' =>
    cases nx with
    | value u => exact ⟨u, rfl, h⟩
    | enter f args => exact Calls.mono h fun e w'' he => by obtain ⟨v, rfl, hk⟩ := he; exact ⟨v, rfl, hk⟩
    | skip => obtain ⟨hd, v, hk⟩ := h; exact ⟨v, by rw [hd]; rfl, hk⟩
    | _ => exact h.elim
  | _ => exact h.elim

def dstOf (ops : Array Oper) (j : Nat) : Option Tmp := (ops[j]?).bind (·.dst)
def fillF (ops : Array Oper) (val : Nat → Value) (f : Nat → Bool) (a0 : Act) : Nat → Act
  | 0 => a0
  | i + 1 => if f i = true then (fillF ops val f a0 i).put (dstOf ops i) (val i) else fillF ops val f a0 i
/-- all of them, the first n -/
def fillA (ops : Array Oper) (val : Nat → Value) (a0 : Act) : Nat → Act
  | 0 => a0
  | i + 1 => (fillA ops val a0 i).put (dstOf ops i) (val i)
def isDep (ops : Array Oper) (i j : Nat) : Bool := match ops[i]? with
  | some o => o.after.any fun e => Region.binds .any e && e.on == j
  | none => false
/-- different operations have different temporaries, that are there; each waits for earlier ones alone; each but the last is waited for -/
def concOk (ops : Array Oper) (size : Nat) : Bool :=
  decide (0 < ops.size) &&
  (List.range ops.size).all (fun i => (match dstOf ops i with
    | some d => decide (d < size) && (List.range ops.size).all (fun j => j == i || dstOf ops j != some d)
    | none => true) && (List.range ops.size).all (fun j => !isDep ops i j || decide (j < i)) &&
    (decide (i + 1 = ops.size) || (List.range ops.size).any (fun k => isDep ops k i)) &&
    (match ops[i]? with | some o => o.after.all (fun e => decide (e.on < ops.size)) | none => false))

structure Ev (ops : Array Oper) (a0 : Act) (val : Nat → Value) (i : Nat) (ev : Operand → Value) : Prop where
  const : ∀ c, ev (.const c) = c
  func : ∀ f, ev (.func f) = .func (.func f) #[] #[]
  other : ∀ k, (List.range ops.size).all (fun j => dstOf ops j != some k) = true → ev (.tmp k) = a0.eval (.tmp k)
  dep : ∀ j d, isDep ops i j = true → dstOf ops j = some d → ev (.tmp d) = val j

theorem put_size (a : Act) (d : Option Tmp) (v : Value) : (a.put d v).tmps.size = a.tmps.size := by cases d <;> simp [Act.put]
theorem fillF_size (val : Nat → Value) (f : Nat → Bool) (a0 : Act) : ∀ n, (fillF ops val f a0 n).tmps.size = a0.tmps.size
  | 0 => rfl
  | n + 1 => by unfold fillF; split <;> simp [put_size, fillF_size val f a0 n]
theorem fillF_congr {val val' : Nat → Value} {f f' : Nat → Bool} (a0 : Act) : ∀ n, (∀ i, i < n → f i = f' i ∧ (f i = true → val i = val' i)) → fillF ops val f a0 n = fillF ops val' f' a0 n
  | 0, _ => rfl
  | n + 1, h => by
    unfold fillF
    rw [fillF_congr a0 n fun i hi => h i (by omega), ← (h n (by omega)).1]
    split
    · rename_i hf; rw [(h n (by omega)).2 hf]
    · rfl
theorem fillF_all {val : Nat → Value} {f : Nat → Bool} (a0 : Act) : ∀ n, (∀ i, i < n → f i = true) → fillF ops val f a0 n = fillA ops val a0 n
  | 0, _ => rfl
  | n + 1, h => by unfold fillF fillA; rw [if_pos (h n (by omega)), fillF_all a0 n fun i hi => h i (by omega)]
theorem fillF_set {val : Nat → Value} {f : Nat → Bool} (a0 : Act) {i : Nat} (v : Value) (hf : f i = false) (hd : ∀ j, j ≠ i → ∀ d, dstOf ops j = some d → dstOf ops i ≠ some d) :
    ∀ n, i < n → fillF ops (fun j => if j = i then v else val j) (fun j => if j = i then true else f j) a0 n = (fillF ops val f a0 n).put (dstOf ops i) v
  | 0, h => by omega
  | n + 1, h => by
    by_cases hn : n = i
    · subst hn
      simp only [fillF, hf, ↓reduceIte, Bool.false_eq_true]
      congr 1
      refine fillF_congr a0 n fun j hj => ?_
      have hne : j ≠ n := by omega
      exact ⟨by simp [hne], fun _ => by simp [hne]⟩
    · have ih := fillF_set (val := val) a0 v hf hd n (by omega)
      unfold fillF
      simp only [if_neg hn]
      split
      · rw [ih]; exact Act.put_comm _ _ _ fun d h1 h2 => hd n hn d h2 h1
      · exact ih
theorem fillF_other {val : Nat → Value} {f : Nat → Bool} (a0 : Act) (x : Operand) : ∀ n, (∀ j, j < n → ∀ d, dstOf ops j = some d → x ≠ .tmp d) → (fillF ops val f a0 n).eval x = a0.eval x
  | 0, _ => rfl
  | n + 1, h => by
    unfold fillF
    split
    · rw [Act.eval_put fun d hd => h n (by omega) d hd]; exact fillF_other a0 x n fun j hj => h j (by omega)
    · exact fillF_other a0 x n fun j hj => h j (by omega)
theorem fillF_at {val : Nat → Value} {f : Nat → Bool} (a0 : Act) {j : Nat} {d : Tmp} (hj : dstOf ops j = some d) (hf : f j = true) (hs : d < a0.tmps.size) (hd : ∀ k, k ≠ j → dstOf ops k ≠ some d) : ∀ n, j < n → (fillF ops val f a0 n).eval (.tmp d) = val j
  | 0, h => by omega
  | n + 1, h => by
    by_cases hn : n = j
    · subst hn
      unfold fillF
      rw [if_pos hf, hj]
      have := fillF_size (ops := ops) val f a0 n
      simp [Act.put, Act.eval, this, hs]
    · have ih := fillF_at (val := val) a0 hj hf hs hd n (by omega)
      unfold fillF
      split
      · rw [Act.eval_put fun e he => ?_]; exact ih
        intro hx; injection hx with hx; exact hd n hn (by rw [he, hx])
      · exact ih

def unl (n : Nat) (listed : Array Bool) : Nat := (List.range n).countP fun i => !listed.getD i true
theorem countP_lt {p q : Nat → Bool} : ∀ (l : List Nat), (∀ i, q i = true → p i = true) → (∃ i ∈ l, p i = true ∧ q i = false) → l.countP q + 1 ≤ l.countP p
  | [], _, ⟨i, hi, _⟩ => by cases hi
  | x :: r, hpq, ⟨i, hi, h1, h2⟩ => by
    have hle : ∀ (l : List Nat), l.countP q ≤ l.countP p := fun l => List.countP_mono_left fun i _ h => hpq i h
    rcases List.mem_cons.1 hi with rfl | hi
    · rw [List.countP_cons, List.countP_cons, h1, h2]; have := hle r; simp; omega
    · have ih := countP_lt r hpq ⟨i, hi, h1, h2⟩
      rw [List.countP_cons, List.countP_cons]
      cases hq : q x with
      | true => rw [hpq x hq]; simp; omega
      | false => simp; omega
theorem unl_set {n i : Nat} {listed : Array Bool} (hi : i < n) (hz : listed.size = n) (h : listed.getD i true = false) : unl n (listed.setIfInBounds i true) + 1 ≤ unl n listed := by
  refine countP_lt _ (fun j hj => ?_) ⟨i, List.mem_range.2 hi, by rw [h]; rfl, by simp [hz, hi]⟩
  by_cases hij : i = j
  · subst hij; rw [h]; rfl
  · rw [getD_set_ne true hij] at hj; exact hj
theorem wpAny_all {listed : Array Bool} {a : Act} {w : World} (hr : Region.ready .any ops listed = []) (h : Q .normal a w) : ∀ fuel, wpAny P .any ops Q fuel listed a w
  | 0 => ⟨hr, h⟩
  | _ + 1 => ⟨fun _ => h, fun i hi => by rw [hr] at hi; cases hi⟩

theorem concOk_at {size : Nat} (h : concOk ops size = true) : 0 < ops.size ∧ (∀ i d, i < ops.size → dstOf ops i = some d → d < size ∧ ∀ j, j ≠ i → dstOf ops j ≠ some d) ∧ (∀ i j, isDep ops i j = true → j < i) ∧ (∀ i, i + 1 < ops.size → ∃ k, k < ops.size ∧ isDep ops k i = true) := by
  unfold concOk at h
  simp only [Bool.and_eq_true, decide_eq_true_eq, List.all_eq_true, List.mem_range] at h
  obtain ⟨h0, h⟩ := h
  have hlt : ∀ i d, dstOf ops i = some d → i < ops.size := fun i d hd => by
    unfold dstOf at hd
    rcases Nat.lt_or_ge i ops.size with h' | h'
    · exact h'
    · rw [Array.getElem?_eq_none h'] at hd; cases hd
  have hdl : ∀ i j, isDep ops i j = true → i < ops.size := fun i j hd => by
    unfold isDep at hd
    rcases Nat.lt_or_ge i ops.size with h' | h'
    · exact h'
    · rw [Array.getElem?_eq_none h'] at hd; cases hd
  refine ⟨h0, fun i d hi hd => ?_, fun i j hd => ?_, fun i hi => ?_⟩
  · obtain ⟨⟨⟨h1, _⟩, _⟩, _⟩ := h i hi
    rw [hd] at h1
    simp only [Bool.and_eq_true, decide_eq_true_eq, List.all_eq_true, List.mem_range, Bool.or_eq_true, beq_iff_eq, bne_iff_ne, ne_eq] at h1
    refine ⟨h1.1, fun j hj he => ?_⟩
    rcases h1.2 j (hlt j d he) with h2 | h2
    · exact hj h2
    · exact h2 he
  · have hi := hdl i j hd
    obtain ⟨⟨⟨_, h1⟩, _⟩, h4⟩ := h i hi
    have hjl : j < ops.size := by
      unfold isDep at hd
      split at hd
      · rename_i o ho
        simp only [Array.any_eq_true'] at hd
        obtain ⟨e, he, hb⟩ := hd
        simp only [Bool.and_eq_true, beq_iff_eq] at hb
        rw [ho] at h4
        simp only [Array.all_eq_true'] at h4
        have := h4 e he
        simp only [decide_eq_true_eq] at this
        omega
      · cases hd
    have h2 := h1 j hjl
    simp only [Bool.or_eq_true, Bool.not_eq_true', decide_eq_true_eq] at h2
    rcases h2 with h2 | h2
    · rw [hd] at h2; cases h2
    · exact h2
  · obtain ⟨⟨_, h1⟩, _⟩ := h i (by omega)
    simp only [Bool.or_eq_true, decide_eq_true_eq, List.any_eq_true, List.mem_range] at h1
    rcases h1 with h1 | h1
    · omega
    · exact h1

theorem wp_region_conc {id : Nat} {a0 : Act} {w : World} (V : Nat → Value → World → Prop) (G : World → Prop) (Rel : World → World → Prop) (hm : P.follows .mixedOrders = true) (hchk : concOk ops a0.tmps.size = true)
    (n1 : Nat) (hn1 : ops.size = n1 + 1) (hst : ∀ i v w w', V i v w → Rel w w' → V i v w') (hG : G w.drew)
    (hop : ∀ (i : Nat) (ev : Operand → Value) (val : Nat → Value) (w : World), i < n1 → G w → Ev ops a0 val i ev → (∀ j, isDep ops i j = true → V j (val j) w) → ∃ o, ops[i]? = some o ∧ o.guard = none ∧ yields P o ev w fun v w' => V i v w' ∧ G w' ∧ Rel w w')
    (hend : ∀ (val : Nat → Value) (w : World), G w → (∀ i, i < n1 → V i (val i) w) → wpOp P ops Q n1 (Q .normal) (fillA ops val a0 n1) w) : (Code.region id ops true).wp P Q a0 w := by
  obtain ⟨c0, c1, c2, c3⟩ := concOk_at hchk
  have hn2 : n1 = ops.size - 1 := by omega
  subst hn2
  have key : ∀ (fuel : Nat) (listed : Array Bool) (a : Act) (w : World) (val : Nat → Value), listed.size = ops.size → listed.getD (ops.size - 1) true = false → unl ops.size listed ≤ fuel →
      (∀ i j, listed.getD i false = true → isDep ops i j = true → listed.getD j false = true) → G w → (∀ i, listed.getD i false = true → V i (val i) w) → a = fillF ops val (fun i => listed.getD i false) a0 (ops.size - 1) → wpAny P .any ops Q fuel listed a w := by
    intro fuel
    have unlisted : ∀ (listed : Array Bool), listed.size = ops.size → ∀ i, i < ops.size → listed.getD i false = listed.getD i true := fun listed hz i hi => by simp [hz, hi]
    induction fuel with
    | zero =>
      intro listed a w val hz hlast hf _ _ _ _
      exfalso
      unfold unl at hf
      have : ops.size - 1 ∈ (List.range ops.size).filter fun i => !listed.getD i true := List.mem_filter.2 ⟨List.mem_range.2 (by omega), by rw [hlast]; rfl⟩
      rw [List.countP_eq_length_filter] at hf
      have := List.length_pos_of_mem this
      omega
    | succ fuel ih =>
      intro listed a w val hz hlast hf hdown hGw hV ha
      refine ⟨fun hr => ?_, fun i hi => ?_⟩
      · exfalso
        -- the first one that was not taken is ready
        have ex : ∀ n, n ≤ ops.size → (∃ i, i < n ∧ listed.getD i false = false) → ∃ i, i ∈ Region.ready .any ops listed := by
          intro n
          induction n with
          | zero => intro _ ⟨i, hi, _⟩; omega
          | succ n ihn =>
            intro hn ⟨i, hi, hl⟩
            by_cases hex : ∃ i, i < n ∧ listed.getD i false = false
            · exact ihn (by omega) hex
            · have hin : i = n := by rcases Nat.lt_or_ge i n with h' | h'; exact absurd ⟨i, h', hl⟩ hex; omega
              subst hin
              refine ⟨i, mem_ready.2 ⟨by rw [← unlisted listed hz i (by omega)]; exact hl, ops[i], Array.getElem?_eq_getElem (by omega), fun e he hb => ?_⟩⟩
              have hd : isDep ops i e.on = true := by
                unfold isDep
                rw [Array.getElem?_eq_getElem (by omega : i < ops.size)]
                exact Array.any_eq_true'.2 ⟨e, he, by simp [hb]⟩
              have hlt := c2 i e.on hd
              cases hc : listed.getD e.on false with
              | true => rfl
              | false => exact absurd ⟨e.on, hlt, hc⟩ hex
        obtain ⟨i, hi⟩ := ex ops.size (Nat.le_refl _) ⟨ops.size - 1, by omega, by rw [unlisted listed hz _ (by omega)]; exact hlast⟩
        rw [hr] at hi
        cases hi
      · obtain ⟨hun, o, ho, hall⟩ := mem_ready.1 hi
        have hil : i < ops.size := (Array.getElem?_eq_some_iff.1 ho).1
        have hdeps : ∀ j, isDep ops i j = true → listed.getD j false = true := fun j hd => by
          unfold isDep at hd
          rw [ho] at hd
          obtain ⟨e, he, hb⟩ := Array.any_eq_true'.1 hd
          simp only [Bool.and_eq_true, beq_iff_eq] at hb
          rw [← hb.2]
          exact hall e he hb.1
        have hunF : listed.getD i false = false := by rw [unlisted listed hz i hil]; exact hun
        by_cases hl : i + 1 = ops.size
        · -- the last one
          have hi1 : i = ops.size - 1 := by omega
          have hallL : ∀ k j, j + k + 1 = ops.size → 0 < k → listed.getD j false = true := by
            intro k
            induction k using Nat.strongRecOn with
            | ind k ihk =>
              intro j hj hk
              obtain ⟨i', hi', hd⟩ := c3 j (by omega)
              have hlt := c2 i' j hd
              by_cases he : i' = i
              · subst he; exact hdeps j hd
              · exact hdown i' j (ihk (ops.size - 1 - i') (by omega) i' (by omega) (by omega)) hd
          have hAll : ∀ j, j < ops.size - 1 → listed.getD j false = true := fun j hj => hallL (ops.size - 1 - j) j (by omega) (by omega)
          have hE := hend val w hGw fun j hj => hV j (hAll j (by omega))
          rw [ha, fillF_all a0 _ fun j hj => hAll j hj, hi1]
          refine wpOp_mono (fun a' w' hq => ?_) hE
          refine wpAny_all ?_ hq fuel
          refine List.eq_nil_iff_forall_not_mem.2 fun j hj => ?_
          obtain ⟨hju, oj, hoj, _⟩ := mem_ready.1 hj
          have hjl : j < ops.size := (Array.getElem?_eq_some_iff.1 hoj).1
          by_cases hje : ops.size - 1 = j
          · subst hje; simp [hz] at hju
          · rw [getD_set_ne true hje, ← unlisted listed hz j hjl, hAll j (by omega)] at hju
            cases hju
        · have hio : i + 1 < ops.size := by omega
          have hev : Ev ops a0 val i a.eval := by
            refine ⟨fun c => rfl, fun f => rfl, fun k hk => ?_, fun j d hd hjd => ?_⟩
            · rw [ha]
              refine fillF_other a0 _ _ fun j hj d hd he => ?_
              injection he with he
              simp only [List.all_eq_true, List.mem_range, bne_iff_ne, ne_eq] at hk
              exact hk j (by omega) (by rw [hd, he])
            · have hlt := c2 i j hd
              rw [ha]
              exact fillF_at a0 hjd (hdeps j hd) (c1 j d (by omega) hjd).1 (c1 j d (by omega) hjd).2 _ (by omega)
          obtain ⟨o', ho', hg, hy⟩ := hop i a.eval val w (by omega) hGw hev fun j hd => hV j (hdeps j hd)
          refine wpOp_mono (fun a' w' hk => ?_) (yields_wpOp (Q := Q) ho' hg hy)
          obtain ⟨v, hv, hVi, hGw', hrel⟩ := hk
          have hset : ∀ j, (listed.setIfInBounds i true).getD j false = if j = i then true else listed.getD j false := fun j => by
            by_cases hij : i = j
            · subst hij; simp [hz, hil]
            · rw [getD_set_ne false hij, if_neg (Ne.symm hij)]
          refine ih (listed.setIfInBounds i true) a' w' (fun j => if j = i then v else val j) (by simp [hz]) (by rw [getD_set_ne true (by omega)]; exact hlast) ?_ ?_ hGw' ?_ ?_
          · have := unl_set hil hz hun; omega
          · intro k j hk hd
            rw [hset] at hk ⊢
            by_cases hki : k = i
            · subst hki
              have := hdeps j hd
              simp [this]
            · rw [if_neg hki] at hk
              have := hdown k j hk hd
              simp [this]
          · intro k hk
            rw [hset] at hk
            by_cases hki : k = i
            · subst hki; simpa using hVi
            · rw [if_neg hki] at hk
              simpa [hki] using hst k _ w w' (hV k hk) hrel
          · rw [hv, ha]
            have hd : dstOf ops i = o'.dst := by unfold dstOf; rw [ho']; rfl
            rw [← hd, ← fillF_set a0 v hunF (fun j hj d h1 h2 => ?_) _ (by omega)]
            · exact fillF_congr a0 _ fun j _ => ⟨(hset j).symm, fun _ => rfl⟩
            · exact (c1 i d hil h2).2 j hj h1
  have r0 : ∀ i, (Array.replicate ops.size false).getD i false = false := fun i => by rcases Nat.lt_or_ge i ops.size with h | h <;> simp [h]
  refine wp_region_any hm (key ops.size _ a0 _ (fun _ => undef) (by simp) (by have hh : ops.size - 1 < ops.size := (by omega); simp [hh]) ?_ ?_ hG ?_ ?_)
  · unfold unl; exact Nat.le_trans List.countP_le_length (by simp)
  · intro i j h; rw [r0] at h; cases h
  · intro i h; rw [r0] at h; cases h
  · have h0 : ∀ n, fillF ops (fun _ => undef) (fun i => (Array.replicate ops.size false).getD i false) a0 n = a0 := by
      intro n
      induction n with
      | zero => rfl
      | succ n ih => unfold fillF; rw [r0, ih]; simp
    exact (h0 _).symm
end
end Go.Proofs.Ytoklllbaihccnaa
namespace Go.Proofs.Ytoklllbaihccnaa
open Go

section
variable {P : Program} {ops : Array Oper} {Q : Exit → Act → World → Prop} {ob : Nat → World → World → Prop} {S1 : World → Prop}
theorem wpAnyG_firstT {i : Nat} {oi : Oper} {v : Value} (dep : Nat → Bool) (hi : ops[i]? = some oi) (hsel : ∀ (j : Nat) (o : Oper) cs b, ops[j]? = some o → o.op ≠ .select cs b)
    (hQ : ∀ c a w, Q (.panic c) (a.put oi.dst v) w → Q (.panic c) a w) (hob : ∀ w, ob i w w)
    (hdep : ∀ j oj, ops[j]? = some oj → dep j = true → ∃ e ∈ oj.after, Region.binds .any e = true ∧ (e.on = i ∨ dep e.on = true)) :
    ∀ (fuel : Nat) (listed : Array Bool) (a : Act) (w : World),
      (∀ j, dep j = true → listed[j]? = some false) →
      (∀ j oj, ops[j]? = some oj → j ≠ i → listed.getD j true = false → dep j = false → oi.apart ops oj = true ∧ ∀ w w', S1 w → ob j w w' → S1 w') →
      i ∈ Region.ready .any ops listed → YieldsIf P ops S1 oi v a → S1 w →
      wpAnyG P ops Q ob fuel (listed.setIfInBounds i true) (a.put oi.dst v) w → wpAnyG P ops Q ob (fuel + 1) listed a w := by
  intro fuel
  induction fuel with
  | zero =>
    intro listed a w _ _ hr hy hS H
    refine ⟨fun h => (by rw [h] at hr; cases hr), fun j hj => ?_⟩
    by_cases hji : j = i
    · subst hji; exact hy.wpOp hi hS ⟨hob w, H⟩
    · have := ready_mono hj hji
      rw [H.1] at this
      cases this
  | succ fuel ih =>
    intro listed a w hun hfree hr hy hS H
    refine ⟨fun h => (by rw [h] at hr; cases hr), fun j hj => ?_⟩
    by_cases hji : j = i
    · subst hji; exact hy.wpOp hi hS ⟨hob w, H⟩
    · have h1 := H.2 j (ready_mono hj hji)
      obtain ⟨hjun, oj, hoj, hall⟩ := mem_ready.1 hj
      have hnot : dep j = false := by
        rcases hd : dep j with _ | _
        · rfl
        · exfalso
          obtain ⟨e, he, hb, hk⟩ := hdep j oj hoj hd
          have h2 := hall e he hb
          rcases hk with hk | hk
          · have h0 := (mem_ready.1 hr).1
            rw [hk] at h2
            rcases Nat.lt_or_ge i listed.size with h' | h'
            · simp [h'] at h0 h2; rw [h0] at h2; cases h2
            · simp [Array.getElem?_eq_none h'] at h2
          · have h3 := hun _ hk
            simp only [Array.getD_eq_getD_getElem?, h3] at h2
            simp at h2
      obtain ⟨hap, hnd⟩ := hfree j oj hoj hji hjun hnot
      have h2 := wpOp_putIf hoj hap (fun cs b => hsel i oi cs b hi) (fun cs b => hsel j oj cs b hoj) hQ hy h1
      have hfree' : ∀ k ok, ops[k]? = some ok → k ≠ i → (listed.setIfInBounds j true).getD k true = false →
          dep k = false → oi.apart ops ok = true ∧ ∀ w w', S1 w → ob k w w' → S1 w' := fun k ok hk hki hun hno => by
        refine hfree k ok hk hki ?_ hno
        by_cases hjk : j = k
        · subst hjk; exact hjun
        · rw [getD_set_ne true hjk] at hun; exact hun
      have hun' : ∀ k, dep k = true → (listed.setIfInBounds j true)[k]? = some false := fun k hk => by
        rw [Array.getElem?_setIfInBounds_ne (fun e => by rw [e, hk] at hnot; cases hnot)]
        exact hun k hk
      refine wpOp_mono (fun a' w' h3 => ⟨h3.2.1, ih (listed.setIfInBounds j true) a' w' hun' hfree' (ready_mono hr (Ne.symm hji)) h3.1 (hnd w w' hS h3.2.1) ?_⟩) h2
      rw [Array.setIfInBounds_comm _ _ hji]
      exact h3.2.2
end

section
variable {P : Program} {ops : Array Oper} {Q : Exit → Act → World → Prop} {S : World → Prop} {T U need : Nat → Bool}
/-- which ones wait for number i, through others too -/
def waits (ops : Array Oper) (listed : Array Bool) (i : Nat) : Array Bool :=
  (List.range ops.size).foldl (fun d j => d.push (!listed.getD j true && match ops[j]? with
    | some oj => oj.after.any fun e => Region.binds .any e && (e.on == i || d.getD e.on false)
    | none => false)) #[]
def waitsOk (ops : Array Oper) (listed : Array Bool) (i : Nat) (d : Array Bool) : Bool :=
  d.size == ops.size && (List.range ops.size).all fun j => !d.getD j false || (listed[j]? == some false && match ops[j]? with
    | some oj => oj.after.any fun e => Region.binds .any e && (e.on == i || d.getD e.on false)
    | none => false)
/-- number i may be taken now -/
def seqFreeT (ops : Array Oper) (T U need : Nat → Bool) (listed : Array Bool) (i : Nat) (d : Array Bool) : Bool :=
  match ops[i]? with
  | none => false
  | some oi => (List.range ops.size).all fun j => j == i || listed.getD j true || match ops[j]? with
      | some oj => d.getD j false || (oi.apart ops oj && (!U i || (T j || need j)))
      | none => true
def seqOkT (ops : Array Oper) (T U need : Nat → Bool) : List Nat → Array Bool → Bool
  | [], listed => (Region.ready .any ops listed).isEmpty
  | i :: r, listed => (if T i then (Region.ready .any ops listed).contains i && (let d := waits ops listed i; waitsOk ops listed i d && seqFreeT ops T U need listed i d) else Region.ready .any ops listed == [i]) && seqOkT ops T U need r (listed.setIfInBounds i true)

theorem wpAnyG_of_seqT (hsel : Region.noSelect ops = true) : ∀ (order : List Nat) (listed : Array Bool) (a : Act) (w : World), seqOkT ops T U need order listed = true → wpSeq P ops Q S T U need order a w → wpAnyG P ops Q (seqOb S T need) order.length listed a w
  | [], listed, a, w, hc, h => by
    simp only [seqOkT, List.isEmpty_iff] at hc
    exact ⟨hc, h⟩
  | i :: r, listed, a, w, hc, h => by
    simp only [seqOkT, Bool.and_eq_true] at hc
    obtain ⟨h1, h2⟩ := hc
    unfold wpSeq at h
    by_cases hT : T i = true
    · rw [if_pos hT] at h1 h
      obtain ⟨o, v, ho, hy, hS, hQ, hk⟩ := h
      simp only [Bool.and_eq_true] at h1
      generalize waits ops listed i = d at h1
      obtain ⟨h1a, h1b, h1c⟩ := h1
      simp only [waitsOk, Bool.and_eq_true, beq_iff_eq, List.all_eq_true, List.mem_range] at h1b
      obtain ⟨hds, hda⟩ := h1b
      have hdl : ∀ j, d.getD j false = true → j < ops.size := fun j hj => by
        rcases Nat.lt_or_ge j d.size with h | h
        · omega
        · rw [Array.getD_eq_getD_getElem?, Array.getElem?_eq_none h] at hj; cases hj
      refine wpAnyG_firstT (fun j => d.getD j false) ho (Region.noSelect_spec hsel) hQ (fun w => by unfold seqOb; rw [if_pos hT]) ?_ r.length listed a w ?_ ?_ (by simpa using h1a) hy hS (wpAnyG_of_seqT hsel r _ _ _ h2 hk)
      · intro j oj hj hd
        have := hda j (hdl j hd)
        simp only [hd, Bool.not_true, Bool.false_or, hj, Bool.and_eq_true] at this
        obtain ⟨e, he, hb⟩ := Array.any_eq_true'.1 this.2
        simp only [Bool.and_eq_true, Bool.or_eq_true, beq_iff_eq] at hb
        exact ⟨e, he, hb.1, hb.2⟩
      · intro j hd
        have := hda j (hdl j hd)
        simp only [hd, Bool.not_true, Bool.false_or, Bool.and_eq_true, beq_iff_eq] at this
        exact this.1
      · intro j oj hj hne hun hno
        simp only [seqFreeT, ho, List.all_eq_true, List.mem_range] at h1c
        have hf1 := h1c j (Array.getElem?_eq_some_iff.1 hj).1
        simp only [hj, Bool.or_eq_true, beq_iff_eq, hne, false_or, hun, hno, Bool.false_eq_true, Bool.and_eq_true, Bool.not_eq_eq_eq_not, Bool.not_true] at hf1
        obtain ⟨hf1, hf2⟩ := hf1
        refine ⟨hf1, fun w w' hs hob hu => ?_⟩
        rcases hf2 with hf2 | hf2
        · rw [hf2] at hu; cases hu
        · unfold seqOb at hob
          by_cases hTj : T j = true
          · rw [if_pos hTj] at hob; rw [hob]; exact hs hu
          · rw [if_neg hTj] at hob
            rcases hf2 with hf2 | hf2
            · exact absurd hf2 hTj
            · exact hob hf2
    · rw [if_neg hT] at h1 h
      have hr : Region.ready .any ops listed = [i] := by simpa using h1
      refine ⟨fun h0 => (by rw [hr] at h0; cases h0), fun j hj => ?_⟩
      rw [hr] at hj
      simp only [List.mem_singleton] at hj
      subst hj
      exact wpOp_mono (fun a' w' h3 => ⟨by unfold seqOb; rw [if_neg hT]; exact h3.1, wpAnyG_of_seqT hsel r _ _ _ h2 h3.2⟩) h

theorem wp_region_seqT {id : Nat} {a : Act} {w : World} (T U need : Nat → Bool) (order : List Nat) (S : World → Prop) (hm : P.follows .mixedOrders = true) (hsel : Region.noSelect ops = true) (hlen : order.length = ops.size)
    (hc : seqOkT ops T U need order (Array.replicate ops.size false) = true) (h : wpSeq P ops Q S T U need order a w.drew) : (Code.region id ops true).wp P Q a w :=
  wp_region_any hm (by have := wpAny_of_G _ _ _ _ (wpAnyG_of_seqT hsel order _ a w.drew hc h); rw [hlen] at this; exact this)
end
end Go.Proofs.Ytoklllbaihccnaa
namespace Go.Proofs.Ytoklllbaihccnaa
open Go

section
variable {P : Program} {ops : Array Oper} {Q : Exit → Act → World → Prop}
theorem wp_region_concD {id : Nat} {a0 : Act} {w : World} (V : Nat → Value → World → Prop) (D : Nat → Value → Nat → Value → Prop) (G : World → Prop) (Rel : World → World → Prop) (hm : P.follows .mixedOrders = true) (hchk : concOk ops a0.tmps.size = true)
    (n1 : Nat) (hn1 : ops.size = n1 + 1) (hst : ∀ i v w w', V i v w → Rel w w' → V i v w') (hG : G w.drew)
    (hop : ∀ (i : Nat) (ev : Operand → Value) (val : Nat → Value) (w : World) (T : Nat → Prop), i < n1 → G w → Ev ops a0 val i ev → (∀ j, T j → V j (val j) w) → (∀ j, T j → isDep ops j i = false) → (∀ j, isDep ops i j = true → V j (val j) w) → ∃ o, ops[i]? = some o ∧ o.guard = none ∧ yields P o ev w fun v w' => V i v w' ∧ G w' ∧ Rel w w' ∧ ∀ j, T j → D i v j (val j))
    (hend : ∀ (val : Nat → Value) (w : World), G w → (∀ i, i < n1 → V i (val i) w) → (∀ i j, i < n1 → j < n1 → i ≠ j → D i (val i) j (val j) ∨ D j (val j) i (val i)) → wpOp P ops Q n1 (Q .normal) (fillA ops val a0 n1) w) : (Code.region id ops true).wp P Q a0 w := by
  obtain ⟨c0, c1, c2, c3⟩ := concOk_at hchk
  have hn2 : n1 = ops.size - 1 := by omega
  subst hn2
  have key : ∀ (fuel : Nat) (listed : Array Bool) (a : Act) (w : World) (val : Nat → Value), listed.size = ops.size → listed.getD (ops.size - 1) true = false → unl ops.size listed ≤ fuel →
      (∀ i j, listed.getD i false = true → isDep ops i j = true → listed.getD j false = true) → G w → (∀ i, listed.getD i false = true → V i (val i) w) → (∀ i j, listed.getD i false = true → listed.getD j false = true → i ≠ j → D i (val i) j (val j) ∨ D j (val j) i (val i)) → a = fillF ops val (fun i => listed.getD i false) a0 (ops.size - 1) → wpAny P .any ops Q fuel listed a w := by
    intro fuel
    have unlisted : ∀ (listed : Array Bool), listed.size = ops.size → ∀ i, i < ops.size → listed.getD i false = listed.getD i true := fun listed hz i hi => by simp [hz, hi]
    induction fuel with
    | zero =>
      intro listed a w val hz hlast hf _ _ _ _ _
      exfalso
      unfold unl at hf
      have : ops.size - 1 ∈ (List.range ops.size).filter fun i => !listed.getD i true := List.mem_filter.2 ⟨List.mem_range.2 (by omega), by rw [hlast]; rfl⟩
      rw [List.countP_eq_length_filter] at hf
      have := List.length_pos_of_mem this
      omega
    | succ fuel ih =>
      intro listed a w val hz hlast hf hdown hGw hV hDD ha
      refine ⟨fun hr => ?_, fun i hi => ?_⟩
      · exfalso
        -- the first one that was not taken is ready
        have ex : ∀ n, n ≤ ops.size → (∃ i, i < n ∧ listed.getD i false = false) → ∃ i, i ∈ Region.ready .any ops listed := by
          intro n
          induction n with
          | zero => intro _ ⟨i, hi, _⟩; omega
          | succ n ihn =>
            intro hn ⟨i, hi, hl⟩
            by_cases hex : ∃ i, i < n ∧ listed.getD i false = false
            · exact ihn (by omega) hex
            · have hin : i = n := by rcases Nat.lt_or_ge i n with h' | h'; exact absurd ⟨i, h', hl⟩ hex; omega
              subst hin
              refine ⟨i, mem_ready.2 ⟨by rw [← unlisted listed hz i (by omega)]; exact hl, ops[i], Array.getElem?_eq_getElem (by omega), fun e he hb => ?_⟩⟩
              have hd : isDep ops i e.on = true := by
                unfold isDep
                rw [Array.getElem?_eq_getElem (by omega : i < ops.size)]
                exact Array.any_eq_true'.2 ⟨e, he, by simp [hb]⟩
              have hlt := c2 i e.on hd
              cases hc : listed.getD e.on false with
              | true => rfl
              | false => exact absurd ⟨e.on, hlt, hc⟩ hex
        obtain ⟨i, hi⟩ := ex ops.size (Nat.le_refl _) ⟨ops.size - 1, by omega, by rw [unlisted listed hz _ (by omega)]; exact hlast⟩
        rw [hr] at hi
        cases hi
      · obtain ⟨hun, o, ho, hall⟩ := mem_ready.1 hi
        have hil : i < ops.size := (Array.getElem?_eq_some_iff.1 ho).1
        have hdeps : ∀ j, isDep ops i j = true → listed.getD j false = true := fun j hd => by
          unfold isDep at hd
          rw [ho] at hd
          obtain ⟨e, he, hb⟩ := Array.any_eq_true'.1 hd
          simp only [Bool.and_eq_true, beq_iff_eq] at hb
          rw [← hb.2]
          exact hall e he hb.1
        have hunF : listed.getD i false = false := by rw [unlisted listed hz i hil]; exact hun
        by_cases hl : i + 1 = ops.size
        · -- the last one
          have hi1 : i = ops.size - 1 := by omega
          have hallL : ∀ k j, j + k + 1 = ops.size → 0 < k → listed.getD j false = true := by
            intro k
            induction k using Nat.strongRecOn with
            | ind k ihk =>
              intro j hj hk
              obtain ⟨i', hi', hd⟩ := c3 j (by omega)
              have hlt := c2 i' j hd
              by_cases he : i' = i
              · subst he; exact hdeps j hd
              · exact hdown i' j (ihk (ops.size - 1 - i') (by omega) i' (by omega) (by omega)) hd
          have hAll : ∀ j, j < ops.size - 1 → listed.getD j false = true := fun j hj => hallL (ops.size - 1 - j) j (by omega) (by omega)
          have hE := hend val w hGw (fun j hj => hV j (hAll j (by omega))) fun k j hk hj hne => hDD k j (hAll k (by omega)) (hAll j (by omega)) hne
          rw [ha, fillF_all a0 _ fun j hj => hAll j hj, hi1]
          refine wpOp_mono (fun a' w' hq => ?_) hE
          refine wpAny_all ?_ hq fuel
          refine List.eq_nil_iff_forall_not_mem.2 fun j hj => ?_
          obtain ⟨hju, oj, hoj, _⟩ := mem_ready.1 hj
          have hjl : j < ops.size := (Array.getElem?_eq_some_iff.1 hoj).1
          by_cases hje : ops.size - 1 = j
          · subst hje; simp [hz] at hju
          · rw [getD_set_ne true hje, ← unlisted listed hz j hjl, hAll j (by omega)] at hju
            cases hju
        · have hio : i + 1 < ops.size := by omega
          have hev : Ev ops a0 val i a.eval := by
            refine ⟨fun c => rfl, fun f => rfl, fun k hk => ?_, fun j d hd hjd => ?_⟩
            · rw [ha]
              refine fillF_other a0 _ _ fun j hj d hd he => ?_
              injection he with he
              simp only [List.all_eq_true, List.mem_range, bne_iff_ne, ne_eq] at hk
              exact hk j (by omega) (by rw [hd, he])
            · have hlt := c2 i j hd
              rw [ha]
              exact fillF_at a0 hjd (hdeps j hd) (c1 j d (by omega) hjd).1 (c1 j d (by omega) hjd).2 _ (by omega)
          obtain ⟨o', ho', hg, hy⟩ := hop i a.eval val w (fun j => listed.getD j false = true) (by omega) hGw hev (fun j hj => hV j hj) (fun j hj => by
            cases hc : isDep ops j i with
            | false => rfl
            | true => have := hdown j i hj hc; rw [hunF] at this; cases this) fun j hd => hV j (hdeps j hd)
          refine wpOp_mono (fun a' w' hk => ?_) (yields_wpOp (Q := Q) ho' hg hy)
          obtain ⟨v, hv, hVi, hGw', hrel, hDi⟩ := hk
          have hset : ∀ j, (listed.setIfInBounds i true).getD j false = if j = i then true else listed.getD j false := fun j => by
            by_cases hij : i = j
            · subst hij; simp [hz, hil]
            · rw [getD_set_ne false hij, if_neg (Ne.symm hij)]
          refine ih (listed.setIfInBounds i true) a' w' (fun j => if j = i then v else val j) (by simp [hz]) (by rw [getD_set_ne true (by omega)]; exact hlast) ?_ ?_ hGw' ?_ ?_ ?_
          · have := unl_set hil hz hun; omega
          · intro k j hk hd
            rw [hset] at hk ⊢
            by_cases hki : k = i
            · subst hki
              have := hdeps j hd
              simp [this]
            · rw [if_neg hki] at hk
              have := hdown k j hk hd
              simp [this]
          · intro k hk
            rw [hset] at hk
            by_cases hki : k = i
            · subst hki; simpa using hVi
            · rw [if_neg hki] at hk
              simpa [hki] using hst k _ w w' (hV k hk) hrel
          · intro k j hk hj hne
            rw [hset] at hk hj
            by_cases hki : k = i
            · by_cases hji : j = i
              · omega
              · rw [if_neg hji] at hj
                refine .inl ?_
                simp only [hki, hji, if_true, if_false]
                exact hDi j hj
            · rw [if_neg hki] at hk
              by_cases hji : j = i
              · refine .inr ?_
                simp only [hki, hji, if_true, if_false]
                exact hDi k hk
              · rw [if_neg hji] at hj
                simp only [hki, hji, if_false]
                exact hDD k j hk hj hne
          · rw [hv, ha]
            have hd : dstOf ops i = o'.dst := by unfold dstOf; rw [ho']; rfl
            rw [← hd, ← fillF_set a0 v hunF (fun j hj d h1 h2 => ?_) _ (by omega)]
            · exact fillF_congr a0 _ fun j _ => ⟨(hset j).symm, fun _ => rfl⟩
            · exact (c1 i d hil h2).2 j hj h1
  have r0 : ∀ i, (Array.replicate ops.size false).getD i false = false := fun i => by rcases Nat.lt_or_ge i ops.size with h | h <;> simp [h]
  refine wp_region_any hm (key ops.size _ a0 _ (fun _ => undef) (by simp) (by have hh : ops.size - 1 < ops.size := (by omega); simp [hh]) ?_ ?_ hG ?_ ?_ ?_)
  · unfold unl; exact Nat.le_trans List.countP_le_length (by simp)
  · intro i j h; rw [r0] at h; cases h
  · intro i h; rw [r0] at h; cases h
  · intro i j h; rw [r0] at h; cases h
  · have h0 : ∀ n, fillF ops (fun _ => undef) (fun i => (Array.replicate ops.size false).getD i false) a0 n = a0 := by
      intro n
      induction n with
      | zero => rfl
      | succ n ih => unfold fillF; rw [r0, ih]; simp
    exact (h0 _).symm
end
end Go.Proofs.Ytoklllbaihccnaa

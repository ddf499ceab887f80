/- Parts of the proof, joined: BuP BuQ BuR BuS. -/
import Derived.Test.YtnhebmgibiomnaaGreatPa20
import Derived.Test.YtnhebmgibiomnaaGreatPa21
import Derived.Test.YtnhebmgibiomnaaGreatPa24
import Derived.Test.YtnhebmgibiomnaaGreatPa26
set_option linter.unusedVariables false
set_option linter.unusedSimpArgs false
namespace Go.Proofs.YtnhebmgibiomnaaGreat
namespace Sm
open Mc Hd
theorem loopE_len (body : List Sr.Reg) (top loops : Int) : (Bu.loopE body top loops).length = 1 + 16 * (1 + body.length) := by
  unfold Bu.loopE
  rw [List.length_cons, List.length_flatMap, show List.range 16 = [0, 1, 2, 3, 4, 5, 6, 7, 8, 9, 10, 11, 12, 13, 14, 15] from rfl]
  simp
  omega
end Sm
end Go.Proofs.YtnhebmgibiomnaaGreat
namespace Go.Proofs.YtnhebmgibiomnaaGreat
namespace Bu
theorem code_zero {l : List (Int × Int)} {cs : List Bd.Cost} (h : (Bd.code l cs).2.2 = 0) : Bd.code l cs = ((Bd.code l cs).1, 0, 0) := by
  have key : ∀ (n : Nat) (rr : List (Int × Int)) (at_ : Int) (s : Bd.St), (Bd.rest n cs rr at_ s).2.2 = 0 → (Bd.rest n cs rr at_ s).2.1 = 0 := by
    intro n rr
    induction rr with
    | nil => intro at_ s _; rfl
    | cons y rr ih2 =>
      intro at_ s hh
      unfold Bd.rest at hh ⊢
      split at hh
      · rename_i hq; simp only at hh; exact absurd hh hq
      · rename_i hq; rw [if_neg hq]; exact ih2 _ _ hh
  have h2 : (Bd.code l cs).2.1 = 0 := by
    unfold Bd.code at h ⊢
    split at h
    · rename_i hm
      rw [if_pos hm]
      exact key _ _ _ _ h
    · simp at h
  exact Prod.ext rfl (Prod.ext h2 h)
theorem funcsGo_facts : ∀ (r : List (List (Int × Int))) (i : Int) (cs : List Bd.Cost), (Bd.funcsGo r i cs).2.2 = 0 → ∃ more, (Bd.funcsGo r i cs).1 = cs ++ more ∧ more.length = r.length ∧ ∀ j lj, r[j]? = some lj → ∃ cj, more[j]? = some cj ∧ Bd.code lj (cs ++ more.take j) = (cj, 0, 0) := by
  intro r
  induction r with
  | nil => intro i cs _; exact ⟨[], by simp [Bd.funcsGo], rfl, fun j lj h => by simp at h⟩
  | cons l r ih =>
    intro i cs h
    unfold Bd.funcsGo at h ⊢
    split at h
    · rename_i hne; simp only at h; exact absurd h hne
    · rename_i hz
      rw [if_neg hz]
      have hz : (Bd.code l cs).2.2 = 0 := by omega
      obtain ⟨more, h1, h2, h3⟩ := ih (i + 1) (cs ++ [(Bd.code l cs).1]) h
      refine ⟨(Bd.code l cs).1 :: more, by rw [h1, List.append_assoc]; rfl, by simp [h2], fun j lj hj => ?_⟩
      cases j with
      | zero =>
        simp only [List.getElem?_cons_zero, Option.some.injEq] at hj
        subst hj
        exact ⟨_, rfl, by rw [List.take_zero, List.append_nil]; exact code_zero hz⟩
      | succ j =>
        obtain ⟨cj, h4, h5⟩ := h3 j lj (by simpa using hj)
        refine ⟨cj, by simpa using h4, ?_⟩
        rw [List.take_succ_cons, ← h5, List.append_assoc]
        rfl
theorem funcs_facts {ll : List (List (Int × Int))} (h : (Bd.funcs ll).2.2 = 0) : ll.length ≤ 20 ∧ (Bd.funcs ll).1.length = ll.length ∧ ∀ j lj, ll[j]? = some lj → ∃ cj, (Bd.funcs ll).1[j]? = some cj ∧ Bd.code lj ((Bd.funcs ll).1.take j) = (cj, 0, 0) := by
  unfold Bd.funcs at h ⊢
  split at h
  · simp at h
  · rename_i h20
    rw [if_neg h20]
    obtain ⟨more, h1, h2, h3⟩ := funcsGo_facts ll 0 [] h
    rw [h1, List.nil_append]
    exact ⟨by omega, h2, fun j lj hj => by simpa using h3 j lj hj⟩
theorem plans_facts (fs : List Bd.Cost) : ∀ (r : List (List (Int × Int))) (ps : List Plan), ∃ more, plans fs r ps = ps ++ more ∧ more.length = r.length ∧ ∀ j lj, r[j]? = some lj → more[j]? = some (planned lj fs (ps ++ more.take j)) := by
  intro r
  induction r with
  | nil => intro ps; exact ⟨[], by simp [plans], rfl, fun j lj h => by simp at h⟩
  | cons l r ih =>
    intro ps
    obtain ⟨more, h1, h2, h3⟩ := ih (ps ++ [planned l fs ps])
    refine ⟨planned l fs ps :: more, by rw [plans, h1, List.append_assoc]; rfl, by simp [h2], fun j lj hj => ?_⟩
    cases j with
    | zero =>
      simp only [List.getElem?_cons_zero, Option.some.injEq] at hj
      subst hj
      simp
    | succ j =>
      have := h3 j lj (by simpa using hj)
      rw [List.getElem?_cons_succ, this, List.take_succ_cons, List.append_assoc]
      rfl
theorem emits_facts : ∀ (r : List Plan) (es : List Emit), ∃ more, emits r es = es ++ more ∧ more.length = r.length ∧ ∀ j pj, r[j]? = some pj → more[j]? = some (emitE (es ++ more.take j) pj) := by
  intro r
  induction r with
  | nil => intro ps; exact ⟨[], by simp [emits], rfl, fun j lj h => by simp at h⟩
  | cons l r ih =>
    intro es
    obtain ⟨more, h1, h2, h3⟩ := ih (es ++ [emitE es l])
    refine ⟨emitE es l :: more, by rw [emits, h1, List.append_assoc]; rfl, by simp [h2], fun j lj hj => ?_⟩
    cases j with
    | zero =>
      simp only [List.getElem?_cons_zero, Option.some.injEq] at hj
      subst hj
      simp
    | succ j =>
      have := h3 j lj (by simpa using hj)
      rw [List.getElem?_cons_succ, this, List.take_succ_cons, List.append_assoc]
      rfl
theorem growth_congr {fs fs' : List Bd.Cost} (x : Int × Int) (h : (x.1 = 37 ∨ x.1 = 38) → Bd.fn fs x.2 = Bd.fn fs' x.2) : growth x fs = growth x fs' := by
  unfold growth
  by_cases h37 : x.1 = 37
  · rw [h (.inl h37)]
  · by_cases h38 : x.1 = 38
    · rw [h (.inr h38)]
    · simp only [h37, h38, if_false]
theorem sizeOf_congr {ps ps' : List Plan} (x : Int × Int) (h : (x.1 = 37 ∨ x.1 = 38) → pl ps x.2 = pl ps' x.2) : sizeOf x ps = sizeOf x ps' := by
  unfold sizeOf
  by_cases h37 : x.1 = 37
  · rw [h (.inl h37)]
  · by_cases h38 : x.1 = 38
    · rw [h (.inr h38)]
    · simp only [h37, h38, if_false]
theorem planGo_congr {fs fs' : List Bd.Cost} {ps ps' : List Plan} : ∀ (l : List (Int × Int)) (i : Nat) (s : PSt), (∀ x ∈ l, growth x fs = growth x fs' ∧ sizeOf x ps = sizeOf x ps') → planGo fs ps l i s = planGo fs' ps' l i s
  | [], _, _, _ => rfl
  | x :: l, i, s, h => by
    obtain ⟨h1, h2⟩ := h x (by simp)
    rw [planGo, planGo, show plan1 fs ps i x s = plan1 fs' ps' i x s by unfold plan1; rw [h1, h2]]
    exact planGo_congr l _ _ fun y hy => h y (by simp [hy])
theorem planned_congr {fs fs' : List Bd.Cost} {ps ps' : List Plan} {l : List (Int × Int)} (h : ∀ x ∈ l, growth x fs = growth x fs' ∧ sizeOf x ps = sizeOf x ps') : planned l fs ps = planned l fs' ps' := by
  unfold planned
  rw [planGo_congr l 0 _ h]
theorem stepE_congr {es es' : List Emit} (x : Int × Int) (h : (x.1 = 37 ∨ x.1 = 38) → em es x.2 = em es' x.2) (next loops : Int) : stepE es x next loops = stepE es' x next loops := by
  unfold stepE
  by_cases h37 : x.1 = 37
  · rw [h (.inl h37)]
  · by_cases h38 : x.1 = 38
    · rw [h (.inr h38)]
    · simp only [h37, h38, if_false]
theorem emitE_congr {es es' : List Emit} {p : Plan} (h : ∀ s ∈ p.steps, (s.op = 37 ∨ s.op = 38) → em es s.a = em es' s.a) : emitE es p = emitE es' p := by
  funext high loops
  have : pieces es p high loops = pieces es' p high loops := by
    unfold pieces
    refine List.map_congr_left fun s hs => stepE_congr _ (h s hs) _ _
  unfold emitE
  simp only [this]
def sumZ (ps : List Plan) (l : List PS) : Int := (l.map fun s => sizeOf (s.op, s.a) ps).sum
theorem st_src (fs : List Bd.Cost) (ps : List Plan) (l : List (Int × Int)) : ∀ i, i ≤ l.length → (∀ k s, (st fs ps l i).steps[k]? = some s → ∃ i' x, i' < i ∧ l[i']? = some x ∧ kn fs ps l i' = true ∧ cnt fs ps l i' = k ∧ 0 < sizeOf x ps ∧ s = ⟨x.1, x.2, (st fs ps l i').high.getD i' 0, i' + 1 + jump x⟩) ∧
    (st fs ps l i).size = min 20001 (sumZ ps (st fs ps l i).steps) := by
  intro i
  induction i with
  | zero => intro _; exact ⟨fun k s h => by simp [st, planGo, start] at h, by simp only [st, planGo, start, sumZ, List.take_zero, List.map_nil, List.sum_nil]; omega⟩
  | succ i ih =>
    intro hi
    obtain ⟨x, hx⟩ : ∃ x, l[i]? = some x := ⟨_, List.getElem?_eq_getElem (by omega)⟩
    obtain ⟨h1, h2⟩ := ih (by omega)
    have hs := st_succ fs ps hx
    by_cases hk : kn fs ps l i = true
    · have hk' := hk
      unfold kn at hk'
      unfold plan1 at hs
      rw [if_neg (by simpa using hk')] at hs
      by_cases hz : 0 < sizeOf x ps
      · have e1 : (st fs ps l (i + 1)).steps = (st fs ps l i).steps ++ [⟨x.1, x.2, (st fs ps l i).high.getD i 0, i + 1 + jump x⟩] := by rw [hs]; dsimp only; rw [if_pos hz]
        have e2 : (st fs ps l (i + 1)).size = min ((st fs ps l i).size + sizeOf x ps) 20001 := by rw [hs]; dsimp only; rw [if_pos hz]
        refine ⟨fun k s hks => ?_, ?_⟩
        · rw [e1] at hks
          by_cases hkl : k < (st fs ps l i).steps.length
          · rw [List.getElem?_append_left hkl] at hks
            obtain ⟨i', x', q1, q2⟩ := h1 k s hks
            exact ⟨i', x', by omega, q2⟩
          · rw [List.getElem?_append_right (by omega)] at hks
            have hk0 : k - (st fs ps l i).steps.length = 0 := by
              have := (List.getElem?_eq_some_iff.1 hks).1
              simp only [List.length_cons, List.length_nil] at this
              omega
            rw [hk0] at hks
            simp only [List.getElem?_cons_zero, Option.some.injEq] at hks
            exact ⟨i, x, by omega, hx, hk, by unfold cnt; omega, hz, hks.symm⟩
        · rw [e2, e1, h2]
          have : sumZ ps ((st fs ps l i).steps ++ [⟨x.1, x.2, (st fs ps l i).high.getD i 0, i + 1 + jump x⟩]) = sumZ ps (st fs ps l i).steps + sizeOf x ps := by
            unfold sumZ
            simp
          rw [this]
          omega
      · have e1 : (st fs ps l (i + 1)).steps = (st fs ps l i).steps := by rw [hs]; dsimp only; rw [if_neg hz]
        have e2 : (st fs ps l (i + 1)).size = (st fs ps l i).size := by rw [hs]; dsimp only; rw [if_neg hz]
        rw [e1, e2]
        exact ⟨fun k s hks => by obtain ⟨i', x', q1, q2⟩ := h1 k s hks; exact ⟨i', x', by omega, q2⟩, h2⟩
    · have hk' := hk
      unfold kn at hk'
      unfold plan1 at hs
      rw [if_pos (by simpa using hk')] at hs
      rw [hs]
      exact ⟨fun k s hks => by obtain ⟨i', x', q1, q2⟩ := h1 k s hks; exact ⟨i', x', by omega, q2⟩, h2⟩
theorem sumZ_map (ps : List Plan) (l : List PS) (f : PS → Nat) : sumZ ps (l.map fun p => { p with go := f p }) = sumZ ps l := by
  unfold sumZ
  rw [List.map_map]
  rfl
theorem sumZ_nonneg (ps : List Plan) : ∀ (l : List PS), (∀ s ∈ l, 0 < sizeOf (s.op, s.a) ps) → 0 ≤ sumZ ps l ∧ (∀ s ∈ l, sizeOf (s.op, s.a) ps ≤ sumZ ps l)
  | [], _ => ⟨by simp [sumZ], fun s h => by simp at h⟩
  | x :: l, h => by
    obtain ⟨h1, h2⟩ := sumZ_nonneg ps l fun s hs => h s (by simp [hs])
    have hx := h x (by simp)
    have e : sumZ ps (x :: l) = sizeOf (x.op, x.a) ps + sumZ ps l := by unfold sumZ; simp
    refine ⟨by omega, fun s hs => ?_⟩
    simp only [List.mem_cons] at hs
    rcases hs with rfl | hs
    · omega
    · have := h2 s hs
      omega
theorem planned_src {fs : List Bd.Cost} (ps : List Plan) {l : List (Int × Int)} {c : Bd.Cost} {P : List Bd.Place} (h : Hd.Tab l.length fs l c P) : ∀ k s, (planned l fs ps).steps[k]? = some s → ∃ i x, l[i]? = some x ∧ kn fs ps l i = true ∧ cnt fs ps l i = k ∧ 0 < sizeOf x ps ∧ s = ⟨x.1, x.2, (Bd.pat P i).high, cnt fs ps l (i + 1 + jump x)⟩ := by
  intro k s hs
  have hp := planned_of ps h
  have hk : k < (planned l fs ps).steps.length := (List.getElem?_eq_some_iff.1 hs).1
  have hpl : (planned l fs ps).steps = (st fs ps l l.length).steps.map fun p => { p with go := ((st fs ps l l.length).index.set l.length (st fs ps l l.length).steps.length).getD p.go 0 } := by
    unfold planned st
    rw [List.take_length]
  rw [hpl, List.length_map] at hk
  obtain ⟨i, x, h1, h2, h3, h4, h5, _⟩ := (st_src fs ps l l.length (Nat.le_refl _)).1 k _ (List.getElem?_eq_getElem hk)
  refine ⟨i, x, h2, h3, h4, h5, ?_⟩
  rcases (hp.step i x h2 h3).2 with ⟨_, q, _⟩ | ⟨q, _⟩
  · rw [h4, hs] at q
    exact Option.some.inj q
  · omega
theorem planned_size (fs : List Bd.Cost) (ps : List Plan) (l : List (Int × Int)) : (planned l fs ps).size = min 20001 (sumZ ps (planned l fs ps).steps) ∧ (∀ s ∈ (planned l fs ps).steps, 0 < sizeOf (s.op, s.a) ps ∧ (s.op, s.a) ∈ l) := by
  have e1 : (planned l fs ps).steps = (st fs ps l l.length).steps.map fun p => { p with go := ((st fs ps l l.length).index.set l.length (st fs ps l l.length).steps.length).getD p.go 0 } := by
    unfold planned st
    rw [List.take_length]
  have e2 : (planned l fs ps).size = (st fs ps l l.length).size := by
    unfold planned st
    rw [List.take_length]
  obtain ⟨h1, h2⟩ := st_src fs ps l l.length (Nat.le_refl _)
  rw [e2, h2, e1, sumZ_map]
  refine ⟨rfl, fun s hs => ?_⟩
  obtain ⟨s', hs', rfl⟩ := List.mem_map.1 hs
  obtain ⟨k, hk⟩ := List.mem_iff_getElem?.1 hs'
  obtain ⟨i, x, _, q2, _, _, q5, rfl⟩ := h1 k s' hk
  exact ⟨q5, List.mem_of_getElem? q2⟩
theorem planned_bds (fs : List Bd.Cost) (ps : List Plan) (l : List (Int × Int)) : 0 ≤ (planned l fs ps).size ∧ (planned l fs ps).size ≤ 20001 ∧ ((planned l fs ps).size ≤ 0 → (planned l fs ps).steps = []) := by
  obtain ⟨h1, h2⟩ := planned_size fs ps l
  obtain ⟨h3, h4⟩ := sumZ_nonneg ps _ fun s hs => (h2 s hs).1
  refine ⟨by omega, by omega, fun hz => ?_⟩
  cases he : (planned l fs ps).steps with
  | nil => rfl
  | cons s r =>
    exfalso
    have q1 := h4 s (by rw [he]; simp)
    have q2 := (h2 s (by rw [he]; simp)).1
    omega
structure All (ll : List (List (Int × Int))) (fs : List Bd.Cost) (ps : List Plan) (es : List Emit) : Prop where
  l20 : ll.length ≤ 20
  fl : fs.length = ll.length
  pn : ps.length = ll.length
  el : es.length = ll.length
  fn : ∀ j lj, ll[j]? = some lj → ∃ cj P, fs[j]? = some cj ∧ Bd.code lj (fs.take j) = (cj, 0, 0) ∧ Hd.Tab lj.length (fs.take j) lj cj P ∧ pl ps j = planned lj (fs.take j) ps ∧ ps[j]? = some (planned lj (fs.take j) ps) ∧ em es j = emitE es (planned lj (fs.take j) ps) ∧ ps[j]? = some (planned lj fs (ps.take j))
theorem fn_take (fs : List Bd.Cost) {j : Nat} {a : Int} (h : a < j) (h0 : 0 ≤ a) : Bd.fn (fs.take j) a = Bd.fn fs a := by
  unfold Bd.fn
  rw [List.getD_eq_getElem?_getD, List.getD_eq_getElem?_getD, List.getElem?_take, if_pos (by omega)]
theorem pl_take (ps : List Plan) {j : Nat} {a : Int} (h : a < j) (h0 : 0 ≤ a) : pl (ps.take j) a = pl ps a := by
  unfold pl
  rw [List.getD_eq_getElem?_getD, List.getD_eq_getElem?_getD, List.getElem?_take, if_pos (by omega)]
theorem em_take (es : List Emit) {j : Nat} {a : Int} (h : a < j) (h0 : 0 ≤ a) : em (es.take j) a = em es a := by
  unfold em
  rw [List.getD_eq_getElem?_getD, List.getD_eq_getElem?_getD, List.getElem?_take, if_pos (by omega)]
theorem tab_calls {n : Nat} {fs : List Bd.Cost} {l : List (Int × Int)} {c : Bd.Cost} {P : List Bd.Place} (h : Hd.Tab n fs l c P) (x : Int × Int) (hx : x ∈ l) (hc : x.1 = 37 ∨ x.1 = 38) : 0 ≤ x.2 ∧ x.2 < fs.length := by
  obtain ⟨i, hi⟩ := List.mem_iff_getElem?.1 hx
  exact (Hd.always_ok (h.ok i x hi).al).2.2 hc
theorem all_of {ll : List (List (Int × Int))} (h : (Bd.funcs ll).2.2 = 0) : All ll (Bd.funcs ll).1 (plans (Bd.funcs ll).1 ll []) (emits (plans (Bd.funcs ll).1 ll []) []) := by
  obtain ⟨h20, hfl, hf⟩ := funcs_facts h
  generalize (Bd.funcs ll).1 = fs at *
  obtain ⟨ps, h1, h2, h3⟩ := plans_facts fs ll []
  rw [List.nil_append] at h1
  rw [h1]
  obtain ⟨es, h4, h5, h6⟩ := emits_facts ps []
  rw [List.nil_append] at h4
  rw [h4]
  refine ⟨h20, hfl, h2, h5.trans h2, fun j lj hj => ?_⟩
  obtain ⟨cj, hcj, hcode⟩ := hf j lj hj
  obtain ⟨P, hP⟩ := Hd.code_tab hcode
  have hjl := (List.getElem?_eq_some_iff.1 hj).1
  have htl : (fs.take j).length = j := by rw [List.length_take]; omega
  have hp0 := h3 j lj hj
  rw [List.nil_append] at hp0
  have hpe : planned lj fs (ps.take j) = planned lj (fs.take j) ps := planned_congr fun x hx => by
    refine ⟨(growth_congr x fun hc => ?_), sizeOf_congr x fun hc => ?_⟩
    · obtain ⟨q1, q2⟩ := tab_calls hP x hx hc
      exact (fn_take fs (by omega) q1).symm
    · obtain ⟨q1, q2⟩ := tab_calls hP x hx hc
      exact pl_take ps (by omega) q1
  have hp := hp0
  rw [hpe] at hp
  have hpl : Bu.pl ps j = planned lj (fs.take j) ps := by
    unfold Bu.pl
    rw [Int.toNat_natCast, List.getD_eq_getElem?_getD, hp]
    rfl
  have he := h6 j _ hp
  rw [List.nil_append] at he
  refine ⟨cj, P, hcj, hcode, hP, hpl, hp, ?_, hp0⟩
  unfold em
  rw [Int.toNat_natCast, List.getD_eq_getElem?_getD, he]
  refine emitE_congr fun s hs hc => ?_
  obtain ⟨q1, q2⟩ := tab_calls hP (s.op, s.a) ((planned_size (fs.take j) ps lj).2 s hs).2 hc
  exact em_take es (by simp only at q2; omega) q1
end Bu
namespace Sm
open Mc Hd
end Sm
end Go.Proofs.YtnhebmgibiomnaaGreat
namespace Go.Proofs.YtnhebmgibiomnaaGreat
namespace Sm
open Mc Hd
def OkX (c : List Sr.Reg) (e : Nat) : Prop := ∀ (i : Nat) r, c[i]? = some r → r.op ≠ 42 ∧ (Sr.uses r.op).2 = true ∧ Sr.there r (Sr.uses r.op).1 = true ∧ (Sr.leaps r.op = true → 0 ≤ r.n ∧ (i : Int) + 1 + r.n ≤ c.length + e)
theorem OkX.mono {c : List Sr.Reg} {e e' : Nat} (h : OkX c e) (he : e ≤ e') : OkX c e' := fun i r hr => by
  obtain ⟨h1, h2, h3, h4⟩ := h i r hr
  exact ⟨h1, h2, h3, fun hl => by have := h4 hl; omega⟩
theorem OkX.append {a b : List Sr.Reg} {e : Nat} (h : OkX a (b.length + e)) (k : OkX b e) : OkX (a ++ b) e := fun i r hr => by
  by_cases hi : i < a.length
  · rw [List.getElem?_append_left hi] at hr
    obtain ⟨h1, h2, h3, h4⟩ := h i r hr
    exact ⟨h1, h2, h3, fun hl => by have := h4 hl; rw [List.length_append]; omega⟩
  · rw [List.getElem?_append_right (by omega)] at hr
    obtain ⟨h1, h2, h3, h4⟩ := k (i - a.length) r hr
    exact ⟨h1, h2, h3, fun hl => by have := h4 hl; rw [List.length_append]; omega⟩
theorem stepE_len {es : List Bu.Emit} {ps : List Bu.Plan} {x : Int × Int} (h0 : 0 < Bu.sizeOf x ps) (h1 : (x.1 = 37 ∨ x.1 = 38) → ∀ high loops, ((Bu.em es x.2 high loops).length : Int) ≤ (Bu.pl ps x.2).size) (next loops : Int) : ((Bu.stepE es x next loops).length : Int) ≤ Bu.sizeOf x ps := by
  unfold Bu.stepE
  split
  · simp only [List.length_nil]; omega
  · split
    · simp only [List.length_cons, List.length_nil]; omega
    · split
      · simp only [List.length_cons, List.length_nil]; omega
      · split
        · simp only [List.length_cons, List.length_nil]; omega
        · split
          · rename_i h4
            unfold Bu.sizeOf
            rw [if_pos h4]
            simp
          · split
            · simp only [List.length_cons, List.length_nil]; omega
            · split
              · simp only [List.length_cons, List.length_nil]; omega
              · split
                · rename_i h4 _ _ h37
                  have := h1 (.inl h37) next loops
                  unfold Bu.sizeOf
                  rw [if_neg h4, if_pos h37]
                  exact this
                · split
                  · rename_i h4 _ _ h37 h38
                    have := h1 (.inr h38) (next - 1) (loops + 1)
                    unfold Bu.sizeOf
                    rw [if_neg h4, if_neg h37, if_pos h38, loopE_len]
                    omega
                  · unfold Bu.plainE
                    (repeat' split) <;> (simp only [List.length_cons, List.length_nil]; omega)
theorem flat_sum (es : List Bu.Emit) (ps : List Bu.Plan) (high loops : Int) : ∀ (l : List Bu.PS), (∀ s ∈ l, ((Bu.stepE es (s.op, s.a) (high + s.high) loops).length : Int) ≤ Bu.sizeOf (s.op, s.a) ps) → (((l.map fun s => Bu.stepE es (s.op, s.a) (high + s.high) loops).flatten.length : Nat) : Int) ≤ Bu.sumZ ps l
  | [], _ => by simp [Bu.sumZ]
  | s :: l, h => by
    have h1 := flat_sum es ps high loops l fun t ht => h t (by simp [ht])
    have h2 := h s (by simp)
    have e : Bu.sumZ ps (s :: l) = Bu.sizeOf (s.op, s.a) ps + Bu.sumZ ps l := by unfold Bu.sumZ; simp
    rw [List.map_cons, List.flatten_cons, List.length_append, e]
    omega
theorem planned_len {fs : List Bd.Cost} {ps : List Bu.Plan} {es : List Bu.Emit} {l : List (Int × Int)} {c : Bd.Cost} {P : List Bd.Place} (h : Tab l.length fs l c P) (hg : ∀ j : Nat, j < fs.length → (Bu.pl ps j).size ≤ 20000 → ∀ high loops, ((Bu.em es j high loops).length : Int) ≤ (Bu.pl ps j).size) (hs : (Bu.planned l fs ps).size ≤ 20000) (hb : ∀ j : Nat, j < fs.length → 0 ≤ (Bu.pl ps j).size) (high loops : Int) : ((Bu.emitE es (Bu.planned l fs ps) high loops).length : Int) ≤ (Bu.planned l fs ps).size := by
  obtain ⟨h1, h2⟩ := Bu.planned_size fs ps l
  obtain ⟨_, h3⟩ := Bu.sumZ_nonneg ps _ fun s hs => (h2 s hs).1
  rw [Bu.emitE_len]
  refine Int.le_trans (flat_sum es ps high loops _ fun s hst => stepE_len (h2 s hst).1 (fun hc hi lo => ?_) _ _) (by omega)
  obtain ⟨q1, q2⟩ := Bu.tab_calls h _ (h2 s hst).2 hc
  simp only at q1 q2 hc
  obtain ⟨j, hj⟩ : ∃ j : Nat, s.a = j := ⟨s.a.toNat, by omega⟩
  have hsz := h3 s hst
  have hbj := hb j (by omega)
  simp only
  rw [hj]
  refine hg j (by omega) ?_ hi lo
  rw [hj] at hsz
  unfold Bu.sizeOf at hsz
  rcases hc with hc | hc
  · rw [if_neg (by simp only; omega), if_pos hc] at hsz
    simp only at hsz
    omega
  · rw [if_neg (by simp only; omega), if_neg (by simp only; omega), if_pos hc] at hsz
    simp only at hsz
    omega
theorem len_all {ll : List (List (Int × Int))} {fs : List Bd.Cost} {ps : List Bu.Plan} {es : List Bu.Emit} (h : Bu.All ll fs ps es) : ∀ (j : Nat), j < ll.length → 0 ≤ (Bu.pl ps j).size ∧ (Bu.pl ps j).size ≤ 20001 ∧ ((Bu.pl ps j).size ≤ 20000 → ∀ high loops, ((Bu.em es j high loops).length : Int) ≤ (Bu.pl ps j).size) := by
  intro j
  induction j using Nat.strongRecOn with
  | _ j ih =>
  intro hjl
  obtain ⟨cj, P, hcj, hcode, hP, hpl, hp, hem, _⟩ := h.fn j _ (List.getElem?_eq_getElem hjl)
  have hfl := h.fl
  have htl : (fs.take j).length = j := by rw [List.length_take]; omega
  obtain ⟨b1, b2, _⟩ := Bu.planned_bds (fs.take j) ps ll[j]
  rw [hpl, hem]
  exact ⟨b1, b2, fun hs hi lo => planned_len hP (fun i hi => (ih i (by omega) (by omega)).2.2) hs (fun i hi => (ih i (by omega) (by omega)).1) hi lo⟩
end Sm
end Go.Proofs.YtnhebmgibiomnaaGreat
namespace Go.Proofs.YtnhebmgibiomnaaGreat
open Go.RowKit
theorem tab_high {n : Nat} {fs : List Bd.Cost} {l : List (Int × Int)} {c : Bd.Cost} {P : List Bd.Place} (h : Hd.Tab n fs l c P) {i : Nat} {x : Int × Int} (hx : l[i]? = some x) (hk : (Bd.pat P i).known = true) : -32 ≤ (Bd.pat P i).high ∧ (Bd.pat P i).high ≤ 34 := by
  obtain ⟨h1, h2, _, _⟩ := (h.ok i x hx).kn hk
  have t := Bd.takes_bd x.1
  have l' := Bd.leaves_bd x.1
  have n1 := h.n1
  have k1 := h.k1
  unfold Bd.effect at h1 h2
  by_cases hc : Bd.calls x.1 = true
  · rw [if_pos hc] at h1 h2
    simp only at h1 h2
    omega
  · rw [if_neg hc] at h1 h2
    simp only at h1 h2
    omega
theorem tab_jump {fs : List Bd.Cost} {l : List (Int × Int)} {c : Bd.Cost} {P : List Bd.Place} (h : Hd.Tab l.length fs l c P) {i : Nat} {x : Int × Int} (hx : l[i]? = some x) : i + 1 + Bu.jump x ≤ l.length := by
  have hi := (List.getElem?_eq_some_iff.1 hx).1
  have hal := (Hd.always_ok (h.ok i x hx).al).2.1
  unfold Bu.jump
  split
  · rename_i h3
    have := hal h3
    omega
  · omega
theorem plan_fine {fs : List Bd.Cost} (ps : List Bu.Plan) {l : List (Int × Int)} {c : Bd.Cost} {P : List Bd.Place} (h : Hd.Tab l.length fs l c P) : PlanFine fs.length (Bu.planned l fs ps) := fun s hs => by
  obtain ⟨k, hk⟩ := List.mem_iff_getElem?.1 hs
  obtain ⟨i, x, hx, hkn, _, _, rfl⟩ := Bu.planned_src ps h k s hk
  have hp := Bu.planned_of ps h
  have hi := (List.getElem?_eq_some_iff.1 hx).1
  obtain ⟨b1, b2⟩ := tab_high h hx (hp.known i (by omega) hkn)
  refine ⟨fun hh => (Hd.always_ok (h.ok i x hx).al).2.2 hh, by simp only; omega, by simp only; omega, ?_⟩
  simp only
  rw [← hp.fin]
  exact Bu.cnt_mono fs ps l (tab_jump h hx) (Nat.le_refl _)
theorem fn_bd {fs : List Bd.Cost} (hm : fs.all Bd.mayBe = true) (a : Int) : -32 ≤ (Bd.fn fs a).delta ∧ (Bd.fn fs a).delta ≤ 32 := by
  unfold Bd.fn
  rw [List.getD_eq_getElem?_getD]
  cases he : fs[a.toNat]? with
  | none => exact ⟨by decide, by decide⟩
  | some c =>
    have := Bd.mayBe_bd (List.all_eq_true.1 hm c (List.mem_of_getElem? he))
    simp only [Option.getD_some]
    omega
theorem pl_bd {ps : List Bu.Plan} (hs : ∀ p ∈ ps, 0 ≤ p.size ∧ p.size ≤ 20001) (a : Int) : 0 ≤ (Bu.pl ps a).size ∧ (Bu.pl ps a).size ≤ 20001 := by
  unfold Bu.pl
  rw [List.getD_eq_getElem?_getD]
  cases he : ps[a.toNat]? with
  | none => exact ⟨by decide, by decide⟩
  | some c => exact hs c (List.mem_of_getElem? he)
theorem code_fine {fs' : List Bd.Cost} (fs : List Bd.Cost) (ps : List Bu.Plan) {l : List (Int × Int)} {c : Bd.Cost} {P : List Bd.Place} (h : Hd.Tab l.length fs' l c P) (hm : fs.all Bd.mayBe = true) (hs : ∀ p ∈ ps, 0 ≤ p.size ∧ p.size ≤ 20001) : Bu.CodeFine fs ps fs'.length l where
  jumps := fun i x hx => tab_jump h hx
  ahead := fun x hx h3 => by
    obtain ⟨i, hi⟩ := List.mem_iff_getElem?.1 hx
    exact ((Hd.always_ok (h.ok i x hi).al).2.1 h3).1
  calls := fun x hx hc => Bu.tab_calls h x hx hc
  grows := fun x _ => by
    have := fn_bd hm x.2
    unfold Bu.growth
    repeat' split
    all_goals omega
  sizes := fun x _ => by
    have := pl_bd hs x.2
    unfold Bu.sizeOf
    repeat' split
    all_goals omega
theorem planned_steps {fs : List Bd.Cost} {ps : List Bu.Plan} {k : Nat} {l : List (Int × Int)} (h : Bu.CodeFine fs ps k l) : (Bu.planned l fs ps).steps.length ≤ l.length := by
  have := (Bu.planGo_ok fs ps l k h l.length (Nat.le_refl _)).steps
  rw [List.take_length] at this
  unfold Bu.planned
  simpa using this
theorem emit_ok {ll : List (List (Int × Int))} {fs : List Bd.Cost} {ps : List Bu.Plan} {es : List Bu.Emit} (h : Bu.All ll fs ps es) (hm : fs.all Bd.mayBe = true) (hs : ∀ p ∈ ps, 0 ≤ p.size ∧ p.size ≤ 20001) (hn : ∀ l ∈ ll, l.length ≤ 100000) : ∀ j, j < ll.length → EmitOk es ps j := by
  intro j
  induction j using Nat.strongRecOn with
  | _ j ih =>
  intro hj
  obtain ⟨cj, P, hcj, hcode, hP, hpl, hp, hem, _⟩ := h.fn j _ (List.getElem?_eq_getElem hj)
  have hfl := h.fl
  have hpn := h.pn
  have htl : (fs.take j).length = j := by rw [List.length_take]; omega
  intro w B bb pv cv code p A c high loops hpj hL hB hst heb hlen
  rw [hp] at hpj
  injection hpj with hpj
  subst hpj
  rw [hem] at hlen ⊢
  have hmt : (fs.take j).all Bd.mayBe = true := List.all_eq_true.2 fun c hc => List.all_eq_true.1 hm c (List.mem_of_mem_take hc)
  have hfine := code_fine (fs.take j) ps hP hmt hs
  have hl := hn _ (List.getElem_mem hj)
  have hst' := planned_steps hfine
  have hpf := plan_fine ps hP
  rw [htl] at hpf
  exact bemit_any es ps j (by omega) (fun i hi => ih i hi (by omega)) _ hpf w B bb pv cv code A c high loops hL hB hst (by omega) heb hlen
end Go.Proofs.YtnhebmgibiomnaaGreat

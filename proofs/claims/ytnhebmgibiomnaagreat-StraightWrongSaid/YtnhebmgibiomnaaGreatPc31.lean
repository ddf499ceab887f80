/- Parts of the proof, joined: BuQ. -/
import Derived.Test.YtnhebmgibiomnaaGreatPc30
set_option linter.unusedVariables false
set_option linter.unusedSimpArgs false
namespace Go.Proofs.YtnhebmgibiomnaaGreat
namespace Bu
theorem code_zero {l : List (Int × Int)} {cs : List Bd.Cost} (h : (Bd.code l cs).2.2 = 0) : Bd.code l cs = ((Bd.code l cs).1, 0, 0) := by
  have key : ∀ (n : Nat) (rr : List (Int × Int)) (at_ : Int) (s : Bd.St), (Bd.rest n cs rr at_ s).2.2 = 0 → (Bd.rest n cs rr at_ s).2.1 = 0 := by
    intro n rr
    induction rr with
    | nil => intro at_ s _; rfl
    | cons y rr ih2 =>
      intro at_ s hh
      unfold Bd.rest at hh ⊢
      split at hh
      · rename_i hq; simp only at hh; exact absurd hh hq
      · rename_i hq; rw [if_neg hq]; exact ih2 _ _ hh
  have h2 : (Bd.code l cs).2.1 = 0 := by
    unfold Bd.code at h ⊢
    split at h
    · rename_i hm
      rw [if_pos hm]
      exact key _ _ _ _ h
    · simp at h
  exact Prod.ext rfl (Prod.ext h2 h)
theorem funcsGo_facts : ∀ (r : List (List (Int × Int))) (i : Int) (cs : List Bd.Cost), (Bd.funcsGo r i cs).2.2 = 0 → ∃ more, (Bd.funcsGo r i cs).1 = cs ++ more ∧ more.length = r.length ∧ ∀ j lj, r[j]? = some lj → ∃ cj, more[j]? = some cj ∧ Bd.code lj (cs ++ more.take j) = (cj, 0, 0) := by
  intro r
  induction r with
  | nil => intro i cs _; exact ⟨[], by simp [Bd.funcsGo], rfl, fun j lj h => by simp at h⟩
  | cons l r ih =>
    intro i cs h
    unfold Bd.funcsGo at h ⊢
    split at h
    · rename_i hne; simp only at h; exact absurd h hne
    · rename_i hz
      rw [if_neg hz]
      have hz : (Bd.code l cs).2.2 = 0 := by omega
      obtain ⟨more, h1, h2, h3⟩ := ih (i + 1) (cs ++ [(Bd.code l cs).1]) h
      refine ⟨(Bd.code l cs).1 :: more, by rw [h1, List.append_assoc]; rfl, by simp [h2], fun j lj hj => ?_⟩
      cases j with
      | zero =>
        simp only [List.getElem?_cons_zero, Option.some.injEq] at hj
        subst hj
        exact ⟨_, rfl, by rw [List.take_zero, List.append_nil]; exact code_zero hz⟩
      | succ j =>
        obtain ⟨cj, h4, h5⟩ := h3 j lj (by simpa using hj)
        refine ⟨cj, by simpa using h4, ?_⟩
        rw [List.take_succ_cons, ← h5, List.append_assoc]
        rfl
theorem funcs_facts {ll : List (List (Int × Int))} (h : (Bd.funcs ll).2.2 = 0) : ll.length ≤ 20 ∧ (Bd.funcs ll).1.length = ll.length ∧ ∀ j lj, ll[j]? = some lj → ∃ cj, (Bd.funcs ll).1[j]? = some cj ∧ Bd.code lj ((Bd.funcs ll).1.take j) = (cj, 0, 0) := by
  unfold Bd.funcs at h ⊢
  split at h
  · simp at h
  · rename_i h20
    rw [if_neg h20]
    obtain ⟨more, h1, h2, h3⟩ := funcsGo_facts ll 0 [] h
    rw [h1, List.nil_append]
    exact ⟨by omega, h2, fun j lj hj => by simpa using h3 j lj hj⟩
theorem plans_facts (fs : List Bd.Cost) : ∀ (r : List (List (Int × Int))) (ps : List Plan), ∃ more, plans fs r ps = ps ++ more ∧ more.length = r.length ∧ ∀ j lj, r[j]? = some lj → more[j]? = some (planned lj fs (ps ++ more.take j)) := by
  intro r
  induction r with
  | nil => intro ps; exact ⟨[], by simp [plans], rfl, fun j lj h => by simp at h⟩
  | cons l r ih =>
    intro ps
    obtain ⟨more, h1, h2, h3⟩ := ih (ps ++ [planned l fs ps])
    refine ⟨planned l fs ps :: more, by rw [plans, h1, List.append_assoc]; rfl, by simp [h2], fun j lj hj => ?_⟩
    cases j with
    | zero =>
      simp only [List.getElem?_cons_zero, Option.some.injEq] at hj
      subst hj
      simp
    | succ j =>
      have := h3 j lj (by simpa using hj)
      rw [List.getElem?_cons_succ, this, List.take_succ_cons, List.append_assoc]
      rfl
theorem emits_facts : ∀ (r : List Plan) (es : List Emit), ∃ more, emits r es = es ++ more ∧ more.length = r.length ∧ ∀ j pj, r[j]? = some pj → more[j]? = some (emitE (es ++ more.take j) pj) := by
  intro r
  induction r with
  | nil => intro ps; exact ⟨[], by simp [emits], rfl, fun j lj h => by simp at h⟩
  | cons l r ih =>
    intro es
    obtain ⟨more, h1, h2, h3⟩ := ih (es ++ [emitE es l])
    refine ⟨emitE es l :: more, by rw [emits, h1, List.append_assoc]; rfl, by simp [h2], fun j lj hj => ?_⟩
    cases j with
    | zero =>
      simp only [List.getElem?_cons_zero, Option.some.injEq] at hj
      subst hj
      simp
    | succ j =>
      have := h3 j lj (by simpa using hj)
      rw [List.getElem?_cons_succ, this, List.take_succ_cons, List.append_assoc]
      rfl
theorem growth_congr {fs fs' : List Bd.Cost} (x : Int × Int) (h : (x.1 = 37 ∨ x.1 = 38) → Bd.fn fs x.2 = Bd.fn fs' x.2) : growth x fs = growth x fs' := by
  unfold growth
  by_cases h37 : x.1 = 37
  · rw [h (.inl h37)]
  · by_cases h38 : x.1 = 38
    · rw [h (.inr h38)]
    · simp only [h37, h38, if_false]
theorem sizeOf_congr {ps ps' : List Plan} (x : Int × Int) (h : (x.1 = 37 ∨ x.1 = 38) → pl ps x.2 = pl ps' x.2) : sizeOf x ps = sizeOf x ps' := by
  unfold sizeOf
  by_cases h37 : x.1 = 37
  · rw [h (.inl h37)]
  · by_cases h38 : x.1 = 38
    · rw [h (.inr h38)]
    · simp only [h37, h38, if_false]
theorem planGo_congr {fs fs' : List Bd.Cost} {ps ps' : List Plan} : ∀ (l : List (Int × Int)) (i : Nat) (s : PSt), (∀ x ∈ l, growth x fs = growth x fs' ∧ sizeOf x ps = sizeOf x ps') → planGo fs ps l i s = planGo fs' ps' l i s
  | [], _, _, _ => rfl
  | x :: l, i, s, h => by
    obtain ⟨h1, h2⟩ := h x (by simp)
    rw [planGo, planGo, show plan1 fs ps i x s = plan1 fs' ps' i x s by unfold plan1; rw [h1, h2]]
    exact planGo_congr l _ _ fun y hy => h y (by simp [hy])
theorem planned_congr {fs fs' : List Bd.Cost} {ps ps' : List Plan} {l : List (Int × Int)} (h : ∀ x ∈ l, growth x fs = growth x fs' ∧ sizeOf x ps = sizeOf x ps') : planned l fs ps = planned l fs' ps' := by
  unfold planned
  rw [planGo_congr l 0 _ h]
theorem stepE_congr {es es' : List Emit} (x : Int × Int) (h : (x.1 = 37 ∨ x.1 = 38) → em es x.2 = em es' x.2) (next loops : Int) : stepE es x next loops = stepE es' x next loops := by
  unfold stepE
  by_cases h37 : x.1 = 37
  · rw [h (.inl h37)]
  · by_cases h38 : x.1 = 38
    · rw [h (.inr h38)]
    · simp only [h37, h38, if_false]
theorem emitE_congr {es es' : List Emit} {p : Plan} (h : ∀ s ∈ p.steps, (s.op = 37 ∨ s.op = 38) → em es s.a = em es' s.a) : emitE es p = emitE es' p := by
  funext high loops
  have : pieces es p high loops = pieces es' p high loops := by
    unfold pieces
    refine List.map_congr_left fun s hs => stepE_congr _ (h s hs) _ _
  unfold emitE
  simp only [this]
def sumZ (ps : List Plan) (l : List PS) : Int := (l.map fun s => sizeOf (s.op, s.a) ps).sum
theorem st_src (fs : List Bd.Cost) (ps : List Plan) (l : List (Int × Int)) : ∀ i, i ≤ l.length → (∀ k s, (st fs ps l i).steps[k]? = some s → ∃ i' x, i' < i ∧ l[i']? = some x ∧ kn fs ps l i' = true ∧ cnt fs ps l i' = k ∧ 0 < sizeOf x ps ∧ s = ⟨x.1, x.2, (st fs ps l i').high.getD i' 0, i' + 1 + jump x⟩) ∧
    (st fs ps l i).size = min 20001 (sumZ ps (st fs ps l i).steps) := by
  intro i
  induction i with
  | zero => intro _; exact ⟨fun k s h => by simp [st, planGo, start] at h, by simp only [st, planGo, start, sumZ, List.take_zero, List.map_nil, List.sum_nil]; omega⟩
  | succ i ih =>
    intro hi
    obtain ⟨x, hx⟩ : ∃ x, l[i]? = some x := ⟨_, List.getElem?_eq_getElem (by omega)⟩
    obtain ⟨h1, h2⟩ := ih (by omega)
    have hs := st_succ fs ps hx
    by_cases hk : kn fs ps l i = true
    · have hk' := hk
      unfold kn at hk'
      unfold plan1 at hs
      rw [if_neg (by simpa using hk')] at hs
      by_cases hz : 0 < sizeOf x ps
      · have e1 : (st fs ps l (i + 1)).steps = (st fs ps l i).steps ++ [⟨x.1, x.2, (st fs ps l i).high.getD i 0, i + 1 + jump x⟩] := by rw [hs]; dsimp only; rw [if_pos hz]
        have e2 : (st fs ps l (i + 1)).size = min ((st fs ps l i).size + sizeOf x ps) 20001 := by rw [hs]; dsimp only; rw [if_pos hz]
        refine ⟨fun k s hks => ?_, ?_⟩
        · rw [e1] at hks
          by_cases hkl : k < (st fs ps l i).steps.length
          · rw [List.getElem?_append_left hkl] at hks
            obtain ⟨i', x', q1, q2⟩ := h1 k s hks
            exact ⟨i', x', by omega, q2⟩
          · rw [List.getElem?_append_right (by omega)] at hks
            have hk0 : k - (st fs ps l i).steps.length = 0 := by
              have := (List.getElem?_eq_some_iff.1 hks).1
              simp only [List.length_cons, List.length_nil] at this
              omega
            rw [hk0] at hks
            simp only [List.getElem?_cons_zero, Option.some.injEq] at hks
            exact ⟨i, x, by omega, hx, hk, by unfold cnt; omega, hz, hks.symm⟩
        · rw [e2, e1, h2]
          have : sumZ ps ((st fs ps l i).steps ++ [⟨x.1, x.2, (st fs ps l i).high.getD i 0, i + 1 + jump x⟩]) = sumZ ps (st fs ps l i).steps + sizeOf x ps := by
            unfold sumZ
            simp
          rw [this]
          omega
      · have e1 : (st fs ps l (i + 1)).steps = (st fs ps l i).steps := by rw [hs]; dsimp only; rw [if_neg hz]
        have e2 : (st fs ps l (i + 1)).size = (st fs ps l i).size := by rw [hs]; dsimp only; rw [if_neg hz]
        rw [e1, e2]
        exact ⟨fun k s hks => by obtain ⟨i', x', q1, q2⟩ := h1 k s hks; exact ⟨i', x', by omega, q2⟩, h2⟩
    · have hk' := hk
      unfold kn at hk'
      unfold plan1 at hs
      rw [if_pos (by simpa using hk')] at hs
      rw [hs]
      exact ⟨fun k s hks => by obtain ⟨i', x', q1, q2⟩ := h1 k s hks; exact ⟨i', x', by omega, q2⟩, h2⟩
theorem sumZ_map (ps : List Plan) (l : List PS) (f : PS → Nat) : sumZ ps (l.map fun p => { p with go := f p }) = sumZ ps l := by
  unfold sumZ
  rw [List.map_map]
  rfl
theorem sumZ_nonneg (ps : List Plan) : ∀ (l : List PS), (∀ s ∈ l, 0 < sizeOf (s.op, s.a) ps) → 0 ≤ sumZ ps l ∧ (∀ s ∈ l, sizeOf (s.op, s.a) ps ≤ sumZ ps l)
  | [], _ => ⟨by simp [sumZ], fun s h => by simp at h⟩
  | x :: l, h => by
    obtain ⟨h1, h2⟩ := sumZ_nonneg ps l fun s hs => h s (by simp [hs])
    have hx := h x (by simp)
    have e : sumZ ps (x :: l) = sizeOf (x.op, x.a) ps + sumZ ps l := by unfold sumZ; simp
    refine ⟨by omega, fun s hs => ?_⟩
    simp only [List.mem_cons] at hs
    rcases hs with rfl | hs
    · omega
    · have := h2 s hs
      omega
theorem planned_src {fs : List Bd.Cost} (ps : List Plan) {l : List (Int × Int)} {c : Bd.Cost} {P : List Bd.Place} (h : Hd.Tab l.length fs l c P) : ∀ k s, (planned l fs ps).steps[k]? = some s → ∃ i x, l[i]? = some x ∧ kn fs ps l i = true ∧ cnt fs ps l i = k ∧ 0 < sizeOf x ps ∧ s = ⟨x.1, x.2, (Bd.pat P i).high, cnt fs ps l (i + 1 + jump x)⟩ := by
  intro k s hs
  have hp := planned_of ps h
  have hk : k < (planned l fs ps).steps.length := (List.getElem?_eq_some_iff.1 hs).1
  have hpl : (planned l fs ps).steps = (st fs ps l l.length).steps.map fun p => { p with go := ((st fs ps l l.length).index.set l.length (st fs ps l l.length).steps.length).getD p.go 0 } := by
    unfold planned st
    rw [List.take_length]
  rw [hpl, List.length_map] at hk
  obtain ⟨i, x, h1, h2, h3, h4, h5, _⟩ := (st_src fs ps l l.length (Nat.le_refl _)).1 k _ (List.getElem?_eq_getElem hk)
  refine ⟨i, x, h2, h3, h4, h5, ?_⟩
  rcases (hp.step i x h2 h3).2 with ⟨_, q, _⟩ | ⟨q, _⟩
  · rw [h4, hs] at q
    exact Option.some.inj q
  · omega
theorem planned_size (fs : List Bd.Cost) (ps : List Plan) (l : List (Int × Int)) : (planned l fs ps).size = min 20001 (sumZ ps (planned l fs ps).steps) ∧ (∀ s ∈ (planned l fs ps).steps, 0 < sizeOf (s.op, s.a) ps ∧ (s.op, s.a) ∈ l) := by
  have e1 : (planned l fs ps).steps = (st fs ps l l.length).steps.map fun p => { p with go := ((st fs ps l l.length).index.set l.length (st fs ps l l.length).steps.length).getD p.go 0 } := by
    unfold planned st
    rw [List.take_length]
  have e2 : (planned l fs ps).size = (st fs ps l l.length).size := by
    unfold planned st
    rw [List.take_length]
  obtain ⟨h1, h2⟩ := st_src fs ps l l.length (Nat.le_refl _)
  rw [e2, h2, e1, sumZ_map]
  refine ⟨rfl, fun s hs => ?_⟩
  obtain ⟨s', hs', rfl⟩ := List.mem_map.1 hs
  obtain ⟨k, hk⟩ := List.mem_iff_getElem?.1 hs'
  obtain ⟨i, x, _, q2, _, _, q5, rfl⟩ := h1 k s' hk
  exact ⟨q5, List.mem_of_getElem? q2⟩
theorem planned_bds (fs : List Bd.Cost) (ps : List Plan) (l : List (Int × Int)) : 0 ≤ (planned l fs ps).size ∧ (planned l fs ps).size ≤ 20001 ∧ ((planned l fs ps).size ≤ 0 → (planned l fs ps).steps = []) := by
  obtain ⟨h1, h2⟩ := planned_size fs ps l
  obtain ⟨h3, h4⟩ := sumZ_nonneg ps _ fun s hs => (h2 s hs).1
  refine ⟨by omega, by omega, fun hz => ?_⟩
  cases he : (planned l fs ps).steps with
  | nil => rfl
  | cons s r =>
    exfalso
    have q1 := h4 s (by rw [he]; simp)
    have q2 := (h2 s (by rw [he]; simp)).1
    omega
structure All (ll : List (List (Int × Int))) (fs : List Bd.Cost) (ps : List Plan) (es : List Emit) : Prop where
  l20 : ll.length ≤ 20
  fl : fs.length = ll.length
  pn : ps.length = ll.length
  el : es.length = ll.length
  fn : ∀ j lj, ll[j]? = some lj → ∃ cj P, fs[j]? = some cj ∧ Bd.code lj (fs.take j) = (cj, 0, 0) ∧ Hd.Tab lj.length (fs.take j) lj cj P ∧ pl ps j = planned lj (fs.take j) ps ∧ ps[j]? = some (planned lj (fs.take j) ps) ∧ em es j = emitE es (planned lj (fs.take j) ps) ∧ ps[j]? = some (planned lj fs (ps.take j))
theorem fn_take (fs : List Bd.Cost) {j : Nat} {a : Int} (h : a < j) (h0 : 0 ≤ a) : Bd.fn (fs.take j) a = Bd.fn fs a := by
  unfold Bd.fn
  rw [List.getD_eq_getElem?_getD, List.getD_eq_getElem?_getD, List.getElem?_take, if_pos (by omega)]
theorem pl_take (ps : List Plan) {j : Nat} {a : Int} (h : a < j) (h0 : 0 ≤ a) : pl (ps.take j) a = pl ps a := by
  unfold pl
  rw [List.getD_eq_getElem?_getD, List.getD_eq_getElem?_getD, List.getElem?_take, if_pos (by omega)]
theorem em_take (es : List Emit) {j : Nat} {a : Int} (h : a < j) (h0 : 0 ≤ a) : em (es.take j) a = em es a := by
  unfold em
  rw [List.getD_eq_getElem?_getD, List.getD_eq_getElem?_getD, List.getElem?_take, if_pos (by omega)]
theorem tab_calls {n : Nat} {fs : List Bd.Cost} {l : List (Int × Int)} {c : Bd.Cost} {P : List Bd.Place} (h : Hd.Tab n fs l c P) (x : Int × Int) (hx : x ∈ l) (hc : x.1 = 37 ∨ x.1 = 38) : 0 ≤ x.2 ∧ x.2 < fs.length := by
  obtain ⟨i, hi⟩ := List.mem_iff_getElem?.1 hx
  exact (Hd.always_ok (h.ok i x hi).al).2.2 hc
theorem all_of {ll : List (List (Int × Int))} (h : (Bd.funcs ll).2.2 = 0) : All ll (Bd.funcs ll).1 (plans (Bd.funcs ll).1 ll []) (emits (plans (Bd.funcs ll).1 ll []) []) := by
  obtain ⟨h20, hfl, hf⟩ := funcs_facts h
  generalize (Bd.funcs ll).1 = fs at *
  obtain ⟨ps, h1, h2, h3⟩ := plans_facts fs ll []
  rw [List.nil_append] at h1
  rw [h1]
  obtain ⟨es, h4, h5, h6⟩ := emits_facts ps []
  rw [List.nil_append] at h4
  rw [h4]
  refine ⟨h20, hfl, h2, h5.trans h2, fun j lj hj => ?_⟩
  obtain ⟨cj, hcj, hcode⟩ := hf j lj hj
  obtain ⟨P, hP⟩ := Hd.code_tab hcode
  have hjl := (List.getElem?_eq_some_iff.1 hj).1
  have htl : (fs.take j).length = j := by rw [List.length_take]; omega
  have hp0 := h3 j lj hj
  rw [List.nil_append] at hp0
  have hpe : planned lj fs (ps.take j) = planned lj (fs.take j) ps := planned_congr fun x hx => by
    refine ⟨(growth_congr x fun hc => ?_), sizeOf_congr x fun hc => ?_⟩
    · obtain ⟨q1, q2⟩ := tab_calls hP x hx hc
      exact (fn_take fs (by omega) q1).symm
    · obtain ⟨q1, q2⟩ := tab_calls hP x hx hc
      exact pl_take ps (by omega) q1
  have hp := hp0
  rw [hpe] at hp
  have hpl : Bu.pl ps j = planned lj (fs.take j) ps := by
    unfold Bu.pl
    rw [Int.toNat_natCast, List.getD_eq_getElem?_getD, hp]
    rfl
  have he := h6 j _ hp
  rw [List.nil_append] at he
  refine ⟨cj, P, hcj, hcode, hP, hpl, hp, ?_, hp0⟩
  unfold em
  rw [Int.toNat_natCast, List.getD_eq_getElem?_getD, he]
  refine emitE_congr fun s hs hc => ?_
  obtain ⟨q1, q2⟩ := tab_calls hP (s.op, s.a) ((planned_size (fs.take j) ps lj).2 s hs).2 hc
  exact em_take es (by simp only at q2; omega) q1
end Bu
namespace Sm
open Mc Hd
theorem goodS_all {ll : List (List (Int × Int))} {fs : List Bd.Cost} {ps : List Bu.Plan} {es : List Bu.Emit} (h : Bu.All ll fs ps es) (code : List Sr.Reg) : ∀ (j : Nat) lj, ll[j]? = some lj → ∃ cj, fs[j]? = some cj ∧ GoodS ll code es j cj ∧ 0 ≤ cj.steps ∧ 0 ≤ cj.peak := by
  intro j
  induction j using Nat.strongRecOn with
  | _ j ih =>
  intro lj hj
  obtain ⟨cj, P, hcj, hcode, hP, hpl, hp, hem, _⟩ := h.fn j lj hj
  have hjl := (List.getElem?_eq_some_iff.1 hj).1
  have hfl := h.fl
  have htl : (fs.take j).length = j := by rw [List.length_take]; omega
  have hget : ll.getD j [] = lj := by rw [List.getD_eq_getElem?_getD, hj]; rfl
  have hg : ∀ i ci, (fs.take j)[i]? = some ci → GoodS ll code es i ci ∧ 0 ≤ ci.steps ∧ 0 ≤ ci.peak := fun i ci hi => by
    have hij := (List.getElem?_eq_some_iff.1 hi).1
    rw [htl] at hij
    rw [List.getElem?_take, if_pos hij] at hi
    obtain ⟨ci', q1, q2⟩ := ih i hij _ (List.getElem?_eq_getElem (by omega))
    rw [hi] at q1
    injection q1 with q1
    subst q1
    exact q2
  have hz : ∀ i : Nat, i < (fs.take j).length → 0 ≤ (Bu.pl ps i).size ∧ ((Bu.pl ps i).size ≤ 0 → ∀ high loops, Bu.em es i high loops = []) := fun i hi => by
    rw [htl] at hi
    obtain ⟨_, _, _, _, _, q1, _, q2, _⟩ := h.fn i _ (List.getElem?_eq_getElem (show i < ll.length by omega))
    obtain ⟨b1, _, b3⟩ := Bu.planned_bds (fs.take i) ps ll[i]
    rw [q1, q2]
    refine ⟨b1, fun hz high loops => ?_⟩
    unfold Bu.emitE
    rw [b3 hz]
    rfl
  refine ⟨cj, hcj, fun s m r q loops h1 h2 h3 h4 h5 h6 h7 h8 h9 h10 => ?_, code_bds hcode, hP.k0⟩
  rw [hget] at h1 ⊢
  rw [hem] at h10 ⊢
  have hPl := Bu.planned_of ps hP
  obtain ⟨p1, p2, p3⟩ := hP.p0
  obtain ⟨k, t, n, q', e1, e2, e3, e4, e5, e6, e7, e8⟩ := pass_sim hP hPl (by omega) hg hz q.pc s.stack.length loops h10 lj.length 0 s m r q (by omega) h1 h2 h3 h4 hPl.k0 (by rw [show ((0 : Nat) : Int) = 0 from rfl, p2]; omega) h5 h6 (by omega) h8 (by have := hP.k0; omega) h9 (by rw [hPl.c0]; simp [Bu.begins])
  rw [show ((0 : Nat) : Int) = 0 from rfl, p3] at e4
  exact ⟨k, t, n, q', e1, e2, e3, by omega, e5, e6, e7, e8⟩
theorem begin_kp (p : Pg) (z : Zn) : Kp (begin_ p z) := by
  refine ⟨fun x hx => by simp [begin_] at hx, fun x hx => ?_, fun x hx => ?_, fun x hx => ?_, fun x hx => ?_, k32_F _⟩
  · simp only [begin_, List.mem_map] at hx
    obtain ⟨y, _, rfl⟩ := hx
    exact k32_F _
  · rw [List.eq_of_mem_replicate hx]
    exact F0
  · simp only [begin_, List.mem_map] at hx
    obtain ⟨y, _, rfl⟩ := hx
    exact ⟨k32_F _, k32_F _⟩
  · simp only [begin_, List.mem_map] at hx
    obtain ⟨y, _, rfl⟩ := hx
    exact ⟨k32_F _, k32_F _⟩
theorem begin_sim (ll : List (List (Int × Int))) (l : List (Int × Int)) (cvt : List Int) (size : Int) (z : Zn) : Sim (begin_ ⟨ll, l, cvt, size⟩ z) (Sr.begin_ cvt size z) :=
  ⟨⟨(Sr.begin_ cvt size z).m, rfl⟩, by simp [Sr.begin_], fun i hi => by simp [begin_] at hi, begin_kp _ _⟩
theorem build_sim {ll : List (List (Int × Int))} {l : List (Int × Int)} {c : Bd.Cost} (h : Bd.program ll l = (c, 0)) {code : List Sr.Reg} (hb : Bu.build ll l = (code, 0)) (cvt : List Int) (size : Int) (z : Zn) :
    Sim (Mc.run c.steps.toNat (begin_ ⟨ll, l, cvt, size⟩ z)) (Sr.run code cvt size z) ∧ (Mc.run c.steps.toNat (begin_ ⟨ll, l, cvt, size⟩ z)).err = 0 ∧ ((Mc.run c.steps.toNat (begin_ ⟨ll, l, cvt, size⟩ z)).stack.length : Int) = c.delta ∧ (Sr.run code cvt size z).steps < code.length ∧ 0 ≤ c.delta ∧ c.delta ≤ 32 := by
  unfold Bu.build at hb
  rw [h] at hb
  simp only [ne_eq, not_true_eq_false, if_false] at hb
  unfold Bd.program at h
  split at h
  · rename_i hne
    simp at h
    exact absurd h.2 hne
  · rename_i hz
    have hA := Bu.all_of (ll := ll) (by omega)
    generalize (Bd.funcs ll).1 = fs at *
    generalize Bu.plans fs ll [] = ps at *
    generalize Bu.emits ps [] = es at *
    split at hb
    · simp at hb
    · rename_i hov
      injection hb with hb _
      unfold Bd.whole at h
      split at h
      · rename_i hne
        simp at h
        exact absurd h.2 hne
      · rename_i hz2
        split at h
        · simp at h
        · rename_i hnd
          injection h with hcc _
          have hcode := Bu.code_zero (l := l) (cs := fs) (by omega)
          rw [hcc] at hcode hnd
          obtain ⟨P, hP⟩ := code_tab hcode
          have h0 := code_bds hcode
          obtain ⟨p1, p2, p3⟩ := hP.p0
          have hfl := hA.fl
          have h20 := hA.l20
          have hg : ∀ i ci, fs[i]? = some ci → GoodS ll code es i ci ∧ 0 ≤ ci.steps ∧ 0 ≤ ci.peak := fun i ci hi => by
            have hij := (List.getElem?_eq_some_iff.1 hi).1
            obtain ⟨ci', q1, q2⟩ := goodS_all hA code i _ (List.getElem?_eq_getElem (by omega))
            rw [hi] at q1
            injection q1 with q1
            subst q1
            exact q2
          have hzz : ∀ i : Nat, i < fs.length → 0 ≤ (Bu.pl ps i).size ∧ ((Bu.pl ps i).size ≤ 0 → ∀ high loops, Bu.em es i high loops = []) := fun i hi => by
            obtain ⟨_, _, _, _, _, q1, _, q2, _⟩ := hA.fn i _ (List.getElem?_eq_getElem (show i < ll.length by omega))
            obtain ⟨b1, _, b3⟩ := Bu.planned_bds (fs.take i) ps ll[i]
            rw [q1, q2]
            refine ⟨b1, fun hz high loops => ?_⟩
            unfold Bu.emitE
            rw [b3 hz]
            rfl
          have hPl := Bu.planned_of ps hP
          have hq0 : (Sr.begin_ cvt size z).pc = 0 := rfl
          have hat : At code 0 (Bu.emitE es (Bu.planned l fs ps) 0 ((0 : Nat) : Int)) := by
            rw [← hb]
            intro i r hr
            rw [Nat.zero_add]
            exact (List.getElem?_append_left (List.getElem?_eq_some_iff.1 hr).1).trans hr
          generalize hs : begin_ ⟨ll, l, cvt, size⟩ z = s at *
          have hfr : s.frames = [⟨l, 0, 0⟩] := by rw [← hs]; rfl
          have hen : s.ended = false := by rw [← hs]; rfl
          have her : s.err = 0 := by rw [← hs]; rfl
          have hfu : s.funcs = ll := by rw [← hs]; rfl
          have hsk : s.stack = [] := by rw [← hs]; rfl
          have hSim := begin_sim ll l cvt size z
          rw [hs] at hSim
          obtain ⟨k, t, n, q', ⟨u, g1, g2⟩, o, e1, e2, e5, e6, e7, _⟩ := pass_sim hP hPl (by omega) hg hzz 0 0 0 hat l.length 0 s 0 [] (Sr.begin_ cvt size z) (by omega) hfr hen her hfu hPl.k0 (by rw [show ((0 : Nat) : Int) = 0 from rfl, p2, hsk]; rfl) (by omega) (by have := hP.k1; omega) (by simp only [List.length_nil]; omega) (Nat.le_refl _) (by rw [hsk]; simp) hSim (by rw [hPl.c0, hq0]; simp [Bu.begins])
          rw [show ((0 : Nat) : Int) = 0 from rfl, p3] at e2
          obtain ⟨u1, X, rfl, hX⟩ := g2
          have hfr2 := o.fr
          simp only at hfr2
          subst hfr2
          have hset : Mc.settle u.frames = [] := by rw [← hX, settle_end]; rfl
          have hnx := next_end u1 hset
          have hrun : Mc.run c.steps.toNat s = { u with frames := [], ended := true } := by
            have hk : k ≤ c.steps.toNat := by omega
            by_cases hkk : k = c.steps.toNat
            · unfold Mc.run
              rw [← hkk, g1]
              simp only
              rw [hnx]
            · obtain ⟨j, hj⟩ : ∃ j, c.steps.toNat = k + (j + 1) := ⟨c.steps.toNat - k - 1, by omega⟩
              unfold Mc.run
              rw [hj, steps_add k (j + 1) s u g1, Mc.steps]
              have : Mc.step u = ({ u with frames := [], ended := true }, false) := by unfold Mc.step; rw [hnx]
              rw [this]
          have hlen : code.length = (Bu.emitE es (Bu.planned l fs ps) 0 ((0 : Nat) : Int)).length + 1 := by
            rw [← hb, List.length_append, List.length_singleton]
            rfl
          have hend : code.getD q'.pc Sr.nop = ⟨42, 0, 0, 0, c.delta⟩ := by
            rw [e6, Nat.zero_add, List.getD_eq_getElem?_getD, ← hb]
            show ((Bu.emitE es (Bu.planned l fs ps) 0 ((0 : Nat) : Int) ++ [⟨42, 0, 0, 0, c.delta⟩] : List Sr.Reg)[_]?).getD _ = _
            rw [List.getElem?_append_right (Nat.le_refl _), Nat.sub_self]
            rfl
          obtain ⟨r1, r2, r3⟩ := e5
          rw [hq0, Nat.zero_add] at r3
          have hst0 : (Sr.begin_ cvt size z).steps = 0 := rfl
          have hR : Sr.run code cvt size z = q' := by
            obtain ⟨m', hm'⟩ : ∃ m', code.length = n + (m' + 1) := ⟨code.length - n - 1, by omega⟩
            unfold Sr.run
            rw [hm', r1, Sr.runs, hend]
            rfl
          have hpk := hP.k1
          rw [hrun, hR]
          have o1 := o.er
          simp only at o1 e1
          have hS2 : Sim { u with frames := [], ended := true } q' := e7.eqv u.funcs [] u.steps u.peak true u.err
          refine ⟨hS2, o1, by simp only; omega, by rw [r2, hst0]; omega, by omega, ?_⟩
          unfold Bd.code at hcode
          split at hcode
          · rename_i hm
            exact (Hd.rest_bds l.length fs hm l 0 (Bd.start l.length) c hcode (Bd.start_ok _)).2.2.2.2
          · simp at hcode
end Sm
end Go.Proofs.YtnhebmgibiomnaaGreat

/- Parts of the proof, joined: BuO. -/
import Derived.Test.YtnhebmgibiomnaaGreatPc28
set_option linter.unusedVariables false
set_option linter.unusedSimpArgs false
namespace Go.Proofs.YtnhebmgibiomnaaGreat
namespace Bu
def st (fs : List Bd.Cost) (ps : List Plan) (l : List (Int × Int)) (i : Nat) : PSt := planGo fs ps (l.take i) 0 (start l.length)
theorem planGo_app (fs : List Bd.Cost) (ps : List Plan) (l r : List (Int × Int)) : ∀ (i : Nat) (s : PSt), planGo fs ps (l ++ r) i s = planGo fs ps r (i + l.length) (planGo fs ps l i s) := by
  induction l with
  | nil => intro i s; rfl
  | cons x l ih =>
    intro i s
    rw [List.cons_append, planGo, planGo, ih, List.length_cons, Nat.add_assoc, Nat.add_comm 1]
theorem st_succ (fs : List Bd.Cost) (ps : List Plan) {l : List (Int × Int)} {i : Nat} {x : Int × Int} (h : l[i]? = some x) : st fs ps l (i + 1) = plan1 fs ps i x (st fs ps l i) := by
  have hi := (List.getElem?_eq_some_iff.1 h).1
  unfold st
  rw [List.take_add_one, h, Option.toList_some, planGo_app, List.length_take, Nat.min_eq_left (Nat.le_of_lt hi), Nat.zero_add]
  rfl
structure Len (n : Nat) (s : PSt) : Prop where
  known : s.known.length = n + 1
  high : s.high.length = n + 1
  index : s.index.length = n + 1
theorem st_len (fs : List Bd.Cost) (ps : List Plan) (l : List (Int × Int)) : ∀ i, i ≤ l.length → Len l.length (st fs ps l i) := by
  intro i
  induction i with
  | zero => intro _; exact ⟨by simp [st, planGo, start], by simp [st, planGo, start], by simp [st, planGo, start]⟩
  | succ i ih =>
    intro hi
    obtain ⟨x, hx⟩ : ∃ x, l[i]? = some x := ⟨_, List.getElem?_eq_getElem (by omega)⟩
    rw [st_succ fs ps hx]
    have h := ih (by omega)
    unfold plan1
    split
    · exact h
    · refine ⟨?_, ?_, ?_⟩
      · dsimp only
        split <;> simp [h.known]
      · dsimp only
        split <;> simp [h.high]
      · simp [h.index]
theorem getD_set_ne {α : Type} {l : List α} {i k : Nat} (a d : α) (h : i ≠ k) : (l.set i a).getD k d = l.getD k d := by
  simp only [List.getD_eq_getElem?_getD, List.getElem?_set, h, if_false]
theorem getD_set_eq {α : Type} {l : List α} {i : Nat} (a d : α) (h : i < l.length) : (l.set i a).getD i d = a := by
  simp [List.getD_eq_getElem?_getD, h]
theorem plan1_old (fs : List Bd.Cost) (ps : List Plan) (i : Nat) (x : Int × Int) (s : PSt) (k : Nat) (hk : k ≤ i) : (plan1 fs ps i x s).known.getD k false = s.known.getD k false ∧ (plan1 fs ps i x s).high.getD k 0 = s.high.getD k 0 := by
  unfold plan1
  split
  · exact ⟨rfl, rfl⟩
  · dsimp only
    refine ⟨?_, ?_⟩
    · split
      · rw [getD_set_ne _ _ (by omega)]
      · rw [getD_set_ne _ _ (by omega), getD_set_ne _ _ (by omega)]
    · split
      · rw [getD_set_ne _ _ (by omega)]
      · rw [getD_set_ne _ _ (by omega), getD_set_ne _ _ (by omega)]
theorem plan1_index (fs : List Bd.Cost) (ps : List Plan) (i : Nat) (x : Int × Int) (s : PSt) (k : Nat) (hk : k ≠ i) : (plan1 fs ps i x s).index.getD k 0 = s.index.getD k 0 := by
  unfold plan1
  split
  · rfl
  · exact getD_set_ne _ _ (fun e => hk e.symm)
theorem st_old (fs : List Bd.Cost) (ps : List Plan) (l : List (Int × Int)) (k : Nat) : ∀ d, k + d ≤ l.length → (st fs ps l (k + d)).known.getD k false = (st fs ps l k).known.getD k false ∧ (st fs ps l (k + d)).high.getD k 0 = (st fs ps l k).high.getD k 0 := by
  intro d
  induction d with
  | zero => intro _; exact ⟨rfl, rfl⟩
  | succ d ih =>
    intro hd
    obtain ⟨x, hx⟩ : ∃ x, l[k + d]? = some x := ⟨_, List.getElem?_eq_getElem (by omega)⟩
    rw [← Nat.add_assoc, st_succ fs ps hx]
    obtain ⟨h1, h2⟩ := plan1_old fs ps (k + d) x (st fs ps l (k + d)) k (by omega)
    rw [h1, h2]
    exact ih (by omega)
theorem st_index (fs : List Bd.Cost) (ps : List Plan) (l : List (Int × Int)) (k : Nat) : ∀ d, k + 1 + d ≤ l.length → (st fs ps l (k + 1 + d)).index.getD k 0 = (st fs ps l (k + 1)).index.getD k 0 := by
  intro d
  induction d with
  | zero => intro _; rfl
  | succ d ih =>
    intro hd
    obtain ⟨x, hx⟩ : ∃ x, l[k + 1 + d]? = some x := ⟨_, List.getElem?_eq_getElem (by omega)⟩
    rw [← Nat.add_assoc, st_succ fs ps hx, plan1_index _ _ _ _ _ _ (by omega)]
    exact ih (by omega)
theorem plan1_steps (fs : List Bd.Cost) (ps : List Plan) (i : Nat) (x : Int × Int) (s : PSt) : ∃ r, (plan1 fs ps i x s).steps = s.steps ++ r := by
  unfold plan1
  split
  · exact ⟨[], by simp⟩
  · dsimp only
    split
    · exact ⟨_, rfl⟩
    · exact ⟨[], by simp⟩
theorem st_steps (fs : List Bd.Cost) (ps : List Plan) (l : List (Int × Int)) (k : Nat) : ∀ d, k + d ≤ l.length → ∃ r, (st fs ps l (k + d)).steps = (st fs ps l k).steps ++ r := by
  intro d
  induction d with
  | zero => intro _; exact ⟨[], by simp⟩
  | succ d ih =>
    intro hd
    obtain ⟨x, hx⟩ : ∃ x, l[k + d]? = some x := ⟨_, List.getElem?_eq_getElem (by omega)⟩
    rw [← Nat.add_assoc, st_succ fs ps hx]
    obtain ⟨r1, h1⟩ := ih (by omega)
    obtain ⟨r2, h2⟩ := plan1_steps fs ps (k + d) x (st fs ps l (k + d))
    exact ⟨r1 ++ r2, by rw [h2, h1, List.append_assoc]⟩
def cnt (fs : List Bd.Cost) (ps : List Plan) (l : List (Int × Int)) (i : Nat) : Nat := (st fs ps l i).steps.length
def kn (fs : List Bd.Cost) (ps : List Plan) (l : List (Int × Int)) (i : Nat) : Bool := (st fs ps l i).known.getD i false
theorem cnt_mono (fs : List Bd.Cost) (ps : List Plan) (l : List (Int × Int)) {i j : Nat} (h : i ≤ j) (hj : j ≤ l.length) : cnt fs ps l i ≤ cnt fs ps l j := by
  obtain ⟨r, hr⟩ := st_steps fs ps l i (j - i) (by omega)
  rw [show i + (j - i) = j by omega] at hr
  unfold cnt
  rw [hr, List.length_append]
  omega
theorem go_at (fs : List Bd.Cost) (ps : List Plan) (l : List (Int × Int)) {t : Nat} (ht : t ≤ l.length) (hk : kn fs ps l t = true) : ((st fs ps l l.length).index.set l.length (st fs ps l l.length).steps.length).getD t 0 = cnt fs ps l t := by
  have hlen := (st_len fs ps l l.length (Nat.le_refl _)).index
  by_cases htl : t = l.length
  · subst htl
    rw [getD_set_eq _ _ (by omega)]
    rfl
  · rw [getD_set_ne _ _ (fun e => htl e.symm)]
    have h1 := st_index fs ps l t (l.length - (t + 1)) (by omega)
    rw [show t + 1 + (l.length - (t + 1)) = l.length by omega] at h1
    rw [h1]
    obtain ⟨x, hx⟩ : ∃ x, l[t]? = some x := ⟨_, List.getElem?_eq_getElem (by omega)⟩
    rw [st_succ fs ps hx]
    unfold plan1
    unfold kn at hk
    rw [if_neg (by simpa using hk)]
    dsimp only
    rw [getD_set_eq _ _ (by have := (st_len fs ps l t ht).index; omega)]
    rfl
structure PlanOf (fs : List Bd.Cost) (ps : List Plan) (l : List (Int × Int)) (p : Plan) (P : List Bd.Place) : Prop where
  k0 : kn fs ps l 0 = true
  c0 : cnt fs ps l 0 = 0
  fin : cnt fs ps l l.length = p.steps.length
  known : ∀ i, i ≤ l.length → kn fs ps l i = true → (Bd.pat P i).known = true
  step : ∀ (i : Nat) x, l[i]? = some x → kn fs ps l i = true → (∀ t : Nat, (t : Int) ∈ Bd.ways i x → kn fs ps l t = true) ∧
    ((0 < sizeOf x ps ∧ p.steps[cnt fs ps l i]? = some ⟨x.1, x.2, (Bd.pat P i).high, cnt fs ps l (i + 1 + jump x)⟩ ∧ cnt fs ps l (i + 1) = cnt fs ps l i + 1) ∨ (sizeOf x ps ≤ 0 ∧ cnt fs ps l (i + 1) = cnt fs ps l i))
theorem growth_eff {fs : List Bd.Cost} {p : Bd.Place} {x : Int × Int} (h : 1 ≤ x.1 ∧ x.1 ≤ 39) : p.high + growth x fs = (Bd.effect fs p x).high := by
  obtain ⟨op, a⟩ := x
  simp only at h
  unfold growth Bd.effect
  simp only
  have hc : op = 1 ∨ op = 2 ∨ op = 3 ∨ op = 4 ∨ op = 5 ∨ op = 6 ∨ op = 7 ∨ op = 8 ∨ op = 9 ∨ op = 10 ∨ op = 11 ∨ op = 12 ∨ op = 13 ∨ op = 14 ∨ op = 15 ∨ op = 16 ∨ op = 17 ∨ op = 18 ∨ op = 19 ∨ op = 20 ∨ op = 21 ∨ op = 22 ∨ op = 23 ∨ op = 24 ∨ op = 25 ∨ op = 26 ∨ op = 27 ∨ op = 28 ∨ op = 29 ∨ op = 30 ∨ op = 31 ∨ op = 32 ∨ op = 33 ∨ op = 34 ∨ op = 35 ∨ op = 36 ∨ op = 37 ∨ op = 38 ∨ op = 39 := by omega
  clear h
  rcases hc with rfl | rfl | rfl | rfl | rfl | rfl | rfl | rfl | rfl | rfl | rfl | rfl | rfl | rfl | rfl | rfl | rfl | rfl | rfl | rfl | rfl | rfl | rfl | rfl | rfl | rfl | rfl | rfl | rfl | rfl | rfl | rfl | rfl | rfl | rfl | rfl | rfl | rfl | rfl
  all_goals (simp [Bd.calls, Bd.takes, Bd.leaves, Sr.uses]; try omega)
theorem ways_kn (fs : List Bd.Cost) (ps : List Plan) {l : List (Int × Int)} {i : Nat} {x : Int × Int} (hx : l[i]? = some x) (hal : Bd.always l.length fs.length i x = 0) (hk : kn fs ps l i = true) (t : Nat) (ht : (t : Int) ∈ Bd.ways i x) : t ≤ l.length ∧ i < t ∧ (st fs ps l (i + 1)).known.getD t false = true ∧ (st fs ps l (i + 1)).high.getD t 0 = (st fs ps l i).high.getD i 0 + growth x fs := by
  have hi := (List.getElem?_eq_some_iff.1 hx).1
  obtain ⟨m, hm, h1, h2⟩ := Hd.ways_nat hal hi t ht
  obtain rfl : t = m := by omega
  obtain ⟨a1, a2, a3⟩ := Hd.always_ok hal
  have hlen := st_len fs ps l i (by omega)
  have hkl := hlen.known
  have hhl := hlen.high
  refine ⟨h2, h1, ?_⟩
  rw [st_succ fs ps hx]
  unfold kn at hk
  unfold plan1
  rw [if_neg (by simpa using hk)]
  dsimp only
  unfold Bd.ways at ht
  by_cases h35 : x.1 = 35
  · have hj : jump x = x.2.toNat := by unfold jump; rw [if_pos (.inl h35)]
    have := a2 (.inl h35)
    have ht2 : t = i + 1 + jump x := by
      rw [if_pos h35, if_pos (by simp [Bd.jumps, h35])] at ht
      simp at ht
      omega
    rw [if_pos h35, if_pos h35, ← ht2]
    exact ⟨getD_set_eq _ _ (by omega), getD_set_eq _ _ (by omega)⟩
  · rw [if_neg h35, if_neg h35]
    by_cases hti : t = i + 1
    · subst hti
      exact ⟨getD_set_eq _ _ (by simp; omega), getD_set_eq _ _ (by simp; omega)⟩
    · by_cases h36 : x.1 = 36
      · have hj : jump x = x.2.toNat := by unfold jump; rw [if_pos (.inr h36)]
        have := a2 (.inr h36)
        have ht2 : t = i + 1 + jump x := by
          rw [if_neg h35, if_pos (by simp [Bd.jumps, h36])] at ht
          simp only [List.mem_append, List.mem_singleton] at ht
          omega
        rw [← ht2]
        exact ⟨by rw [getD_set_ne _ _ (by omega)]; exact getD_set_eq _ _ (by omega), by rw [getD_set_ne _ _ (by omega)]; exact getD_set_eq _ _ (by omega)⟩
      · exfalso
        rw [if_neg h35, if_neg (by simp [Bd.jumps, h35, h36])] at ht
        simp at ht
        omega
theorem st_tab {fs : List Bd.Cost} {ps : List Plan} {l : List (Int × Int)} {c : Bd.Cost} {P : List Bd.Place} (h : Hd.Tab l.length fs l c P) : ∀ i, i ≤ l.length → ∀ k, k ≤ l.length → (st fs ps l i).known.getD k false = true → (Bd.pat P k).known = true ∧ (st fs ps l i).high.getD k 0 = (Bd.pat P k).high := by
  intro i
  induction i with
  | zero =>
    intro _ k hk hkn
    have h0 := h.p0
    cases k with
    | zero => exact ⟨h0.1, by simp [st, planGo, start]; exact h0.2.1.symm⟩
    | succ k =>
      exfalso
      simp [st, planGo, start, List.getD_eq_getElem?_getD, List.getElem?_replicate] at hkn
      split at hkn <;> simp at hkn
  | succ i ih =>
    intro hi k hk hkn
    obtain ⟨x, hx⟩ : ∃ x, l[i]? = some x := ⟨_, List.getElem?_eq_getElem (by omega)⟩
    have hok := h.ok i x hx
    by_cases hki : kn fs ps l i = true
    · by_cases hw : (k : Int) ∈ Bd.ways i x
      · obtain ⟨_, _, w1, w2⟩ := ways_kn fs ps hx hok.al hki k hw
        obtain ⟨p1, p2⟩ := ih (by omega) i (by omega) hki
        obtain ⟨_, _, _, b4⟩ := hok.kn p1
        obtain ⟨q1, q2, _⟩ := b4 k hw
        refine ⟨q1, ?_⟩
        rw [w2, q2, p2, growth_eff (Hd.always_ok hok.al).1]
      · have hold : (st fs ps l (i + 1)).known.getD k false = (st fs ps l i).known.getD k false ∧ (st fs ps l (i + 1)).high.getD k 0 = (st fs ps l i).high.getD k 0 := by
          obtain ⟨a1, a2, a3⟩ := Hd.always_ok hok.al
          rw [st_succ fs ps hx]
          unfold kn at hki
          unfold plan1
          rw [if_neg (by simpa using hki)]
          dsimp only
          unfold Bd.ways at hw
          by_cases h35 : x.1 = 35
          · have hj : jump x = x.2.toNat := by unfold jump; rw [if_pos (.inl h35)]
            have := a2 (.inl h35)
            have hne : i + 1 + jump x ≠ k := fun e => hw (by
              rw [if_pos h35, if_pos (by simp [Bd.jumps, h35])]
              simp
              omega)
            rw [if_pos h35, if_pos h35]
            exact ⟨getD_set_ne _ _ hne, getD_set_ne _ _ hne⟩
          · have hne1 : i + 1 ≠ k := fun e => hw (by
              rw [if_neg h35]
              simp
              omega)
            have hne : i + 1 + jump x ≠ k := fun e => by
              by_cases h36 : x.1 = 36
              · have hj : jump x = x.2.toNat := by unfold jump; rw [if_pos (.inr h36)]
                have := a2 (.inr h36)
                exact hw (by
                  rw [if_neg h35, if_pos (by simp [Bd.jumps, h36])]
                  simp
                  omega)
              · have hj : jump x = 0 := by unfold jump; rw [if_neg (by omega)]
                omega
            rw [if_neg h35, if_neg h35]
            exact ⟨by rw [getD_set_ne _ _ hne1, getD_set_ne _ _ hne], by rw [getD_set_ne _ _ hne1, getD_set_ne _ _ hne]⟩
        rw [hold.1] at hkn
        rw [hold.2]
        exact ih (by omega) k hk hkn
    · have he : st fs ps l (i + 1) = st fs ps l i := by
        rw [st_succ fs ps hx]
        unfold plan1
        unfold kn at hki
        rw [if_pos (by simpa using hki)]
      rw [he] at hkn ⊢
      exact ih (by omega) k hk hkn
theorem planned_of {fs : List Bd.Cost} (ps : List Plan) {l : List (Int × Int)} {c : Bd.Cost} {P : List Bd.Place} (h : Hd.Tab l.length fs l c P) : PlanOf fs ps l (planned l fs ps) P := by
  have hpl : (planned l fs ps).steps = (st fs ps l l.length).steps.map fun p => { p with go := ((st fs ps l l.length).index.set l.length (st fs ps l l.length).steps.length).getD p.go 0 } := by
    unfold planned st
    rw [List.take_length]
  have hwk : ∀ (i : Nat) x, l[i]? = some x → kn fs ps l i = true → ∀ t : Nat, (t : Int) ∈ Bd.ways i x → kn fs ps l t = true := fun i x hx hk t ht => by
    obtain ⟨w1, w2, w3, _⟩ := ways_kn fs ps hx (h.ok i x hx).al hk t ht
    have := (List.getElem?_eq_some_iff.1 hx).1
    obtain ⟨hs1, _⟩ : (st fs ps l t).known.getD t false = (st fs ps l t).known.getD t false ∧ True := ⟨rfl, trivial⟩
    have key : ∀ d, i + 1 + d ≤ t → (st fs ps l (i + 1 + d)).known.getD t false = true := by
      intro d
      induction d with
      | zero => intro _; exact w3
      | succ d ih =>
        intro hd
        obtain ⟨y, hy⟩ : ∃ y, l[i + 1 + d]? = some y := ⟨_, List.getElem?_eq_getElem (by omega)⟩
        rw [← Nat.add_assoc, st_succ fs ps hy]
        have hp := ih (by omega)
        have hlen := (st_len fs ps l (i + 1 + d) (by omega)).known
        unfold plan1
        split
        · exact hp
        · dsimp only
          have hset : ∀ (m : Nat) (L : List Bool), L.getD t false = true → (L.set m true).getD t false = true := fun m L hL => by
            simp only [List.getD_eq_getElem?_getD, List.getElem?_set] at hL ⊢
            by_cases hm : m = t
            · subst hm
              have : m < L.length := by
                apply Classical.byContradiction
                intro hc
                rw [List.getElem?_eq_none (by omega)] at hL
                cases hL
              simp [this]
            · simpa [hm] using hL
          split
          · exact hset _ _ hp
          · exact hset _ _ (hset _ _ hp)
    have := key (t - (i + 1)) (by omega)
    rw [show i + 1 + (t - (i + 1)) = t by omega] at this
    exact this
  refine ⟨by simp [kn, st, planGo, start], by simp [cnt, st, planGo, start], by rw [hpl, List.length_map]; rfl, fun i hi hk => (st_tab h i hi i hi hk).1, fun i x hx hk => ⟨hwk i x hx hk, ?_⟩⟩
  have hi := (List.getElem?_eq_some_iff.1 hx).1
  have hhigh := (st_tab (ps := ps) h i (by omega) i (by omega) hk).2
  obtain ⟨a1, a2, a3⟩ := Hd.always_ok (h.ok i x hx).al
  have htl : ((i + 1 + jump x : Nat) : Int) ∈ Bd.ways i x := by
    unfold Bd.ways
    by_cases h35 : x.1 = 35
    · have hj : jump x = x.2.toNat := by unfold jump; rw [if_pos (.inl h35)]
      have := a2 (.inl h35)
      rw [if_pos h35, if_pos (by simp [Bd.jumps, h35])]
      simp
      omega
    · by_cases h36 : x.1 = 36
      · have hj : jump x = x.2.toNat := by unfold jump; rw [if_pos (.inr h36)]
        have := a2 (.inr h36)
        rw [if_neg h35, if_pos (by simp [Bd.jumps, h36])]
        simp
        omega
      · have hj : jump x = 0 := by unfold jump; rw [if_neg (by omega)]
        rw [hj, if_neg h35]
        simp
  have htk := hwk i x hx hk _ htl
  have htn := (ways_kn fs ps hx (h.ok i x hx).al hk _ htl).1
  have hs := st_succ fs ps hx
  unfold kn at hk
  unfold plan1 at hs
  rw [if_neg (by simpa using hk)] at hs
  by_cases hz : 0 < sizeOf x ps
  · left
    have hst : (st fs ps l (i + 1)).steps = (st fs ps l i).steps ++ [⟨x.1, x.2, (st fs ps l i).high.getD i 0, i + 1 + jump x⟩] := by
      rw [hs]
      dsimp only
      rw [if_pos hz]
    refine ⟨hz, ?_, ?_⟩
    · obtain ⟨r, hr⟩ := st_steps fs ps l (i + 1) (l.length - (i + 1)) (by omega)
      rw [show i + 1 + (l.length - (i + 1)) = l.length by omega, hst] at hr
      rw [hpl, List.getElem?_map]
      have : (st fs ps l l.length).steps[cnt fs ps l i]? = some ⟨x.1, x.2, (st fs ps l i).high.getD i 0, i + 1 + jump x⟩ := by
        rw [hr]
        unfold cnt
        rw [List.append_assoc, List.getElem?_append_right (by omega), Nat.sub_self]
        rfl
      rw [this]
      simp only [Option.map_some]
      rw [go_at fs ps l htn htk, hhigh]
    · unfold cnt
      rw [hst, List.length_append]
      rfl
  · right
    refine ⟨by omega, ?_⟩
    unfold cnt
    rw [hs]
    dsimp only
    rw [if_neg hz]
end Bu
end Go.Proofs.YtnhebmgibiomnaaGreat

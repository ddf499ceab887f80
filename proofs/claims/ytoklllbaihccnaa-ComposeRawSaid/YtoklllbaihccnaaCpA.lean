/- compose.firstRound: what it tells, as a plain function; what its memory holds. Expanded from XCpA.src by expand.py. -/
import Derived.Test.YtoklllbaihccnaaCoZ
set_option linter.unusedVariables false
set_option linter.unusedSimpArgs false
namespace Go.Proofs.Ytoklllbaihccnaa
open Go.RowKit Go.Shelf
attribute [local go_sem] Oper.semAt_some
namespace Fi
abbrev Us := Int × (Int → List Int)
def use (g : Nat) (s : Us) (p : Prt) : Us := (if p.1 = (g : Int) then min s.1 (g : Int) else s.1, upd s.2 p.1 (s.2 p.1 ++ [(g : Int)]))
def uses (gl : List Gl) (s : Us) (g : Nat) : Us := (partsOf gl g).foldl (use g) s
def users (gl : List Gl) (j : Nat) : Us := (List.range j).foldl (uses gl) ((gl.length : Int), fun _ => [])
abbrev Gs := (Int → Bool) × List Int
def look (s : Gs) (u : Int) : Gs := if s.1 u = true then s else (upd s.1 u true, s.2 ++ [u])
def grow (U : Int → List Int) : Nat → Nat → Gs → Gs
  | 0, _, s => s
  | f + 1, i, s => if i < s.2.length then grow U f (i + 1) ((U (Hp.at_ s.2 i)).foldl look s) else s
abbrev Ts := Int × (Int → Bool)
def group (U : Int → List Int) (n : Nat) (met : Int → Bool) (v : Int) : Gs := grow U (n + 1) 0 (upd met v true, [v])
def turn (U : Int → List Int) (n : Nat) (s : Ts) (v : Int) : Ts :=
  if s.2 v = true then s else (if 1 < (group U n s.2 v).2.length then min s.1 (minL (group U n s.2 v).2) else s.1, (group U n s.2 v).1)
def turns (gl : List Gl) (vs : List Int) : Ts := vs.foldl (turn (users gl gl.length).2 gl.length) ((users gl gl.length).1, fun _ => false)
def first (gl : List Gl) : Int := (turns gl (Lf.left gl).reverse).1
/-- bounds -/
def Bd (n : Nat) (N : Nat) (s : Us) : Prop := (0 ≤ s.1 ∧ s.1 ≤ n) ∧ ∀ x, (s.2 x).length ≤ N ∧ ∀ y ∈ s.2 x, 0 ≤ y ∧ y < n
theorem use_bd {n N : Nat} {s : Us} (h : Bd n N s) {g : Nat} (hg : g < n) (p : Prt) : Bd n (N + 1) (use g s p) := by
  refine ⟨?_, fun x => ?_⟩
  · have := h.1
    simp only [use]
    split <;> omega
  · simp only [use, upd]
    split
    · refine ⟨by have := (h.2 p.1).1; simp; omega, fun y hy => ?_⟩
      rcases List.mem_append.1 hy with hy | hy
      · exact (h.2 _).2 y hy
      · simp only [List.mem_singleton] at hy; omega
    · exact ⟨by have := (h.2 x).1; omega, (h.2 x).2⟩
theorem uses_bd {n : Nat} {g : Nat} (hg : g < n) : ∀ (ps : List Prt) {N : Nat} {s : Us}, Bd n N s → Bd n (N + ps.length) (ps.foldl (use g) s)
  | [], N, s, h => h
  | p :: ps, N, s, h => by
    have := uses_bd hg ps (use_bd h hg p)
    rw [List.foldl_cons, List.length_cons, show N + (ps.length + 1) = N + 1 + ps.length by omega]
    exact this
theorem users_succ (gl : List Gl) (j : Nat) : users gl (j + 1) = uses gl (users gl j) j := by unfold users; rw [List.range_succ, List.foldl_append]; rfl
theorem users_bd {gl : List Gl} (hp : ∀ g, (partsOf gl g).length ≤ 1000) : ∀ j, j ≤ gl.length → Bd gl.length (1000 * j) (users gl j)
  | 0, _ => ⟨by simp [users], fun x => by simp [users]⟩
  | j + 1, hj => by
    have h := uses_bd (n := gl.length) (g := j) (by omega) (partsOf gl j) (users_bd hp j (by omega))
    have := hp j
    rw [users_succ]
    exact ⟨h.1, fun x => ⟨by have := (h.2 x).1; unfold uses; omega, (h.2 x).2⟩⟩
end Fi
/-- a map of rows of users -/
structure UsS (w : World) (base ub Ub : Nat) (f : Int → Option Value) (U : Int → List Int) : Prop where
  ubx : Blk w ub 94 #[.map (some Ub)]
  um : IMap w Ub f
  rows : ∀ k, (f k = none ∧ U k = []) ∨ ∃ u, f k = some u ∧ w.ownsRow base 3 1 u (U k).length (ints (U k))
  uu : ∀ k k' u u', k ≠ k' → f k = some u → f k' = some u' → Apart u u'
section
variable {w w' : World} {base ub Ub : Nat} {f : Int → Option Value} {U : Int → List Int}
theorem UsS.keep (h : UsS w base ub Ub f U) (k : ∀ (g : Nat) (o : Obj), w.heap[g]? = some o → o.isCells = true → w'.heap[g]? = some o) (ku : w'.heap[Ub]? = w.heap[Ub]?) : UsS w' base ub Ub f U :=
  ⟨h.ubx.keepC k, h.um.keep ku, fun x => by
    rcases h.rows x with e | ⟨u, e, ho⟩
    · exact .inl e
    · exact .inr ⟨u, e, owns_keepC ho k⟩, h.uu⟩
theorem UsS.grow (h : UsS w base ub Ub f U) (hg : Grow w w') : UsS w' base ub Ub f U :=
  h.keep (fun g o e _ => by rw [hg.block g (Array.getElem?_eq_some_iff.1 e).1 (fun x => x)]; exact e) (hg.block _ h.um.lt fun x => x)
theorem UsS.row (h : UsS w base ub Ub f U) (k : Int) : w.ownsRow base 3 1 ((f k).getD (.slice none 0 0)) (U k).length (ints (U k)) ∧ ∀ k' u', k ≠ k' → f k' = some u' → Apart ((f k).getD (.slice none 0 0)) u' := by
  rcases h.rows k with ⟨e, e2⟩ | ⟨u, e, ho⟩
  · rw [e, e2]
    exact ⟨owns_nil _ _ _ _, fun _ _ _ _ => apart_nil⟩
  · rw [e]
    exact ⟨ho, fun k' u' hk hu => h.uu k k' u u' hk e hu⟩
theorem UsS.look (h : UsS w base ub Ub f U) (k : Int) (hk : I64 k) : (Instr.lookup 94 (.map (some Ub)) (.int .i64 k) false).run Try.prog w = .ok ((f k).getD (.slice none 0 0)) w :=
  h.um.look (t := 94) Try.underlying94 (z := .slice none 0 0) (by kernel_rfl) k hk
/-- behind an append onto a row of users -/
theorem UsS.grown (h : UsS w base ub Ub f U) {k x : Int} {u' : Value} (ho : w'.ownsRow base 3 1 u' ((U k).length + 1) (ints (U k) ++ [.int .i64 x])) (hg : w.grownBy w' ((f k).getD (.slice none 0 0)).ownBlock)
    (hn : u'.ownBlock = ((f k).getD (.slice none 0 0)).ownBlock ∨ u'.ownBlock = some w.heap.size) :
    (∀ g t cs, Blk w g t cs → t ≠ 3 → Blk w' g t cs) ∧ IMap w' Ub f ∧ (∀ {z : Value} {n : Nat} {xs : List Value}, w.ownsRow base 3 1 z n xs → Apart ((f k).getD (.slice none 0 0)) z → w'.ownsRow base 3 1 z n xs ∧ Apart u' z) := by
  obtain ⟨r1, r4⟩ := h.row k
  have hb : ∀ g, ((f k).getD (.slice none 0 0)).ownBlock = some g → ∃ cs, Blk w g 3 cs := fun g e => (owns_block r1 e).2.2
  refine ⟨fun g t cs hB ht => (hg.block g hB.lt (fun e => by obtain ⟨cs', hB'⟩ := hb g e.symm; exact hB.ne_ hB' ht rfl)).trans hB, h.um.keep (hg.block _ h.um.lt fun e => ?_), fun {z n xs} hz ha => ⟨owns_keep hz fun g e => ?_, fun g e1 e2 => ?_⟩⟩
  · obtain ⟨cs', hB'⟩ := hb _ e.symm; exact h.um.mne hB' rfl
  · exact hg.block g (owns_block hz e).2.1 (fun e2 => ha g e2.symm e)
  · rcases hn with hn | hn
    · exact ha g (hn ▸ e1) e2
    · rw [hn] at e1; injection e1 with e1; have := (owns_block hz e2).2.1; omega
/-- .. which is then stored -/
theorem UsS.used (h : UsS w base ub Ub f U) {w1 : World} {k x : Int} {u' : Value} (ho : w1.ownsRow base 3 1 u' ((U k).length + 1) (ints (U k) ++ [.int .i64 x])) (hg : w.grownBy w1 ((f k).getD (.slice none 0 0)).ownBlock)
    (hn : u'.ownBlock = ((f k).getD (.slice none 0 0)).ownBlock ∨ u'.ownBlock = some w.heap.size) (hm : IMap w' Ub (fun y => if y = k then some u' else f y)) (hg2 : w1.grownBy w' (some Ub)) :
    UsS w' base ub Ub (fun y => if y = k then some u' else f y) (upd U k (U k ++ [x])) := by
  obtain ⟨g1, g3, g4⟩ := h.grown ho hg hn
  obtain ⟨r1, r4⟩ := h.row k
  have k2 : ∀ g t cs, Blk w1 g t cs → Blk w' g t cs := fun g t cs hb => (hg2.block g hb.lt (fun e => by injection e with e; exact g3.mne hb e)).trans hb
  have ko : ∀ {n : Nat} {u : Value} {xs : List Value}, w1.ownsRow base 3 1 u n xs → w'.ownsRow base 3 1 u n xs := fun ho => owns_keep ho fun g e => by
    obtain ⟨_, _, cs, hb⟩ := owns_block ho e
    rw [show w'.heap[g]? = _ from k2 g _ _ hb]; exact hb.symm
  refine ⟨k2 _ _ _ (g1 _ _ _ h.ubx (by decide)), hm, fun y => ?_, fun y y' z z' hy e e' => ?_⟩
  · by_cases e : y = k
    · subst e
      refine .inr ⟨u', by simp, ?_⟩
      rw [upd_same, show ints (U y ++ [x]) = ints (U y) ++ [.int .i64 x] by simp [ints], List.length_append, List.length_singleton]
      exact ko ho
    · simp only [if_neg e]
      rw [upd_ne _ _ e]
      rcases h.rows y with e' | ⟨u, e', ho'⟩
      · exact .inl e'
      · exact .inr ⟨u, e', ko (g4 ho' (r4 y u (Ne.symm e) e')).1⟩
  · by_cases e1 : y = k
    · subst e1
      simp only [if_true, Option.some.injEq] at e
      subst e
      simp only [if_neg (Ne.symm hy)] at e'
      rcases h.rows y' with ⟨e2, _⟩ | ⟨u, e2, ho'⟩
      · rw [e2] at e'; cases e'
      · rw [e2] at e'; injection e' with e'; subst e'; exact (g4 ho' (r4 y' u hy e2)).2
    · simp only [if_neg e1] at e
      by_cases e2 : y' = k
      · subst e2
        simp only [if_true, Option.some.injEq] at e'
        subst e'
        rcases h.rows y with ⟨e3, _⟩ | ⟨u, e3, ho'⟩
        · rw [e3] at e; cases e
        · rw [e3] at e; injection e with e; subst e; exact ((g4 ho' (r4 y u (Ne.symm e1) e3)).2).symm
      · simp only [if_neg e2] at e'
        exact h.uu y y' z z' hy e e'
end
end Go.Proofs.Ytoklllbaihccnaa

/- The sizes of a machine's rows: a step leaves them, and the stack is never higher than 32. No program in sight. -/
import Derived.Test.YthdmdgmchkhngaaGreatMcLaw
namespace Go.Proofs.YthdmdgmchkhngaaGreat
namespace Mr
open Mc Hd

/-- what of a state is of a size that stays -/
structure Sz (n m k : Nat) (s : St) : Prop where
  org : s.org.length = n
  cur : s.cur.length = n
  touch : s.touch.length = n
  ends : s.ends.length = m
  cvt : s.cvt.length = k
  store : s.store.length = 32
theorem if_len {α β : Type} {p : Prop} [Decidable p] {s t : α} (f : α → List β) {k : Nat} (h1 : (f s).length = k) (h2 : (f t).length = k) : (f (if p then s else t)).length = k := by split <;> assumption
theorem put_len (l : List Int) (i v : Int) : (put_ l i v).length = l.length := by unfold put_; split <;> simp
theorem seg_len (org : List (Int × Int)) (axis : Int) (c : Nat × Nat) (a b : Nat) : ∀ (n p : Nat) (cur : List (Int × Int)), (seg org axis c a b n p cur).length = cur.length
  | 0, _, _ => rfl
  | n + 1, p, cur => by
    rw [seg]
    split
    · rfl
    · rw [seg_len org axis c a b n, moved, List.length_set]
theorem foldl_len {α β : Type} (f : List β → α → List β) (h : ∀ l x, (f l x).length = l.length) : ∀ (xs : List α) (l : List β), (xs.foldl f l).length = l.length
  | [], _ => rfl
  | x :: xs, l => by rw [List.foldl_cons, foldl_len f h xs, h]
theorem contour_len (org : List (Int × Int)) (touch : List Int) (axis : Int) (cur : List (Int × Int)) (c : Nat × Nat) : (contour org touch axis cur c).length = cur.length :=
  foldl_len _ (fun _ _ => seg_len ..) _ _
theorem inter_len (s : St) (axis : Int) : (inter s axis).cur.length = s.cur.length := foldl_len _ (fun _ _ => contour_len ..) _ _
theorem goes_sz {n m k : Nat} {s : St} (h : Sz n m k s) (p : Nat) (axis v : Int) : Sz n m k (goes s p axis v) := ⟨h.org, by show (s.cur.set _ _).length = _; rw [List.length_set]; exact h.cur, by show (s.touch.set _ _).length = _; rw [List.length_set]; exact h.touch, h.ends, h.cvt, h.store⟩
theorem Sz.same {n m k : Nat} {s t : St} (h : Sz n m k s) (e : t.org = s.org ∧ t.cur = s.cur ∧ t.touch = s.touch ∧ t.ends = s.ends ∧ t.cvt = s.cvt ∧ t.store = s.store) : Sz n m k t :=
  ⟨by rw [e.1]; exact h.org, by rw [e.2.1]; exact h.cur, by rw [e.2.2.1]; exact h.touch, by rw [e.2.2.2.1]; exact h.ends, by rw [e.2.2.2.2.1]; exact h.cvt, by rw [e.2.2.2.2.2]; exact h.store⟩
theorem pass_sz {n m k : Nat} {s : St} (h : Sz n m k s) (a : Int) : Sz n m k (pass s a) := by unfold pass; split; exact h; exact h.same ⟨rfl, rfl, rfl, rfl, rfl, rfl⟩
theorem call_sz {n m k : Nat} {s : St} (h : Sz n m k s) (a b : Int) : Sz n m k (call s a b) := by unfold call; split; exact h.same ⟨rfl, rfl, rfl, rfl, rfl, rfl⟩; exact h
theorem deed_sz {n m k : Nat} {s : St} (h : Sz n m k s) (op a : Int) : Sz n m k (deed op a s) := by
  have h1 : Sz n m k { s with stack := s.stack.drop 1 } := h.same ⟨rfl, rfl, rfl, rfl, rfl, rfl⟩
  have h2 : Sz n m k { s with stack := s.stack.drop 2 } := h.same ⟨rfl, rfl, rfl, rfl, rfl, rfl⟩
  unfold deed
  simp only
  split <;> (first | exact h.same ⟨rfl, rfl, rfl, rfl, rfl, rfl⟩ | exact pass_sz h _ | exact call_sz h _ _ | exact call_sz h1 _ _ | skip)
  · exact ⟨h.org, h.cur, h.touch, h.ends, by show (put_ _ _ _).length = _; rw [put_len]; exact h.cvt, h.store⟩
  · exact ⟨h.org, h.cur, h.touch, h.ends, h.cvt, by show (put_ _ _ _).length = _; rw [put_len]; exact h.store⟩
  · split
    · exact goes_sz h2 _ _ _
    · exact h2
  · split
    · exact goes_sz h2 _ _ _
    · exact h2
  · split
    · exact goes_sz h2 _ _ _
    · exact h2
  · exact ⟨h.org, by rw [inter_len]; exact h.cur, h.touch, h.ends, h.cvt, h.store⟩
  · split
    · exact pass_sz h1 _
    · exact h1
theorem next_sz {n m k : Nat} {s : St} (h : Sz n m k s) : Sz n m k (next s).1 := by
  have := next_vis s
  exact h.same ⟨this.1, this.2.1, this.2.2.1, this.2.2.2.1, this.2.2.2.2.1, this.2.2.2.2.2.1⟩
theorem bump_sz {n m k : Nat} {s : St} (h : Sz n m k s) : Sz n m k (bump s) := by unfold bump; split; exact h; exact h.same ⟨rfl, rfl, rfl, rfl, rfl, rfl⟩
theorem step_sz {n m k : Nat} {s : St} (h : Sz n m k s) : Sz n m k (Mc.step s).1 := by
  rcases hn : next s with ⟨s', o⟩
  have h0 := next_sz h
  rw [hn] at h0
  cases o with
  | none => rw [step_none hn]; exact h0
  | some x =>
    have : (Mc.step s).1 = { deed x.1 x.2 (bump s') with steps := (deed x.1 x.2 (bump s')).steps + 1, peak := max (deed x.1 x.2 (bump s')).peak (deed x.1 x.2 (bump s')).stack.length } := by unfold Mc.step; rw [hn]
    rw [this]
    exact (deed_sz (bump_sz h0) x.1 x.2).same ⟨rfl, rfl, rfl, rfl, rfl, rfl⟩
theorem iter_sz {n m k : Nat} (j : Nat) {s : St} (h : Sz n m k s) : Sz n m k (iter j s) := by
  induction j generalizing s with
  | zero => exact h
  | succ j ih => rw [iter]; exact ih (step_sz h)
theorem run_sz {n m k : Nat} (j : Nat) {s : St} (h : Sz n m k s) (he : Er s) : Sz n m k (Mc.run j s) := by
  have := iter_run j he
  exact (iter_sz j h).same ⟨this.1.symm, this.2.1.symm, this.2.2.1.symm, this.2.2.2.1.symm, this.2.2.2.2.1.symm, this.2.2.2.2.2.1.symm⟩
theorem begin_sz (p : Pg) (z : Zn) : Sz z.cur.length z.ends.length p.cvt.length (begin_ p z) := ⟨by simp [begin_], by simp [begin_], by simp [begin_], by simp [begin_], by simp [begin_], by simp [begin_]⟩
/-- an instruction that is done is one that the stack allows -/
theorem next_some_wrong {s s' : St} {x : Int × Int} (h : next s = (s', some x)) : ∃ b, wrong s' x.1 x.2 b = 0 := by
  unfold next at h
  split at h
  · simp at h
  · split at h
    · simp at h
    · simp only [Prod.mk.injEq] at h
      obtain ⟨h1, h2⟩ := h
      split at h2
      · rename_i f r hset h3
        simp only [Option.some.injEq] at h2
        subst h2
        subst h1
        exact ⟨_, h3⟩
      · cases h2
theorem step_stack {s : St} (h : s.stack.length ≤ 32) : (Mc.step s).1.stack.length ≤ 32 := by
  rcases hn : next s with ⟨s', o⟩
  have hv := next_vis s
  rw [hn] at hv
  have hs : s'.stack = s.stack := hv.2.2.2.2.2.2.1
  cases o with
  | none => rw [step_none hn]; rw [hs]; exact h
  | some x =>
    have : (Mc.step s).1.stack = (deed x.1 x.2 (bump s')).stack := by unfold Mc.step; rw [hn]
    rw [this]
    obtain ⟨b, hb⟩ := next_some_wrong hn
    have hbs : (bump s').stack = s'.stack := by unfold bump; split <;> rfl
    unfold wrong at hb
    split at hb
    · cases hb
    · rename_i h1
      split at hb
      · cases hb
      · rename_i h2
        rw [deed_stack x.1 x.2 (bump s') (by omega) (by omega), hbs]
        omega
theorem iter_stack (j : Nat) {s : St} (h : s.stack.length ≤ 32) : (iter j s).stack.length ≤ 32 := by
  induction j generalizing s with
  | zero => exact h
  | succ j ih => rw [iter]; exact ih (step_stack h)
theorem run_stack (j : Nat) {s : St} (h : s.stack.length ≤ 32) (he : Er s) : (Mc.run j s).stack.length ≤ 32 := by
  have := iter_run j he
  rw [← this.2.2.2.2.2.2.1]
  exact iter_stack j h
/-- a run's rows are small -/
theorem run_small (j : Nat) (p : Pg) (z : Zn) (h1 : z.cur.length ≤ 1000000) (h2 : z.ends.length ≤ 1000000) (h3 : p.cvt.length ≤ 1000000) :
    (Mc.run j (begin_ p z)).org.length ≤ 1000000 ∧ (Mc.run j (begin_ p z)).cur.length ≤ 1000000 ∧ (Mc.run j (begin_ p z)).touch.length ≤ 1000000 ∧ (Mc.run j (begin_ p z)).ends.length ≤ 1000000 ∧ (Mc.run j (begin_ p z)).cvt.length ≤ 1000000 ∧ (Mc.run j (begin_ p z)).store.length = 32 ∧ (Mc.run j (begin_ p z)).stack.length ≤ 32 := by
  obtain ⟨a, b, c, d, e, f⟩ := run_sz j (begin_sz p z) (begin_er p z)
  exact ⟨by omega, by omega, by omega, by omega, by omega, f, run_stack j (by simp [begin_]) (begin_er p z)⟩
end Mr
end Go.Proofs.YthdmdgmchkhngaaGreat

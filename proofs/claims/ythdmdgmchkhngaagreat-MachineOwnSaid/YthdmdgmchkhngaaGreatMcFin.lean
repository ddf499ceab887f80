/- A program whose code weighs little ends soon: each step makes what is left lighter. No program in sight. -/
import Derived.Test.YthdmdgmchkhngaaGreatMcLaw
namespace Go.Proofs.YthdmdgmchkhngaaGreat
namespace Mf
open Mc Hd

/-- what an instruction weighs, if functions weigh W -/
def wI (W : Nat → Nat) (x : Int × Int) : Nat := if x.1 = 37 then 1 + W x.2.toNat else if x.1 = 38 then 1 + 16 * W x.2.toNat else 1
def cw (W : Nat → Nat) : List (Int × Int) → Nat
  | [] => 0
  | x :: r => wI W x + cw W r
def fw (W : Nat → Nat) (f : Fm) : Nat := cw W (f.code.drop f.next) + f.more * cw W f.code
def lw (W : Nat → Nat) : List Fm → Nat
  | [] => 0
  | f :: r => fw W f + lw W r
theorem wI_pos (W : Nat → Nat) (x : Int × Int) : 1 ≤ wI W x := by unfold wI; split; omega; split <;> omega
theorem cw_drop (W : Nat → Nat) : ∀ (l : List (Int × Int)) (a b : Nat), a ≤ b → cw W (l.drop b) ≤ cw W (l.drop a)
  | [], a, b, _ => by simp
  | x :: r, a, b, h => by
    match a, b with
    | 0, 0 => exact Nat.le_refl _
    | 0, b + 1 => rw [List.drop_succ_cons, List.drop_zero, cw]; have := cw_drop W r 0 b (Nat.zero_le _); rw [List.drop_zero] at this; omega
    | a + 1, b + 1 => rw [List.drop_succ_cons, List.drop_succ_cons]; exact cw_drop W r a b (by omega)
theorem cw_at (W : Nat → Nat) {l : List (Int × Int)} {n : Nat} (h : n < l.length) : cw W (l.drop n) = wI W (l.getD n (0, 0)) + cw W (l.drop (n + 1)) := by
  rw [List.drop_eq_getElem_cons h, cw, List.getD_eq_getElem?_getD, List.getElem?_eq_getElem h]
  rfl
theorem settle_lw (W : Nat → Nat) : ∀ l : List Fm, lw W (settle l) ≤ lw W l
  | [] => Nat.le_refl _
  | f :: r => by
    rw [settle]
    split
    · exact Nat.le_refl _
    · split
      · rename_i h
        rw [lw, lw]
        unfold fw
        simp only [List.drop_zero]
        have : f.more * cw W f.code = (f.more - 1) * cw W f.code + cw W f.code := by
          conv => lhs; rw [show f.more = (f.more - 1) + 1 by omega]
          rw [Nat.add_mul, Nat.one_mul]
        omega
      · have := settle_lw W r
        rw [lw]
        omega
theorem settle_head : ∀ (l : List Fm) (f : Fm) (r : List Fm), settle l = f :: r → f.next < f.code.length
  | [], f, r, h => by rw [settle] at h; cases h
  | g :: k, f, r, h => by
    rw [settle] at h
    split at h
    · rename_i hn
      injection h with e _
      subst e
      exact hn
    · split at h
      · rename_i hh
        injection h with e _
        subst e
        exact hh.2
      · exact settle_head k f r h
theorem call_lw {W : Nat → Nat} {s : St} (hF : ∀ j f, s.funcs[j]? = some f → cw W f ≤ W j) {a : Int} (h0 : 0 ≤ a) (h1 : a < s.funcs.length) (n : Int) (k : Nat) (hn : n ≤ k) (_hk : 0 < k) : lw W (call s a n).frames ≤ lw W s.frames + k * W a.toNat := by
  unfold call
  split
  · rename_i hp
    have hlt : a.toNat < s.funcs.length := by omega
    have hc := hF a.toNat _ (List.getElem?_eq_getElem hlt)
    show lw W (⟨s.funcs.getD a.toNat [], 0, (n - 1).toNat⟩ :: s.frames) ≤ _
    rw [lw, fw]
    simp only [List.drop_zero, List.getD_eq_getElem?_getD, List.getElem?_eq_getElem hlt, Option.getD_some]
    generalize cw W s.funcs[a.toNat] = c at *
    have h2 : (n - 1).toNat + 1 ≤ k := by omega
    have h3 : ((n - 1).toNat + 1) * c ≤ k * W a.toNat := Nat.mul_le_mul h2 hc
    rw [Nat.add_mul, Nat.one_mul] at h3
    omega
  · omega
theorem pass_lw (W : Nat → Nat) (s : St) (a : Int) : lw W (pass s a).frames ≤ lw W s.frames := by
  unfold pass
  cases h : s.frames with
  | nil => simp only [h]; exact Nat.le_refl _
  | cons f r =>
    simp only
    rw [lw, lw]
    have := cw_drop W f.code f.next (f.next + a.toNat) (by omega)
    unfold fw
    simp only
    omega
theorem bump_lw {W : Nat → Nat} {s : St} {f : Fm} {r : List Fm} (h : s.frames = f :: r) (hn : f.next < f.code.length) : lw W (bump s).frames + wI W (f.code.getD f.next (0, 0)) = lw W s.frames := by
  unfold bump
  rw [h]
  simp only
  rw [lw, lw]
  unfold fw
  simp only
  rw [cw_at W hn]
  omega
/-- a step makes what is left lighter -/
theorem step_lw {W : Nat → Nat} {s t : St} (hF : ∀ j f, s.funcs[j]? = some f → cw W f ≤ W j) (h : Mc.step s = (t, true)) : lw W t.frames + 1 ≤ lw W s.frames ∧ t.funcs = s.funcs := by
  rcases hn : next s with ⟨s', o⟩
  cases o with
  | none => rw [Mr.step_none hn] at h; cases h
  | some x =>
    obtain ⟨b, hw⟩ : ∃ b, wrong s' x.1 x.2 b = 0 ∧ ∃ f r, s'.frames = f :: r ∧ f.next < f.code.length ∧ x = f.code.getD f.next (0, 0) ∧ lw W s'.frames ≤ lw W s.frames ∧ s'.funcs = s.funcs := by
      unfold next at hn
      split at hn
      · simp at hn
      · split at hn
        · simp at hn
        · rename_i f r hset
          simp only [Prod.mk.injEq] at hn
          obtain ⟨h1, h2⟩ := hn
          split at h2
          · rename_i h3
            simp only [Option.some.injEq] at h2
            subst h1
            refine ⟨_, by rw [← h2]; exact h3, f, r, rfl, settle_head _ _ _ hset, h2.symm, ?_, rfl⟩
            have := settle_lw W s.frames
            rw [hset] at this
            exact this
          · cases h2
    obtain ⟨hw, f, r, hfr, hlt, hx, hle, hfu⟩ := hw
    have ht : t.frames = (deed x.1 x.2 (bump s')).frames ∧ t.funcs = (deed x.1 x.2 (bump s')).funcs := by
      unfold Mc.step at h
      rw [hn] at h
      simp only [Prod.mk.injEq] at h
      rw [← h.1]
      exact ⟨rfl, rfl⟩
    have hb := bump_lw (W := W) hfr hlt
    rw [← hx] at hb
    have hbf : (bump s').funcs = s.funcs := (Mr.bump_same s').1.trans hfu
    have hds : (deed x.1 x.2 (bump s')).funcs = s.funcs := (deed_same x.1 x.2 (bump s')).1.trans hbf
    refine ⟨?_, ht.2.trans hds⟩
    rw [ht.1]
    generalize bump s' = u at *
    have hpos := wI_pos W x
    unfold wrong at hw
    split at hw
    · cases hw
    · rename_i h1
      split at hw
      · cases hw
      · split at hw
        · cases hw
        · split at hw
          · cases hw
          · rename_i h4
            have hfl : s'.funcs.length = u.funcs.length := by rw [hbf, hfu]
            by_cases c1 : x.1 < 35 ∨ x.1 = 39
            · rw [deed_frames x.1 x.2 u (by omega) c1]
              omega
            · have c2 : x.1 = 35 ∨ x.1 = 36 ∨ x.1 = 37 ∨ x.1 = 38 := by omega
              obtain ⟨op, a⟩ := x
              simp only at *
              rcases c2 with rfl | rfl | rfl | rfl
              · have := pass_lw W u a
                show lw W (pass u a).frames + 1 ≤ _
                omega
              · have h5 := pass_lw W { u with stack := u.stack.drop 1 } a
                show lw W (if u.stack.getD 0 0 = 0 then pass { u with stack := u.stack.drop 1 } a else { u with stack := u.stack.drop 1 }).frames + 1 ≤ _
                simp only at h5
                split
                · omega
                · simp only; omega
              · have h5 := call_lw (W := W) (s := u) (by rw [hbf]; exact hF) (a := a) (by omega) (by omega) 1 1 (by omega) (by omega)
                show lw W (call u a 1).frames + 1 ≤ _
                have h6 : wI W (37, a) = 1 + W a.toNat := by simp [wI]
                omega
              · have h5 := call_lw (W := W) (s := { u with stack := u.stack.drop 1 }) (by simp only; rw [hbf]; exact hF) (a := a) (by omega) (by simp only; omega) (min (u.stack.getD 0 0) 16) 16 (by omega) (by omega)
                show lw W (call { u with stack := u.stack.drop 1 } a (min (u.stack.getD 0 0) 16)).frames + 1 ≤ _
                have h6 : wI W (38, a) = 1 + 16 * W a.toNat := by simp [wI]
                simp only at h5
                omega
/-- what weighs less than n ends within n steps -/
theorem ends {W : Nat → Nat} : ∀ (n : Nat) (s : St), (∀ j f, s.funcs[j]? = some f → cw W f ≤ W j) → lw W s.frames < n → ∃ t, Mc.steps n s = (t, false)
  | 0, s, _, h => absurd h (by omega)
  | n + 1, s, hF, h => by
    rw [Mc.steps]
    rcases hs : Mc.step s with ⟨t, b⟩
    cases b with
    | false => exact ⟨t, rfl⟩
    | true =>
      obtain ⟨h1, h2⟩ := step_lw hF hs
      simp only
      exact ends n t (by rw [h2]; exact hF) (by omega)
end Mf
end Go.Proofs.YthdmdgmchkhngaaGreat

/- Moves: a glyph of one part, and no outline of its own, is that part, moved. The plain law. No program in it. Expanded from XCqJ.src by expand.py. -/
import Derived.Test.YtoklllbaihccnaaCqI
set_option linter.unusedVariables false
set_option linter.unusedSimpArgs false
namespace Go.Proofs.Ytoklllbaihccnaa
open Go.RowKit
namespace Dp
open Ln Wk
def movG (gl : List Gl) (g : Nat) (x y : Int) : List Gl := gl ++ [⟨[((g : Int), x, y)], [], []⟩]
section
variable {gl : List Gl} {g : Nat} {x y : Int}
theorem movG_len : (movG gl g x y).length = gl.length + 1 := by unfold movG; simp
theorem movG_old {a : Nat} (h : a < gl.length) : (movG gl g x y)[a]? = gl[a]? := by unfold movG; rw [List.getElem?_append_left h]
theorem movG_new : (movG gl g x y)[gl.length]? = some ⟨[((g : Int), x, y)], [], []⟩ := by unfold movG; rw [List.getElem?_append_right (Nat.le_refl _), Nat.sub_self]; rfl
theorem movG_parts (hu : ∀ (a : Nat) u, gl[a]? = some u → ∀ p ∈ u.parts, p.1 < gl.length) {a : Nat} (h : a < gl.length) : partsOf (movG gl g x y) a = partsOf gl a := by
  unfold partsOf psOf
  rw [movG_len, movG_old h]
  refine List.filter_congr fun p hp => ?_
  cases hg : gl[a]? with
  | none => rw [hg] at hp; cases hp
  | some u =>
    rw [hg] at hp
    have := hu a u hg p hp
    unfold thereB
    rw [decide_eq_decide]
    omega
theorem movG_last (hg : g < gl.length) : partsOf (movG gl g x y) gl.length = [((g : Int), x, y)] := by
  unfold partsOf psOf
  rw [movG_len, movG_new]
  show List.filter _ [((g : Int), x, y)] = _
  rw [List.filter_cons, if_pos (by simp [thereB]; omega)]
  rfl
theorem movG_out {a : Nat} (h : gl.length < a) : partsOf (movG gl g x y) a = [] := by
  unfold partsOf psOf
  rw [show (movG gl g x y)[a]? = none from List.getElem?_eq_none (by rw [movG_len]; omega)]
  rfl
theorem movG_few {q : Nat} (hq1 : 1 ≤ q) (hu : ∀ (a : Nat) u, gl[a]? = some u → ∀ p ∈ u.parts, p.1 < gl.length) (hg : g < gl.length) (hq : ∀ a, (partsOf gl a).length ≤ q) (a : Nat) : (partsOf (movG gl g x y) a).length ≤ q := by
  rcases Nat.lt_trichotomy a gl.length with h | h | h
  · rw [movG_parts hu h]; exact hq a
  · rw [h, movG_last hg]; exact hq1
  · rw [movG_out h]; exact Nat.zero_le _
theorem movG_ends {e : Nat} (he : ∀ a, (ownO gl a).2.length ≤ e) (a : Int) : (ownO (movG gl g x y) a).2.length ≤ e := by
  have h0 := he a
  unfold ownO at h0 ⊢
  rcases Nat.lt_trichotomy a.toNat gl.length with h | h | h
  · rw [movG_old h]; exact h0
  · rw [h, movG_new]; exact Nat.zero_le _
  · rw [show (movG gl g x y)[a.toNat]? = none from List.getElem?_eq_none (by rw [movG_len]; omega)]; exact Nat.zero_le _
theorem movG_reach (hg : g < gl.length) {a : Int} (h : Reach (movG gl g x y) gl.length a) : a = gl.length ∨ Reach (movG gl g x y) g a := by
  induction h with
  | refl => exact .inl rfl
  | step q _ hq ih =>
    rcases ih with rfl | ih
    · rw [Int.toNat_natCast, movG_last hg] at hq
      rw [List.mem_singleton.1 hq]
      exact .inr .refl
    · exact .inr (.step q ih hq)
theorem moves (hp : ∀ a, (partsOf gl a).length ≤ 1000) (hu : ∀ (a : Nat) u, gl[a]? = some u → ∀ p ∈ u.parts, p.1 < gl.length) (hg : g < gl.length) (hl : ∀ a : Int, 0 ≤ a → ¬ Ln.Loop gl a) (ho : ∀ y, ∀ e ∈ (ownO gl y).2, I64 e) :
    (((flat gl g).2 ≠ 0 ∨ (down gl g).2.1 = 4) → (flat (movG gl g x y) gl.length).2 ≠ 0) ∧
    ((flat gl g).2 = 0 → (down gl g).2.1 ≠ 4 → flat (movG gl g x y) gl.length = (((flat gl g).1.1.map (mvP x y), (flat gl g).1.2), 0)) := by
  have hp' := movG_few (x := x) (y := y) (show 1 ≤ 1000 by decide) hu hg hp
  have hin : ∀ a, Reach gl g a → 0 ≤ a ∧ a < gl.length := fun a ha => ha.inR ⟨by omega, by omega⟩
  obtain ⟨s1, s2⟩ := same_font (gl' := movG gl g x y) hp hp' (g := (g : Int)) ⟨by omega, by omega⟩ (by rw [movG_len]; omega) (fun a ha => hl a (hin a ha).1) (fun a ha => by
    have := hin a ha
    exact ⟨movG_old (by omega), movG_parts hu (by omega)⟩)
  have hlast : partsOf (movG gl g x y) ((gl.length : Nat) : Int).toNat = [((g : Int), x, y)] := by rw [Int.toNat_natCast]; exact movG_last hg
  have hmem : ((g : Int), x, y) ∈ partsOf (movG gl g x y) ((gl.length : Nat) : Int).toNat := by rw [hlast]; exact List.mem_singleton.2 rfl
  refine ⟨fun h1 h2 => ?_, fun h1 h2 => ?_⟩
  · have h3 := flat_part hp' h2 hmem
    simp only at h3
    rw [s2] at h3
    obtain ⟨t, _, h4, _, _⟩ := flat_zero hp' h2
    have h5 := (down_part hp' h4 hmem).2
    obtain ⟨t2, _, h6, h7⟩ := (down_zero hp').1 h4
    rw [h7] at h5
    simp only at h5
    rw [s1] at h5
    rcases h1 with h1 | h1
    · exact h1 h3
    · omega
  · have hg2 : (flat (movG gl g x y) g).2 = 0 := by rw [s2]; exact h1
    obtain ⟨tg, dg, eg, hmg, _⟩ := flat_zero hp' hg2
    obtain ⟨tg2, dg2, h4g, eg2⟩ := (down_zero hp').1 eg
    have hdep : lrn 0 (most (movG gl g x y)) tg2 g = (down gl g).2.1 := by rw [← s1, eg2]
    -- nothing leads round
    have old : ∀ {a b : Int}, 0 ≤ a ∧ a < gl.length → Reach (movG gl g x y) a b → Reach gl a b ∧ 0 ≤ b ∧ b < gl.length := fun {a b} ha hr => by
      induction hr with
      | refl => exact ⟨.refl, ha⟩
      | step p _ hpp ih =>
        rw [movG_parts hu (by omega)] at hpp
        exact ⟨.step p ih.1 hpp, (mem_psOf hpp).2⟩
    have hnl : ∀ a, Reach (movG gl g x y) gl.length a → ¬ Ln.Loop (movG gl g x y) a := fun a ha ⟨p, hpp, hr⟩ => by
      have hga := movG_reach hg ha
      rcases hga with rfl | hga
      · rw [hlast] at hpp
        rw [List.mem_singleton.1 hpp] at hr
        have := (old (a := (g : Int)) (by omega) hr).2
        omega
      · obtain ⟨r1, r2⟩ := old (a := (g : Int)) (by omega) hga
        rw [movG_parts hu (by omega)] at hpp
        exact hl a r2.1 ⟨p, hpp, (old (mem_psOf hpp).2 hr).1⟩
    have d := dn_of hp' (g := (gl.length : Int)) (by rw [movG_len]; omega) hnl
    have hreach : Reach (movG gl g x y) gl.length g := .step _ .refl hmem
    have hz : (flat (movG gl g x y) gl.length).2 = 0 := by
      have hmost : lrn 0 (most (movG gl g x y)) (tl (movG gl g x y) gl.length) gl.length ≤ 4 := by
        rw [lrn_told (loc_most _) d.told (d.mem .refl)]
        unfold most
        rw [hlast]
        show max 0 (lrn 0 (most (movG gl g x y)) (tl (movG gl g x y) gl.length) g + 1) ≤ 4
        rw [d.same dg2 hreach (loc_most _) .refl, hdep]
        rw [hdep] at h4g
        omega
      have hmany : lrn 0 (many (movG gl g x y)) (tl (movG gl g x y) gl.length) gl.length ≤ 1000 := by
        rw [lrn_told (loc_many _) d.told (d.mem .refl)]
        unfold many own
        rw [hlast, Int.toNat_natCast, movG_new]
        show min (min 0 1001 + lrn 0 (many (movG gl g x y)) (tl (movG gl g x y) gl.length) g) 1001 ≤ 1000
        rw [d.same dg hreach (loc_many _) .refl]
        omega
      rw [flat_val hp' d, if_neg (by omega), if_neg (by omega)]
    refine Prod.ext ?_ hz
    rw [flat_eq hp' hz]
    unfold flatF ownO
    rw [hlast, Int.toNat_natCast, movG_new]
    show behindO ([], []) (flat (movG gl g x y) g).1 ((g : Int), x, y) = _
    rw [s2]
    unfold behindO
    simp only [List.nil_append, List.length_nil]
    refine Prod.ext rfl ?_
    show (flat gl g).1.2.map (fun e => wrap64 (e + ((0 : Nat) : Int))) = _
    conv => rhs; rw [← List.map_id (flat gl g).1.2]
    refine List.map_congr_left fun e he => ?_
    have := (flat_i64 hp ho (g := (g : Int))).2 e he
    unfold I64 at this
    rw [show e + ((0 : Nat) : Int) = e by omega, IntWalk.wrap64_in _ this]
    rfl
end
end Dp
namespace M4
theorem made_up (s : List Int) : ∀ (a : Nat) u, (made s false)[a]? = some u → ∀ p ∈ u.parts, p.1 < (made s false).length := by
  intro a u hu p hp
  rw [made_len]
  have := upto_up (s := s) (num_in s).1 15 a u (by rw [← made_upto]; exact hu) p hp
  omega
end M4
end Go.Proofs.Ytoklllbaihccnaa

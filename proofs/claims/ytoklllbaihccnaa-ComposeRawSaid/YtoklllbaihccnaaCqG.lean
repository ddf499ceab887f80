/- firstRound's plain function: the least glyph that is part of itself. No program in it. Expanded from XCqG.src by expand.py. -/
import Derived.Test.YtoklllbaihccnaaCpB
import Derived.Test.YtoklllbaihccnaaCqB
set_option linter.unusedVariables false
set_option linter.unusedSimpArgs false
namespace Go.Proofs.Ytoklllbaihccnaa
namespace Lf
open Ln Wk
abbrev wn (s : St) : List Int := s.way.map fun a => (a.1 : Int)
/-- what holds between two steps of the walk that left is: an v x: v lay below x on the way when x was left -/
structure Df (gl : List Gl) (s : St) (an : Int → Int → Prop) : Prop where
  nd : (s.told ++ wn s).Nodup
  met : ∀ x, s.met x = true ↔ x ∈ s.told ∨ x ∈ wn s
  inr : ∀ x ∈ s.told ++ wn s, 0 ≤ x ∧ x < gl.length
  reach : (wn s).Pairwise (Reach gl)
  anr : ∀ v x, an v x → x ∈ s.told ∧ Reach gl v x ∧ (v ∈ wn s ∨ (v ∈ s.told ∧ s.told.idxOf x < s.told.idxOf v))
  mid : ∀ v x y, an v x → y ∈ s.told → s.told.idxOf x < s.told.idxOf y → (v ∈ s.told → s.told.idxOf y < s.told.idxOf v) → an v y
  tr1 : ∀ x y pre post, an x y → wn s = pre ++ x :: post → ∀ v ∈ pre, an v y
  tr2 : ∀ v x y, an x y → an v x → an v y
  part : ∀ x ∈ s.told, ∀ p ∈ partsOf gl x.toNat, p.1 = x ∨ (p.1 ∈ s.told ∧ s.told.idxOf p.1 < s.told.idxOf x) ∨ an p.1 x
/-- what was looked at was met -/
def Wp (gl : List Gl) (s : St) : Prop := ∀ a ∈ s.way, ∀ i, i < a.2 → ∀ p, (raw gl a.1)[i]? = some p → thereB gl.length p.1 = true → s.met p.1 = true
section
variable {gl : List Gl} {s : St} {an : Int → Int → Prop}
theorem there_in {n : Nat} {x : Int} : thereB n x = true ↔ 0 ≤ x ∧ x < n := by simp [thereB]
theorem idx_app {l : List Int} {x g : Int} (h : x ∈ l) : (l ++ [g]).idxOf x = l.idxOf x := by rw [List.idxOf_append, if_pos h]
theorem idx_new {l : List Int} {g : Int} (h : g ∉ l) : (l ++ [g]).idxOf g = l.length := by rw [List.idxOf_append, if_neg h]; simp
theorem idx_lt {l : List Int} {x : Int} (h : x ∈ l) : l.idxOf x < l.length := List.idxOf_lt_length_of_mem h
theorem Df.enter (h : Df gl s an) {x : Int} (hx : ∀ a ∈ wn s, Reach gl a x) : Df gl (enter gl.length x s) an := by
  unfold Lf.enter
  split
  · rename_i hc
    have hr := there_in.1 hc.1
    have e : ((x.toNat : Nat) : Int) = x := by omega
    have ew : wn { s with met := upd s.met x true, way := s.way ++ [(x.toNat, 0)] } = wn s ++ [x] := by simp [wn, e]
    have hnm : x ∉ s.told ∧ x ∉ wn s := by
      have := h.met x
      rw [hc.2] at this
      constructor <;> intro hm <;> simp [hm] at this
    refine ⟨?_, fun y => ?_, fun y hy => ?_, ?_, fun v y hv => ?_, h.mid, fun y z pre post hyz hw => ?_, h.tr2, h.part⟩
    · rw [ew, ← List.append_assoc]
      exact List.nodup_append.2 ⟨h.nd, by simp, fun a ha b hb e2 => by
        simp only [List.mem_singleton] at hb
        subst hb; subst e2
        rcases List.mem_append.1 ha with ha | ha
        · exact hnm.1 ha
        · exact hnm.2 ha⟩
    · rw [ew, List.mem_append, List.mem_singleton]
      show upd s.met x true y = true ↔ _
      unfold upd
      split
      · rename_i e2; simp [e2]
      · rename_i e2; rw [h.met]; simp [e2]
    · rw [ew, ← List.append_assoc, List.mem_append, List.mem_singleton] at hy
      rcases hy with hy | rfl
      · exact h.inr y hy
      · exact hr
    · rw [ew, List.pairwise_append]
      exact ⟨h.reach, by simp, fun a ha b hb => by simp only [List.mem_singleton] at hb; subst hb; exact hx a ha⟩
    · obtain ⟨h1, h2, h3⟩ := h.anr v y hv
      refine ⟨h1, h2, h3.imp (fun h3 => ?_) id⟩
      rw [ew]; exact List.mem_append_left _ h3
    · rw [ew] at hw
      rcases snoc_split hw with ⟨rfl, rfl, rfl⟩ | ⟨post', rfl, hw'⟩
      · obtain ⟨_, _, h3⟩ := h.anr _ _ hyz
        rcases h3 with h3 | h3
        · exact absurd h3 hnm.2
        · exact absurd h3.1 hnm.1
      · exact h.tr1 y z pre post' hyz hw'
  · exact h
theorem Df.leave (h : Df gl s an) (hp : Wp gl s) {l : List (Nat × Nat)} {g : Nat} (hl : s.way = l ++ [(g, (raw gl g).length)]) :
    ∃ an', Df gl { s with told := s.told ++ [(g : Int)], way := l } an' := by
  have ew : wn s = (l.map fun a => (a.1 : Int)) ++ [(g : Int)] := by simp [wn, hl]
  generalize hpre : (l.map fun a => (a.1 : Int)) = pre at ew
  have hnd := h.nd
  rw [ew, ← List.append_assoc, List.nodup_append] at hnd
  obtain ⟨hn1, _, hn3⟩ := hnd
  have hgn : (g : Int) ∉ s.told ∧ (g : Int) ∉ pre := ⟨fun hm => hn3 _ (List.mem_append_left _ hm) _ (List.mem_singleton.2 rfl) rfl, fun hm => hn3 _ (List.mem_append_right _ hm) _ (List.mem_singleton.2 rfl) rfl⟩
  have hpt : ∀ v ∈ pre, v ∉ s.told := fun v hv hm => (List.nodup_append.1 hn1).2.2 v hm v hv rfl
  have hgan : ∀ v, ¬ an v g := fun v hv => hgn.1 (h.anr v g hv).1
  have ew' : wn { s with told := s.told ++ [(g : Int)], way := l } = pre := hpre
  have hre := h.reach
  rw [ew, List.pairwise_append] at hre
  have ix : ∀ {x}, x ∈ s.told → (s.told ++ [(g : Int)]).idxOf x = s.told.idxOf x := fun hm => idx_app hm
  have ig : (s.told ++ [(g : Int)]).idxOf (g : Int) = s.told.length := idx_new hgn.1
  refine ⟨fun v x => an v x ∨ (x = g ∧ v ∈ pre), ?_, fun x => ?_, fun x hx => ?_, ?_, fun v x hv => ?_, fun v x y hv hy hxy hyv => ?_, fun x y pr post hxy hw => ?_, fun v x y hxy hvx => ?_, fun x hx p hpp => ?_⟩
  · rw [ew']
    have := h.nd
    rw [ew] at this
    refine (List.Perm.nodup_iff ?_).1 this
    rw [List.append_assoc]
    exact List.Perm.append_left _ List.perm_append_comm
  · rw [ew']
    show s.met x = true ↔ _
    rw [h.met, ew]
    simp only [List.mem_append, List.mem_singleton]
    constructor
    · rintro (h | h | h)
      · exact .inl (.inl h)
      · exact .inr h
      · exact .inl (.inr h)
    · rintro ((h | h) | h)
      · exact .inl h
      · exact .inr (.inr h)
      · exact .inr (.inl h)
  · rw [ew'] at hx
    refine h.inr x ?_
    rw [ew]
    simp only [List.mem_append, List.mem_singleton] at hx ⊢
    rcases hx with (h | h) | h
    · exact .inl h
    · exact .inr (.inr h)
    · exact .inr (.inl h)
  · rw [ew']; exact hre.1
  · rw [ew']
    rcases hv with hv | ⟨rfl, hv⟩
    · obtain ⟨h1, h2, h3⟩ := h.anr v x hv
      refine ⟨List.mem_append_left _ h1, h2, ?_⟩
      rw [ew] at h3
      rcases h3 with h3 | ⟨h3, h4⟩
      · rcases List.mem_append.1 h3 with h3 | h3
        · exact .inl h3
        · rw [List.mem_singleton.1 h3]
          refine .inr ⟨List.mem_append_right _ (List.mem_singleton.2 rfl), ?_⟩
          show (s.told ++ [(g : Int)]).idxOf x < (s.told ++ [(g : Int)]).idxOf (g : Int)
          rw [ix h1, ig]; exact idx_lt h1
      · refine .inr ⟨List.mem_append_left _ h3, ?_⟩
        show (s.told ++ [(g : Int)]).idxOf x < (s.told ++ [(g : Int)]).idxOf v
        rw [ix h1, ix h3]; exact h4
    · exact ⟨List.mem_append_right _ (List.mem_singleton.2 rfl), hre.2.2 v hv _ (List.mem_singleton.2 rfl), .inl hv⟩
  · have hyv' : v ∈ s.told ++ [(g : Int)] → (s.told ++ [(g : Int)]).idxOf y < (s.told ++ [(g : Int)]).idxOf v := hyv
    have hxy' : (s.told ++ [(g : Int)]).idxOf x < (s.told ++ [(g : Int)]).idxOf y := hxy
    have hy' : y ∈ s.told ++ [(g : Int)] := hy
    have hxm : x ∈ s.told := by
      rcases hv with hv | ⟨rfl, _⟩
      · exact (h.anr v x hv).1
      · rw [ig] at hxy'
        rcases List.mem_append.1 hy' with hy2 | hy2
        · rw [ix hy2] at hxy'; have := idx_lt hy2; omega
        · rw [List.mem_singleton.1 hy2, ig] at hxy'; omega
    have hv' : an v x := by
      rcases hv with hv | ⟨rfl, _⟩
      · exact hv
      · exact absurd hxm hgn.1
    rcases List.mem_append.1 hy' with hy2 | hy2
    · rw [ix hxm, ix hy2] at hxy'
      refine .inl (h.mid v x y hv' hy2 hxy' fun hvm => ?_)
      have := hyv' (List.mem_append_left _ hvm)
      rw [ix hy2, ix hvm] at this
      exact this
    · rw [List.mem_singleton.1 hy2] at hyv' ⊢
      refine .inr ⟨rfl, ?_⟩
      obtain ⟨_, _, h3⟩ := h.anr v x hv'
      have hnt : v ∉ s.told ++ [(g : Int)] := fun hm => by
        have h5 := hyv' hm
        have h6 := idx_lt hm
        rw [ig] at h5
        rw [List.length_append, List.length_singleton] at h6
        omega
      rcases h3 with h3 | h3
      · rw [ew] at h3
        rcases List.mem_append.1 h3 with h3 | h3
        · exact h3
        · exact absurd (List.mem_append_right _ h3) hnt
      · exact absurd (List.mem_append_left _ h3.1) hnt
  · rw [ew'] at hw
    intro v hv
    have hvp : v ∈ pre := by rw [hw]; exact List.mem_append_left _ hv
    rcases hxy with hxy | ⟨rfl, _⟩
    · exact .inl (h.tr1 x y pr (post ++ [(g : Int)]) hxy (by rw [ew, hw]; simp) v hv)
    · exact .inr ⟨rfl, hvp⟩
  · rcases hxy with hxy | ⟨rfl, hx⟩
    · rcases hvx with hvx | ⟨rfl, hv⟩
      · exact .inl (h.tr2 v x y hxy hvx)
      · exact .inl (h.tr1 _ y pre [] hxy ew v hv)
    · rcases hvx with hvx | ⟨rfl, _⟩
      · exact absurd (h.anr v x hvx).1 (hpt x hx)
      · exact absurd hx hgn.2
  · show p.1 = x ∨ (p.1 ∈ s.told ++ [(g : Int)] ∧ (s.told ++ [(g : Int)]).idxOf p.1 < (s.told ++ [(g : Int)]).idxOf x) ∨ _
    have hx' : x ∈ s.told ++ [(g : Int)] := hx
    rcases List.mem_append.1 hx' with hx2 | hx2
    · rcases h.part x hx2 p hpp with h1 | ⟨h1, h2⟩ | h1
      · exact .inl h1
      · exact .inr (.inl ⟨List.mem_append_left _ h1, by rw [ix h1, ix hx2]; exact h2⟩)
      · exact .inr (.inr (.inl h1))
    · rw [List.mem_singleton.1 hx2] at hpp ⊢
      rw [Int.toNat_natCast] at hpp
      obtain ⟨hm, hin⟩ := mem_psOf hpp
      obtain ⟨i, hi⟩ := List.mem_iff_getElem?.1 hm
      have hil : i < (raw gl g).length := (List.getElem?_eq_some_iff.1 hi).1
      have hmet := hp (g, (raw gl g).length) (by rw [hl]; simp) i hil p hi (there_in.2 hin)
      rw [h.met, ew] at hmet
      rcases hmet with hmet | hmet
      · exact .inr (.inl ⟨List.mem_append_left _ hmet, by rw [ix hmet, ig]; exact idx_lt hmet⟩)
      · rcases List.mem_append.1 hmet with hmet | hmet
        · exact .inr (.inr (.inr ⟨rfl, hmet⟩))
        · exact .inl (List.mem_singleton.1 hmet)
theorem enter_met {n : Nat} {x y : Int} {s : St} (h : s.met y = true) : (enter n x s).met y = true := by
  unfold enter
  split
  · show upd s.met x true y = true
    unfold upd
    split
    · rfl
    · exact h
  · exact h
theorem enter_self {n : Nat} {x : Int} {s : St} (h : thereB n x = true) : (enter n x s).met x = true := by
  unfold enter
  split
  · show upd s.met x true x = true
    rw [upd_same]
  · rename_i hc
    have : ¬ s.met x = false := fun e => hc ⟨h, e⟩
    simpa using this
theorem Wp.enter (h : Wp gl s) (x : Int) : Wp gl (enter gl.length x s) := by
  intro a ha i hi p hpp ht
  have hh : a ∈ s.way ∨ a.2 = 0 := by
    unfold Lf.enter at ha
    split at ha
    · rcases List.mem_append.1 ha with ha | ha
      · exact .inl ha
      · rw [List.mem_singleton.1 ha]; exact .inr rfl
    · exact .inl ha
  rcases hh with hh | hh
  · exact enter_met (h a hh i hi p hpp ht)
  · omega
theorem step_df (h : Df gl s an) (hp : Wp gl s) {l : List (Nat × Nat)} {g k : Nat} (hl : s.way = l ++ [(g, k)]) (hk : k ≤ (raw gl g).length) : ∃ an', Df gl (step gl s g k) an' ∧ Wp gl (step gl s g k) := by
  have hd : s.way.dropLast = l := by rw [hl]; simp
  unfold step
  rw [hd]
  split
  · rename_i e
    rw [e] at hl
    obtain ⟨an', h'⟩ := h.leave hp hl
    refine ⟨an', h', fun a ha => hp a ?_⟩
    rw [hl]; exact List.mem_append_left _ ha
  · rename_i e
    have hkl : k < (raw gl g).length := by omega
    generalize hs1 : ({ s with way := l ++ [(g, k + 1)] } : St) = s1
    have ew : wn s1 = wn s := by rw [← hs1]; simp [wn, hl]
    have et : s1.told = s.told := by rw [← hs1]
    have em : s1.met = s.met := by rw [← hs1]
    have h1 : Df gl s1 an := by
      refine ⟨?_, ?_, ?_, ?_, ?_, ?_, ?_, h.tr2, ?_⟩
      · rw [et, ew]; exact h.nd
      · rw [et, ew, em]; exact h.met
      · rw [et, ew]; exact h.inr
      · rw [ew]; exact h.reach
      · rw [et, ew]; exact h.anr
      · rw [et]; exact h.mid
      · rw [ew]; exact h.tr1
      · rw [et]; exact h.part
    obtain ⟨q, hq⟩ : ∃ q, (raw gl g)[k]? = some q := ⟨_, List.getElem?_eq_getElem hkl⟩
    have hqe : ((raw gl g)[k]?.map (·.1)).get! = q.1 := by rw [hq]; rfl
    rw [hqe]
    by_cases ht : thereB gl.length q.1 = true
    · have hpg : q ∈ partsOf gl g := by
        show q ∈ psOf gl.length (raw gl g)
        exact List.mem_filter.2 ⟨List.mem_of_getElem? hq, ht⟩
      refine ⟨an, h1.enter fun a ha => ?_, fun a ha i hi p hpp ht' => ?_⟩
      · rw [ew] at ha
        have hre := h.reach
        have ew2 : wn s = (l.map fun a => (a.1 : Int)) ++ [(g : Int)] := by simp [wn, hl]
        rw [ew2] at ha hre
        have hag : Reach gl a g := by
          rcases List.mem_append.1 ha with ha | ha
          · exact (List.pairwise_append.1 hre).2.2 a ha _ (List.mem_singleton.2 rfl)
          · rw [List.mem_singleton.1 ha]; exact .refl
        exact .step q hag (by rw [Int.toNat_natCast]; exact hpg)
      · have hh : a ∈ s1.way ∨ a.2 = 0 := by
          unfold enter at ha
          split at ha
          · rcases List.mem_append.1 ha with ha | ha
            · exact .inl ha
            · rw [List.mem_singleton.1 ha]; exact .inr rfl
          · exact .inl ha
        rcases hh with hh | hh
        · have hold : ∀ i, i < a.2 → (a ∈ s.way ∨ (a = (g, k + 1))) := fun i hi => by
            rw [← hs1] at hh
            rcases List.mem_append.1 hh with hh | hh
            · left; rw [hl]; exact List.mem_append_left _ hh
            · exact .inr (List.mem_singleton.1 hh)
          rcases hold i hi with hs | rfl
          · exact enter_met (by rw [em]; exact hp a hs i hi p hpp ht')
          · by_cases hik : i = k
            · subst hik
              rw [hq] at hpp
              injection hpp with hpp
              subst hpp
              exact enter_self ht
            · exact enter_met (by rw [em]; exact hp (g, k) (by rw [hl]; simp) i (by simp only at hi ⊢; omega) p hpp ht')
        · omega
    · have he : enter gl.length q.1 s1 = s1 := by unfold enter; rw [if_neg fun e => ht e.1]
      rw [he]
      refine ⟨an, h1, fun a ha i hi p hpp ht' => ?_⟩
      rw [← hs1] at ha
      rcases List.mem_append.1 ha with ha | ha
      · rw [em]; exact hp a (by rw [hl]; exact List.mem_append_left _ ha) i hi p hpp ht'
      · have hak := List.mem_singleton.1 ha
        subst hak
        by_cases hik : i = k
        · subst hik
          rw [hq] at hpp
          injection hpp with hpp
          subst hpp
          exact absurd ht' ht
        · rw [em]; exact hp (g, k) (by rw [hl]; simp) i (by simp only at hi ⊢; omega) p hpp ht'
theorem step_met {g k : Nat} {y : Int} (h : s.met y = true) : (step gl s g k).met y = true := by
  unfold step
  split
  · exact h
  · exact enter_met h
theorem run_df (hp : ∀ g, (raw gl g).length ≤ 1000) : ∀ (f : Nat) (s : St) (an : Int → Int → Prop), Df gl s an → Wp gl s → ok gl s → todo gl s ≤ f → ∃ an', Df gl (run gl f s) an' ∧ (run gl f s).way = [] ∧ ∀ y, s.met y = true → (run gl f s).met y = true
  | 0, s, an, h, _, hok, hf => by
    have := way_le hok
    exact ⟨an, h, List.eq_nil_of_length_eq_zero (show s.way.length = 0 by omega), fun _ h => h⟩
  | f + 1, s, an, h, hw, hok, hf => by
    rcases List.eq_nil_or_concat s.way with e | ⟨l, ⟨g, k⟩, e⟩
    · rw [run_nil e]
      exact ⟨an, h, e, fun _ h => h⟩
    · have e : s.way = l ++ [(g, k)] := by rw [e]; simp
      rw [run_snoc e]
      have hk := (hok (g, k) (by rw [e]; simp)).2
      obtain ⟨an', h1, h2⟩ := step_df h hw e hk
      obtain ⟨h3, h4, _⟩ := step_todo hp e hok
      obtain ⟨an2, h5, h6, h7⟩ := run_df hp f _ an' h1 h2 h4 (by omega)
      exact ⟨an2, h5, h6, fun y hy => h7 y (step_met hy)⟩
theorem lefts_df (hp : ∀ g, (raw gl g).length ≤ 1000) : ∀ i, i ≤ gl.length → ∃ an, Df gl (lefts gl i) an ∧ (lefts gl i).way = [] ∧ ∀ y : Nat, y < i → (lefts gl i).met y = true
  | 0, _ => by
    refine ⟨fun _ _ => False, ⟨?_, ?_, ?_, ?_, ?_, ?_, ?_, ?_, ?_⟩, rfl, ?_⟩ <;> simp [lefts, start, wn]
  | i + 1, hi => by
    obtain ⟨an, h1, h2, h3⟩ := lefts_df hp i (by omega)
    have e : lefts gl (i + 1) = run gl (fuel gl.length) (enter gl.length i (lefts gl i)) := by
      unfold lefts
      rw [List.range_succ, List.foldl_append]
      rfl
    rw [e]
    generalize lefts gl i = s at h1 h2 h3
    have hw : Wp gl s := fun a ha => by rw [h2] at ha; cases ha
    have hok : ok gl s := fun a ha => by rw [h2] at ha; cases ha
    have h4 := h1.enter (x := (i : Int)) fun a ha => by simp [wn, h2] at ha
    obtain ⟨h5, h6⟩ := enter_todo hp (i : Int) s
    have htd : todo gl s ≤ fuel gl.length := by
      unfold todo fuel
      rw [h2]
      have := List.length_filter_le (fun g : Nat => !s.met g) (List.range gl.length)
      rw [List.length_range] at this
      simp only [List.map_nil, List.foldl_nil]
      omega
    obtain ⟨an', h7, h8, h9⟩ := run_df hp (fuel gl.length) _ an h4 (hw.enter _) (h6 hok) (by omega)
    refine ⟨an', h7, h8, fun y hy => h9 _ ?_⟩
    by_cases hyi : y = i
    · subst hyi
      exact enter_self (there_in.2 (by omega))
    · exact enter_met (h3 y (by omega))
/-- the row that left tells, and who lay below whom -/
structure Post (gl : List Gl) (L : List Int) (an : Int → Int → Prop) : Prop where
  nd : L.Nodup
  mem : ∀ x, x ∈ L ↔ 0 ≤ x ∧ x < gl.length
  anr : ∀ v x, an v x → Reach gl v x
  mid : ∀ v x y, an v x → v ∈ L → y ∈ L → L.idxOf x < L.idxOf y → L.idxOf y < L.idxOf v → an v y
  tr : ∀ v x y, an x y → an v x → an v y
  part : ∀ x ∈ L, ∀ p ∈ partsOf gl x.toNat, p.1 = x ∨ L.idxOf p.1 < L.idxOf x ∨ an p.1 x
theorem left_post (hp : ∀ g, (raw gl g).length ≤ 1000) : ∃ an, Post gl (left gl) an := by
  obtain ⟨an, h, h2, h3⟩ := lefts_df hp gl.length (Nat.le_refl _)
  have ew : wn (lefts gl gl.length) = [] := by simp [wn, h2]
  refine ⟨an, ⟨?_, fun x => ⟨fun hx => h.inr x (List.mem_append_left _ hx), fun hx => ?_⟩, fun v x hv => (h.anr v x hv).2.1, fun v x y hv _ hy hxy hyv => h.mid v x y hv hy hxy fun _ => hyv, h.tr2, fun x hx p hpp => ?_⟩⟩
  · have := h.nd
    rw [ew, List.append_nil] at this
    exact this
  · obtain ⟨n, rfl⟩ := Int.eq_ofNat_of_zero_le hx.1
    have h4 := (h.met _).1 (h3 n (by omega))
    rw [ew] at h4
    simpa [left] using h4
  · rcases h.part x hx p hpp with h1 | h1 | h1
    · exact .inl h1
    · exact .inr (.inl h1.2)
    · exact .inr (.inr h1)
end
end Lf
end Go.Proofs.Ytoklllbaihccnaa

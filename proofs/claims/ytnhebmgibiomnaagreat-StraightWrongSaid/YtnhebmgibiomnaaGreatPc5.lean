/- Parts of the proof, joined: SrL SrA SrB SrC. -/
import Derived.Deep.Light
import Derived.Test.YtnhebmgibiomnaaGreatPc4
set_option linter.unusedVariables false
set_option linter.unusedSimpArgs false
namespace Go.Proofs.YtnhebmgibiomnaaGreat
open Go.RowKit Mc
namespace Sr
structure Ok (s : St) : Prop where
  rl : s.regs.length = 64
  rk : ∀ x ∈ s.regs, K32 x
  m : Mc.Ok s.m
end Sr
structure SLay where
  og : Value
  cu : Value
  tq : Value
  en : Value
  co : Value
  cv : Value
  st : Value
def stTail (L : SLay) (s : Sr.St) : List Value := [L.og, L.cu, L.tq, L.en, L.co, L.cv, L.st, .int .i64 s.m.size, .int .i64 s.m.look, .int .i64 s.m.move, .int .i64 s.m.mode, .int .i64 (s.pc : Int), .int .i64 (s.steps : Int)]
def stCells (L : SLay) (s : Sr.St) : Array Value := (ints s.regs ++ stTail L s).toArray
theorem stc_reg {L : SLay} {s : Sr.St} (hl : s.regs.length = 64) {i : Nat} (hi : i < 64) : (stCells L s)[i]? = some (.int .i64 (s.regs.getD i 0)) := by
  unfold stCells
  rw [List.getElem?_toArray, List.getElem?_append_left (by rw [ints_len]; omega)]
  unfold ints
  rw [List.getElem?_map, List.getElem?_eq_getElem (by omega), List.getD_eq_getElem?_getD, List.getElem?_eq_getElem (by omega)]
  rfl
theorem stc_at {L : SLay} {s : Sr.St} (hl : s.regs.length = 64) (j : Nat) : (stCells L s)[64 + j]? = (stTail L s)[j]? := by
  unfold stCells
  rw [List.getElem?_toArray, List.getElem?_append_right (by rw [ints_len]; omega), ints_len, hl, Nat.add_sub_cancel_left]
theorem stc_setReg {L : SLay} {s : Sr.St} (hl : s.regs.length = 64) {i : Nat} (hi : i < 64) (v : Int) : (stCells L s).setIfInBounds i (.int .i64 v) = stCells L { s with regs := s.regs.set i v } := by
  unfold stCells
  rw [List.setIfInBounds_toArray, List.set_append_left _ _ (by rw [ints_len]; omega)]
  unfold ints
  rw [List.map_set]
  rfl
theorem stc_set {L L' : SLay} {s s' : Sr.St} (hl : s.regs.length = 64) (hr : s'.regs = s.regs) (j : Nat) (u : Value) (ht : (stTail L s).set j u = stTail L' s') : (stCells L s).setIfInBounds (64 + j) u = stCells L' s' := by
  unfold stCells
  rw [List.setIfInBounds_toArray, List.set_append_right _ _ (by rw [ints_len]; omega), ints_len, hl, Nat.add_sub_cancel_left, ht, hr]
def SrS (L : SLay) (sb : Nat) (k : Nat) : Prop := k = sb ∨ L.cu.ownBlock = some k ∨ L.tq.ownBlock = some k ∨ L.cv.ownBlock = some k ∨ L.st.ownBlock = some k
structure SrL (w : World) (sb : Nat) (L : SLay) (s : Sr.St) : Prop where
  blk : Blk w sb 104 (stCells L s)
  og : w.ownsRow 0 76 2 L.og s.m.org.length (pts s.m.org)
  cu : w.ownsRow 0 76 2 L.cu s.m.cur.length (pts s.m.cur)
  tq : w.ownsRow 0 3 1 L.tq s.m.touch.length (ints s.m.touch)
  en : w.ownsRow 0 3 1 L.en s.m.ends.length (ints s.m.ends)
  co : w.ownsRow 0 157 2 L.co s.m.cont.length (cts s.m.cont)
  cv : w.ownsRow 0 3 1 L.cv s.m.cvt.length (ints s.m.cvt)
  st : w.ownsRow 0 3 1 L.st s.m.store.length (ints s.m.store)
  ap_cu_og : Apart L.cu L.og
  ap_tq_en : Apart L.tq L.en
  ap_tq_cv : Apart L.tq L.cv
  ap_tq_st : Apart L.tq L.st
  ap_en_cv : Apart L.en L.cv
  ap_en_st : Apart L.en L.st
  ap_cv_st : Apart L.cv L.st
  ok : Sr.Ok s
section
variable {w w' : World} {sb : Nat} {L : SLay} {s : Sr.St}
theorem SrL.reg (h : SrL w sb L s) {i : Nat} (hi : i < 64) : w.cell? ⟨sb, i, none⟩ = some (.int .i64 (s.regs.getD i 0)) := (h.blk.cell i).trans (stc_reg h.ok.rl hi)
theorem SrL.c64 (h : SrL w sb L s) : w.cell? ⟨sb, 64, none⟩ = some L.og := (h.blk.cell 64).trans (stc_at h.ok.rl 0)
theorem SrL.c65 (h : SrL w sb L s) : w.cell? ⟨sb, 65, none⟩ = some L.cu := (h.blk.cell 65).trans (stc_at h.ok.rl 1)
theorem SrL.c66 (h : SrL w sb L s) : w.cell? ⟨sb, 66, none⟩ = some L.tq := (h.blk.cell 66).trans (stc_at h.ok.rl 2)
theorem SrL.c67 (h : SrL w sb L s) : w.cell? ⟨sb, 67, none⟩ = some L.en := (h.blk.cell 67).trans (stc_at h.ok.rl 3)
theorem SrL.c68 (h : SrL w sb L s) : w.cell? ⟨sb, 68, none⟩ = some L.co := (h.blk.cell 68).trans (stc_at h.ok.rl 4)
theorem SrL.c69 (h : SrL w sb L s) : w.cell? ⟨sb, 69, none⟩ = some L.cv := (h.blk.cell 69).trans (stc_at h.ok.rl 5)
theorem SrL.c70 (h : SrL w sb L s) : w.cell? ⟨sb, 70, none⟩ = some L.st := (h.blk.cell 70).trans (stc_at h.ok.rl 6)
theorem SrL.c71 (h : SrL w sb L s) : w.cell? ⟨sb, 71, none⟩ = some (.int .i64 s.m.size) := (h.blk.cell 71).trans (stc_at h.ok.rl 7)
theorem SrL.c72 (h : SrL w sb L s) : w.cell? ⟨sb, 72, none⟩ = some (.int .i64 s.m.look) := (h.blk.cell 72).trans (stc_at h.ok.rl 8)
theorem SrL.c73 (h : SrL w sb L s) : w.cell? ⟨sb, 73, none⟩ = some (.int .i64 s.m.move) := (h.blk.cell 73).trans (stc_at h.ok.rl 9)
theorem SrL.c74 (h : SrL w sb L s) : w.cell? ⟨sb, 74, none⟩ = some (.int .i64 s.m.mode) := (h.blk.cell 74).trans (stc_at h.ok.rl 10)
theorem SrL.c75 (h : SrL w sb L s) : w.cell? ⟨sb, 75, none⟩ = some (.int .i64 (s.pc : Int)) := (h.blk.cell 75).trans (stc_at h.ok.rl 11)
theorem SrL.c76 (h : SrL w sb L s) : w.cell? ⟨sb, 76, none⟩ = some (.int .i64 (s.steps : Int)) := (h.blk.cell 76).trans (stc_at h.ok.rl 12)
theorem SrL.keep (h : SrL w sb L s) (hk : ∀ k, (k = sb ∨ L.og.ownBlock = some k ∨ L.cu.ownBlock = some k ∨ L.tq.ownBlock = some k ∨ L.en.ownBlock = some k ∨ L.co.ownBlock = some k ∨ L.cv.ownBlock = some k ∨ L.st.ownBlock = some k) → w'.heap[k]? = w.heap[k]?) : SrL w' sb L s :=
  ⟨(hk sb (.inl rfl)).trans h.blk, owns_keep h.og (fun g e => hk g (by simp [e])), owns_keep h.cu (fun g e => hk g (by simp [e])), owns_keep h.tq (fun g e => hk g (by simp [e])), owns_keep h.en (fun g e => hk g (by simp [e])), owns_keep h.co (fun g e => hk g (by simp [e])), owns_keep h.cv (fun g e => hk g (by simp [e])), owns_keep h.st (fun g e => hk g (by simp [e])), h.ap_cu_og, h.ap_tq_en, h.ap_tq_cv, h.ap_tq_st, h.ap_en_cv, h.ap_en_st, h.ap_cv_st, h.ok⟩
theorem SrL.lt (h : SrL w sb L s) {k : Nat} (hk : k = sb ∨ L.og.ownBlock = some k ∨ L.cu.ownBlock = some k ∨ L.tq.ownBlock = some k ∨ L.en.ownBlock = some k ∨ L.co.ownBlock = some k ∨ L.cv.ownBlock = some k ∨ L.st.ownBlock = some k) : k < w.heap.size := by
  rcases hk with rfl | e | e | e | e | e | e | e
  · exact h.blk.lt
  · exact (owns_block h.og e).2.1
  · exact (owns_block h.cu e).2.1
  · exact (owns_block h.tq e).2.1
  · exact (owns_block h.en e).2.1
  · exact (owns_block h.co e).2.1
  · exact (owns_block h.cv e).2.1
  · exact (owns_block h.st e).2.1
theorem SrL.grow (h : SrL w sb L s) (hg : Grow w w') : SrL w' sb L s := h.keep fun k hk => hg.block k (h.lt hk) (fun x => x)
theorem SrL.own (h : SrL w sb L s) {i : Nat} {u : Value} {s' : Sr.St} (hc : (stCells L s).setIfInBounds i u = stCells L s') (ho : s'.m.org = s.m.org) (hcu : s'.m.cur = s.m.cur) (ht : s'.m.touch = s.m.touch) (he : s'.m.ends = s.m.ends) (hco : s'.m.cont = s.m.cont) (hcv : s'.m.cvt = s.m.cvt) (hst : s'.m.store = s.m.store) (hok : Sr.Ok s') : SrL (w.setCell ⟨sb, i, none⟩ u) sb L s' := by
  refine ⟨hc ▸ h.blk.set_ i u, ?_, ?_, ?_, ?_, ?_, ?_, ?_, h.ap_cu_og, h.ap_tq_en, h.ap_tq_cv, h.ap_tq_st, h.ap_en_cv, h.ap_en_st, h.ap_cv_st, hok⟩
  · rw [ho]; exact owns_set h.og h.blk (by decide) i u
  · rw [hcu]; exact owns_set h.cu h.blk (by decide) i u
  · rw [ht]; exact owns_set h.tq h.blk (by decide) i u
  · rw [he]; exact owns_set h.en h.blk (by decide) i u
  · rw [hco]; exact owns_set h.co h.blk (by decide) i u
  · rw [hcv]; exact owns_set h.cv h.blk (by decide) i u
  · rw [hst]; exact owns_set h.st h.blk (by decide) i u
theorem SrL.setReg (h : SrL w sb L s) {i : Nat} (hi : i < 64) {v : Int} (hv : K32 v) : SrL (w.setCell ⟨sb, i, none⟩ (.int .i64 v)) sb L { s with regs := s.regs.set i v } :=
  h.own (stc_setReg h.ok.rl hi v) rfl rfl rfl rfl rfl rfl rfl ⟨by simp [h.ok.rl], fun x hx => by rcases List.mem_or_eq_of_mem_set hx with hx | rfl; exact h.ok.rk x hx; exact hv, h.ok.m⟩
theorem SrL.setLook (h : SrL w sb L s) {v : Int} (hv : 0 ≤ v ∧ v ≤ 1) : SrL (w.setCell ⟨sb, 72, none⟩ (.int .i64 v)) sb L { s with m := { s.m with look := v } } :=
  h.own (stc_set (L := L) (L' := L) (s := s) (s' := { s with m := { s.m with look := v } }) h.ok.rl rfl 8 (.int .i64 v) rfl) rfl rfl rfl rfl rfl rfl rfl ⟨h.ok.rl, h.ok.rk, { h.ok.m with look := hv }⟩
theorem SrL.setMove (h : SrL w sb L s) {v : Int} (hv : 0 ≤ v ∧ v ≤ 1) : SrL (w.setCell ⟨sb, 73, none⟩ (.int .i64 v)) sb L { s with m := { s.m with move := v } } :=
  h.own (stc_set (L := L) (L' := L) (s := s) (s' := { s with m := { s.m with move := v } }) h.ok.rl rfl 9 (.int .i64 v) rfl) rfl rfl rfl rfl rfl rfl rfl ⟨h.ok.rl, h.ok.rk, { h.ok.m with move := hv }⟩
theorem SrL.setMode (h : SrL w sb L s) {v : Int} (hv : 0 ≤ v ∧ v ≤ 5) : SrL (w.setCell ⟨sb, 74, none⟩ (.int .i64 v)) sb L { s with m := { s.m with mode := v } } :=
  h.own (stc_set (L := L) (L' := L) (s := s) (s' := { s with m := { s.m with mode := v } }) h.ok.rl rfl 10 (.int .i64 v) rfl) rfl rfl rfl rfl rfl rfl rfl ⟨h.ok.rl, h.ok.rk, { h.ok.m with mode := hv }⟩
theorem SrL.setPc (h : SrL w sb L s) (v : Nat) : SrL (w.setCell ⟨sb, 75, none⟩ (.int .i64 (v : Int))) sb L { s with pc := v } :=
  h.own (stc_set (L := L) (L' := L) (s := s) (s' := { s with pc := v }) h.ok.rl rfl 11 (.int .i64 (v : Int)) rfl) rfl rfl rfl rfl rfl rfl rfl ⟨h.ok.rl, h.ok.rk, h.ok.m⟩
theorem SrL.setSteps (h : SrL w sb L s) (v : Nat) : SrL (w.setCell ⟨sb, 76, none⟩ (.int .i64 (v : Int))) sb L { s with steps := v } :=
  h.own (stc_set (L := L) (L' := L) (s := s) (s' := { s with steps := v }) h.ok.rl rfl 12 (.int .i64 (v : Int)) rfl) rfl rfl rfl rfl rfl rfl rfl ⟨h.ok.rl, h.ok.rk, h.ok.m⟩
theorem owns_setAt {base size n g : Nat} {t : TypeId} {v : Value} {xs : List Value} (h : w.ownsRow base t size v n xs) (hg : v.ownBlock = some g) {j : Nat} (hj : j < xs.length) (u : Value) : (w.setCell ⟨g, j, none⟩ u).ownsRow base t size v n (xs.set j u) := by
  rcases h.2 with ⟨rfl, _⟩ | ⟨g', cap, cur, rfl, hb, hh, h1, h2, h3, h4⟩
  · simp [Value.ownBlock] at hg
  · simp only [Value.ownBlock, Option.some.injEq] at hg
    subst hg
    have hk : Blk w g' t cur := hh
    refine ⟨by rw [List.length_set]; exact h.1, .inr ⟨g', cap, cur.setIfInBounds j u, rfl, hb, hk.set_ j u, h1, h2, by rw [Array.size_setIfInBounds]; exact h3, ?_⟩⟩
    rw [Array.toList_setIfInBounds, List.take_set, h4]
theorem owns_ne {base base' size size' n n' g : Nat} {t : TypeId} {v v' : Value} {xs xs' : List Value} (h : w.ownsRow base t size v n xs) (_h' : w.ownsRow base' t size' v' n' xs') (ha : Apart v v') (hg : v'.ownBlock = some g) (j : Nat) (u : Value) : (w.setCell ⟨g, j, none⟩ u).ownsRow base t size v n xs :=
  owns_keep h fun k e => Below.heap_setCell _ _ _ _ (fun e2 : k = g => ha k e (e2 ▸ hg))
theorem owns_other {base base' size size' n n' g : Nat} {t t' : TypeId} {v v' : Value} {xs xs' : List Value} (h : w.ownsRow base t size v n xs) (h' : w.ownsRow base' t' size' v' n' xs') (ht : t ≠ t') (hg : v'.ownBlock = some g) (j : Nat) (u : Value) : (w.setCell ⟨g, j, none⟩ u).ownsRow base t size v n xs :=
  owns_keep h fun k e => Below.heap_setCell _ _ _ _ (fun e2 : k = g => apart_types h h' ht k e (e2 ▸ hg))
theorem blk_other {base size n g : Nat} {t t' : TypeId} {v : Value} {xs : List Value} {cs : Array Value} (hb : Blk w sb t' cs) (h : w.ownsRow base t size v n xs) (ht : t' ≠ t) (hg : v.ownBlock = some g) (j : Nat) (u : Value) : Blk (w.setCell ⟨g, j, none⟩ u) sb t' cs := by
  obtain ⟨_, _, cs', hb'⟩ := owns_block h hg
  exact hb.far (p := ⟨g, j, none⟩) (hb.ne_ hb' ht) u
theorem SrL.setCv (h : SrL w sb L s) {g : Nat} (hg : L.cv.ownBlock = some g) {i : Nat} (hi : i < s.m.cvt.length) {v : Int} (hv : K32 v) : SrL (w.setCell ⟨g, i, none⟩ (.int .i64 v)) sb L { s with m := { s.m with cvt := s.m.cvt.set i v } } := by
  refine ⟨blk_other h.blk h.cv (by decide) hg _ _, owns_other h.og h.cv (by decide) hg _ _, owns_other h.cu h.cv (by decide) hg _ _, owns_ne h.tq h.cv h.ap_tq_cv hg _ _, owns_ne h.en h.cv h.ap_en_cv hg _ _, owns_other h.co h.cv (by decide) hg _ _, ?_, owns_ne h.st h.cv h.ap_cv_st.symm hg _ _, h.ap_cu_og, h.ap_tq_en, h.ap_tq_cv, h.ap_tq_st, h.ap_en_cv, h.ap_en_st, h.ap_cv_st, ⟨h.ok.rl, h.ok.rk, { h.ok.m with cvt := mem_set_k h.ok.m.cvt hv, cvl := by simpa using h.ok.m.cvl }⟩⟩
  have := owns_setAt h.cv hg (j := i) (by rw [ints_len]; exact hi) (.int .i64 v)
  rw [← ints_set] at this
  simpa using this
theorem SrL.setSt (h : SrL w sb L s) {g : Nat} (hg : L.st.ownBlock = some g) {i : Nat} (hi : i < s.m.store.length) {v : Int} (hv : K32 v) : SrL (w.setCell ⟨g, i, none⟩ (.int .i64 v)) sb L { s with m := { s.m with store := s.m.store.set i v } } := by
  refine ⟨blk_other h.blk h.st (by decide) hg _ _, owns_other h.og h.st (by decide) hg _ _, owns_other h.cu h.st (by decide) hg _ _, owns_ne h.tq h.st h.ap_tq_st hg _ _, owns_ne h.en h.st h.ap_en_st hg _ _, owns_other h.co h.st (by decide) hg _ _, owns_ne h.cv h.st h.ap_cv_st hg _ _, ?_, h.ap_cu_og, h.ap_tq_en, h.ap_tq_cv, h.ap_tq_st, h.ap_en_cv, h.ap_en_st, h.ap_cv_st, ⟨h.ok.rl, h.ok.rk, { h.ok.m with store := mem_set_k h.ok.m.store hv, stl := by simpa using h.ok.m.stl }⟩⟩
  have := owns_setAt h.st hg (j := i) (by rw [ints_len]; exact hi) (.int .i64 v)
  rw [← ints_set] at this
  simpa using this
theorem SrL.setTq (h : SrL w sb L s) {g : Nat} (hg : L.tq.ownBlock = some g) {i : Nat} (hi : i < s.m.touch.length) {v : Int} (hv : 0 ≤ v ∧ v ≤ 3) : SrL (w.setCell ⟨g, i, none⟩ (.int .i64 v)) sb L { s with m := { s.m with touch := s.m.touch.set i v } } := by
  refine ⟨blk_other h.blk h.tq (by decide) hg _ _, owns_other h.og h.tq (by decide) hg _ _, owns_other h.cu h.tq (by decide) hg _ _, ?_, owns_ne h.en h.tq h.ap_tq_en.symm hg _ _, owns_other h.co h.tq (by decide) hg _ _, owns_ne h.cv h.tq h.ap_tq_cv.symm hg _ _, owns_ne h.st h.tq h.ap_tq_st.symm hg _ _, h.ap_cu_og, h.ap_tq_en, h.ap_tq_cv, h.ap_tq_st, h.ap_en_cv, h.ap_en_st, h.ap_cv_st, ⟨h.ok.rl, h.ok.rk, { h.ok.m with touch := mem_set_k h.ok.m.touch hv, tl := by simpa using h.ok.m.tl }⟩⟩
  have := owns_setAt h.tq hg (j := i) (by rw [ints_len]; exact hi) (.int .i64 v)
  rw [← ints_set] at this
  simpa using this
theorem pts_put : ∀ {l : List (Int × Int)} {i : Nat} {x : Int × Int} (_ : l[i]? = some x) (axis v : Int), (pts l).set (i * 2 + (if axis = 1 then 1 else 0)) (.int .i64 v) = pts (l.set i (if axis = 1 then (x.1, v) else (v, x.2)))
  | a :: l, 0, x, h, axis, v => by
    simp only [List.getElem?_cons_zero, Option.some.injEq] at h
    subst h
    split <;> simp [pts]
  | a :: l, i + 1, x, h, axis, v => by
    have ih := pts_put (l := l) (i := i) (x := x) h axis v
    rw [show (i + 1) * 2 + (if axis = 1 then 1 else 0) = (i * 2 + (if axis = 1 then 1 else 0)) + 1 + 1 by omega]
    have : (pts (a :: l)).set (i * 2 + (if axis = 1 then 1 else 0) + 1 + 1) (.int .i64 v) = .int .i64 a.1 :: .int .i64 a.2 :: (pts l).set (i * 2 + (if axis = 1 then 1 else 0)) (.int .i64 v) := rfl
    rw [this, ih]
    rfl
  | [], i, x, h, _, _ => by simp at h
theorem SrL.setCu (h : SrL w sb L s) {g : Nat} (hg : L.cu.ownBlock = some g) {i : Nat} {x : Int × Int} (hx : s.m.cur[i]? = some x) (axis : Int) (v : Int) (hv : K32 v) (hxk : K32 x.1 ∧ K32 x.2) :
    SrL (w.setCell ⟨g, i * 2 + (if axis = 1 then 1 else 0), none⟩ (.int .i64 v)) sb L { s with m := { s.m with cur := s.m.cur.set i (if axis = 1 then (x.1, v) else (v, x.2)) } } := by
  have hi := (List.getElem?_eq_some_iff.1 hx).1
  refine ⟨blk_other h.blk h.cu (by decide) hg _ _, owns_ne h.og h.cu h.ap_cu_og.symm hg _ _, ?_, owns_other h.tq h.cu (by decide) hg _ _, owns_other h.en h.cu (by decide) hg _ _, owns_other h.co h.cu (by decide) hg _ _, owns_other h.cv h.cu (by decide) hg _ _, owns_other h.st h.cu (by decide) hg _ _, h.ap_cu_og, h.ap_tq_en, h.ap_tq_cv, h.ap_tq_st, h.ap_en_cv, h.ap_en_st, h.ap_cv_st, ⟨h.ok.rl, h.ok.rk, { h.ok.m with cur := fun p hp => ?_, orgl := by simpa using h.ok.m.orgl, tl := by simpa using h.ok.m.tl, cont := by simpa using h.ok.m.cont, curl := by simpa using h.ok.m.curl }⟩⟩
  · have hset := owns_setAt h.cu hg (j := i * 2 + (if axis = 1 then 1 else 0)) (by rw [pts_len]; split <;> omega) (.int .i64 v)
    have e := pts_put hx axis v
    rw [e] at hset
    simpa using hset
  · rcases List.mem_or_eq_of_mem_set hp with hp | rfl
    · exact h.ok.m.cur p hp
    · split
      · exact ⟨hxk.1, hv⟩
      · exact ⟨hv, hxk.2⟩
end
def SPost (w : World) (sb : Nat) (L : SLay) (s : Sr.St) (e : Ending) (w' : World) : Prop := e = .returned (.tuple #[]) ∧ SrL w' sb L s ∧ Fr (SrS L sb) w w'
end Go.Proofs.YtnhebmgibiomnaaGreat
namespace Go.Proofs.YtnhebmgibiomnaaGreat
open Go.RowKit Mc
theorem skept_any (n : Int) (w : World) : Calls Tryz.prog 72 #[.int .i64 n] w fun e w' => e = .returned (.int .i64 (k32 n)) ∧ w = w' := by
  go_enter Tryz.func72, Tryz.ntmps72
  go_wp2
  go_ret
  exact ⟨ret_i64 (k32_wrap n), rfl⟩
theorem srest_any (n d : Int) (w : World) (hd : 0 < d) (hd2 : d ≤ 1000) : Calls Tryz.prog 134 #[.int .i64 n, .int .i64 d] w fun e w' => e = .returned (.int .i64 (n % d)) ∧ w = w' := by
  have hm := Lib.hid (tmod_emod n d hd)
  have h2 := Int.emod_nonneg n (show d ≠ 0 by omega)
  have h3 := Int.emod_lt_of_pos n hd
  go_enter Tryz.func134, Tryz.ntmps134
  go_wp2
  all_goals go_ret
  · have hm := hm.out
    rw [if_pos ‹_›] at hm
    exact ⟨ret_i64 (by rw [hm]; exact IntWalk.wrap64_in _ (by omega)), rfl⟩
  · have hm := hm.out
    rw [if_neg (by omega)] at hm
    exact ⟨ret_i64 hm.symm, rfl⟩
theorem sdivided_any (a b : Int) (w : World) : Calls Tryz.prog 111 #[.int .i64 a, .int .i64 b] w fun e w' => e = .returned (.int .i64 (Mc.w64 (Mc.divd a b))) ∧ w = w' := by
  by_cases hb : b = 0
  · subst hb
    go_enter Tryz.func111, Tryz.ntmps111
    go_wp2
    go_ret
    exact ⟨ret_i64 rfl, rfl⟩
  · have hdv : Mc.divd a b = a.fdiv b := by unfold Mc.divd; rw [if_neg hb]
    have HF := Lib.hid (fdiv_tdiv a b hb)
    have HD := Lib.hid hdv
    have h1 : (b == 0) = false := beq_eq_false_iff_ne.2 hb
    clear hdv
    by_cases hc : a.tmod b ≠ 0 ∧ (decide (a < 0) ≠ decide (b < 0))
    · have e1 : (a.tmod b != 0) = true := bne_iff_ne.2 hc.1
      have e2 : (decide (a < 0) == decide (b < 0)) = false := beq_eq_false_iff_ne.2 hc.2
      have HC := Lib.hid hc
      obtain ⟨hc1, _⟩ := hc
      go_enter Tryz.func111, Tryz.ntmps111
      go_wp2
      go_ret
      refine ⟨ret_i64 ?_, rfl⟩
      rw [HD.out, HF.out, if_pos HC.out]
      exact w64_sub _
    · have HC := Lib.hid hc
      clear hc
      by_cases hz : a.tmod b = 0
      · have e1 : (a.tmod b != 0) = false := by simp [hz]
        go_enter Tryz.func111, Tryz.ntmps111
        go_wp2
        go_ret
        refine ⟨ret_i64 ?_, rfl⟩
        rw [HD.out, HF.out, if_neg HC.out]
        exact w64_wrap _
      · have e1 : (a.tmod b != 0) = true := bne_iff_ne.2 hz
        have e2 : (decide (a < 0) == decide (b < 0)) = true := by
          rcases hd : (decide (a < 0) == decide (b < 0)) with _ | _
          · exact absurd ⟨hz, beq_eq_false_iff_ne.1 hd⟩ HC.out
          · rfl
        go_enter Tryz.func111, Tryz.ntmps111
        go_wp2
        go_ret
        refine ⟨ret_i64 ?_, rfl⟩
        rw [HD.out, HF.out, if_neg HC.out]
        exact w64_wrap _
theorem struth_any (b : Bool) (w : World) : Calls Tryz.prog 121 #[.bool b] w fun e w' => e = .returned (.int .i64 (Mc.truth b)) ∧ w = w' := by
  cases b
  all_goals
    go_enter Tryz.func121, Tryz.ntmps121
    go_wp2
    go_ret
    exact ⟨rfl, rfl⟩
theorem scoord_any (b off : Nat) (a : Int) (w : World) (h0 : 0 ≤ a) (h1 : a ≤ 1) : Calls Tryz.prog 227 #[.pointer (some ⟨b, off, none⟩), .int .i64 a] w fun e w' => e = .returned (.pointer (some ⟨b, off + (if a = 1 then 1 else 0), none⟩)) ∧ w = w' := by
  have h : a = 0 ∨ a = 1 := by omega
  rcases h with rfl | rfl
  all_goals
    go_enter Tryz.func227, Tryz.ntmps227
    go_wp2
    go_ret
    exact ⟨rfl, rfl⟩
theorem leaps_any (op : Int) (w : World) : Calls Tryz.prog 49 #[.int .i64 op] w fun e w' => e = .returned (.bool (Sr.leaps op)) ∧ w = w' := by
  by_cases h35 : op = 35
  · subst h35
    go_enter Tryz.func49, Tryz.ntmps49
    go_wp2
    go_ret
    exact ⟨rfl, rfl⟩
  · by_cases h36 : op = 36
    · subst h36
      go_enter Tryz.func49, Tryz.ntmps49
      go_wp2
      go_ret
      exact ⟨rfl, rfl⟩
    · have b1 : (op == 35) = false := by simpa using h35
      have b2 : (op == 36) = false := by simpa using h36
      have e : Sr.leaps op = (op == 41) := by unfold Sr.leaps; by_cases h : op = 41 <;> simp [h35, h36, h]
      rw [e]
      clear e
      go_enter Tryz.func49, Tryz.ntmps49
      go_wp2
      go_ret
      exact ⟨rfl, rfl⟩
set_option maxHeartbeats 2000000 in
theorem uses_any (op : Int) (w : World) :
    Calls Tryz.prog 47 #[.int .i64 op] w fun e w' => e = .returned (.tuple #[.int .i64 (Sr.uses op).1, .bool (Sr.uses op).2]) ∧ w = w' := by
  go_enter Tryz.func47, Tryz.ntmps47
  go_wp2
  all_goals (go_ret2; go_light; refine ⟨?_, rfl⟩; simp_all [Sr.uses])
end Go.Proofs.YtnhebmgibiomnaaGreat
namespace Go.Proofs.YtnhebmgibiomnaaGreat
open Go.RowKit Mc
def regV (r : Sr.Reg) : Value := .agg #[.int .i64 r.op, .int .i64 r.d, .int .i64 r.a, .int .i64 r.b, .int .i64 r.n]
def regCells : List Sr.Reg → List Value
  | [] => []
  | x :: r => .int .i64 x.op :: .int .i64 x.d :: .int .i64 x.a :: .int .i64 x.b :: .int .i64 x.n :: regCells r
theorem regCells_len (l : List Sr.Reg) : (regCells l).length = l.length * 5 := by induction l with | nil => rfl | cons c r ih => simp [regCells, ih]; omega
theorem regCells_at (l : List Sr.Reg) : ∀ (i : Nat) (c : Sr.Reg), l[i]? = some c → (regCells l)[i * 5]? = some (.int .i64 c.op) ∧ (regCells l)[i * 5 + 1]? = some (.int .i64 c.d) ∧ (regCells l)[i * 5 + 2]? = some (.int .i64 c.a) ∧ (regCells l)[i * 5 + 3]? = some (.int .i64 c.b) ∧ (regCells l)[i * 5 + 4]? = some (.int .i64 c.n) := by
  induction l with
  | nil => intro i c h; simp at h
  | cons d r ih =>
    intro i c h
    cases i with
    | zero => simp at h; subst h; simp [regCells]
    | succ i =>
      have := ih i c (by simpa using h)
      rw [show (i + 1) * 5 = i * 5 + 5 by omega]
      simpa [regCells] using this
theorem regCells_app (a b : List Sr.Reg) : regCells (a ++ b) = regCells a ++ regCells b := by
  induction a with
  | nil => rfl
  | cons p r ih => simp [regCells, ih]
def thereTo (k : Nat) (d a b u : Int) : Prop :=
  (1 ≤ k → u % 2 = 0 ∨ Sr.rg d = true) ∧ (2 ≤ k → u / 2 % 2 = 0 ∨ Sr.rg a = true) ∧ (3 ≤ k → u / 4 % 2 = 0 ∨ Sr.rg b = true)
set_option maxRecDepth 50000 in
set_option maxHeartbeats 2000000 in
theorem there_any (r : Sr.Reg) (u : Int) (w : World) (h0 : 0 ≤ u) (h1 : u ≤ 7) :
    Calls Tryz.prog 48 #[regV r, .int .i64 u] w fun e w' => e = .returned (.bool (Sr.there r u)) ∧ Below w.heap.size w w' := by
  obtain ⟨op, d, a, b, n⟩ := r
  have h : u = 0 ∨ u = 1 ∨ u = 2 ∨ u = 3 ∨ u = 4 ∨ u = 5 ∨ u = 6 ∨ u = 7 := by omega
  have i0 : ∀ w : World, (Instr.index 170 (.agg #[.int .i64 d, .int .i64 a, .int .i64 b]) (.int .i64 0)).run Tryz.prog w = .ok (.int .i64 d) w := fun _ => by kernel_rfl
  have i1 : ∀ w : World, (Instr.index 170 (.agg #[.int .i64 d, .int .i64 a, .int .i64 b]) (.int .i64 1)).run Tryz.prog w = .ok (.int .i64 a) w := fun _ => by kernel_rfl
  have i2 : ∀ w : World, (Instr.index 170 (.agg #[.int .i64 d, .int .i64 a, .int .i64 b]) (.int .i64 2)).run Tryz.prog w = .ok (.int .i64 b) w := fun _ => by kernel_rfl
  unfold regV
  have b0 : bits BinOp.and IntKind.i64 u 1 = u % 2 := by rcases h with rfl | rfl | rfl | rfl | rfl | rfl | rfl | rfl <;> kernel_rfl
  have b1 : bits BinOp.and IntKind.i64 u 2 = u / 2 % 2 * 2 := by rcases h with rfl | rfl | rfl | rfl | rfl | rfl | rfl | rfl <;> kernel_rfl
  have b2 : bits BinOp.and IntKind.i64 u 4 = u / 4 % 2 * 4 := by rcases h with rfl | rfl | rfl | rfl | rfl | rfl | rfl | rfl <;> kernel_rfl
  generalize hu : u = u0 at *
  rcases h with rfl | rfl | rfl | rfl | rfl | rfl | rfl | rfl
  all_goals
    have HU := Lib.hid hu
    clear h0 h1 hu
    simp only [Int.reduceMod, Int.reduceDiv, Int.reduceMul] at b0 b1 b2
    go_enter Tryz.func48, Tryz.ntmps48
    go_wp2_with fail
    go_loopw [14] (fun i wr => ∃ k : Nat, k ≤ 3 ∧ i = .int .i64 k ∧ wr = w.alloc (.cells #[.int .i64 op, .int .i64 d, .int .i64 a, .int .i64 b, .int .i64 n] 50) ∧ thereTo k d a b u) (fun i _ => 3 - (intOf i).toNat)
    case atStart => exact ⟨0, by omega, rfl, rfl, ⟨fun h => absurd h (by decide), fun h => absurd h (by decide), fun h => absurd h (by decide)⟩⟩
    case round =>
      obtain ⟨k, hk, rfl, rfl, hok⟩ := hrel
      have HOK := Lib.hid hok
      clear hok
      rcases (show k = 0 ∨ k = 1 ∨ k = 2 ∨ k = 3 by omega) with rfl | rfl | rfl | rfl
      · rcases (show (0 ≤ d ∧ d < 64) ∨ d < 0 ∨ 64 ≤ d by omega) with ⟨r0, r1⟩ | r0 | r0
        all_goals
          go_wp2
          first
          | exact ⟨⟨1, by omega, rfl, trivial, ⟨fun _ => by rw [HU.out]; simp [Sr.rg] <;> omega, fun h => absurd h (by decide), fun h => absurd h (by decide)⟩⟩, by simp [intOf]⟩
          | (go_ret
             exact ⟨ret_bool (by simp [Sr.there, Sr.rg]; omega), (Below.refl _ _).alloc (Nat.le_refl _) _⟩)
      · rcases (show (0 ≤ a ∧ a < 64) ∨ a < 0 ∨ 64 ≤ a by omega) with ⟨r0, r1⟩ | r0 | r0
        all_goals
          go_wp2
          first
          | exact ⟨⟨2, by omega, rfl, trivial, ⟨fun _ => HOK.out.1 (by decide), fun _ => by rw [HU.out]; simp [Sr.rg] <;> omega, fun h => absurd h (by decide)⟩⟩, by simp [intOf]⟩
          | (go_ret
             exact ⟨ret_bool (by simp [Sr.there, Sr.rg]; omega), (Below.refl _ _).alloc (Nat.le_refl _) _⟩)
      · rcases (show (0 ≤ b ∧ b < 64) ∨ b < 0 ∨ 64 ≤ b by omega) with ⟨r0, r1⟩ | r0 | r0
        all_goals
          go_wp2
          first
          | exact ⟨⟨3, by omega, rfl, trivial, ⟨fun _ => HOK.out.1 (by decide), fun _ => HOK.out.2.1 (by decide), fun _ => by rw [HU.out]; simp [Sr.rg] <;> omega⟩⟩, by simp [intOf]⟩
          | (go_ret
             exact ⟨ret_bool (by simp [Sr.there, Sr.rg]; omega), (Below.refl _ _).alloc (Nat.le_refl _) _⟩)
      · go_wp2
        go_ret
        refine ⟨ret_bool ?_, (Below.refl _ _).alloc (Nat.le_refl _) _⟩
        obtain ⟨o1, o2, o3⟩ := HOK.out
        have o1 := o1 (by decide)
        have o2 := o2 (by decide)
        have o3 := o3 (by decide)
        rw [HU.out] at o1 o2 o3
        unfold Sr.there
        simp at o1 o2 o3 ⊢
        try simp [o1, o2, o3]
end Go.Proofs.YtnhebmgibiomnaaGreat
namespace Go.Proofs.YtnhebmgibiomnaaGreat
open Go.RowKit Mc
theorem Sr.fitsAll_of : ∀ {code : List Sr.Reg}, (∀ (i : Nat) r, code[i]? = some r → Sr.fits r ((code.length : Int) - 1 - i) = true) → Sr.fitsAll code = true
  | [], _ => rfl
  | x :: l, h => by
    have h0 := h 0 x rfl
    rw [show (((x :: l).length : Nat) : Int) - 1 - (0 : Nat) = l.length by rw [List.length_cons]; omega] at h0
    simp only [Sr.fitsAll, h0, Bool.true_and]
    refine Sr.fitsAll_of fun i r hr => ?_
    have := h (i + 1) r (by simpa using hr)
    rw [show (((x :: l).length : Nat) : Int) - 1 - ((i + 1 : Nat) : Int) = (l.length : Int) - 1 - i by rw [List.length_cons]; omega] at this
    exact this
theorem Sr.right_no {code : List Sr.Reg} {i : Nat} {r : Sr.Reg} (h : code[i]? = some r) (hf : Sr.fits r ((code.length : Int) - 1 - i) = false) : Sr.right code = false := by
  have : Sr.fitsAll code = false := by
    cases hx : Sr.fitsAll code with
    | false => rfl
    | true => rw [Sr.fitsAll_at hx h] at hf; cases hf
  unfold Sr.right
  rw [this]
  simp
theorem Sr.uses_in (op : Int) : 0 ≤ (Sr.uses op).1 ∧ (Sr.uses op).1 ≤ 7 := by
  unfold Sr.uses
  repeat' split
  all_goals exact ⟨by decide, by decide⟩
set_option maxRecDepth 50000 in
set_option maxHeartbeats 4000000 in
theorem right_any (A : Option Addr) (c B : Nat) (code : List Sr.Reg) (w : World) (hR : Reads w B 5 A code.length (regCells code)) (hB : B ≤ w.heap.size) (hn : code.length ≤ 1000000000000) :
    Calls Tryz.prog 21 #[.slice A code.length c] w fun e w' => e = .returned (.bool (Sr.right code)) ∧ Below w.heap.size w w' := by
  have HR := Lib.hid hR
  clear hR
  by_cases h0 : code.length < 1
  · have hr : Sr.right code = false := by unfold Sr.right; rw [decide_eq_false (by omega)]; rfl
    rw [hr]
    clear hr
    generalize code.length = n at *
    go_enter Tryz.func21, Tryz.ntmps21
    go_wp2
    go_ret
    exact ⟨rfl, Below.refl _ _⟩
  by_cases h1 : 80000 < code.length
  · have hr : Sr.right code = false := by unfold Sr.right; rw [decide_eq_false (by omega)]; rfl
    rw [hr]
    clear hr
    generalize code.length = n at *
    go_enter Tryz.func21, Tryz.ntmps21
    go_wp2
    go_ret
    exact ⟨rfl, Below.refl _ _⟩
  go_enter Tryz.func21, Tryz.ntmps21
  go_wp2_with fail
  go_loopw [19] (fun i wr => ∃ k : Nat, k ≤ code.length ∧ i = .int .i64 k ∧ (∀ (j : Nat) r, j < k → code[j]? = some r → Sr.fits r ((code.length : Int) - 1 - j) = true) ∧ Below w.heap.size w wr) (fun i _ => code.length - (intOf i).toNat)
  case atStart => exact ⟨0, by omega, rfl, fun j r h => absurd h (by omega), Below.refl _ _⟩
  case round =>
    obtain ⟨k, hk, rfl, hall, hb⟩ := hrel
    have HALL := Lib.hid hall
    clear hall
    have hsz := hb.size
    have hFr : Reads wr B 5 A code.length (regCells code) := HR.out.below hb hB
    by_cases hlt : k < code.length
    · obtain ⟨r, hr⟩ : ∃ r, code[k]? = some r := ⟨_, List.getElem?_eq_getElem hlt⟩
      obtain ⟨b, off, rfl, hbB, hcells⟩ := hFr.2 (by omega)
      obtain ⟨g0, g1, g2, g3, g4⟩ := regCells_at code k r hr
      have d0 := hcells _ _ g0
      have d1 := hcells _ _ g1
      have d2 := hcells _ _ g2
      have d3 := hcells _ _ g3
      have d4 := hcells _ _ g4
      rw [← Nat.add_assoc] at d1 d2 d3 d4
      have HRK := Lib.hid hr
      have HFR := Lib.hid hFr
      clear hcells g0 g1 g2 g3 g4 hr hFr
      obtain ⟨op, d, a, b', n⟩ := r
      simp only at d0 d1 d2 d3 d4
      go_wp2_with fail
      refine (uses_any op _).mono ?_
      rintro e w1 ⟨rfl, rfl⟩
      obtain ⟨u, ok, hu⟩ : ∃ u ok, Sr.uses op = (u, ok) := ⟨_, _, rfl⟩
      have hu07 := Sr.uses_in op
      rw [hu] at hu07 ⊢
      dsimp only at hu07
      obtain ⟨hu0, hu7⟩ := hu07
      have HU := Lib.hid hu
      clear hu
      have HN : Hid (∀ w2, Below w.heap.size w w2 → Sr.fits ⟨op, d, a, b', n⟩ ((code.length : Int) - 1 - k) = false → Ending.returned (Value.bool false) = .returned (.bool (Sr.right code)) ∧ Below w.heap.size w w2) := Lib.hid fun w2 h2 hf => ⟨ret_bool (Sr.right_no HRK.out hf).symm, h2⟩
      have hba : Below w.heap.size w (wr.alloc (.cells #[.int .i64 op, .int .i64 d, .int .i64 a, .int .i64 b', .int .i64 n] 50)) := hb.alloc hsz _
      cases ok with
      | false =>
        go_wp2
        go_ret
        exact HN.out _ hba (by unfold Sr.fits; rw [HU.out]; rfl)
      | true =>
        by_cases hm : (op = 42 ∧ k + 1 = code.length) ∨ (op ≠ 42 ∧ k + 1 < code.length)
        · have hfit : Sr.fits ⟨op, d, a, b', n⟩ ((code.length : Int) - 1 - k) = (Sr.there ⟨op, d, a, b', n⟩ u && (!Sr.leaps op || decide (0 ≤ n ∧ n < (code.length : Int) - 1 - k))) := by
            unfold Sr.fits
            rw [HU.out]
            rcases hm with ⟨h, h'⟩ | ⟨h, h'⟩
            · subst h
              rw [decide_eq_true (show (42 : Int) = 42 from rfl), decide_eq_true (show (code.length : Int) - 1 - k = 0 by omega)]
              simp
            · rw [decide_eq_false h, decide_eq_false (show ¬ (code.length : Int) - 1 - k = 0 by omega)]
              simp
          have HFIT := Lib.hid hfit
          clear hfit
          have hgo : (op == 42) = ((code.length : Int) - 1 - k == 0) := by
            rcases hm with ⟨h, h'⟩ | ⟨h, h'⟩
            · subst h
              rw [show ((code.length : Int) - 1 - k == 0) = true from beq_iff_eq.2 (by omega)]
              rfl
            · rw [show (op == 42) = false from beq_eq_false_iff_ne.2 h, show ((code.length : Int) - 1 - k == 0) = false from beq_eq_false_iff_ne.2 (by omega)]
          clear hm
          go_wp2_with fail
          refine (there_any ⟨op, d, a, b', n⟩ u _ hu0 hu7).mono ?_
          rintro e w2 ⟨rfl, hb2⟩
          have hb3 : Below w.heap.size w w2 := hba.trans (hb2.mono (by simp; omega))
          have c0 : w2.cell? ⟨wr.heap.size, 0, none⟩ = some (.int .i64 op) := by rw [hb2.cell (by simp)]; simp [go_sem]
          have c4 : w2.cell? ⟨wr.heap.size, 4, none⟩ = some (.int .i64 n) := by rw [hb2.cell (by simp)]; simp [go_sem]
          cases ht : Sr.there ⟨op, d, a, b', n⟩ u with
          | false =>
            have HT := Lib.hid ht
            clear ht
            go_wp2
            go_ret
            exact HN.out _ hb3 (by rw [HFIT.out, HT.out]; rfl)
          | true =>
            have HT := Lib.hid ht
            clear ht hb2 d0 d1 d2 d3 d4
            go_wp2_with fail
            refine (leaps_any op _).mono ?_
            rintro e w3 ⟨rfl, rfl⟩
            cases hlp : Sr.leaps op with
            | false =>
              have HF := Lib.hid (show Sr.fits ⟨op, d, a, b', n⟩ ((code.length : Int) - 1 - k) = true by rw [HFIT.out, HT.out, hlp]; rfl)
              clear hlp c0 c4
              go_wp2
              exact ⟨⟨k + 1, by omega, by go_num, fun j r hj hr => by
                rcases Nat.lt_or_ge j k with h | h
                · exact HALL.out j r h hr
                · obtain rfl : j = k := by omega
                  rw [HRK.out] at hr
                  injection hr with hr
                  subst hr
                  exact HF.out, hb3⟩, by simp [intOf]; omega⟩
            | true =>
              by_cases hN : 0 ≤ n ∧ n < (code.length : Int) - 1 - k
              · have HF := Lib.hid (show Sr.fits ⟨op, d, a, b', n⟩ ((code.length : Int) - 1 - k) = true by rw [HFIT.out, HT.out, hlp, decide_eq_true hN]; rfl)
                clear hlp
                obtain ⟨hN0, hN1⟩ := hN
                go_wp2
                exact ⟨⟨k + 1, by omega, by go_num, fun j r hj hr => by
                  rcases Nat.lt_or_ge j k with h | h
                  · exact HALL.out j r h hr
                  · obtain rfl : j = k := by omega
                    rw [HRK.out] at hr
                    injection hr with hr
                    subst hr
                    exact HF.out, hb3⟩, by simp [intOf]; omega⟩
              · have HF := Lib.hid (show Sr.fits ⟨op, d, a, b', n⟩ ((code.length : Int) - 1 - k) = false by rw [HFIT.out, HT.out, hlp, decide_eq_false hN]; rfl)
                clear hlp
                by_cases hN0 : 0 ≤ n
                · have hN1 : (code.length : Int) - 1 - k ≤ n := by omega
                  clear hN
                  go_wp2
                  go_ret
                  exact HN.out _ hb3 HF.out
                · clear hN
                  go_wp2
                  go_ret
                  exact HN.out _ hb3 HF.out
        · have hgo : ¬ (op == 42) = ((code.length : Int) - 1 - k == 0) := by
            intro h
            by_cases ho : op = 42
            · rw [ho] at h
              have := beq_iff_eq.1 h.symm
              exact hm (.inl ⟨ho, by omega⟩)
            · rw [beq_eq_false_iff_ne.2 ho] at h
              have := beq_eq_false_iff_ne.1 h.symm
              exact hm (.inr ⟨ho, by omega⟩)
          have hfit : Sr.fits ⟨op, d, a, b', n⟩ ((code.length : Int) - 1 - k) = false := by
            unfold Sr.fits
            rw [HU.out]
            have : (decide (op = 42) == decide ((code.length : Int) - 1 - k = 0)) = false := by
              refine beq_eq_false_iff_ne.2 fun h => hgo ?_
              have h' : (op = 42) ↔ ((code.length : Int) - 1 - k = 0) := by simpa using h
              rw [Bool.eq_iff_iff, beq_iff_eq, beq_iff_eq]
              exact h'
            simp only [this, Bool.and_false, Bool.false_and]
          have HF := Lib.hid hfit
          clear hm hfit
          go_wp2
          go_ret
          exact HN.out _ hba HF.out
    · obtain rfl : k = code.length := by omega
      obtain ⟨r, hr⟩ : ∃ r, code[code.length - 1]? = some r := ⟨_, List.getElem?_eq_getElem (by omega)⟩
      have hfit : Sr.fitsAll code = true := Sr.fitsAll_of fun i r hr => HALL.out i r (List.getElem?_eq_some_iff.1 hr).1 hr
      have hright : Sr.right code = decide (0 ≤ r.n ∧ r.n ≤ 64) := by
        unfold Sr.right
        rw [hfit, List.getLast?_eq_getElem?, hr, decide_eq_true (show 1 ≤ code.length ∧ code.length ≤ 80000 by omega)]
        simp
      have HRT := Lib.hid hright
      clear hright hfit
      obtain ⟨b, off, rfl, hbB, hcells⟩ := hFr.2 (by omega)
      obtain ⟨_, _, _, _, g4⟩ := regCells_at code _ r hr
      have d4 := hcells _ _ g4
      rw [← Nat.add_assoc] at d4
      have HFR := Lib.hid hFr
      clear hcells g4 hr hFr
      obtain ⟨op, d, a, b', n⟩ := r
      simp only at d4
      have hm : (code.length : Int) - 1 = ((code.length - 1 : Nat) : Int) := by omega
      have hml : code.length - 1 < code.length := by omega
      generalize code.length - 1 = m at *
      go_wp2
      all_goals
        go_ret
        exact ⟨ret_bool (by rw [HRT.out]; simp; omega), hb⟩
end Go.Proofs.YtnhebmgibiomnaaGreat

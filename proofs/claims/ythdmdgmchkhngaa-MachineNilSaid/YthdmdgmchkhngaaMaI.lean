/- Deeds of the machine: Cvt, SetCvt, Load, Save, Get, Org, Move, Set, Align: their contracts. -/
import Derived.Test.YthdmdgmchkhngaaMaH
namespace Go.Proofs.Ythdmdgmchkhngaa
open Go.RowKit Mc

section
variable {w w' : World} {mb : Nat} {O : Nat → Prop} {L : Lay} {s : St} {r : List Int} {n : Nat}
theorem Took.row (ht : Took w mb O s r n w') {t : TypeId} (hne : t ≠ 62) {size m : Nat} {v : Value} {xs : List Value} (hr : Row w O t size v m xs) : Row w' O t size v m xs :=
  hr.keep (fun g hg => by obtain ⟨_, _, cs, hb⟩ := hr.block hg; exact (ht.old g t cs hne hb).trans hb.symm) (fun _ h => h)
theorem Took.cv (ht : Took w mb O s r n w') (h : MaL w mb O L s) {L' : Lay} (h' : MaL w' mb O L' { s with stack := r }) : L'.cv = L.cv := by
  have := ht.cell 7 (by decide)
  rw [h'.blk.cell, h.blk.cell, h'.c.c7, h.c.c7] at this
  injection this
theorem Took.cu (ht : Took w mb O s r n w') (h : MaL w mb O L s) {L' : Lay} (h' : MaL w' mb O L' { s with stack := r }) : L'.cu = L.cu := by
  have := ht.cell 3 (by decide)
  rw [h'.blk.cell, h.blk.cell, h'.c.c3, h.c.c3] at this
  injection this
theorem Mc.Ok.cvt_ (h : Ok s) {l : List Int} (h1 : ∀ x ∈ l, K32 x) (h2 : l.length = s.cvt.length) : Ok { s with cvt := l } :=
  ⟨h.stack, h.slen, h1, h.store, h.stl, h.cur, h.org, h.orgl, h.touch, h.tl, h.size, h.look, h.move, h.mode, h.peak, h.frames, h.flen, h.funcs, h.fnl, h.cont, h.contl, h.curl, by rw [h2]; exact h.cvl, h.endl⟩
theorem mem_set_k {l : List Int} {P : Int → Prop} (h : ∀ x ∈ l, P x) {i : Nat} {v : Int} (hv : P v) : ∀ x ∈ l.set i v, P x := fun x hx => by
  rcases List.mem_or_eq_of_mem_set hx with hx | rfl
  · exact h x hx
  · exact hv
theorem ints_set (l : List Int) (i : Nat) (v : Int) : ints (l.set i v) = (ints l).set i (.int .i64 v) := by simp [ints, List.map_set]
theorem Row.frSet {t : TypeId} {size m : Nat} {v : Value} {xs : List Value} (hr : Row w O t size v m xs) {g : Nat} (hg : v.ownBlock = some g) (i : Nat) (u : Value) : Fr O w (w.setCell ⟨g, i, none⟩ u) := (Fr.refl O w).setCell (.inl (hr.2 g hg)) _
theorem MaL.setCv (h : MaL w mb O L s) {g m c : Nat} (hv : L.cv = .slice (some ⟨g, 0, none⟩) m c) {i : Nat} (hi : i < s.cvt.length) {v : Int} (hk : K32 v) : MaL (w.setCell ⟨g, i, none⟩ (.int .i64 v)) mb O L { s with cvt := s.cvt.set i v } := by
  have hob : L.cv.ownBlock = some g := by rw [hv]; rfl
  have hg : g ≠ mb := h.cv.ne_blk h.blk (by decide) hob
  refine h.cvt_ (by simp) ?_ (Below.heap_setCell _ _ _ _ hg.symm) (fun k _ _ hk => Below.heap_setCell _ _ _ _ (fun e => hk (by rw [hob, e]))) (fun _ h => h) (fun k hk => by have := h.olt k hk; simpa [World.setCell] using this) (h.ok.cvt_ (mem_set_k h.ok.cvt hk) (by simp))
  rw [ints_set]
  exact h.cv.set_ hob (by rw [ints_len]; exact hi) _
theorem ints_get {l : List Int} {i : Nat} {v : Int} (h : l[i]? = some v) : (ints l)[i]? = some (.int .i64 v) := by simp [ints, h]
theorem pts_get : ∀ {l : List (Int × Int)} {i : Nat} {v : Int × Int}, l[i]? = some v → (pts l)[2 * i]? = some (.int .i64 v.1) ∧ (pts l)[2 * i + 1]? = some (.int .i64 v.2)
  | a :: l, 0, v, h => by
    simp only [List.getElem?_cons_zero, Option.some.injEq] at h
    subst h
    exact ⟨rfl, rfl⟩
  | a :: l, i + 1, v, h => by
    have := pts_get (l := l) (i := i) (v := v) h
    rw [show 2 * (i + 1) = 2 * i + 2 by omega]
    exact this
  | [], i, v, h => by simp at h
end

theorem cvt_deed (w : World) (mb : Nat) (O : Nat → Prop) (L : Lay) (s : St) (h : MaL w mb O L s) (a x : Int) (r : List Int) (hs : s.stack = x :: r) :
    Calls Try.prog 64 #[.pointer (some ⟨mb, 0, none⟩), .int .i64 a] w (MPost w mb O (push (at_ s.cvt x) { s with stack := r })) := by
  obtain ⟨A, c, hv, hc1, hc2⟩ := h.cv.form
  have c7 := h.blk.cell 7
  rw [h.c.c7, hv] at c7
  have HR : Hid (∃ g, (0 < s.cvt.length → A = some ⟨g, 0, none⟩) ∧ ∀ w', Took w mb O s r 1 w' → ∀ (i : Nat) v, s.cvt[i]? = some v → w'.cell? ⟨g, 0 + i, none⟩ = some (.int .i64 v)) := by
    by_cases h0 : 0 < s.cvt.length
    · obtain ⟨g, c', hv', _⟩ := h.cv.at_ h0
      rw [hv] at hv'
      injection hv' with hv'
      refine Lib.hid ⟨g, fun _ => hv', fun w' ht i v hi => ?_⟩
      obtain ⟨g2, c2, hv2, _, _, _, _, hc, _⟩ := (ht.row (by decide) h.cv).at_ h0
      rw [hv, hv'] at hv2
      injection hv2 with hv2
      injection hv2 with hv2
      injection hv2 with hv2
      subst hv2
      rw [Nat.zero_add]
      exact hc i _ (ints_get hi)
    · exact Lib.hid ⟨0, fun e => absurd e h0, fun w' _ i v hi => by have := (List.getElem?_eq_some_iff.1 hi).1; omega⟩
  have hcl := Lib.hid h.ok.cvl
  have H := Lib.hid h
  have HS := Lib.hid hs
  clear h hs hv hc1 hc2
  go_enter Try.func64, Try.ntmps64
  go_wp2_with fail
  obtain ⟨g, hA, hrow⟩ := HR.out
  refine (read_any w mb O L s H.out x r HS.out A s.cvt c g 0 hcl.out hA hrow).mono ?_
  intro e w9 hp; have HP := Lib.hid hp; obtain ⟨rfl, _⟩ := hp; go_wp2; go_end0; exact HP.out
theorem load_deed (w : World) (mb : Nat) (O : Nat → Prop) (L : Lay) (s : St) (h : MaL w mb O L s) (a x : Int) (r : List Int) (hs : s.stack = x :: r) :
    Calls Try.prog 68 #[.pointer (some ⟨mb, 0, none⟩), .int .i64 a] w (MPost w mb O (push (at_ s.store x) { s with stack := r })) := by
  have H := Lib.hid h
  have HS := Lib.hid hs
  have hl := h.ok.stl
  have HL := Lib.hid hl
  clear h hs hl
  go_enter Try.func68, Try.ntmps68
  go_wp2_with fail
  have hr := read_any w mb O L s H.out x r HS.out (some ⟨mb, 8, none⟩) s.store 32 mb 8 (by rw [HL.out]; decide) (fun _ => rfl) (fun w' ht i v hi => by obtain ⟨L', h'⟩ := ht.ma; rw [h'.blk.cell]; exact h'.c.st i v hi)
  rw [HL.out] at hr
  refine hr.mono ?_
  clear hr
  intro e w9 hp; have HP := Lib.hid hp; obtain ⟨rfl, _⟩ := hp; go_wp2; go_end0; exact HP.out
theorem setCvt_deed (w : World) (mb : Nat) (O : Nat → Prop) (L : Lay) (s : St) (h : MaL w mb O L s) (a x y : Int) (r : List Int) (hs : s.stack = y :: x :: r) :
    Calls Try.prog 66 #[.pointer (some ⟨mb, 0, none⟩), .int .i64 a] w (MPost w mb O { s with stack := r, cvt := put_ s.cvt x y }) := by
  obtain ⟨A, c, hv, hc1, hc2⟩ := h.cv.form
  have c7 := h.blk.cell 7
  rw [h.c.c7, hv] at c7
  have hcl := h.ok.cvl
  have HG : Hid (Calls Try.prog 67 #[.pointer (some ⟨mb, 0, none⟩), .slice A s.cvt.length c] w (MPost w mb O { s with stack := r, cvt := put_ s.cvt x y })) := by
    by_cases hx : 0 ≤ x ∧ x < s.cvt.length
    · obtain ⟨i, rfl⟩ : ∃ i : Nat, x = i := ⟨x.toNat, by omega⟩
      have hi : i < s.cvt.length := by omega
      obtain ⟨g, c', hv', _⟩ := h.cv.at_ (by omega)
      rw [hv] at hv'
      injection hv' with hv'
      subst hv'
      rw [put_yes hi]
      refine Lib.hid (write_yes w mb O L s _ h i y r hs _ c g 0 hcl hi (fun w' ht => ?_))
      obtain ⟨L', h'⟩ := ht.ma
      have hrow := ht.row (by decide) h.cv
      obtain ⟨g2, c2, hv2, _, _, hO, _, hc, hf⟩ := hrow.at_ (by omega)
      rw [hv] at hv2
      injection hv2 with hv2
      injection hv2 with hv2
      injection hv2 with hv2
      subst hv2
      obtain ⟨u, hu⟩ : ∃ u, s.cvt[i]? = some u := ⟨_, List.getElem?_eq_getElem hi⟩
      rw [Nat.zero_add]
      exact ⟨⟨L', h'.setCv ((ht.cv h h').trans hv) hi (h.ok.stack y (by rw [hs]; simp)), hrow.frSet (by rw [hv]; rfl) _ _⟩, ⟨_, hc i _ (ints_get hu)⟩, hf i⟩
    · rw [put_no hx]
      exact Lib.hid (write_no w mb O L s h x y r hs A _ c hcl hx)
  clear h hs hv hc1 hc2 hcl
  go_enter Try.func66, Try.ntmps66
  go_wp2_with fail
  refine HG.out.mono ?_
  intro e w9 hp; have HP := Lib.hid hp; obtain ⟨rfl, _⟩ := hp; go_wp2; go_end0; exact HP.out
theorem save_deed (w : World) (mb : Nat) (O : Nat → Prop) (L : Lay) (s : St) (h : MaL w mb O L s) (a x y : Int) (r : List Int) (hs : s.stack = y :: x :: r) :
    Calls Try.prog 69 #[.pointer (some ⟨mb, 0, none⟩), .int .i64 a] w (MPost w mb O { s with stack := r, store := put_ s.store x y }) := by
  have hl := h.ok.stl
  have HG : Hid (Calls Try.prog 67 #[.pointer (some ⟨mb, 0, none⟩), .slice (some ⟨mb, 8, none⟩) 32 32] w (MPost w mb O { s with stack := r, store := put_ s.store x y })) := by
    by_cases hx : 0 ≤ x ∧ x < s.store.length
    · obtain ⟨i, rfl⟩ : ∃ i : Nat, x = i := ⟨x.toNat, by omega⟩
      have hi : i < s.store.length := by omega
      rw [put_yes hi]
      refine Lib.hid (write_yes w mb O L s _ h i y r hs 32 32 mb 8 (by decide) (by omega) (fun w' ht => ?_))
      obtain ⟨L', h'⟩ := ht.ma
      obtain ⟨u, hu⟩ : ∃ u, s.store[i]? = some u := ⟨_, List.getElem?_eq_getElem hi⟩
      exact ⟨⟨_, h'.set_ (h'.c.setStore i y (by omega)) (h'.ok.cells_ (mem_set_k h'.ok.store (h.ok.stack y (by rw [hs]; simp))) (by simp; exact hl) h'.ok.look h'.ok.move h'.ok.mode h'.ok.peak), h'.frSet _ _⟩, ⟨_, by rw [h'.blk.cell]; exact h'.c.st i u hu⟩, h'.blk.frozen _⟩
    · rw [put_no hx]
      rw [hl] at hx
      exact Lib.hid (write_no w mb O L s h x y r hs _ 32 32 (by decide) hx)
  have lmb := h.blk.lt
  clear h hs hl
  go_enter Try.func69, Try.ntmps69
  go_wp2_with fail
  refine HG.out.mono ?_
  intro e w9 hp; have HP := Lib.hid hp; obtain ⟨rfl, _⟩ := hp; go_wp2; go_end0; exact HP.out
end Go.Proofs.Ythdmdgmchkhngaa

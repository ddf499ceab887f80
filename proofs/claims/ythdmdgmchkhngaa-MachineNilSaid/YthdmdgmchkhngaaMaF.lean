/- Deeds of the machine that take values and leave others: their contracts. -/
import Derived.Test.YthdmdgmchkhngaaMaE
namespace Go.Proofs.Ythdmdgmchkhngaa
open Go.RowKit Mc

section
variable {w w1 w2 : World} {O S : Nat → Prop} {mb : Nat} {L : Lay} {s : St} {e : Ending}
theorem Fr.new (h : Fr O w w1) (k : Fr S w1 w2) (hS : ∀ i, i < w.heap.size → S i → O i) : Fr O w w2 :=
  ⟨k.os.trans h.os, k.tape.trans h.tape, k.output.trans h.output, Nat.le_trans h.size k.size, fun i hi hs => (k.block i (Nat.lt_of_lt_of_le hi h.size) (fun a => hs (hS i hi a))).trans (h.block i hi hs)⟩
theorem MPost.from_ (h : Fr O w w1) (k : MPost w1 mb O s e w2) : MPost w mb O s e w2 := by
  obtain ⟨he, ⟨L, hL⟩, hf⟩ := k
  have hz := h.size
  refine ⟨he, ⟨L, hL.mono (fun i hi => ?_) (fun i hi => ?_)⟩, h.trans hf⟩
  · rcases hi with hi | hi
    · exact .inl hi
    · exact .inr ⟨by omega, hi.2⟩
  · rcases hi with hi | hi
    · exact hL.olt i (.inl hi)
    · exact hi.2
theorem MPost.here (h : MaL w1 mb O L s) (hf : Fr O w w1) : MPost w mb O s (.returned (.tuple #[])) w1 :=
  ⟨rfl, ⟨L, h.mono (fun _ h => .inl h) (fun k hk => by rcases hk with hk | hk; exact h.olt k hk; exact hk.2)⟩, hf⟩
theorem MaL.notO (h : MaL w mb O L s) {k : Nat} (hk : w.heap.size ≤ k) : ¬ O k := fun e => by have := h.olt k e; omega
end


/-- what a take leaves: the machine with the rest, the values in their boxes, all else as it was -/
structure Took (w : World) (mb : Nat) (O : Nat → Prop) (s : St) (r : List Int) (n : Nat) (w' : World) : Prop where
  ma : ∃ L', MaL w' mb O L' { s with stack := r }
  fr : Fr O w w'
  lt : w.heap.size + n < w'.heap.size
  old : ∀ g t cs, t ≠ 62 → Blk w g t cs → Blk w' g t cs
  cell : ∀ i, i ≠ 40 → w'.cell? ⟨mb, i, none⟩ = w.cell? ⟨mb, i, none⟩
theorem take1_new (w : World) (mb : Nat) (O : Nat → Prop) (L : Lay) (s : St) (h : MaL w mb O L s) (x : Int) (r : List Int) (hs : s.stack = x :: r) (u : Value) :
    Calls Try.prog 36 #[.pointer (some ⟨mb, 0, none⟩), .slice (some ⟨w.heap.size + 1, 0, none⟩) 1 1] ((w.alloc (.cells #[u] 3)).alloc (.cells #[.pointer (some ⟨w.heap.size, 0, none⟩)] 76)) fun e w' => e = .returned (.tuple #[]) ∧ Took w mb O s r 1 w' ∧ Blk w' w.heap.size 3 #[.int .i64 x] := by
  have hm : MaL ((w.alloc (.cells #[u] 3)).alloc (.cells #[.pointer (some ⟨w.heap.size, 0, none⟩)] 76)) mb O L s := (h.alloc _).alloc _
  have hb : Blk ((w.alloc (.cells #[u] 3)).alloc (.cells #[.pointer (some ⟨w.heap.size, 0, none⟩)] 76)) w.heap.size 3 #[u] := (Blk.new _ _ _).alloc _
  have hsb : Blk ((w.alloc (.cells #[u] 3)).alloc (.cells #[.pointer (some ⟨w.heap.size, 0, none⟩)] 76)) (w.heap.size + 1) 76 #[.pointer (some ⟨w.heap.size, 0, none⟩)] := Blk.new_at _ _ _ (by simp)
  refine (take1_any _ mb O L s hm x r hs w.heap.size _ _ hb hsb (h.notO (Nat.le_refl _))).mono ?_
  rintro e w' ⟨rfl, h1, h2, h3, v, h4⟩
  refine ⟨rfl, ⟨h1, ?_, ?_, ?_, ?_⟩, h2⟩
  · refine Fr.new (((Fr.refl O w).alloc _).alloc _) h3 (fun i hi hk => ?_)
    rcases hk with hk | hk
    · exact hk
    · omega
  · have := h3.size; simp at this; omega
  · intro g t cs ht hg
    subst h4
    have hl := hg.lt
    exact (((hg.alloc _).alloc _).far (p := ⟨w.heap.size, 0, none⟩) (by simp only; omega) _).far (p := ⟨mb, 40, none⟩) (hg.ne_ h.blk ht) _
  · intro i hi
    subst h4
    have hl := h.blk.lt
    rw [World.cell?_setCell_other _ _ _ _ (fun e => by injection e with _ e; exact hi e.symm), World.cell?_setCell_other _ _ _ _ (fun e => by injection e with e; omega), World.cell?_alloc_lt _ _ _ (by simp; omega), World.cell?_alloc_lt _ _ _ (by simp; omega)]
theorem take2_new (w : World) (mb : Nat) (O : Nat → Prop) (L : Lay) (s : St) (h : MaL w mb O L s) (x y : Int) (r : List Int) (hs : s.stack = y :: x :: r) (u u' : Value) :
    Calls Try.prog 36 #[.pointer (some ⟨mb, 0, none⟩), .slice (some ⟨w.heap.size + 1 + 1, 0, none⟩) 2 2] (((w.alloc (.cells #[u] 3)).alloc (.cells #[u'] 3)).alloc (.cells #[.pointer (some ⟨w.heap.size, 0, none⟩), .pointer (some ⟨w.heap.size + 1, 0, none⟩)] 76)) fun e w' => e = .returned (.tuple #[]) ∧ Took w mb O s r 2 w' ∧ Blk w' w.heap.size 3 #[.int .i64 x] ∧ Blk w' (w.heap.size + 1) 3 #[.int .i64 y] := by
  have hm : MaL (((w.alloc (.cells #[u] 3)).alloc (.cells #[u'] 3)).alloc (.cells #[.pointer (some ⟨w.heap.size, 0, none⟩), .pointer (some ⟨w.heap.size + 1, 0, none⟩)] 76)) mb O L s := ((h.alloc _).alloc _).alloc _
  have hb : Blk (((w.alloc (.cells #[u] 3)).alloc (.cells #[u'] 3)).alloc (.cells #[.pointer (some ⟨w.heap.size, 0, none⟩), .pointer (some ⟨w.heap.size + 1, 0, none⟩)] 76)) w.heap.size 3 #[u] := ((Blk.new _ _ _).alloc _).alloc _
  have hb2 : Blk (((w.alloc (.cells #[u] 3)).alloc (.cells #[u'] 3)).alloc (.cells #[.pointer (some ⟨w.heap.size, 0, none⟩), .pointer (some ⟨w.heap.size + 1, 0, none⟩)] 76)) (w.heap.size + 1) 3 #[u'] := (Blk.new_at _ _ _ (by simp)).alloc _
  have hsb : Blk (((w.alloc (.cells #[u] 3)).alloc (.cells #[u'] 3)).alloc (.cells #[.pointer (some ⟨w.heap.size, 0, none⟩), .pointer (some ⟨w.heap.size + 1, 0, none⟩)] 76)) (w.heap.size + 1 + 1) 76 #[.pointer (some ⟨w.heap.size, 0, none⟩), .pointer (some ⟨w.heap.size + 1, 0, none⟩)] := Blk.new_at _ _ _ (by simp)
  refine (take2_any _ mb O L s hm y x r hs w.heap.size (w.heap.size + 1) _ _ _ hb hb2 (by omega) hsb (h.notO (Nat.le_refl _)) (h.notO (by omega))).mono ?_
  rintro e w' ⟨rfl, h1, h2, h2', h3, v, h4⟩
  refine ⟨rfl, ⟨h1, ?_, ?_, ?_, ?_⟩, h2, h2'⟩
  · refine Fr.new ((((Fr.refl O w).alloc _).alloc _).alloc _) h3 (fun i hi hk => ?_)
    rcases hk with hk | hk | hk
    · exact hk
    · omega
    · omega
  · have := h3.size; simp at this; omega
  · intro g t cs ht hg
    subst h4
    have hl := hg.lt
    exact (((((hg.alloc _).alloc _).alloc _).far (p := ⟨w.heap.size, 0, none⟩) (by simp only; omega) _).far (p := ⟨w.heap.size + 1, 0, none⟩) (by simp only; omega) _).far (p := ⟨mb, 40, none⟩) (hg.ne_ h.blk ht) _
  · intro i hi
    subst h4
    have hl := h.blk.lt
    rw [World.cell?_setCell_other _ _ _ _ (fun e => by injection e with _ e; exact hi e.symm), World.cell?_setCell_other _ _ _ _ (fun e => by injection e with e; omega), World.cell?_setCell_other _ _ _ _ (fun e => by injection e with e; omega), World.cell?_alloc_lt _ _ _ (by simp; omega), World.cell?_alloc_lt _ _ _ (by simp; omega), World.cell?_alloc_lt _ _ _ (by simp; omega)]
theorem leave1_new (w : World) (mb : Nat) (O : Nat → Prop) (L : Lay) (s : St) (h : MaL w mb O L s) (v : Int) (hl : s.stack.length < 32) :
    Calls Try.prog 34 #[.pointer (some ⟨mb, 0, none⟩), .slice (some ⟨w.heap.size, 0, none⟩) 1 1] (w.alloc (.cells #[.int .i64 v] 3)) (MPost w mb O (push v s)) :=
  (leave_any _ mb O L s (h.alloc _) _ [v] (Blk.new _ _ _) (h.notO (Nat.le_refl _)) (by simp; omega)).mono fun _ _ hp => hp.from_ ((Fr.refl O w).alloc _)
theorem leave2_new (w : World) (mb : Nat) (O : Nat → Prop) (L : Lay) (s : St) (h : MaL w mb O L s) (v v' : Int) (hl : s.stack.length < 31) :
    Calls Try.prog 34 #[.pointer (some ⟨mb, 0, none⟩), .slice (some ⟨w.heap.size, 0, none⟩) 2 2] (w.alloc (.cells #[.int .i64 v, .int .i64 v'] 3)) (MPost w mb O (push v' (push v s))) :=
  (leave_any _ mb O L s (h.alloc _) _ [v, v'] (Blk.new _ _ _) (h.notO (Nat.le_refl _)) (by simp; omega)).mono fun _ _ hp => hp.from_ ((Fr.refl O w).alloc _)

theorem push_deed (w : World) (mb : Nat) (O : Nat → Prop) (L : Lay) (s : St) (h : MaL w mb O L s) (a : Int) (hl : s.stack.length < 32) :
    Calls Try.prog 33 #[.pointer (some ⟨mb, 0, none⟩), .int .i64 a] w (MPost w mb O (push a s)) := by
  have H := Lib.hid h
  clear h
  go_enter Try.func33, Try.ntmps33
  go_wp2_with fail
  refine (leave1_new w mb O L s H.out a hl).mono ?_
  intro e w9 hp; have HP := Lib.hid hp; obtain ⟨rfl, _⟩ := hp; go_wp2; go_end0; exact HP.out
theorem size_deed (w : World) (mb : Nat) (O : Nat → Prop) (L : Lay) (s : St) (h : MaL w mb O L s) (a : Int) (hl : s.stack.length < 32) :
    Calls Try.prog 89 #[.pointer (some ⟨mb, 0, none⟩), .int .i64 a] w (MPost w mb O (push s.size s)) := by
  have c41 := h.blk.cell 41
  rw [h.c.c41] at c41
  have H := Lib.hid h
  clear h
  go_enter Try.func89, Try.ntmps89
  go_wp2_with fail
  refine (leave1_new w mb O L s H.out _ hl).mono ?_
  intro e w9 hp; have HP := Lib.hid hp; obtain ⟨rfl, _⟩ := hp; go_wp2; go_end0; exact HP.out
theorem pop_deed (w : World) (mb : Nat) (O : Nat → Prop) (L : Lay) (s : St) (h : MaL w mb O L s) (a x : Int) (r : List Int) (hs : s.stack = x :: r) :
    Calls Try.prog 35 #[.pointer (some ⟨mb, 0, none⟩), .int .i64 a] w (MPost w mb O { s with stack := r }) := by
  have H := Lib.hid h
  have HS := Lib.hid hs
  clear h hs
  go_enter Try.func35, Try.ntmps35
  go_wp2_with fail
  refine (take1_new w mb O L s H.out x r HS.out _).mono ?_
  rintro e w' ⟨rfl, ht, _⟩
  have HT := Lib.hid ht
  clear ht
  go_wp2
  go_end0
  obtain ⟨L', hL⟩ := HT.out.ma
  exact .here hL HT.out.fr
theorem dup_deed (w : World) (mb : Nat) (O : Nat → Prop) (L : Lay) (s : St) (h : MaL w mb O L s) (a x : Int) (r : List Int) (hs : s.stack = x :: r) (hl : s.stack.length < 32) :
    Calls Try.prog 37 #[.pointer (some ⟨mb, 0, none⟩), .int .i64 a] w (MPost w mb O (push x (push x { s with stack := r }))) := by
  have H := Lib.hid h
  have HS := Lib.hid hs
  rw [hs, List.length_cons] at hl
  clear h hs
  go_enter Try.func37, Try.ntmps37
  go_wp2_with fail
  refine (take1_new w mb O L s H.out x r HS.out _).mono ?_
  rintro e w' ⟨rfl, ht, hb1⟩; obtain ⟨L', hM⟩ := ht.ma; have HM := Lib.hid hM; have HT := Lib.hid ht; have hlt := ht.lt; have b1 := hb1.cell 0; have b1l := hb1.lt; have b1f := hb1.frozen 0; simp only [List.getElem?_toArray, List.getElem?_cons_zero] at b1; clear ht hM hb1
  go_wp2_with fail
  refine (leave2_new w' mb O L' _ HM.out x x (by simp only; omega)).mono ?_
  intro e w9 hp; have HP := Lib.hid (hp.from_ HT.out.fr); obtain ⟨rfl, _⟩ := hp; go_wp2; go_end0; exact HP.out
theorem swap_deed (w : World) (mb : Nat) (O : Nat → Prop) (L : Lay) (s : St) (h : MaL w mb O L s) (a x y : Int) (r : List Int) (hs : s.stack = y :: x :: r) :
    Calls Try.prog 38 #[.pointer (some ⟨mb, 0, none⟩), .int .i64 a] w (MPost w mb O (push x (push y { s with stack := r }))) := by
  have H := Lib.hid h
  have HS := Lib.hid hs
  have hl := h.ok.slen
  rw [hs, List.length_cons, List.length_cons] at hl
  clear h hs
  go_enter Try.func38, Try.ntmps38
  go_wp2_with fail
  refine (take2_new w mb O L s H.out x y r HS.out _ _).mono ?_
  rintro e w' ⟨rfl, ht, hb1, hb2⟩; obtain ⟨L', hM⟩ := ht.ma; have HM := Lib.hid hM; have HT := Lib.hid ht; have hlt := ht.lt; have b1 := hb1.cell 0; have b1l := hb1.lt; have b1f := hb1.frozen 0; have b2 := hb2.cell 0; have b2l := hb2.lt; have b2f := hb2.frozen 0; simp only [List.getElem?_toArray, List.getElem?_cons_zero] at b1 b2; clear ht hM hb1 hb2
  go_wp2_with fail
  refine (leave2_new w' mb O L' _ HM.out y x (by simp only; omega)).mono ?_
  intro e w9 hp; have HP := Lib.hid (hp.from_ HT.out.fr); obtain ⟨rfl, _⟩ := hp; go_wp2; go_end0; exact HP.out
set_option maxRecDepth 100000 in
theorem two_any (w : World) (mb : Nat) (O : Nat → Prop) (L : Lay) (s : St) (h : MaL w mb O L s) (a x y : Int) (r : List Int) (hs : s.stack = y :: x :: r) (fb f : Nat) (hfb : Blk w fb 23 #[.func (.func f) #[] #[]]) (v : Int) (hin : ∀ args w, Sem.run Try.prog (callFunc f args) w = .ok (.enter f args) w)
    (hf : ∀ w, K32 x → K32 y → Calls Try.prog f #[.int .i64 x, .int .i64 y] w fun e w' => e = .returned (.int .i64 v) ∧ w = w') :
    Calls Try.prog 91 #[.pointer (some ⟨mb, 0, none⟩), .int .i64 a, .pointer (some ⟨fb, 0, none⟩)] w (MPost w mb O (push v { s with stack := r })) := by
  have H := Lib.hid h
  have HS := Lib.hid hs
  have hx := h.ok.stack x (by rw [hs]; simp)
  have hy := h.ok.stack y (by rw [hs]; simp)
  have HF := Lib.hid fun w => hf w hx hy
  have HB := Lib.hid hfb
  have hl := h.ok.slen
  rw [hs, List.length_cons, List.length_cons] at hl
  clear h hs hfb hf hx hy
  go_enter Try.func91, Try.ntmps91
  go_wp2_with fail
  refine (take2_new w mb O L s H.out x y r HS.out _ _).mono ?_
  rintro e w' ⟨rfl, ht, hb1, hb2⟩; obtain ⟨L', hM⟩ := ht.ma; have HM := Lib.hid hM; have HT := Lib.hid ht; have hlt := ht.lt; have b1 := hb1.cell 0; have b1l := hb1.lt; have b1f := hb1.frozen 0; have b2 := hb2.cell 0; have b2l := hb2.lt; have b2f := hb2.frozen 0; simp only [List.getElem?_toArray, List.getElem?_cons_zero] at b1 b2; clear ht hM hb1 hb2
  have c0 := (HT.out.old _ _ _ (by decide) HB.out).cell 0
  simp only [List.getElem?_toArray, List.getElem?_cons_zero] at c0
  go_wp2_with fail
  refine (HF.out _).mono ?_
  rintro e w6 ⟨rfl, rfl⟩
  go_wp2_with fail
  refine (leave1_new w' mb O L' _ HM.out v (by simp only; omega)).mono ?_
  intro e w9 hp; have HP := Lib.hid (hp.from_ HT.out.fr); obtain ⟨rfl, _⟩ := hp; go_wp2; go_end0; exact HP.out
set_option maxRecDepth 100000 in
theorem one_any (w : World) (mb : Nat) (O : Nat → Prop) (L : Lay) (s : St) (h : MaL w mb O L s) (a x : Int) (r : List Int) (hs : s.stack = x :: r) (fb f : Nat) (hfb : Blk w fb 50 #[.func (.func f) #[] #[]]) (v : Int) (hin : ∀ args w, Sem.run Try.prog (callFunc f args) w = .ok (.enter f args) w)
    (hf : ∀ w, K32 x → Calls Try.prog f #[.int .i64 x] w fun e w' => e = .returned (.int .i64 v) ∧ w = w') :
    Calls Try.prog 92 #[.pointer (some ⟨mb, 0, none⟩), .int .i64 a, .pointer (some ⟨fb, 0, none⟩)] w (MPost w mb O (push v { s with stack := r })) := by
  have H := Lib.hid h
  have HS := Lib.hid hs
  have hx := h.ok.stack x (by rw [hs]; simp)
  have HF := Lib.hid fun w => hf w hx
  have HB := Lib.hid hfb
  have hl := h.ok.slen
  rw [hs, List.length_cons] at hl
  clear h hs hfb hf hx
  go_enter Try.func92, Try.ntmps92
  go_wp2_with fail
  refine (take1_new w mb O L s H.out x r HS.out _).mono ?_
  rintro e w' ⟨rfl, ht, hb1⟩; obtain ⟨L', hM⟩ := ht.ma; have HM := Lib.hid hM; have HT := Lib.hid ht; have hlt := ht.lt; have b1 := hb1.cell 0; have b1l := hb1.lt; have b1f := hb1.frozen 0; simp only [List.getElem?_toArray, List.getElem?_cons_zero] at b1; clear ht hM hb1
  have c0 := (HT.out.old _ _ _ (by decide) HB.out).cell 0
  simp only [List.getElem?_toArray, List.getElem?_cons_zero] at c0
  go_wp2_with fail
  refine (HF.out _).mono ?_
  rintro e w6 ⟨rfl, rfl⟩
  go_wp2_with fail
  refine (leave1_new w' mb O L' _ HM.out v (by simp only; omega)).mono ?_
  intro e w9 hp; have HP := Lib.hid (hp.from_ HT.out.fr); obtain ⟨rfl, _⟩ := hp; go_wp2; go_end0; exact HP.out
end Go.Proofs.Ythdmdgmchkhngaa

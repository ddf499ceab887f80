/- compose.line: what its memory holds. Marks of ranges over functions. -/
import Derived.Test.YtoklllbaihccnaaCoE
set_option linter.unusedVariables false
set_option linter.unusedSimpArgs false
namespace Go.Proofs.Ytoklllbaihccnaa
open Go.RowKit Go.Shelf

/-! ### the marks that ranges over functions leave on an activation -/
def mark (D : Nat) : Deferred := { target := .collected D, args := #[] }
def Marks (w : World) (B : Nat) (ds : List Nat) : Prop := ds.Nodup ∧ ∀ D ∈ ds, B ≤ D ∧ w.heap[D]? = some (.deferred (some []))
theorem Marks.nil (w : World) (B : Nat) : Marks w B [] := ⟨List.nodup_nil, fun _ h => by cases h⟩
theorem Marks.keep {w w' : World} {B : Nat} {ds : List Nat} (h : Marks w B ds) (k : ∀ D, B ≤ D → w.heap[D]? = some (.deferred (some [])) → w'.heap[D]? = some (.deferred (some []))) : Marks w' B ds :=
  ⟨h.1, fun D hD => ⟨(h.2 D hD).1, k D (h.2 D hD).1 (h.2 D hD).2⟩⟩
theorem Marks.lt {w : World} {B : Nat} {ds : List Nat} (h : Marks w B ds) : ∀ D ∈ ds, D < w.heap.size := fun D hD => (Array.getElem?_eq_some_iff.1 (h.2 D hD).2).1
theorem Marks.cons {w : World} {B D s : Nat} {ds : List Nat} (h : Marks w B ds) (hs : ∀ E ∈ ds, E < s) (hD : s ≤ D) (hB : B ≤ D) (hd : w.heap[D]? = some (.deferred (some []))) : Marks w B (D :: ds) :=
  ⟨List.nodup_cons.2 ⟨fun e => by have := hs D e; omega, h.1⟩, fun E hE => by
    rcases List.mem_cons.1 hE with rfl | hE
    · exact ⟨hB, hd⟩
    · exact h.2 E hE⟩
theorem leaves_marks {P : Program} {fn : Func} {tmps : Array Value} {R : Ending → World → Prop} {B : Nat} : ∀ (ds : List Nat) (W : World), Marks W B ds →
    (∀ W', Fr (fun k => k ∈ ds) W W' → LeavesIn Fence.wide 8 P fn tmps R [] .returning W') → LeavesInM Fence.wide 8 P fn tmps R (ds.map mark) .returning W
  | [], W, _, h => h W (Fr.refl _ _)
  | D :: ds, W, hm, h => by
    have hD := (hm.2 D List.mem_cons_self).2
    refine ⟨by simp, .inl ⟨D, _, rfl, run_takeDeferred hD, ?_⟩⟩
    have hn := List.nodup_cons.1 hm.1
    have f1 : Fr (fun k => k ∈ D :: ds) W (W.putObj D (.deferred none)) := ⟨rfl, rfl, rfl, by simp, fun k _ hk => World.putObj_heap_other (fun e => hk (by rw [e]; exact List.mem_cons_self))⟩
    refine leaves_marks ds _ ⟨hn.2, fun E hE => ⟨(hm.2 E (List.mem_cons_of_mem _ hE)).1, ?_⟩⟩ fun W' hW' => h W' (f1.trans (hW'.mono fun k _ hk => List.mem_cons_of_mem _ hk))
    rw [World.putObj_heap_other (fun e => hn.1 (by rw [← e]; exact hE))]
    exact (hm.2 E (List.mem_cons_of_mem _ hE)).2

/-! ### what line's memory holds -/
structure LnS (w : World) (base mb M ub Ub rb : Nat) (v tv : Value) (f : Int → Option Value) (c : Int → Int) (U : Int → List Int) (l told : List Int) : Prop where
  ne : M ≠ Ub
  mbx : Blk w mb 83 #[.map (some M)]
  mm : CMap w M c
  ubx : Blk w ub 94 #[.map (some Ub)]
  um : IMap w Ub f
  rows : ∀ k, (f k = none ∧ U k = []) ∨ ∃ u, f k = some u ∧ w.ownsRow base 3 1 u (U k).length (ints (U k)) ∧ Apart u v ∧ Apart u tv
  uu : ∀ k k' u u', k ≠ k' → f k = some u → f k' = some u' → Apart u u'
  hp : HpV w base rb v l
  tl : w.ownsRow base 3 1 tv told.length (ints told)
  vt : Apart v tv
section
variable {w w' : World} {base mb M ub Ub rb : Nat} {v tv : Value} {f : Int → Option Value} {c : Int → Int} {U : Int → List Int} {l told : List Int}
theorem Blk.keepC {g : Nat} {t : TypeId} {cs : Array Value} (h : Blk w g t cs) (k : ∀ (g : Nat) (o : Obj), w.heap[g]? = some o → o.isCells = true → w'.heap[g]? = some o) : Blk w' g t cs := k g _ h rfl
theorem owns_keepC {n : Nat} {u : Value} {xs : List Value} (h : w.ownsRow base 3 1 u n xs) (k : ∀ (g : Nat) (o : Obj), w.heap[g]? = some o → o.isCells = true → w'.heap[g]? = some o) : w'.ownsRow base 3 1 u n xs :=
  owns_keep h fun g e => by
    obtain ⟨_, _, cs, hb⟩ := owns_block h e
    rw [k g _ hb rfl]; exact hb.symm
/-- what keeps cells and the two maps -/
theorem LnS.keep (h : LnS w base mb M ub Ub rb v tv f c U l told) (k : ∀ (g : Nat) (o : Obj), w.heap[g]? = some o → o.isCells = true → w'.heap[g]? = some o) (km : w'.heap[M]? = w.heap[M]?) (ku : w'.heap[Ub]? = w.heap[Ub]?) : LnS w' base mb M ub Ub rb v tv f c U l told :=
  ⟨h.ne, h.mbx.keepC k, h.mm.keep km, h.ubx.keepC k, h.um.keep ku, fun x => by
    rcases h.rows x with e | ⟨u, e, ho, ha⟩
    · exact .inl e
    · exact .inr ⟨u, e, owns_keepC ho k, ha⟩, h.uu, ⟨h.hp.box.keepC k, owns_keepC h.hp.row k⟩, owns_keepC h.tl k, h.vt⟩
theorem LnS.grow (h : LnS w base mb M ub Ub rb v tv f c U l told) (hg : Grow w w') : LnS w' base mb M ub Ub rb v tv f c U l told :=
  h.keep (fun g o e _ => by rw [hg.block g (Array.getElem?_eq_some_iff.1 e).1 (fun x => x)]; exact e) (hg.block _ h.mm.lt fun x => x) (hg.block _ h.um.lt fun x => x)
theorem LnS.alloc (h : LnS w base mb M ub Ub rb v tv f c U l told) (o : Obj) : LnS (w.alloc o) base mb M ub Ub rb v tv f c U l told := h.grow ((Fr.refl _ _).alloc o)
theorem LnS.drew (h : LnS w base mb M ub Ub rb v tv f c U l told) : LnS w.drew base mb M ub Ub rb v tv f c U l told := h.grow ((Fr.refl _ _).drew)
theorem IMap.mne {b g : Nat} {t : TypeId} {cs : Array Value} (h : IMap w b f) (hb : Blk w g t cs) : g ≠ b := fun e => h.ne_blk hb e.symm
theorem CMap.mne {b g : Nat} {t : TypeId} {cs : Array Value} (h : CMap w b c) (hb : Blk w g t cs) : g ≠ b := by obtain ⟨f, h, _⟩ := h; exact h.mne hb
/-- a count is set -/
theorem LnS.count (h : LnS w base mb M ub Ub rb v tv f c U l told) (x : Int) (y : Int) (hm : CMap w' M (upd c x y)) (hg : w.grownBy w' (some M)) : LnS w' base mb M ub Ub rb v tv f (upd c x y) U l told := by
  have k : ∀ g t cs, Blk w g t cs → Blk w' g t cs := fun g t cs hb => (hg.block g hb.lt (fun e => by injection e with e; exact h.mm.mne hb e)).trans hb
  have ko : ∀ {n : Nat} {u : Value} {xs : List Value}, w.ownsRow base 3 1 u n xs → w'.ownsRow base 3 1 u n xs := fun ho => owns_keep ho fun g e => by
    obtain ⟨_, _, cs, hb⟩ := owns_block ho e
    rw [show w'.heap[g]? = _ from k g _ _ hb]; exact hb.symm
  exact ⟨h.ne, k _ _ _ h.mbx, hm, k _ _ _ h.ubx, h.um.keep (hg.block _ h.um.lt fun e => by injection e with e; exact h.ne e.symm), fun x => by
    rcases h.rows x with e | ⟨u, e, ho, ha⟩
    · exact .inl e
    · exact .inr ⟨u, e, ko ho, ha⟩, h.uu, ⟨k _ _ _ h.hp.box, ko h.hp.row⟩, ko h.tl, h.vt⟩
/-- a row of users as a look-up has it -/
theorem LnS.row (h : LnS w base mb M ub Ub rb v tv f c U l told) (k : Int) : w.ownsRow base 3 1 ((f k).getD (.slice none 0 0)) (U k).length (ints (U k)) ∧ Apart ((f k).getD (.slice none 0 0)) v ∧ Apart ((f k).getD (.slice none 0 0)) tv ∧
    ∀ k' u', k ≠ k' → f k' = some u' → Apart ((f k).getD (.slice none 0 0)) u' := by
  rcases h.rows k with ⟨e, e2⟩ | ⟨u, e, ho, h1, h2⟩
  · rw [e, e2]
    exact ⟨owns_nil _ _ _ _, apart_nil, apart_nil, fun _ _ _ _ => apart_nil⟩
  · rw [e]
    exact ⟨ho, h1, h2, fun k' u' hk hu => h.uu k k' u u' hk e hu⟩
theorem LnS.look (h : LnS w base mb M ub Ub rb v tv f c U l told) (k : Int) (hk : I64 k) : (Instr.lookup 94 (.map (some Ub)) (.int .i64 k) false).run Try.prog w = .ok ((f k).getD (.slice none 0 0)) w :=
  h.um.look (t := 94) Try.underlying94 (z := .slice none 0 0) (by kernel_rfl) k hk
/-- behind an append onto a row of users -/
theorem LnS.grown (h : LnS w base mb M ub Ub rb v tv f c U l told) {k x : Int} {u' : Value} (ho : w'.ownsRow base 3 1 u' ((U k).length + 1) (ints (U k) ++ [.int .i64 x])) (hg : w.grownBy w' ((f k).getD (.slice none 0 0)).ownBlock)
    (hn : u'.ownBlock = ((f k).getD (.slice none 0 0)).ownBlock ∨ u'.ownBlock = some w.heap.size) :
    (∀ g t cs, Blk w g t cs → t ≠ 3 → Blk w' g t cs) ∧ CMap w' M c ∧ IMap w' Ub f ∧ (∀ {z : Value} {n : Nat} {xs : List Value}, w.ownsRow base 3 1 z n xs → Apart ((f k).getD (.slice none 0 0)) z → w'.ownsRow base 3 1 z n xs ∧ Apart u' z) := by
  obtain ⟨r1, r2, r3, r4⟩ := h.row k
  have hb : ∀ g, ((f k).getD (.slice none 0 0)).ownBlock = some g → ∃ cs, Blk w g 3 cs := fun g e => (owns_block r1 e).2.2
  refine ⟨fun g t cs hB ht => (hg.block g hB.lt (fun e => by obtain ⟨cs', hB'⟩ := hb g e.symm; exact hB.ne_ hB' ht rfl)).trans hB, h.mm.keep (hg.block _ h.mm.lt fun e => ?_), h.um.keep (hg.block _ h.um.lt fun e => ?_), fun {z n xs} hz ha => ⟨owns_keep hz fun g e => ?_, fun g e1 e2 => ?_⟩⟩
  · obtain ⟨cs', hB'⟩ := hb _ e.symm; exact h.mm.mne hB' rfl
  · obtain ⟨cs', hB'⟩ := hb _ e.symm; exact h.um.mne hB' rfl
  · exact hg.block g (owns_block hz e).2.1 (fun e2 => ha g e2.symm e)
  · rcases hn with hn | hn
    · exact ha g (hn ▸ e1) e2
    · rw [hn] at e1; injection e1 with e1; have := (owns_block hz e2).2.1; omega
/-- .. which is then stored -/
theorem LnS.used (h : LnS w base mb M ub Ub rb v tv f c U l told) {w1 : World} {k x : Int} {u' : Value} (ho : w1.ownsRow base 3 1 u' ((U k).length + 1) (ints (U k) ++ [.int .i64 x])) (hg : w.grownBy w1 ((f k).getD (.slice none 0 0)).ownBlock)
    (hn : u'.ownBlock = ((f k).getD (.slice none 0 0)).ownBlock ∨ u'.ownBlock = some w.heap.size) (hm : IMap w' Ub (fun y => if y = k then some u' else f y)) (hg2 : w1.grownBy w' (some Ub)) :
    LnS w' base mb M ub Ub rb v tv (fun y => if y = k then some u' else f y) c (upd U k (U k ++ [x])) l told := by
  obtain ⟨g1, g2, g3, g4⟩ := h.grown ho hg hn
  obtain ⟨r1, r2, r3, r4⟩ := h.row k
  have k2 : ∀ g t cs, Blk w1 g t cs → Blk w' g t cs := fun g t cs hb => (hg2.block g hb.lt (fun e => by injection e with e; exact g3.mne hb e)).trans hb
  have ko : ∀ {n : Nat} {u : Value} {xs : List Value}, w1.ownsRow base 3 1 u n xs → w'.ownsRow base 3 1 u n xs := fun ho => owns_keep ho fun g e => by
    obtain ⟨_, _, cs, hb⟩ := owns_block ho e
    rw [show w'.heap[g]? = _ from k2 g _ _ hb]; exact hb.symm
  refine ⟨h.ne, k2 _ _ _ (g1 _ _ _ h.mbx (by decide)), g2.keep (hg2.block _ g2.lt fun e => by injection e with e; exact h.ne e), k2 _ _ _ (g1 _ _ _ h.ubx (by decide)), hm, fun y => ?_, fun y y' z z' hy e e' => ?_, ⟨k2 _ _ _ (g1 _ _ _ h.hp.box (by decide)), ko (g4 h.hp.row r2).1⟩, ko (g4 h.tl r3).1, h.vt⟩
  · by_cases e : y = k
    · subst e
      refine .inr ⟨u', by simp, ?_, (g4 h.hp.row r2).2, (g4 h.tl r3).2⟩
      rw [upd_same, show ints (U y ++ [x]) = ints (U y) ++ [.int .i64 x] by simp [ints], List.length_append, List.length_singleton]
      exact ko ho
    · simp only [if_neg e]
      rw [upd_ne _ _ e]
      rcases h.rows y with e' | ⟨u, e', ho', ha⟩
      · exact .inl e'
      · exact .inr ⟨u, e', ko (g4 ho' (r4 y u (Ne.symm e) e')).1, ha⟩
  · by_cases e1 : y = k
    · subst e1
      simp only [if_true, Option.some.injEq] at e
      subst e
      simp only [if_neg (Ne.symm hy)] at e'
      rcases h.rows y' with ⟨e2, _⟩ | ⟨u, e2, ho', _⟩
      · rw [e2] at e'; cases e'
      · rw [e2] at e'; injection e' with e'; subst e'; exact (g4 ho' (r4 y' u hy e2)).2
    · simp only [if_neg e1] at e
      by_cases e2 : y' = k
      · subst e2
        simp only [if_true, Option.some.injEq] at e'
        subst e'
        rcases h.rows y with ⟨e3, _⟩ | ⟨u, e3, ho', _⟩
        · rw [e3] at e; cases e
        · rw [e3] at e; injection e with e; subst e; exact ((g4 ho' (r4 y u (Ne.symm e1) e3)).2).symm
      · simp only [if_neg e2] at e'
        exact h.uu y y' z z' hy e e'
/-- the heap has changed -/
theorem LnS.heap (h : LnS w base mb M ub Ub rb v tv f c U l told) {l' : List Int} {v' : Value} (hV : HpV w' base rb v' l') (hF : Fr (fun k => k = rb ∨ v.ownBlock = some k) w w') (hO : ∀ k, v'.ownBlock = some k → v.ownBlock = some k ∨ w.heap.size ≤ k) :
    LnS w' base mb M ub Ub rb v' tv f c U l' told := by
  have hvb : ∀ g, v.ownBlock = some g → ∃ cs, Blk w g 3 cs := fun g e => (owns_block h.hp.row e).2.2
  have k : ∀ g t cs, Blk w g t cs → t ≠ 3 → t ≠ 95 → Blk w' g t cs := fun g t cs hb h1 h2 => hF.blk hb (fun e => by
    rcases e with rfl | e
    · exact h2 (by unfold Blk at hb; have := h.hp.box; unfold Blk at this; rw [hb] at this; injection this with this; injection this)
    · obtain ⟨cs', hb'⟩ := hvb g e; exact hb.ne_ hb' h1 rfl)
  have ko : ∀ {n : Nat} {u : Value} {xs : List Value}, w.ownsRow base 3 1 u n xs → Apart u v → w'.ownsRow base 3 1 u n xs ∧ Apart u v' := fun {n u xs} ho ha => ⟨owns_keep ho fun g e => hF.block g (owns_block ho e).2.1 (fun e2 => by
      obtain ⟨_, _, cs, hb⟩ := owns_block ho e
      rcases e2 with rfl | e2
      · exact hb.ne_ h.hp.box (by decide) rfl
      · exact ha g e e2), fun g e1 e2 => by
      rcases hO g e2 with e3 | e3
      · exact ha g e1 e3
      · have := (owns_block ho e1).2.1; omega⟩
  have hmne : ∀ g t cs, Blk w g t cs → g ≠ M := fun g t cs hb => h.mm.mne hb
  have hune : ∀ g t cs, Blk w g t cs → g ≠ Ub := fun g t cs hb => h.um.mne hb
  refine ⟨h.ne, k _ _ _ h.mbx (by decide) (by decide), h.mm.keep (hF.block _ h.mm.lt fun e => ?_), k _ _ _ h.ubx (by decide) (by decide), h.um.keep (hF.block _ h.um.lt fun e => ?_), fun x => ?_, h.uu, hV, (ko h.tl h.vt.symm).1, (ko h.tl h.vt.symm).2.symm⟩
  · rcases e with e | e
    · exact hmne _ _ _ h.hp.box e.symm
    · obtain ⟨cs', hb'⟩ := hvb _ e; exact hmne _ _ _ hb' rfl
  · rcases e with e | e
    · exact hune _ _ _ h.hp.box e.symm
    · obtain ⟨cs', hb'⟩ := hvb _ e; exact hune _ _ _ hb' rfl
  · rcases h.rows x with e | ⟨u, e, ho, h1, h2⟩
    · exact .inl e
    · exact .inr ⟨u, e, (ko ho h1).1, (ko ho h1).2, h2⟩
/-- one more is told -/
theorem LnS.tell (h : LnS w base mb M ub Ub rb v tv f c U l told) {x : Int} {tv' : Value} (ho : w'.ownsRow base 3 1 tv' (told.length + 1) (ints told ++ [.int .i64 x])) (hg : w.grownBy w' tv.ownBlock) (hn : tv'.ownBlock = tv.ownBlock ∨ tv'.ownBlock = some w.heap.size) :
    LnS w' base mb M ub Ub rb v tv' f c U l (told ++ [x]) := by
  have hvb : ∀ g, tv.ownBlock = some g → ∃ cs, Blk w g 3 cs := fun g e => (owns_block h.tl e).2.2
  have k : ∀ g t cs, Blk w g t cs → t ≠ 3 → Blk w' g t cs := fun g t cs hb h1 => (hg.block g hb.lt (fun e => by obtain ⟨cs', hb'⟩ := hvb g e.symm; exact hb.ne_ hb' h1 rfl)).trans hb
  have ko : ∀ {n : Nat} {u : Value} {xs : List Value}, w.ownsRow base 3 1 u n xs → Apart u tv → w'.ownsRow base 3 1 u n xs ∧ Apart u tv' := fun {n u xs} ho ha => ⟨owns_keep ho fun g e => hg.block g (owns_block ho e).2.1 (fun e2 => ha g e e2.symm), fun g e1 e2 => by
      rcases hn with hn | hn
      · exact ha g e1 (hn ▸ e2)
      · rw [hn] at e2; injection e2 with e2; have := (owns_block ho e1).2.1; omega⟩
  refine ⟨h.ne, k _ _ _ h.mbx (by decide), h.mm.keep (hg.block _ h.mm.lt fun e => ?_), k _ _ _ h.ubx (by decide), h.um.keep (hg.block _ h.um.lt fun e => ?_), fun x => ?_, h.uu, ⟨k _ _ _ h.hp.box (by decide), (ko h.hp.row h.vt).1⟩, ?_, (ko h.hp.row h.vt).2⟩
  · obtain ⟨cs', hb'⟩ := hvb _ e.symm; exact h.mm.mne hb' rfl
  · obtain ⟨cs', hb'⟩ := hvb _ e.symm; exact h.um.mne hb' rfl
  · rcases h.rows x with e | ⟨u, e, ho, h1, h2⟩
    · exact .inl e
    · exact .inr ⟨u, e, (ko ho h2).1, h1, (ko ho h2).2⟩
  · rw [show ints (told ++ [x]) = ints told ++ [.int .i64 x] by simp [ints], List.length_append, List.length_singleton]; exact ho
/-- what a change of the heap leaves as it was -/
theorem LnS.frC (h : LnS w base mb M ub Ub rb v tv f c U l told) (hF : Fr (fun k => k = rb ∨ v.ownBlock = some k) w w') (hb : base ≤ rb) (hs : base ≤ w.heap.size) :
    (∀ (g : Nat) (t : TypeId) (cs : Array Value), Blk w g t cs → t ≠ 3 → t ≠ 95 → Blk w' g t cs) ∧ (∀ D : Nat, w.heap[D]? = some (.deferred (some [])) → w'.heap[D]? = some (.deferred (some []))) ∧ Below base w w' := by
  have hvb : ∀ g, v.ownBlock = some g → base ≤ g ∧ ∃ cs, Blk w g 3 cs := fun g e => ⟨(owns_block h.hp.row e).1, (owns_block h.hp.row e).2.2⟩
  refine ⟨fun g t cs hB h1 h2 => hF.blk hB (fun e => ?_), fun D e => (hF.block D (Array.getElem?_eq_some_iff.1 e).1 (fun e2 => ?_)).trans e, hF.below hs (fun k hk e => ?_)⟩
  · rcases e with rfl | e
    · exact hB.ne_ h.hp.box h2 rfl
    · obtain ⟨_, cs', hb'⟩ := hvb g e; exact hB.ne_ hb' h1 rfl
  · rcases e2 with rfl | e2
    · have := h.hp.box; unfold Blk at this; rw [this] at e; cases e
    · obtain ⟨_, cs', hb'⟩ := hvb D e2; unfold Blk at hb'; rw [hb'] at e; cases e
  · rcases e with rfl | e
    · omega
    · have := (hvb k e).1; omega
theorem LnS.tlC (h : LnS w base mb M ub Ub rb v tv f c U l told) (hg : w.grownBy w' tv.ownBlock) (hs : base ≤ w.heap.size) :
    (∀ D : Nat, w.heap[D]? = some (.deferred (some [])) → w'.heap[D]? = some (.deferred (some []))) ∧ Below base w w' := by
  have hvb : ∀ g, tv.ownBlock = some g → base ≤ g ∧ ∃ cs, Blk w g 3 cs := fun g e => ⟨(owns_block h.tl e).1, (owns_block h.tl e).2.2⟩
  refine ⟨fun D e => (hg.block D (Array.getElem?_eq_some_iff.1 e).1 (fun e2 => ?_)).trans e, (Below.refl _ _).grown hg hs (fun k e => (hvb k e).1)⟩
  obtain ⟨_, cs', hb'⟩ := hvb D e2.symm; unfold Blk at hb'; rw [hb'] at e; cases e
end
end Go.Proofs.Ytoklllbaihccnaa

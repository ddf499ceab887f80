/- compose.firstRound: its contract. Expanded from XCpB.src by expand.py. -/
import Derived.Test.YtoklllbaihccnaaCpA
import Derived.Deep.LoopGhost
import Derived.Deep.CutBlock
set_option linter.unusedVariables false
set_option linter.unusedSimpArgs false
namespace Go.Proofs.Ytoklllbaihccnaa
open Go.RowKit Go.Shelf
attribute [local go_sem] Oper.semAt_some
namespace Lf
structure Fine (gl : List Gl) (s : St) : Prop where
  ok : ok gl s
  told : ∀ x ∈ s.told, 0 ≤ x ∧ x < (gl.length : Int)
  sum : s.told.length + todo gl s ≤ 1002 * gl.length
theorem step_fine {gl : List Gl} (hp : ∀ g, (raw gl g).length ≤ 1000) {s : St} {l : List (Nat × Nat)} {g k : Nat} (hl : s.way = l ++ [(g, k)]) (h : Fine gl s) : Fine gl (step gl s g k) := by
  obtain ⟨h1, h2, h3⟩ := step_todo hp hl h.ok
  have hg := h.ok (g, k) (by rw [hl]; simp)
  refine ⟨h2, fun x hx => ?_, Nat.le_trans h3 h.sum⟩
  unfold step at hx
  split at hx
  · simp only [List.mem_append, List.mem_singleton] at hx
    rcases hx with hx | rfl
    · exact h.told x hx
    · have := hg.1; omega
  · rw [enter_told] at hx; exact h.told x hx
theorem run_fine {gl : List Gl} (hp : ∀ g, (raw gl g).length ≤ 1000) : ∀ (f : Nat) (s : St), Fine gl s → Fine gl (run gl f s)
  | 0, _, h => h
  | f + 1, s, h => by
    rcases List.eq_nil_or_concat s.way with hw | ⟨l, ⟨g, k⟩, hw⟩
    · rw [run_nil hw]; exact h
    · have hw : s.way = l ++ [(g, k)] := by rw [hw]; simp
      rw [run_snoc hw]
      exact run_fine hp f _ (step_fine hp hw h)
theorem enter_fine {gl : List Gl} (hp : ∀ g, (raw gl g).length ≤ 1000) (x : Int) {s : St} (h : Fine gl s) : Fine gl (enter gl.length x s) := by
  obtain ⟨h1, h2⟩ := enter_todo hp x s
  exact ⟨h2 h.ok, by rw [enter_told]; exact h.told, by rw [enter_told]; have := h.sum; omega⟩
theorem lefts_fine {gl : List Gl} (hp : ∀ g, (raw gl g).length ≤ 1000) : ∀ i, Fine gl (lefts gl i)
  | 0 => by
    refine ⟨fun a ha => (by cases ha), fun x hx => (by cases hx), ?_⟩
    have := List.length_filter_le (fun g : Nat => !(lefts gl 0).met g) (List.range gl.length)
    rw [List.length_range] at this
    simp only [todo, lefts, List.range_zero, List.foldl_nil, start, List.map_nil, List.length_nil] at this ⊢
    omega
  | i + 1 => by
    have e : lefts gl (i + 1) = turn gl (lefts gl i) i := by unfold lefts; rw [List.range_succ, List.foldl_append]; rfl
    rw [e]
    exact run_fine hp _ _ (enter_fine hp _ (lefts_fine hp i))
end Lf
theorem raw_few {w : World} {B : Nat} {A : Option Addr} {gl : List Gl} (hf : FAt w B A gl) (g : Nat) : (Lf.raw gl g).length ≤ 1000 := by
  unfold Lf.raw
  cases hg : gl[g]? with
  | none => simp
  | some gg => obtain ⟨_, _, _, _, _, _, _, _, _, h1, _⟩ := hf.parts hg; simpa using h1
namespace Fi
def unmet (n : Nat) (met : Int → Bool) : Nat := ((List.range n).filter fun g : Nat => !met g).length
/-- a group that grows -/
structure Gok (n : Nat) (s : Gs) : Prop where
  sum : unmet n s.1 + s.2.length ≤ n
  inn : ∀ x ∈ s.2, 0 ≤ x ∧ x < (n : Int)
theorem mark_ok {n : Nat} {met : Int → Bool} {v : Int} (hv : 0 ≤ v ∧ v < (n : Int)) (hm : met v = false) : unmet n (upd met v true) + 1 ≤ unmet n met := by
  obtain ⟨k, rfl⟩ := Int.eq_ofNat_of_zero_le hv.1
  exact Lf.unmet_le (by omega) hm
theorem look_ok {n : Nat} {s : Gs} (h : Gok n s) {u : Int} (hu : 0 ≤ u ∧ u < (n : Int)) : Gok n (look s u) := by
  unfold look
  split
  · exact h
  · rename_i hm
    have := mark_ok hu (by simpa using hm)
    refine ⟨by have := h.sum; simp only [List.length_append, List.length_singleton]; omega, fun x hx => ?_⟩
    rcases List.mem_append.1 hx with hx | hx
    · exact h.inn x hx
    · simp only [List.mem_singleton] at hx; rw [hx]; exact hu
theorem looks_ok {n : Nat} : ∀ (us : List Int) {s : Gs}, Gok n s → (∀ u ∈ us, 0 ≤ u ∧ u < (n : Int)) → Gok n (us.foldl look s)
  | [], _, h, _ => h
  | u :: us, s, h, hu => looks_ok us (look_ok h (hu u List.mem_cons_self)) fun x hx => hu x (List.mem_cons_of_mem _ hx)
theorem look_len (s : Gs) (u : Int) : s.2.length ≤ (look s u).2.length := by
  unfold look
  split
  · exact Nat.le_refl _
  · simp
theorem looks_len : ∀ (us : List Int) (s : Gs), s.2.length ≤ (us.foldl look s).2.length
  | [], _ => Nat.le_refl _
  | u :: us, s => Nat.le_trans (look_len s u) (looks_len us _)
end Fi
theorem UsS.other {w : World} {base ub Ub : Nat} {f : Int → Option Value} {U : Int → List Int} (h : UsS w base ub Ub f U) {p : Addr} (h1 : p.block < base) (h2 : ub ≠ p.block) (h3 : Ub ≠ p.block) (u : Value) : UsS (w.setCell p u) base ub Ub f U :=
  ⟨h.ubx.far h2 u, h.um.setCell h3 u, fun k => by
    rcases h.rows k with e | ⟨v, e, ho⟩
    · exact .inl e
    · exact .inr ⟨v, e, owns_keep ho fun g hg => Below.heap_setCell _ _ _ _ (by have := (owns_block ho hg).1; omega)⟩, h.uu⟩
/-- within the round of a glyph whose box lies at gb: of its parts these have come -/
structure FsR (v : Fv) (gl : List Gl) (w : World) (j gb : Nat) (ds : List Nat) (pre : List Prt) (W : World) : Prop where
  us : ∃ f, UsS W (w.heap.size + 4) (w.heap.size + 1 + 1 + 1) (w.heap.size + 1 + 1) f (pre.foldl (Fi.use j) (Fi.users gl j)).2 ∧ ∀ k u, f k = some u → u.ownBlock ≠ some gb
  fb : Blk W (w.heap.size + 1) 3 #[.int .i64 (pre.foldl (Fi.use j) (Fi.users gl j)).1]
  below : Below w.heap.size w W
  big : w.heap.size + 4 ≤ W.heap.size
  font : Blk W w.heap.size 32 v.cs
  gbx : Blk W gb 3 #[.int .i64 j]
  marks : Marks W (w.heap.size + 4) ds
/-- between two rounds -/
structure FsW (v : Fv) (gl : List Gl) (w : World) (j : Nat) (ds : List Nat) (W : World) : Prop where
  us : ∃ f, UsS W (w.heap.size + 4) (w.heap.size + 1 + 1 + 1) (w.heap.size + 1 + 1) f (Fi.users gl j).2
  fb : Blk W (w.heap.size + 1) 3 #[.int .i64 (Fi.users gl j).1]
  below : Below w.heap.size w W
  big : w.heap.size + 4 ≤ W.heap.size
  font : Blk W w.heap.size 32 v.cs
  marks : Marks W (w.heap.size + 4) ds
def FsI (v : Fv) (gl : List Gl) (w : World) (N k : Nat) (a : Act) (wr : World) : Prop :=
  ∃ (u5 u22 u23 u24 u25 u26 u45 : Value) (j : Nat) (ds : List Nat), a = { tmps := #[.agg v.cs, .pointer (some ⟨N, 0, none⟩), .int .i64 0, .pointer (some ⟨N + 1, 0, none⟩), .pointer (some ⟨N + 1 + 1 + 1, 0, none⟩), u5, undef, undef, undef, undef, undef, undef, undef, undef, .pointer (some ⟨N, 1, none⟩), .slice v.A v.n v.c, .int .i64 v.n, .map (some (N + 1 + 1)), .pointer (some ⟨N, 1, none⟩), .slice v.A v.n v.c, .int .i64 v.n, .int .i64 j, u22, u23, u24, u25, u26, undef, undef, undef, undef, undef, undef, undef, undef, undef, undef, undef, undef, undef, undef, undef, undef, undef, undef, u45, undef, undef, undef, undef, undef, undef, undef, undef, undef, undef, undef, undef, undef, undef, undef, undef, undef, undef, undef, undef, undef, undef, undef, undef, undef, undef, undef, undef, undef, undef, undef, undef, undef, undef, undef, undef, undef, undef, undef, undef, undef, undef, undef, undef, undef, undef, undef, undef, undef], defers := ds.map mark } ∧ j + k = gl.length ∧ FsW v gl w j ds wr
theorem FsR.own {v : Fv} {gl : List Gl} {w : World} {j gb : Nat} {ds : List Nat} {B : Nat} (hB : w.heap.size + 4 ≤ B) (hd : ∀ D ∈ ds, D < B) : OwnFrom B (FsR v gl w j gb ds) := by
  intro pre W W' row h hg hr
  obtain ⟨k1, k2⟩ := grown_far hg hr
  obtain ⟨f, hl, hn⟩ := h.us
  exact ⟨⟨f, hl.keep k1 (k2 _ (by omega) hl.um.lt), hn⟩, h.fb.keepC k1, h.below.grown hg h.below.size (fun k e => by have := (hr k e).1; omega), Nat.le_trans h.big hg.size, h.font.keepC k1, h.gbx.keepC k1,
    ⟨h.marks.1, fun D hD => ⟨(h.marks.2 D hD).1, by rw [k2 D (hd D hD) (h.marks.lt D hD)]; exact (h.marks.2 D hD).2⟩⟩⟩
theorem FsR.grow {v : Fv} {gl : List Gl} {w : World} {j gb : Nat} {ds : List Nat} {pre : List Prt} {W W' : World} (h : FsR v gl w j gb ds pre W) (hg : Grow W W') : FsR v gl w j gb ds pre W' := by
  obtain ⟨f, hl, hn⟩ := h.us
  exact ⟨⟨f, hl.grow hg, hn⟩, hg.blk h.fb fun x => x, h.below.trans (hg.below h.below.size), Nat.le_trans h.big hg.size, hg.blk h.font fun x => x, hg.blk h.gbx fun x => x,
    h.marks.keep fun D _ e => by rw [hg.block D (Array.getElem?_eq_some_iff.1 e).1 (fun x => x)]; exact e⟩
def bvals {vs : List Int} (pre : List (Back vs)) : List Int := pre.map fun x => x.1.2
/-- while groups are told: pre are the glyphs that have come -/
structure FtJ (ds : List Nat) (w : World) (G : Nat) (f : Int → Option Value) (U : Int → List Int) (n : Nat) (fst0 : Int) (pre : List Int) (W : World) : Prop where
  us : UsS W (w.heap.size + 4) (w.heap.size + 1 + 1 + 1) (w.heap.size + 1 + 1) f U
  fb : Blk W (w.heap.size + 1) 3 #[.int .i64 (pre.foldl (Fi.turn U n) (fst0, fun _ => false)).1]
  gx : Blk W (G + 1) 49 #[.map (some G)]
  bm : BMap W G (pre.foldl (Fi.turn U n) (fst0, fun _ => false)).2
  below : Below w.heap.size w W
  marks : Marks W (w.heap.size + 4) ds
theorem FtJ.own {ds : List Nat} {w : World} {G : Nat} {f : Int → Option Value} {U : Int → List Int} {n : Nat} {fst0 : Int} {B : Nat} (hB : w.heap.size + 4 ≤ B) (hG : G < B) (hd : ∀ D ∈ ds, D < B) : OwnFrom B (FtJ ds w G f U n fst0) := by
  intro pre W W' row h hg hr
  obtain ⟨k1, k2⟩ := grown_far hg hr
  exact ⟨h.us.keep k1 (k2 _ (by omega) h.us.um.lt), h.fb.keepC k1, h.gx.keepC k1, h.bm.keep (k2 _ hG h.bm.lt), h.below.grown hg h.below.size (fun k e => by have := (hr k e).1; omega),
    ⟨h.marks.1, fun D hD => ⟨(h.marks.2 D hD).1, by rw [k2 D (hd D hD) (h.marks.lt D hD)]; exact (h.marks.2 D hD).2⟩⟩⟩
/-- while a group grows: W0 is the world of the round's beginning -/
structure GrS (W0 W : World) (G : Nat) (gv : Value) (s : Fi.Gs) : Prop where
  fr : Fr (· = G) W0 W
  bm : BMap W G s.1
  row : W.ownsRow W0.heap.size 3 1 gv s.2.length (ints s.2)
section
variable {W0 W W1 : World} {G : Nat} {gv : Value} {s : Fi.Gs}
theorem GrS.cells (h : GrS W0 W G gv s) (hG : ∀ cs t, ¬ Blk W0 G t cs) : ∀ g t cs, Blk W0 g t cs → Blk W g t cs := fun g t cs hb => h.fr.blk hb fun e => hG cs t (e ▸ hb)
theorem GrS.us (h : GrS W0 W G gv s) {base ub Ub : Nat} {f : Int → Option Value} {U : Int → List Int} (hu : UsS W0 base ub Ub f U) (hG : ∀ cs t, ¬ Blk W0 G t cs) (hne : Ub ≠ G) : UsS W base ub Ub f U :=
  ⟨h.cells hG _ _ _ hu.ubx, hu.um.keep (h.fr.block _ hu.um.lt hne), fun k => by
    rcases hu.rows k with e | ⟨u, e, ho⟩
    · exact .inl e
    · refine .inr ⟨u, e, owns_keep ho fun g hg => ?_⟩
      obtain ⟨_, hl, cs, hb⟩ := owns_block ho hg
      exact h.fr.block g hl fun e => hG cs _ (e ▸ hb), hu.uu⟩
theorem GrS.grow (h : GrS W0 W G gv s) (hg : Grow W W1) : GrS W0 W1 G gv s := ⟨h.fr.trans (hg.mono fun _ _ x => x.elim), h.bm.keep (hg.block _ h.bm.lt fun x => x), owns_grow h.row hg⟩
theorem GrS.mark (h : GrS W0 W G gv s) {u : Int} (hm : BMap W1 G (upd s.1 u true)) (hg : W.grownBy W1 (some G)) : GrS W0 W1 G gv (upd s.1 u true, s.2) :=
  ⟨h.fr.grown_ hg fun r e => by injection e with e; exact .inl e.symm, hm, owns_keep h.row fun g e => hg.block g (owns_block h.row e).2.1 fun e2 => by
    injection e2 with e2
    obtain ⟨_, _, cs, hb⟩ := owns_block h.row e
    exact h.bm.mne hb e2⟩
theorem GrS.push (h : GrS W0 W G gv s) {u : Int} {v' : Value} (ho : W1.ownsRow W0.heap.size 3 1 v' (s.2.length + 1) (ints s.2 ++ [.int .i64 u])) (hg : W.grownBy W1 gv.ownBlock) : GrS W0 W1 G v' (s.1, s.2 ++ [u]) := by
  refine ⟨h.fr.grown_ hg fun r e => .inr (owns_block h.row e).1, h.bm.keep (hg.block _ h.bm.lt fun e => ?_), ?_⟩
  · obtain ⟨_, _, cs, hb⟩ := owns_block h.row e.symm
    exact h.bm.mne hb rfl
  · show World.ownsRow _ _ _ _ _ (s.2 ++ [u]).length (ints (s.2 ++ [u]))
    rw [show ints (s.2 ++ [u]) = ints s.2 ++ [.int .i64 u] by simp [ints], List.length_append, List.length_singleton]
    exact ho
end
def GrI (W0 : World) (G : Nat) (U : Int → List Int) (n : Nat) (R : Fi.Gs) (gv i : Value) (wr : World) : Prop :=
  ∃ (k f : Nat) (s : Fi.Gs), i = .int .i64 k ∧ k ≤ s.2.length ∧ Fi.grow U f k s = R ∧ f + k = n + 1 ∧ Fi.Gok n s ∧ GrS W0 wr G gv s
def GrK (W0 : World) (G : Nat) (us : List Int) (s : Fi.Gs) (gv i : Value) (wr : World) : Prop :=
  ∃ j : Nat, i = .int .i64 j ∧ j ≤ us.length ∧ GrS W0 wr G gv ((us.take j).foldl Fi.look s)
set_option maxRecDepth 100000 in
set_option maxHeartbeats 4000000 in
theorem first_any (fv : Fv) (gl : List Gl) (w : World) (hv : fv.n = gl.length) (hf : FAt w w.heap.size fv.A gl) (h12 : gl.length ≤ 12) (h1 : fv.One) :
    Calls Try.prog 22 #[.agg fv.cs] w fun e w' => e = .returned (.int .i64 (Fi.first gl)) ∧ Below w.heap.size w w' := by
  have HONE := Lib.hid h1
  obtain ⟨fu, fA, fn, fc, d2, d3, d4, d5, d6, d7, d8⟩ := fv
  obtain ⟨⟨xu, k0⟩, ⟨A2, n2, c2, k2⟩, ⟨A3, n3, c3, k3⟩, ⟨A4, n4, c4, k4⟩, ⟨A5, n5, c5, k5⟩, ⟨A6, n6, c6, k6⟩, ⟨A7, n7, c7, k7⟩, ⟨A8, n8, c8, k8⟩⟩ := h1
  simp only at k0 k2 k3 k4 k5 k6 k7 k8 hf hv
  subst k0 k2 k3 k4 k5 k6 k7 k8
  have HF := Lib.hid hf
  have HV := Lib.hid hv
  have HP := Lib.hid (parts_few hf)
  have hfn : fn ≤ 12 := by omega
  clear hf hv
  have hmm := @run_makeMap Try.prog
  refine calls_of_marks Try.func22 rfl ?_
  simp only [Try.ntmps22, List.size_toArray, List.length_cons, List.length_nil, Nat.reduceAdd, Nat.reduceSub, Array.replicate_succ, Array.replicate_zero, List.push_toArray, List.append_toArray, List.nil_append, List.cons_append]
  go_wp2_with fail
  refine wp_loop_ghost_k (FsI ⟨.int .i64 xu, fA, fn, fc, .slice A2 n2 c2, .slice A3 n3 c3, .slice A4 n4 c4, .slice A5 n5 c5, .slice A6 n6 c6, .slice A7 n7 c7, .slice A8 n8 c8⟩ gl w w.heap.size) gl.length ?_ ?_
  · refine ⟨undef, undef, undef, undef, undef, undef, undef, 0, [], rfl, by omega, ⟨fun _ => none, ?_, ?_, fun _ => .inl ⟨rfl, rfl⟩, fun _ _ _ _ _ h => (by cases h)⟩, ?_, ?_, by simp, ?_, Marks.nil _ _⟩
    · exact Blk.new_at _ _ _ (by simp)
    · exact (IMap.new_at _ (by simp)).alloc _
    · rw [show (Fi.users gl 0).1 = (fn : Int) by simp only [Fi.users, List.range_zero, List.foldl_nil]; rw [HV.out]]
      exact ((Blk.new_at _ _ _ (by simp)).alloc _).alloc _
    · exact ((((Below.refl _ _).alloc (Nat.le_refl _) _).alloc (by simp) _).alloc (by simp; omega) _).alloc (by simp; omega) _
    · exact (((Blk.new _ _ _).alloc _).alloc _).alloc _
  · rintro k a wr ⟨u5, u22, u23, u24, u25, u26, u45, j, ds, rfl, hj, hW⟩ JJ KK hJJ hKK
    by_cases hlt : j < gl.length
    · have y0 := hW.font.cell 0
      have y1 := hW.font.cell 1
      have y2 := hW.font.cell 2
      have y3 := hW.font.cell 3
      have y4 := hW.font.cell 4
      have y5 := hW.font.cell 5
      have y6 := hW.font.cell 6
      have y7 := hW.font.cell 7
      have y8 := hW.font.cell 8
      have yl := hW.font.lt
      simp only [List.getElem?_toArray, List.getElem?_cons_zero, List.getElem?_cons_succ] at y0 y1 y2 y3 y4 y5 y6 y7 y8
      have HW := Lib.hid hW
      have HJ := Lib.hid hj
      have HJK := Lib.hid hJJ
      have hjf : j < fn := by have := HV.out; omega
      clear hW hj hJJ
      go_wp2_with fail
      refine (parts_any ⟨.int .i64 xu, fA, fn, fc, .slice A2 n2 c2, .slice A3 n3 c3, .slice A4 n4 c4, .slice A5 n5 c5, .slice A6 n6 c6, .slice A7 n7 c7, .slice A8 n8 c8⟩ j _).mono ?_
      rintro e w' ⟨rfl, rfl⟩
      go_wp2_with fail
      obtain ⟨W1, hW1⟩ : ∃ W1, ((wr.alloc (.cells #[.int .i64 j] 3)).alloc (.cells (Fv.cs ⟨.int .i64 xu, fA, fn, fc, .slice A2 n2 c2, .slice A3 n3 c3, .slice A4 n4 c4, .slice A5 n5 c5, .slice A6 n6 c6, .slice A7 n7 c7, .slice A8 n8 c8⟩) 32)).alloc (.cells #[.int .i64 j] 3) = W1 := ⟨_, rfl⟩
      have hs1 : W1.heap.size = wr.heap.size + 3 := by rw [← hW1]; simp
      have hg1 : Grow wr W1 := by rw [← hW1]; exact (((Fr.refl _ _).alloc _).alloc _).alloc _
      have hgb : Blk W1 wr.heap.size 3 #[.int .i64 j] := by rw [← hW1]; exact ((Blk.new _ _ _).alloc _).alloc _
      have hX : Blk W1 (wr.heap.size + 1) 32 (Fv.cs ⟨.int .i64 xu, fA, fn, fc, .slice A2 n2 c2, .slice A3 n3 c3, .slice A4 n4 c4, .slice A5 n5 c5, .slice A6 n6 c6, .slice A7 n7 c7, .slice A8 n8 c8⟩) := by rw [← hW1]; exact (Blk.new_at _ _ _ (by simp)).alloc _
      have hY : Blk W1 (wr.heap.size + 1 + 1) 3 #[.int .i64 j] := by rw [← hW1]; exact Blk.new_at _ _ _ (by simp)
      rw [hW1]
      have HB1 := Lib.hid (HW.out.below.trans (hg1.below HW.out.below.size))
      have hF1 : FAt W1 w.heap.size fA gl := HF.out.below HB1.out (Nat.le_refl _)
      have h0 : FsR ⟨.int .i64 xu, fA, fn, fc, .slice A2 n2 c2, .slice A3 n3 c3, .slice A4 n4 c4, .slice A5 n5 c5, .slice A6 n6 c6, .slice A7 n7 c7, .slice A8 n8 c8⟩ gl w j wr.heap.size ds [] W1 := by
        obtain ⟨f, hl⟩ := HW.out.us
        exact ⟨⟨f, hl.grow hg1, fun k u hu e => by
          rcases hl.rows k with ⟨e1, _⟩ | ⟨u', e1, ho⟩
          · rw [hu] at e1; cases e1
          · rw [hu] at e1; injection e1 with e1; subst e1; have := (owns_block ho e).2.1; omega⟩, hg1.blk HW.out.fb fun x => x, HB1.out, Nat.le_trans HW.out.big hg1.size, hg1.blk HW.out.font fun x => x, hgb, HW.out.marks.keep fun D _ e => by rw [hg1.block D (Array.getElem?_eq_some_iff.1 e).1 (fun x => x)]; exact e⟩
      have HS1 := Lib.hid hs1
      have HM := Lib.hid HW.out.marks.lt
      have HLT := Lib.hid HW.out.big
      refine parts_loop w.heap.size (wr.heap.size + 1) (wr.heap.size + 1 + 1) ⟨.int .i64 xu, fA, fn, fc, .slice A2 n2 c2, .slice A3 n3 c3, .slice A4 n4 c4, .slice A5 n5 c5, .slice A6 n6 c6, .slice A7 n7 c7, .slice A8 n8 c8⟩ gl j rfl hX hY HV.out hF1 HB1.out.size hlt (FsR ⟨.int .i64 xu, fA, fn, fc, .slice A2 n2 c2, .slice A3 n3 c3, .slice A4 n4 c4, .slice A5 n5 c5, .slice A6 n6 c6, .slice A7 n7 c7, .slice A8 n8 c8⟩ gl w j wr.heap.size ds) (FsR.own (by have := HLT.out; omega) (fun D hD => by have := HM.out D hD; omega)) h0
        (fun x pb => { tmps := #[.agg (Fv.cs ⟨.int .i64 xu, fA, fn, fc, .slice A2 n2 c2, .slice A3 n3 c3, .slice A4 n4 c4, .slice A5 n5 c5, .slice A6 n6 c6, .slice A7 n7 c7, .slice A8 n8 c8⟩), .pointer (some ⟨w.heap.size, 0, none⟩), .int .i64 0, .pointer (some ⟨w.heap.size + 1, 0, none⟩), .pointer (some ⟨w.heap.size + 1 + 1 + 1, 0, none⟩), .pointer (some ⟨wr.heap.size, 0, none⟩), .pointer (some ⟨pb, 0, none⟩), undef, undef, undef, undef, undef, undef, undef, .pointer (some ⟨w.heap.size, 1, none⟩), .slice fA fn fc, .int .i64 fn, .map (some (w.heap.size + 1 + 1)), .pointer (some ⟨w.heap.size, 1, none⟩), .slice fA fn fc, .int .i64 fn, .int .i64 j, .bool true, .int .i64 j, .agg (Fv.cs ⟨.int .i64 xu, fA, fn, fc, .slice A2 n2 c2, .slice A3 n3 c3, .slice A4 n4 c4, .slice A5 n5 c5, .slice A6 n6 c6, .slice A7 n7 c7, .slice A8 n8 c8⟩), .int .i64 j, .func (.func 53) #[] #[.pointer (some ⟨wr.heap.size + 1, 0, none⟩), .pointer (some ⟨wr.heap.size + 1 + 1, 0, none⟩)], pv x, undef, undef, undef, undef, undef, undef, undef, undef, undef, undef, undef, undef, undef, undef, undef, undef, undef, u45, undef, undef, undef, undef, undef, undef, undef, undef, undef, undef, undef, undef, undef, undef, undef, undef, undef, undef, undef, undef, undef, undef, undef, undef, undef, undef, undef, undef, undef, undef, undef, undef, undef, undef, undef, undef, undef, undef, undef, undef, undef, undef, undef, undef, undef, undef, undef, undef, undef], defers := [] }) ?assign ?body (fun pre W h => h.below.size) (fun pre W W' h hg => h.grow hg) ?done
      case assign =>
        intro l x W K hK
        have HKK := Lib.hid hK
        clear hK h0 hX hY hgb hF1 hg1 hs1 hW1 y0 y1 y2 y3 y4 y5 y6 y7 y8
        obtain ⟨xg, xx, xy⟩ := x
        unfold pv
        gi_wp2
        exact HKK.out
      case body =>
        rintro l pre ⟨pg, px, py⟩ pb W hl _ hxm hlen hI hpb hXb
        obtain ⟨f2, hL, hFN⟩ := hI.us
        obtain ⟨s2, hs2⟩ : ∃ s2, pre.foldl (Fi.use j) (Fi.users gl j) = s2 := ⟨_, rfl⟩
        have HS2 := Lib.hid hs2
        have hfb := hI.fb
        rw [hs2] at hL hfb
        have hbd : Fi.Bd gl.length 101000 s2 := by
          have h1 := Fi.uses_bd (n := gl.length) (g := j) hlt pre (Fi.users_bd HP.out j (by omega))
          rw [hs2] at h1
          have h2 := HP.out j
          exact ⟨h1.1, fun x => ⟨by have := (h1.2 x).1; omega, (h1.2 x).2⟩⟩
        have hpgr := mem_psOf hxm
        simp only at hpgr
        have hpgi : I64 pg := by unfold I64; omega
        obtain ⟨u0, hu0⟩ : ∃ u0, (f2 pg).getD (.slice none 0 0) = u0 := ⟨_, rfl⟩
        obtain ⟨r1, _⟩ := hL.row pg
        rw [hu0] at r1
        obtain ⟨uA, uc, huv, huc, hum⟩ := owns_form r1
        have p0 := hpb.cell 0
        have p1 := hI.gbx.cell 0
        have p2 := hL.ubx.cell 0
        have f0 := hfb.cell 0
        simp only [List.getElem?_toArray, List.getElem?_cons_zero] at p0 p1 p2 f0
        have lp := hpb.lt
        have lg := hI.gbx.lt
        have lu := hL.ubx.lt
        have lf := hfb.lt
        have hul : (s2.2 pg).length ≤ 101000 := (hbd.2 pg).1
        have HU0 := Lib.hid hu0
        have HUV := Lib.hid huv
        have HL := Lib.hid hL
        have HLA := Lib.hid (hL.grow (w' := W.drew.alloc (.cells #[.int .i64 j] 3)) ((Fr.refl _ _).drew.alloc _))
        have HR1 := Lib.hid (owns_grow (w' := W.drew.alloc (.cells #[.int .i64 j] 3)) r1 ((Fr.refl _ _).drew.alloc _))
        have hlk2 := HLA.out.look pg hpgi
        rw [hu0] at hlk2
        obtain ⟨i0, hi0, hi1, hi2, hi3⟩ := info_m info_int
        have HI := Lib.hid hI
        have HBD := Lib.hid hbd
        have HFN := Lib.hid hFN
        have HPB := Lib.hid hpb
        have HFB := Lib.hid hfb
        clear hFN hI hL hbd hpb hs2 h0 hX hY hgb hF1 hg1 hs1 hW1 hmm r1 hu0 huv hfb y0 y1 y2 y3 y4 y5 y6 y7 y8
        have hS : (fun wq : World => wq.cell? ⟨w.heap.size + 1 + 1 + 1, 0, none⟩ = some (.map (some (w.heap.size + 1 + 1))) ∧ wq.cell? ⟨pb, 0, none⟩ = some (.int .i64 pg) ∧ wq.cell? ⟨wr.heap.size, 0, none⟩ = some (.int .i64 j) ∧ (Instr.lookup 94 (.map (some (w.heap.size + 1 + 1))) (.int .i64 pg) false).run Try.prog wq = .ok u0 wq) W.drew := ⟨p2, p0, p1, by have := (HL.out.grow (w' := W.drew) ((Fr.refl _ _).drew)).look pg hpgi; rwa [HU0.out] at this⟩
        gi_wp2_with fail
        refine region_in_round_seqT (fun i => !([8, 9, 10] : List Nat).contains i) (fun i => ([0, 2, 3, 5, 6, 7] : List Nat).contains i) (fun i => ([8, 9] : List Nat).contains i) [0, 1, 2, 3, 4, 5, 6, 7, 8, 9, 10] (fun wq : World => wq.cell? ⟨w.heap.size + 1 + 1 + 1, 0, none⟩ = some (.map (some (w.heap.size + 1 + 1))) ∧ wq.cell? ⟨pb, 0, none⟩ = some (.int .i64 pg) ∧ wq.cell? ⟨wr.heap.size, 0, none⟩ = some (.int .i64 j) ∧ (Instr.lookup 94 (.map (some (w.heap.size + 1 + 1))) (.int .i64 pg) false).run Try.prog wq = .ok u0 wq) (by kernel_rfl) (by kernel_rfl) (by kernel_rfl) (by kernel_rfl) (by kernel_rfl) (by rintro ⟨_, _, h⟩; exact h) ?_
        iterate 8 (first | refine wpSeq_pureA (v := _) rfl rfl rfl ?_ | refine wpSeq_loadA (v := _) rfl rfl hS rfl ?_)
        refine wpSeq_heavy rfl rfl (fun K hK => ?_); go_simp
        refine hK _ _ (fun _ => ⟨(World.cell?_alloc_lt _ _ _ lu).trans p2, (World.cell?_alloc_lt _ _ _ lp).trans p0, (World.cell?_alloc_lt _ _ _ lg).trans p1, hlk2⟩) ?_; clear hK K
        refine wpSeq_heavy rfl rfl (fun K hK => ?_)
        refine step_own _ rfl (.tmp 34) (.tmp 36) _ rfl (w.heap.size + 4) 3 i0 _ 1 8 Try.underlying22 hi0 hi1 hi2 hi3 rfl (by decide) u0 (s2.2 pg).length _ rfl HR1.out _ _ 1 1 [.int .i64 j] rfl (Reads.blk (cs := [.int .i64 j]) (Blk.new _ _ _) 1 1 rfl) (by simp [Value.oneCell']) (by unfold maxLen; omega) (by omega) (by have := HI.out.big; simp; omega) ?_
        intro v' w6 hrow hg hnew
        rw [← HU0.out] at hg hnew
        obtain ⟨g1, g3, g4⟩ := HLA.out.grown (k := pg) hrow hg hnew
        obtain ⟨w7, m1, m2, m3, m4⟩ := g3.store (t := 94) Try.underlying94 pg hpgi v'
        have hN := HLA.out.used hrow hg hnew m2 m3
        have hb6 := (g1 _ _ _ HLA.out.ubx (by decide)).cell 0
        have hp6 := (g1 _ _ _ (HPB.out.drew.alloc _) (by decide)).cell 0
        have hgne : some wr.heap.size ≠ ((f2 pg).getD (.slice none 0 0)).ownBlock := by
          cases hf : f2 pg with
          | none => simp [Value.ownBlock]
          | some u => exact fun e => HFN.out pg u hf e.symm
        have hg6 : Blk w6 wr.heap.size 3 #[.int .i64 j] := (HI.out.gbx.drew.alloc _).grown hg hgne
        have hfne : some (w.heap.size + 1) ≠ ((f2 pg).getD (.slice none 0 0)).ownBlock := fun e => by
          have := (owns_block (HL.out.row pg).1 e.symm).1
          omega
        have hf6 := (HFB.out.drew.alloc (.cells #[.int .i64 j] 3)).grown hg hfne
        have hg6c := hg6.cell 0
        have hlk6 : (Instr.lookup 94 (.map (some (w.heap.size + 1 + 1))) (.int .i64 pg) false).run Try.prog w6 = .ok u0 w6 := by rw [← HU0.out]; exact g3.look (t := 94) Try.underlying94 (z := .slice none 0 0) (by kernel_rfl) pg hpgi
        simp only [List.getElem?_toArray, List.getElem?_cons_zero] at hb6 hp6 hg6c
        have HG6 := Lib.hid hg6
        have HF6 := Lib.hid hf6
        have HG1 := Lib.hid g1
        have HG3 := Lib.hid g3
        have HN := Lib.hid hN
        have HGG := Lib.hid hg
        have HNW := Lib.hid hnew
        have HNE := Lib.hid hgne
        have HM2 := Lib.hid m2
        have HM3 := Lib.hid m3
        have HM4 := Lib.hid m4
        clear hN hrow hg hnew g1 g3 g4 m2 m3 m4 hg6 hf6 hlk2 hgne hfne
        refine hK _ _ (fun _ => ⟨hb6, hp6, hg6c, hlk6⟩) ?_; clear hK K
        refine wpSeq_heavy rfl rfl (fun K hK => ?_); go_simp
        refine hK _ _ (fun h => by cases h) ?_; clear hK K
        refine wpSeq_end ?_
        have KC7 : ∀ (b : Nat) (t : TypeId) (cs : Array Value), Blk W b t cs → t ≠ 3 → Blk w7 b t cs := fun b t cs hb ht => by
          have h6 := HG1.out b t cs (hb.drew.alloc _) ht
          exact (HM3.out.block b h6.lt (fun e => by injection e with e; exact HG3.out.mne h6 e)).trans h6
        have hg7 : Blk w7 wr.heap.size 3 #[.int .i64 j] := (HM3.out.block _ HG6.out.lt (fun e => by injection e with e; exact HG3.out.mne HG6.out e)).trans HG6.out
        have hf7 : Blk w7 (w.heap.size + 1) 3 #[.int .i64 s2.1] := (HM3.out.block _ HF6.out.lt (fun e => by injection e with e; exact HG3.out.mne HF6.out e)).trans HF6.out
        have hp7 := KC7 _ _ _ HPB.out (by decide)
        have P0 := hp7.cell 0
        have G0 := hg7.cell 0
        have F0 := hf7.cell 0
        have FF := hf7.frozen 0
        have PL := hp7.lt
        have GL := hg7.lt
        have FL := hf7.lt
        simp only [List.getElem?_toArray, List.getElem?_cons_zero] at P0 G0 F0
        have HKC7 := Lib.hid KC7
        have HG7 := Lib.hid hg7
        have HF7 := Lib.hid hf7
        have hu0b : ∀ b, ((f2 pg).getD (.slice none 0 0)).ownBlock = some b → w.heap.size + 4 ≤ b ∧ ∃ cs, Blk (W.drew.alloc (.cells #[.int .i64 j] 3)) b 3 cs := fun b e => ⟨(owns_block (HLA.out.row pg).1 e).1, (owns_block (HLA.out.row pg).1 e).2.2⟩
        have hbg := HI.out.big
        have hkf : KeepsFrom W1.heap.size W w7 := by
          refine ((((KeepsOthers.drew W).trans (KeepsOthers.alloc _ _)).trans (KeepsOthers.of_grownBy HGG.out (fun b o e ho => ?_))).from _).trans (KeepsFrom.of_grownBy HM3.out (fun b e => by injection e with e; have := HS1.out; have := HLT.out; omega))
          obtain ⟨_, cs, hcs⟩ := hu0b b e
          rw [show _ = _ from hcs] at ho; injection ho with ho; subst ho; rfl
        have hB7 : Below w.heap.size W w7 := by
          have b2 : Below w.heap.size W (W.drew.alloc (.cells #[.int .i64 j] 3)) := ((Below.refl _ W).drew).alloc (by show w.heap.size ≤ W.heap.size; omega) _
          have b3 : Below w.heap.size W w6 := b2.grown HGG.out (by simp; omega) (fun b e => by have := (hu0b b e).1; omega)
          exact b3.grown HM3.out (by have := HGG.out.size; simp at this; omega) (fun b e => by injection e with e; omega)
        have hmk : Marks w7 (w.heap.size + 4) ds := HI.out.marks.keep fun D hD e => by
          have hl0 : D < W.heap.size := (Array.getElem?_eq_some_iff.1 e).1
          have e3 : (W.drew.alloc (.cells #[.int .i64 j] 3)).heap[D]? = some (.deferred (some [])) := (Below.heap_alloc W.drew _ D (by show D < W.heap.size; omega)).trans e
          have e4 : w6.heap[D]? = some (.deferred (some [])) := (HGG.out.block D (Array.getElem?_eq_some_iff.1 e3).1 (fun e5 => by
            obtain ⟨_, cs, hcs⟩ := hu0b D e5.symm
            unfold Blk at hcs
            rw [hcs] at e3; cases e3)).trans e3
          exact (HM3.out.block D (Array.getElem?_eq_some_iff.1 e4).1 (fun e => by injection e with e; omega)).trans e4
        have hus : ∃ f, UsS w7 (w.heap.size + 4) (w.heap.size + 1 + 1 + 1) (w.heap.size + 1 + 1) f (upd s2.2 pg (s2.2 pg ++ [(j : Int)])) ∧ ∀ k u, f k = some u → u.ownBlock ≠ some wr.heap.size := by
          refine ⟨_, HN.out, fun k' u hu e => ?_⟩
          by_cases hk' : k' = pg
          · subst hk'
            simp only [if_true, Option.some.injEq] at hu
            subst hu
            rcases HNW.out with h | h
            · exact HNE.out (e.symm.trans h)
            · rw [h] at e; injection e with e; simp at e; omega
          · simp only [if_neg hk'] at hu
            exact HFN.out k' u hu e
        have HKF := Lib.hid hkf
        have HB7 := Lib.hid hB7
        have HMK := Lib.hid hmk
        have HUS := Lib.hid hus
        have efold : (pre ++ [((pg, px, py) : Prt)]).foldl (Fi.use j) (Fi.users gl j) = Fi.use j s2 (pg, px, py) := by rw [List.foldl_append, HS2.out]; rfl
        have HEF := Lib.hid efold
        clear KC7 hg7 hf7 hp7 p0 p1 p2 f0 hS hu0b hbg hkf hB7 hmk hus efold
        by_cases hpe : pg = (j : Int)
        · have hpeq : ((pg == (j : Int)) : Bool) = true := by simpa using hpe
          have hmn : (if (j : Int) < s2.1 then (j : Int) else s2.1) = min s2.1 (j : Int) := by omega
          have HPE := Lib.hid hpe
          clear hpe
          gi_wp2_with fail
          have hbs : Below w.heap.size w7 (w7.setCell ⟨w.heap.size + 1, 0, none⟩ (.int .i64 (min s2.1 (j : Int)))) := ⟨rfl, rfl, rfl, by simp, fun i hi => Below.heap_setCell _ _ _ _ (by simp only; omega)⟩
          have hbg := HI.out.big
          have hwl := HLT.out
          refine ⟨HKF.out.trans ((KeepsOthers.setCell _ _ _).from _), ⟨HB7.out.trans hbs, (Below.heap_setCell _ _ _ _ (by simp only; omega)).trans (HKC7.out _ _ _ hXb (by decide) |>.trans hXb.symm)⟩, ?_, ?_, HI.out.below.trans (HB7.out.trans hbs), by have := HB7.out.size; simp; omega, ?_, HG7.out.far (p := ⟨w.heap.size + 1, 0, none⟩) (by simp only; omega) _, HMK.out.keep fun D hD e => (Below.heap_setCell _ _ _ _ (by simp only; omega)).trans e⟩
          · obtain ⟨f, h1, h2⟩ := HUS.out
            refine ⟨f, ?_, h2⟩
            rw [HEF.out]
            exact h1.other (p := ⟨w.heap.size + 1, 0, none⟩) (by simp only; omega) (by simp only; omega) (by simp only; omega) _
          · rw [HEF.out]
            have := HF7.out.set_ 0 (.int .i64 (min s2.1 (j : Int)))
            simp only [Fi.use]
            rw [if_pos HPE.out]
            exact this
          · exact (HKC7.out _ _ _ HI.out.font (by decide)).far (p := ⟨w.heap.size + 1, 0, none⟩) (by simp) _
        · have hpeq : ((pg == (j : Int)) : Bool) = false := by simpa using hpe
          have HPE := Lib.hid hpe
          clear hpe
          gi_wp2_with fail
          refine ⟨HKF.out, ⟨HB7.out, HKC7.out _ _ _ hXb (by decide) |>.trans hXb.symm⟩, by rw [HEF.out]; exact HUS.out, ?_, HI.out.below.trans HB7.out, Nat.le_trans HI.out.big HB7.out.size, HKC7.out _ _ _ HI.out.font (by decide), HG7.out, HMK.out⟩
          rw [HEF.out]
          simp only [Fi.use]
          rw [if_neg HPE.out]
          exact HF7.out
      case done =>
        intro D W hD hI hK3
        have hmk : Marks W (w.heap.size + 4) (D :: ds) := hI.marks.cons (fun E hE => HM.out E hE) (by have := HS1.out; omega) (by have := HS1.out; have := HLT.out; omega) hK3
        have e1 : (partsOf gl j).foldl (Fi.use j) (Fi.users gl j) = Fi.users gl (j + 1) := by rw [Fi.users_succ]; rfl
        have hN : FsW ⟨.int .i64 xu, fA, fn, fc, .slice A2 n2 c2, .slice A3 n3 c3, .slice A4 n4 c4, .slice A5 n5 c5, .slice A6 n6 c6, .slice A7 n7 c7, .slice A8 n8 c8⟩ gl w (j + 1) (D :: ds) W := by
          obtain ⟨f, h1, _⟩ := hI.us
          have h2 := hI.fb
          rw [e1] at h1 h2
          exact ⟨⟨f, h1⟩, h2, hI.below, hI.big, hI.font, hmk⟩
        have HN := Lib.hid hN
        clear hmk e1 hN hI h0 hX hY hgb hF1 hg1 hs1 hW1 hK3 y0 y1 y2 y3 y4 y5 y6 y7 y8
        go_wp2_with fail
        exact Handed.intro (k - 1) (by have := HJ.out; omega) (HJK.out _ _ _ ⟨_, _, _, _, _, _, _, j + 1, D :: ds, rfl, by have := HJ.out; omega, HN.out⟩)
    · have hje : j = gl.length := by omega
      subst hje
      have y0 := hW.fb.cell 0
      have y0 := hW.font.cell 0
      have y1 := hW.font.cell 1
      have y2 := hW.font.cell 2
      have y3 := hW.font.cell 3
      have y4 := hW.font.cell 4
      have y5 := hW.font.cell 5
      have y6 := hW.font.cell 6
      have y7 := hW.font.cell 7
      have y8 := hW.font.cell 8
      have yl := hW.font.lt
      simp only [List.getElem?_toArray, List.getElem?_cons_zero, List.getElem?_cons_succ] at y0 y1 y2 y3 y4 y5 y6 y7 y8
      have HW := Lib.hid hW
      have hge : fn ≤ gl.length := by have := HV.out; omega
      clear hW hj hJJ
      go_wp2_with fail
      obtain ⟨W1, hW1⟩ : ∃ W1, ((wr.alloc (.map #[] 0)).alloc (.cells #[.map (some wr.heap.size)] 49)) = W1 := ⟨_, rfl⟩
      have hs1 : W1.heap.size = wr.heap.size + 2 := by rw [← hW1]; simp
      have hg1 : Grow wr W1 := by rw [← hW1]; exact ((Fr.refl _ _).alloc _).alloc _
      have hgx : Blk W1 (wr.heap.size + 1) 49 #[.map (some wr.heap.size)] := by rw [← hW1]; exact Blk.new_at _ _ _ (by simp)
      have hbm : BMap W1 wr.heap.size (fun _ => false) := by
        rw [← hW1]
        obtain ⟨f, h1, h2⟩ := BMap.new_at wr (b := wr.heap.size) rfl
        exact ⟨f, h1.alloc _, h2⟩
      rw [hW1]
      have hB1 := HW.out.below.trans (hg1.below HW.out.below.size)
      refine (left_any ⟨.int .i64 xu, fA, fn, fc, .slice A2 n2 c2, .slice A3 n3 c3, .slice A4 n4 c4, .slice A5 n5 c5, .slice A6 n6 c6, .slice A7 n7 c7, .slice A8 n8 c8⟩ gl W1 HV.out (HF.out.same hB1) h12 HONE.out).mono ?_
      rintro e W2 ⟨tv, rfl, htl, hB2⟩
      obtain ⟨vs, hvs⟩ : ∃ vs, Lf.left gl = vs := ⟨_, rfl⟩
      rw [hvs] at htl
      obtain ⟨tA, tc, rfl, htc, _⟩ := owns_form htl
      have HB2 := Lib.hid hB2
      have HB1 := Lib.hid hB1
      have HTL := Lib.hid htl
      have HVS := Lib.hid hvs
      have HGX := Lib.hid hgx
      have HBM := Lib.hid hbm
      have HS1 := Lib.hid hs1
      have HG1 := Lib.hid hg1
      clear hB2 hB1 htl hvs hgx hbm hs1 hg1 hW1 y0 y1 y2 y3 y4 y5 y6 y7 y8 hmm
      go_wp2_with fail
      refine (backward_any tA vs.length tc _).mono ?_
      rintro e w' ⟨rfl, rfl⟩
      go_wp2_with fail
      obtain ⟨W3, hW3⟩ : ∃ W3, (W2.alloc (.cells #[.slice tA vs.length tc] 22)) = W3 := ⟨_, rfl⟩
      have hg3 : Grow W2 W3 := by rw [← hW3]; exact (Fr.refl _ _).alloc _
      have hs3 : W3.heap.size = W2.heap.size + 1 := by rw [← hW3]; simp
      have hS3 : Blk W3 W2.heap.size 22 #[.slice tA vs.length tc] := by rw [← hW3]; exact Blk.new _ _ _
      rw [hW3]
      have hgr : Below W1.heap.size W1 W3 := HB2.out.trans (hg3.below HB2.out.size)
      obtain ⟨f, hus⟩ := HW.out.us
      have hbig := HW.out.big
      have hs1 := HS1.out
      have hu3 : UsS W3 (w.heap.size + 4) (w.heap.size + 1 + 1 + 1) (w.heap.size + 1 + 1) f (Fi.users gl gl.length).2 := by
        have h1 := hus.grow HG1.out
        have hb := h1.um.lt
        refine ⟨h1.ubx.below hgr h1.ubx.lt, h1.um.keep (hgr.block _ hb), fun k => ?_, h1.uu⟩
        rcases h1.rows k with e | ⟨u, e, ho⟩
        · exact .inl e
        · exact .inr ⟨u, e, owns_keep ho fun g hg => hgr.block g (owns_block ho hg).2.1⟩
      have h0 : FtJ ds w wr.heap.size f (Fi.users gl gl.length).2 gl.length (Fi.users gl gl.length).1 [] W3 :=
        ⟨hu3, (HG1.out.blk HW.out.fb fun x => x).below hgr (by omega), HGX.out.below hgr (by omega), HBM.out.keep (hgr.block _ (by omega)), HB1.out.trans (hgr.mono (by omega)), HW.out.marks.keep fun D hD e => (hgr.block D (by have := (Array.getElem?_eq_some_iff.1 e).1; omega)).trans ((HG1.out.block D (Array.getElem?_eq_some_iff.1 e).1 fun x => x).trans e)⟩
      have hul : ∀ x, ((Fi.users gl gl.length).2 x).length ≤ 12000 ∧ ∀ y ∈ (Fi.users gl gl.length).2 x, 0 ≤ y ∧ y < (gl.length : Int) := fun x => by
        have := (Fi.users_bd HP.out gl.length (Nat.le_refl _)).2 x
        exact ⟨by omega, this.2⟩
      have hfb0 := (Fi.users_bd HP.out gl.length (Nat.le_refl _)).1
      have hvf := Lf.lefts_fine (gl := gl) (raw_few HF.out) gl.length
      have hvr : ∀ x ∈ vs, 0 ≤ x ∧ x < (gl.length : Int) := by rw [← HVS.out]; exact hvf.told
      have hvl : vs.length ≤ 100000 := by have := hvf.sum; rw [← HVS.out]; unfold Lf.left; omega
      obtain ⟨U, hU⟩ : ∃ U, (Fi.users gl gl.length).2 = U := ⟨_, rfl⟩
      obtain ⟨fst0, hfst⟩ : ∃ x, (Fi.users gl gl.length).1 = x := ⟨_, rfl⟩
      have hfirst : Fi.first gl = (vs.reverse.foldl (Fi.turn U gl.length) (fst0, fun _ => false)).1 := by rw [← hU, ← hfst, ← HVS.out]; rfl
      rw [hU, hfst] at h0
      rw [hU] at hul hus
      rw [hfst] at hfb0
      obtain ⟨rb, hrb⟩ : ∃ rb, (0 < vs.length → tA = some ⟨rb, 0, none⟩ ∧ ∃ t cs, Blk W3 rb t cs ∧ ∀ (j : Nat) (v : Int), vs[j]? = some v → cs[j]? = some (.int .i64 v)) ∧ rb < W3.heap.size ∧ rb ≠ wr.heap.size ∧ rb ≠ w.heap.size + 1 := by
        have ho := owns_grow HTL.out hg3
        rcases Nat.eq_zero_or_pos vs.length with h | h
        · exact ⟨W2.heap.size, fun h' => by omega, by omega, by have := HB2.out.size; omega, by have := HB2.out.size; omega⟩
        · obtain ⟨g, c, hv, _, hgb, hgl, _⟩ := owns_at ho h
          injection hv with hv1 hv2 hv3
          subst hv1
          subst hv3
          obtain ⟨cs, hb, _, _, hc⟩ := owns_blk ho
          exact ⟨g, fun _ => ⟨rfl, _, cs, hb, fun j v hj => hc _ _ (ints_at _ _ _ hj)⟩, hgl, by omega, by omega⟩
      obtain ⟨hrb1, hrb2, hrb3, hrb4⟩ := hrb
      have HRB := Lib.hid hrb1
      have HUL := Lib.hid hul
      have HVR := Lib.hid hvr
      have HFI := Lib.hid hfirst
      have HFB0 := Lib.hid hfb0
      have HS3 := Lib.hid hs3
      have HLT2 := Lib.hid hbig
      have hSz2 : Hid (wr.heap.size + 2 ≤ W2.heap.size) := Lib.hid (by have := HB2.out.size; omega)
      refine (wpIn_wide (n := 8)).1 ?_
      refine wpIn_rangeFunc_ownH (α := Back vs) rfl (by omega) (gf := 58) (lb := #[.pointer (some ⟨W2.heap.size, 0, none⟩)]) rfl trivial (enters_of Try.func58 (by kernel_rfl) rfl)
        (back_stops 7 W2.heap.size rb tA tc vs (by omega) W3 hS3 hrb1 hvl htc) kpB_t (fun W l o o' h1 _ _ _ => kpB_put W l o' (by omega) (by omega)) (Below.refl _ _) (fun _ => rfl)
        (fun pre W => FtJ ds w wr.heap.size f U gl.length fst0 (bvals pre) W) (fun _ _ _ => False) (fun pre W W' row h hg hr => FtJ.own (B := W3.heap.size) (by have := hSz2.out; omega) (by have := hSz2.out; omega) (fun D hD => by have := HW.out.marks.lt D hD; have := hSz2.out; omega) (bvals pre) W W' row h hg hr) (fun _ _ _ _ _ hs _ _ => hs) h0
        (fun x a' _ => a' = { tmps := #[.agg (Fv.cs ⟨.int .i64 xu, fA, fn, fc, .slice A2 n2 c2, .slice A3 n3 c3, .slice A4 n4 c4, .slice A5 n5 c5, .slice A6 n6 c6, .slice A7 n7 c7, .slice A8 n8 c8⟩), .pointer (some ⟨w.heap.size, 0, none⟩), .int .i64 0, .pointer (some ⟨w.heap.size + 1, 0, none⟩), .pointer (some ⟨w.heap.size + 1 + 1 + 1, 0, none⟩), u5, undef, .pointer (some ⟨wr.heap.size + 1, 0, none⟩), undef, .int .i64 x.1.2, undef, undef, undef, undef, .pointer (some ⟨w.heap.size, 1, none⟩), .slice fA fn fc, .int .i64 fn, .map (some (w.heap.size + 1 + 1)), .pointer (some ⟨w.heap.size, 1, none⟩), .slice fA fn fc, .int .i64 fn, .int .i64 gl.length, .bool false, u23, u24, u25, u26, undef, undef, undef, undef, undef, undef, undef, undef, undef, undef, undef, undef, undef, undef, undef, undef, undef, undef, u45, .map (some wr.heap.size), .agg (Fv.cs ⟨.int .i64 xu, fA, fn, fc, .slice A2 n2 c2, .slice A3 n3 c3, .slice A4 n4 c4, .slice A5 n5 c5, .slice A6 n6 c6, .slice A7 n7 c7, .slice A8 n8 c8⟩), .slice tA vs.length tc, .func (.func 58) #[] #[.pointer (some ⟨W2.heap.size, 0, none⟩)], .int .i64 (x.1.1 : Int), .int .i64 x.1.2, undef, undef, undef, undef, undef, undef, undef, undef, undef, undef, undef, undef, undef, undef, undef, undef, undef, undef, undef, undef, undef, undef, undef, undef, undef, undef, undef, undef, undef, undef, undef, undef, undef, undef, undef, undef, undef, undef, undef, undef, undef, undef, undef], defers := [] }) ?hAx ?assign ?body ?done ?stop
      case hAx =>
        intro x a' _ W W' row h hg hr
        exact h
      case assign =>
        intro l pre x W K hI hK2
        have HK2 := Lib.hid hK2
        have HI := Lib.hid hI
        clear hK2 hI h0 hS3 hrb1 hg3 hs3 hW3 hgr hus hu3 hul hvf hvr hfirst hfb0 hU hfst hs1
        obtain ⟨⟨xi, xv⟩, hxm⟩ := x
        unfold bv
        gi_wp2
        exact HK2.out _ _ (KeepsFrom.refl _ _) ⟨rfl, rfl⟩ HI.out rfl
      case body =>
        rintro l pre ⟨⟨xi, v⟩, hxm⟩ a' W0 hl ⟨rl, hrl⟩ hI rfl hlen
        have hW03 : W3.heap.size ≤ W0.heap.size := by have := (Array.getElem?_eq_some_iff.1 hrl).1; omega
        clear hrl
        have hdm : ∀ D ∈ ds, D < wr.heap.size := HW.out.marks.lt
        have HDM := Lib.hid hdm
        clear hdm
        generalize hGe : wr.heap.size = G at *
        have hvv : 0 ≤ v ∧ v < (gl.length : Int) := HVR.out v (List.mem_of_getElem? hxm)
        have hvi : I64 v := by unfold I64; omega
        obtain ⟨st, hst⟩ : ∃ st, (bvals pre).foldl (Fi.turn U gl.length) (fst0, fun _ => false) = st := ⟨_, rfl⟩
        have hnew : (bvals (pre ++ [(⟨(xi, v), hxm⟩ : Back vs)])).foldl (Fi.turn U gl.length) (fst0, fun _ => false) = Fi.turn U gl.length st v := by
          unfold bvals at hst ⊢
          rw [List.map_append, List.foldl_append, hst]; rfl
        have g0 := hI.gx.cell 0
        have gl0 := hI.gx.lt
        simp only [List.getElem?_toArray, List.getElem?_cons_zero] at g0
        have hlk := hI.bm.look v hvi
        rw [hst] at hlk
        have HI := Lib.hid hI
        have HST := Lib.hid hst
        have HNEW := Lib.hid hnew
        clear hI hst hnew h0 hS3 hrb1 hg3 hs3 hW3 hgr hus hu3 hul hvf hvr hfirst hfb0 hU hfst hs1
        by_cases hm : st.2 v = true
        · rw [hm] at hlk
          have HM := Lib.hid hm
          clear hm
          gi_wp2_with fail
          have et : Fi.turn U gl.length st v = st := by unfold Fi.turn; rw [if_pos HM.out]
          refine ⟨KeepsFrom.refl _ _, ⟨rfl, rfl⟩, HI.out.us, ?_, HI.out.gx, ?_, HI.out.below, HI.out.marks⟩
          · rw [HNEW.out, et, ← HST.out]; exact HI.out.fb
          · rw [HNEW.out, et, ← HST.out]; exact HI.out.bm
        · have hm0 : st.2 v = false := by simpa using hm
          rw [hm0] at hlk
          have hbm0 := HI.out.bm
          rw [HST.out] at hbm0
          obtain ⟨w1, m1, m2, m3, m4⟩ := hbm0.store v hvi true
          have hG : ∀ cs t, ¬ Blk W0 G t cs := fun cs t hb => hbm0.mne hb rfl
          have hgok : Fi.Gok gl.length (upd st.2 v true, [v]) := by
            have h1 := Fi.mark_ok hvv hm0
            have h2 := List.length_filter_le (fun g : Nat => !st.2 g) (List.range gl.length)
            rw [List.length_range] at h2
            unfold Fi.unmet at h1
            exact ⟨by simp only [Fi.unmet, List.length_singleton]; omega, fun x hx => by simp only [List.mem_singleton] at hx; rw [hx]; exact hvv⟩
          have hgs : GrS W0 (w1.alloc (.cells #[.int .i64 v] 3)) G (.slice (some ⟨w1.heap.size, 0, none⟩) 1 1) (upd st.2 v true, [v]) := by
            have f1 : Fr (· = G) W0 w1 := (Fr.refl _ _).grown_ m3 fun r e => by injection e with e; exact .inl e.symm
            refine ⟨f1.alloc _, m2.keep (Below.heap_alloc _ _ _ m2.lt), ⟨by simp [ints], .inr ⟨w1.heap.size, 1, #[.int .i64 v], rfl, by omega, heap_alloc_new w1 _, Nat.le_refl _, by unfold maxLen; omega, by simp, by simp [ints]⟩⟩⟩
          obtain ⟨R, hR⟩ : ∃ R, Fi.group U gl.length st.2 v = R := ⟨_, rfl⟩
          have hturn : Fi.turn U gl.length st v = (if 1 < R.2.length then min st.1 (minL R.2) else st.1, R.1) := by
            unfold Fi.turn
            rw [if_neg (by rw [hm0]; decide), hR]
          have hgi : GrI W0 G U gl.length R (.slice (some ⟨w1.heap.size, 0, none⟩) 1 1) (.int .i64 0) (w1.alloc (.cells #[.int .i64 v] 3)) := ⟨0, gl.length + 1, _, rfl, Nat.zero_le _, hR, by omega, hgok, hgs⟩
          have HGI := Lib.hid hgi
          have HTURN := Lib.hid hturn
          have HG := Lib.hid hG
          have hw1 : w1.heap.size = W0.heap.size := m4
          have hGlt : G < W0.heap.size := hbm0.lt
          have HW1 := Lib.hid hw1
          clear hgi hturn hR hgs hgok m2 m3 m4 hbm0 hm hm0 hG hw1
          gi_wp2_with fail
          gi_loopw [10, 11] (fun gv i wq => GrI W0 G U gl.length R gv i wq) (fun _ i _ => gl.length + 1 - (intOf i).toNat)
          case atStart => exact HGI.out
          case round =>
            obtain ⟨k, f1, ⟨met, grp⟩, rfl, hk, hgrow, hfk, hok, hS⟩ := hrel
            simp only at hk
            obtain ⟨gA, gc, rfl, hgc, _⟩ := owns_form hS.row
            have hln := hok.sum
            simp only at hln
            have hus := hS.us HI.out.us HG.out (by have := HS1.out; have := HLT2.out; omega)
            have c0 := hus.ubx.cell 0
            have cl := hus.ubx.lt
            simp only [List.getElem?_toArray, List.getElem?_cons_zero] at c0
            have HSS := Lib.hid hS
            have HOK := Lib.hid hok
            have HUS := Lib.hid hus
            have HGROW := Lib.hid hgrow
            by_cases hlt : k < grp.length
            · have hlen0 : grp.length < gl.length + 1 := by omega
              obtain ⟨f2, rfl⟩ : ∃ f2, f1 = f2 + 1 := ⟨f1 - 1, by omega⟩
              obtain ⟨x, hx⟩ : ∃ x, grp[k]? = some x := ⟨_, List.getElem?_eq_getElem hlt⟩
              have hxr := hok.inn x (List.mem_of_getElem? hx)
              have hxi : I64 x := by unfold I64; omega
              obtain ⟨gb, gc', hv, _, hgb, hgl, hcell⟩ := owns_at hS.row (by simp only; omega)
              injection hv with hv1 hv2 hv3
              subst hv1
              have z0 := hcell k _ (ints_at _ _ _ hx)
              have hul := hus.look x hxi
              obtain ⟨uv, huv⟩ : ∃ uv, (f x).getD (.slice none 0 0) = uv := ⟨_, rfl⟩
              rw [huv] at hul
              have hur := (HI.out.us.row x).1
              rw [huv] at hur
              obtain ⟨uA, uc, rfl, huc, _⟩ := owns_form hur
              have hat : Hp.at_ grp k = x := by simp [Hp.at_, hx]
              have hgr2 := HGROW.out
              unfold Fi.grow at hgr2
              rw [if_pos (show k < (met, grp).2.length from hlt)] at hgr2
              simp only at hgr2
              rw [hat] at hgr2
              obtain ⟨us, hus2⟩ : ∃ us, U x = us := ⟨_, rfl⟩
              have hubd := HUL.out x
              rw [hus2] at hgr2 hur huc hubd hul huv
              have HGR2 := Lib.hid hgr2
              have HUVV := Lib.hid huv
              have HUR := Lib.hid hur
              have HUB := Lib.hid hubd.2
              have hubl := hubd.1
              clear hcell hx hv2 hv3 hS hok hus hgrow hgr2 hur huv hat hus2 hubd HGROW
              gi_wp2_with fail
              have hS : (fun wq : World => wq.cell? ⟨w.heap.size + 1 + 1 + 1, 0, none⟩ = some (.map (some (w.heap.size + 1 + 1))) ∧ wq.cell? ⟨gb, k, none⟩ = some (.int .i64 x) ∧ (Instr.lookup 94 (.map (some (w.heap.size + 1 + 1))) (.int .i64 x) false).run Try.prog wq = .ok (.slice uA us.length uc) wq) wr.drew := ⟨c0, z0, (HUS.out.grow (w' := wr.drew) ((Fr.refl _ _).drew)).look x hxi |> fun h => by rw [h, HUVV.out]⟩
              refine region_in_round_seqT (fun i => !([] : List Nat).contains i) (fun i => ([0, 4, 5] : List Nat).contains i) (fun i => ([] : List Nat).contains i) [0, 1, 2, 3, 4, 5, 6, 7] (fun wq : World => wq.cell? ⟨w.heap.size + 1 + 1 + 1, 0, none⟩ = some (.map (some (w.heap.size + 1 + 1))) ∧ wq.cell? ⟨gb, k, none⟩ = some (.int .i64 x) ∧ (Instr.lookup 94 (.map (some (w.heap.size + 1 + 1))) (.int .i64 x) false).run Try.prog wq = .ok (.slice uA us.length uc) wq) (by kernel_rfl) (by kernel_rfl) (by kernel_rfl) (by kernel_rfl) (by kernel_rfl) (by rintro ⟨_, _, h⟩; exact h) ?_
              iterate 8 (first | refine wpSeq_pureA (v := _) rfl rfl rfl ?_ | refine wpSeq_loadA (v := _) rfl rfl hS rfl ?_)
              refine wpSeq_end ?_
              have hS1 := HSS.out.grow (W1 := wr.drew) ((Fr.refl _ _).drew)
              have HS1 := Lib.hid hS1
              clear hS1 hS c0 z0 hul cl hgl
              generalize wr.drew = V at *
              simp only [List.getElem_toArray, List.getElem_cons_zero, List.getElem_cons_succ, Act.put, List.setIfInBounds_toArray, List.set_cons_zero, List.set_cons_succ]
              gi_wp2_with fail
              gi_loopw [10, 72] (fun gv i wq => GrK W0 G us (met, grp) gv i wq) (fun _ i _ => us.length - (intOf i).toNat)
              case atStart => exact ⟨0, rfl, Nat.zero_le _, HS1.out⟩
              case round =>
                obtain ⟨j, rfl, hj, hS⟩ := hrel
                obtain ⟨s3, hs3⟩ : ∃ s3, (us.take j).foldl Fi.look (met, grp) = s3 := ⟨_, rfl⟩
                rw [hs3] at hS
                have hok3 := Fi.looks_ok (us.take j) HOK.out fun y hy => HUB.out y (List.mem_of_mem_take hy)
                rw [hs3] at hok3
                obtain ⟨m3, g3⟩ := s3
                obtain ⟨qA, qc, rfl, hqc, _⟩ := owns_form hS.row
                have hsm := hok3.sum
                simp only at hsm hqc
                have hgx := (hS.cells HG.out) _ _ _ HI.out.gx
                have b0 := hgx.cell 0
                have bl := hgx.lt
                simp only [List.getElem?_toArray, List.getElem?_cons_zero] at b0
                have HS3x := Lib.hid hs3
                have HOK3 := Lib.hid hok3
                by_cases hjl : j < us.length
                · obtain ⟨y, hy⟩ : ∃ y, us[j]? = some y := ⟨_, List.getElem?_eq_getElem hjl⟩
                  have hyr := HUB.out y (List.mem_of_getElem? hy)
                  have hyi : I64 y := by unfold I64; omega
                  obtain ⟨ug, ug', hv, _, _, hugl, hcell⟩ := owns_at HUR.out (by omega)
                  injection hv with hv1 hv2 hv3
                  subst hv1
                  have hugb : ¬ ug = G := fun e => by
                    obtain ⟨_, _, cs, hb⟩ := owns_block HUR.out rfl
                    exact HG.out cs _ (e ▸ hb)
                  have z0 := (hS.fr.cell (p := ⟨ug, j, none⟩) hugl hugb).trans (hcell j _ (ints_at _ _ _ hy))
                  have zl : ug < wr.heap.size := by have := hS.fr.size; omega
                  have hmk := hS.bm.look y hyi
                  have hnx : (us.take (j + 1)).foldl Fi.look (met, grp) = Fi.look (m3, g3) y := by
                    rw [List.take_add_one, hy, List.foldl_append, hs3]; rfl
                  have HNX := Lib.hid hnx
                  simp only at hmk
                  by_cases hmy : m3 y = true
                  · rw [hmy] at hmk
                    have hlk : Fi.look (m3, g3) y = (m3, g3) := by unfold Fi.look; rw [if_pos hmy]
                    have HLK := Lib.hid hlk
                    have HSX := Lib.hid hS
                    clear hS hcell hy hv2 hv3 hgx hs3 hok3 hnx hlk hmy
                    gi_wp2_with fail
                    go_roundw
                    case rel => exact ⟨j + 1, by go_num, by omega, by rw [HNX.out, HLK.out]; exact HSX.out⟩
                    case measure => simp [intOf]; omega
                  · have hmy0 : m3 y = false := by simpa using hmy
                    rw [hmy0] at hmk
                    obtain ⟨w8, n1, n2, n3, n4⟩ := hS.bm.store y hyi true
                    have hS8 := hS.mark n2 n3
                    obtain ⟨i2, hi20, hi21, hi22, hi23⟩ := info_m info_int
                    have HS9 := Lib.hid (hS8.grow (W1 := w8.alloc (.cells #[.int .i64 y] 3)) ((Fr.refl _ _).alloc _))
                    have hlk : Fi.look (m3, g3) y = (upd m3 y true, g3 ++ [y]) := by unfold Fi.look; rw [if_neg (by simp only; rw [hmy0]; decide)]
                    have HLK := Lib.hid hlk
                    have hsz : W0.heap.size ≤ w8.heap.size := by have := hS.fr.size; omega
                    clear hS hcell hy hv2 hv3 hgx hs3 hok3 hnx hlk hmy hmy0 n2 n3 n4 hS8
                    gi_wp2_with (gi_at_builtin; go_loud (refine wpListIn_append_any _ rfl (.tmp 82) (.tmp 84) _ rfl W0.heap.size 3 i2 _ 1 8 Try.underlying22 hi20 hi21 hi22 hi23 rfl (show 0 < 1 by decide) (.slice qA g3.length qc) g3.length (ints g3) rfl HS9.out.row _ _ 1 1 [.int .i64 y] rfl (Reads.blk (cs := [.int .i64 y]) (Blk.new _ _ _) 1 1 rfl) (by simp [Value.oneCell']) (by unfold maxLen; omega) (by omega) (by simp; omega) ?_; intro v6 w6 hrow hg _hnew; have HP6 := Lib.hid (HS9.out.push (u := y) hrow hg); obtain ⟨Av, cv, hve, _⟩ := owns_form hrow; subst hve; clear hrow hg))
                    go_roundw
                    case rel => exact ⟨j + 1, by go_num, by omega, by rw [HNX.out, HLK.out]; exact HP6.out⟩
                    case measure => simp [intOf]; omega
                · obtain rfl : j = us.length := by omega
                  have HSX := Lib.hid hS
                  clear hS hgx hs3 hok3
                  gi_wp2_with fail
                  go_roundw
                  case rel =>
                    have e3 := HS3x.out
                    rw [List.take_length] at e3
                    have hgr := HGR2.out
                    rw [e3] at hgr
                    have hll := Fi.looks_len us (met, grp)
                    rw [e3] at hll
                    simp only at hll
                    exact ⟨k + 1, f2, (m3, g3), by go_num, by simp only; omega, hgr, by omega, HOK3.out, HSX.out⟩
                  case measure => simp [intOf]; omega
            · have hRR : (met, grp) = R := by
                rw [← hgrow]
                cases f1 with
                | zero => rfl
                | succ f1 => unfold Fi.grow; rw [if_neg (show ¬ k < (met, grp).2.length from hlt)]
              have HRR := Lib.hid hRR
              have hfbx := (hS.cells HG.out) _ _ _ HI.out.fb
              have hgxx := (hS.cells HG.out) _ _ _ HI.out.gx
              rw [HST.out] at hfbx
              have HFBX := Lib.hid hfbx
              have HGXX := Lib.hid hgxx
              have b0 := hfbx.cell 0
              have bf := hfbx.frozen 0
              have bl := hfbx.lt
              simp only [List.getElem?_toArray, List.getElem?_cons_zero] at b0
              have HTT := Lib.hid (show Fi.turn U gl.length st v = (if 1 < grp.length then min st.1 (minL grp) else st.1, met) by rw [HTURN.out, ← hRR])
              have hsz := HS1.out
              have hsz2 := hSz2.out
              have hs3' := HS3.out
              have hbg := HLT2.out
              have HKF := Lib.hid (show KeepsFrom W3.heap.size W0 wr from ⟨hS.fr.size, fun j o hB hk _ => (hS.fr.block j (Array.getElem?_eq_some_iff.1 hk).1 (by omega)).trans hk⟩)
              have HKB := Lib.hid (show KpB W2.heap.size rb W0 wr from ⟨hS.fr.block _ (by omega) (by omega), hS.fr.block _ (by omega) hrb3⟩)
              have HBL := Lib.hid (hS.fr.below HI.out.below.size (fun j hj e => by omega))
              have HMK := Lib.hid (show Marks wr (w.heap.size + 4) ds from HI.out.marks.keep fun D hD e => by
                have hl := (Array.getElem?_eq_some_iff.1 e).1
                by_cases hDG : D = G
                · subst hDG; obtain ⟨fm, hm, _⟩ := HI.out.bm; obtain ⟨es, cc, hmm, _⟩ := hm; rw [hmm] at e; cases e
                · exact (hS.fr.block D hl hDG).trans e)
              clear hS hok hus hgrow hRR hfbx hgxx hsz hs3' hbg hsz2
              by_cases hgt : 1 < grp.length
              · have hmn : (if minL grp < st.1 then minL grp else st.1) = min st.1 (minL grp) := by omega
                have HGT := Lib.hid hgt
                gi_wp2_with fail
                have hS : (fun wq : World => wq.cell? ⟨w.heap.size + 1, 0, none⟩ = some (.int .i64 st.1)) wr.drew := b0
                refine region_in_round_seqT (fun i => !([2, 4] : List Nat).contains i) (fun i => ([0] : List Nat).contains i) (fun i => ([2] : List Nat).contains i) [0, 1, 2, 3, 4] (fun wq : World => wq.cell? ⟨w.heap.size + 1, 0, none⟩ = some (.int .i64 st.1)) (by kernel_rfl) (by kernel_rfl) (by kernel_rfl) (by kernel_rfl) (by kernel_rfl) (by rintro ⟨_, _, h⟩; exact h) ?_
                iterate 2 (first | refine wpSeq_pureA (v := _) rfl rfl rfl ?_ | refine wpSeq_loadA (v := _) rfl rfl hS rfl ?_)
                refine wpSeq_heavy rfl rfl (fun K hK => ?_); go_simp
                refine (min_any gA grp.length gc wr.drew.heap.size grp wr.drew (Reads.of_own (HSS.out.grow (W1 := wr.drew) ((Fr.refl _ _).drew)).row) rfl (by omega) (by omega) hgc).mono ?_
                rintro e w5 ⟨rfl, rfl⟩
                dsimp only
                refine hK _ _ (fun _ => hS) ?_; clear hK K
                iterate 1 (first | refine wpSeq_pureA (v := _) rfl rfl rfl ?_ | refine wpSeq_loadA (v := _) rfl rfl hS rfl ?_)
                refine wpSeq_heavy rfl rfl (fun K hK => ?_); go_simp
                refine hK _ _ (fun h => by cases h) ?_; clear hK K
                refine wpSeq_end ?_
                gi_wp2_with fail
                have hbg := HLT2.out
                have hsz := HS1.out
                have hsz2 := hSz2.out
                have hs3' := HS3.out
                have hbs : Below w.heap.size wr (wr.drew.setCell ⟨w.heap.size + 1, 0, none⟩ (.int .i64 (min st.1 (minL grp)))) := ⟨rfl, rfl, rfl, by simp, fun i hi => Below.heap_setCell _ _ _ _ (by simp only; omega)⟩
                refine ⟨HKF.out.trans (((KeepsOthers.drew wr).trans (KeepsOthers.setCell _ _ _)).from _), kpB_t HKB.out ⟨Below.heap_setCell _ _ _ _ (by simp only; omega), Below.heap_setCell _ _ _ _ (by simp only; exact hrb4)⟩, ?_, ?_, ?_, ?_, (HI.out.below.trans HBL.out).trans hbs, HMK.out.keep fun D hD e => (Below.heap_setCell _ _ _ _ (by simp only; omega)).trans e⟩
                · exact (HUS.out.grow (w' := wr.drew) ((Fr.refl _ _).drew)).other (p := ⟨w.heap.size + 1, 0, none⟩) (by simp only; omega) (by simp only; omega) (by simp only; omega) _
                · rw [HNEW.out, HTT.out, if_pos HGT.out]
                  exact (HFBX.out.set_ 0 (.int .i64 (min st.1 (minL grp)))).drew
                · exact HGXX.out.drew.far (p := ⟨w.heap.size + 1, 0, none⟩) (by simp only; omega) _
                · rw [HNEW.out, HTT.out]
                  exact HSS.out.bm.keep (Below.heap_setCell _ _ _ _ (by simp only; omega))
              · have HGT := Lib.hid hgt
                gi_wp2_with fail
                refine ⟨HKF.out, HKB.out, HUS.out, ?_, HGXX.out, ?_, HI.out.below.trans HBL.out, HMK.out⟩
                · rw [HNEW.out, HTT.out, if_neg HGT.out]; exact HFBX.out
                · rw [HNEW.out, HTT.out]; exact HSS.out.bm
      case done =>
        intro D xs W hD hxs hI hK3
        have hbv : bvals xs = vs.reverse := hxs
        rw [hbv] at hI
        have hfb := hI.fb
        rw [← HFI.out] at hfb
        have q0 := hfb.cell 0
        have ql := hfb.lt
        simp only [List.getElem?_toArray, List.getElem?_cons_zero] at q0
        have HI := Lib.hid hI
        have HK3 := Lib.hid hK3
        clear hI hK3 hfb h0 hS3 hrb1 hg3 hs3 hW3 hgr hus hu3 hul hvf hvr hfirst hfb0 hU hfst hs1 hbv hxs
        go_wp2_with fail
        show LeavesInM Fence.wide 8 Try.prog _ _ _ ((D :: ds).map mark) .returning W
        have hmk : Marks W (w.heap.size + 4) (D :: ds) := HI.out.marks.cons (s := W3.heap.size) (fun E hE => by have := HW.out.marks.lt E hE; have := hSz2.out; have := HS3.out; omega) hD (by have := hSz2.out; have := HS3.out; have := HLT2.out; omega) HK3.out
        refine leaves_marks (D :: ds) W hmk fun W' hW' => ?_
        exact ⟨_, results_tmp rfl _ _ _, rfl, HI.out.below.trans (hW'.below HI.out.below.size fun k hk e => by have := (hmk.2 k e).1; omega)⟩
      case stop =>
        rintro D c pre W _ _ h _
        exact h.elim
end Go.Proofs.Ytoklllbaihccnaa

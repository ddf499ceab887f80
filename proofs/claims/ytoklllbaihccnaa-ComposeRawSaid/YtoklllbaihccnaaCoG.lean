/- compose.line: its contract. Expanded from XCoG.src by expand.py. -/
import Derived.Test.YtoklllbaihccnaaCoF
import Derived.Test.YtoklllbaihccnaaCoP
import Derived.Deep.LoopGhost
import Derived.Deep.CutBlock
set_option linter.unusedVariables false
set_option linter.unusedSimpArgs false
namespace Go.Proofs.Ytoklllbaihccnaa
open Go.RowKit Go.Shelf
attribute [local go_sem] Oper.semAt_some
namespace Ln
abbrev Cs := (Int → Int) × (Int → List Int)
def use (g : Nat) (s : Cs) (p : Prt) : Cs := (upd s.1 g (s.1 g + 1), upd s.2 p.1 (s.2 p.1 ++ [(g : Int)]))
def uses (gl : List Gl) (g : Nat) (s : Cs) : Cs := (partsOf gl g).foldl (use g) s
def first (gl : List Gl) (s : Cs × List Int) (g : Nat) : Cs × List Int := (uses gl g s.1, if (uses gl g s.1).1 g = 0 then s.2 ++ [(g : Int)] else s.2)
def firsts (gl : List Gl) (gs : List Nat) : Cs × List Int := gs.foldl (first gl) ((fun _ => 0, fun _ => []), [])
abbrev Ps := (Int → Int) × List Int
def free (s : Ps) (u : Int) : Ps := (upd s.1 u (s.1 u - 1), if s.1 u - 1 = 0 then Hp.push s.2 u else s.2)
def round (U : Int → List Int) (s : Ps × List Int) : Ps × List Int := ((U (Hp.pop s.1.2).1).foldl free (s.1.1, (Hp.pop s.1.2).2), s.2 ++ [(Hp.pop s.1.2).1])
def rounds (U : Int → List Int) : Nat → Ps × List Int → Ps × List Int
  | 0, s => s
  | f + 1, s => if s.1.2 = [] then s else rounds U f (round U s)
def line (gl : List Gl) (gs : List Nat) : List Int := (rounds (firsts gl gs).1.2 (2 * gs.length) (((firsts gl gs).1.1, Hp.init (firsts gl gs).2), [])).2
/-- how many are yet to be told at most -/
def left (gs : List Nat) (c : Int → Int) (l : List Int) : Nat := l.length + (gs.filter fun g : Nat => decide (0 < c g)).length
/-- bounds -/
def Bd (gs : List Nat) (N : Int) (s : Cs) : Prop := ∀ x, 0 ≤ s.1 x ∧ s.1 x ≤ N ∧ ((s.2 x).length : Int) ≤ N ∧ ∀ y ∈ s.2 x, ∃ g ∈ gs, y = (g : Int)
theorem use_bd {gs : List Nat} {N : Int} {s : Cs} (h : Bd gs N s) {g : Nat} (hg : g ∈ gs) (p : Prt) : Bd gs (N + 1) (use g s p) := fun x => by
  obtain ⟨h1, h2, h3, h4⟩ := h x
  obtain ⟨k1, k2, _, _⟩ := h g
  obtain ⟨_, _, m3, m4⟩ := h p.1
  refine ⟨?_, ?_, ?_, ?_⟩
  · simp only [use, upd]; split <;> omega
  · simp only [use, upd]; split <;> omega
  · simp only [use, upd]; split
    · simp only [List.length_append, List.length_singleton]; omega
    · omega
  · simp only [use, upd]; split
    · intro y hy
      rcases List.mem_append.1 hy with hy | hy
      · exact m4 y hy
      · simp only [List.mem_singleton] at hy; exact ⟨g, hg, hy⟩
    · exact h4
theorem uses_bd {gs : List Nat} {g : Nat} (hg : g ∈ gs) : ∀ (ps : List Prt) {N : Int} {s : Cs}, Bd gs N s → Bd gs (N + ps.length) (ps.foldl (use g) s)
  | [], N, s, h => by simpa using h
  | p :: ps, N, s, h => by
    have := uses_bd hg ps (use_bd h hg p)
    rw [List.foldl_cons, List.length_cons]
    rw [show N + ((ps.length + 1 : Nat) : Int) = N + 1 + ps.length by omega]
    exact this
theorem firsts_succ {gl : List Gl} {gs : List Nat} {j g : Nat} (h : gs[j]? = some g) : firsts gl (gs.take (j + 1)) = first gl (firsts gl (gs.take j)) g := by
  unfold firsts
  rw [List.take_add_one, h, List.foldl_append]
  rfl
theorem firsts_bd {gl : List Gl} {gs : List Nat} (hp : ∀ g ∈ gs, (partsOf gl g).length ≤ 1000) : ∀ j, j ≤ gs.length → Bd gs (1000 * j) (firsts gl (gs.take j)).1 ∧ (firsts gl (gs.take j)).2.length ≤ j
  | 0, _ => by
    refine ⟨fun x => ?_, by simp [firsts]⟩
    simp [firsts]
  | j + 1, hj => by
    obtain ⟨g, hg⟩ : ∃ g, gs[j]? = some g := ⟨_, List.getElem?_eq_getElem (by omega)⟩
    have hm := List.mem_of_getElem? hg
    obtain ⟨h1, h2⟩ := firsts_bd hp j (by omega)
    rw [firsts_succ hg]
    have h3 := uses_bd hm (partsOf gl g) h1
    have h4 := hp g hm
    refine ⟨fun x => ?_, ?_⟩
    · obtain ⟨k1, k2, k3, k4⟩ := h3 x
      exact ⟨k1, by show (uses gl g (firsts gl (gs.take j)).1).1 x ≤ _; unfold uses; omega, by show (((uses gl g (firsts gl (gs.take j)).1).2 x).length : Int) ≤ _; unfold uses; omega, k4⟩
    · unfold first
      simp only
      split
      · rw [List.length_append, List.length_singleton]; omega
      · omega
theorem cnt_le (p q : Nat → Bool) : ∀ (gs : List Nat), (∀ g ∈ gs, q g = true → p g = true) → (gs.filter q).length ≤ (gs.filter p).length
  | [], _ => Nat.le_refl _
  | a :: gs, h => by
    have ih := cnt_le p q gs fun g hg => h g (List.mem_cons_of_mem _ hg)
    have ha := h a List.mem_cons_self
    simp only [List.filter_cons]
    split
    · rename_i hq
      rw [if_pos (ha hq)]
      simp only [List.length_cons]; omega
    · split
      · simp only [List.length_cons]; omega
      · exact ih
theorem cnt_lt (p q : Nat → Bool) : ∀ (gs : List Nat), (∀ g ∈ gs, q g = true → p g = true) → (∃ u ∈ gs, p u = true ∧ q u = false) → (gs.filter q).length + 1 ≤ (gs.filter p).length
  | [], _, ⟨_, h, _⟩ => by cases h
  | a :: gs, h, ⟨u, hu, hp, hq⟩ => by
    have h' := fun g hg => h g (List.mem_cons_of_mem a hg)
    rcases List.mem_cons.1 hu with rfl | hu
    · have := cnt_le p q gs h'
      simp only [List.filter_cons, hp, hq, if_true, Bool.false_eq_true, if_false, List.length_cons]
      omega
    · have ih := cnt_lt p q gs h' ⟨u, hu, hp, hq⟩
      have ha := h a List.mem_cons_self
      simp only [List.filter_cons]
      split
      · rename_i hq
        rw [if_pos (ha hq)]
        simp only [List.length_cons]; omega
      · split
        · simp only [List.length_cons]; omega
        · exact ih
theorem push_len (l : List Int) (x : Int) : (Hp.push l x).length = l.length + 1 := by unfold Hp.push; rw [Hp.up_len]; simp
theorem init_len (l : List Int) : (Hp.init l).length = l.length := by
  unfold Hp.init
  have : ∀ (is : List Nat) (l' : List Int), (is.foldl (fun l' i => Hp.down l.length l' i l.length) l').length = l'.length := by
    intro is
    induction is with
    | nil => intro l'; rfl
    | cons i is ih => intro l'; rw [List.foldl_cons, ih, Hp.down_len]
  exact this _ _
theorem pop_len (l : List Int) : (Hp.pop l).2.length = l.length - 1 := by
  unfold Hp.pop Hp.popped
  simp only [List.length_take, Hp.down_len, Hp.swap_len]
  omega
theorem free_left {gs : List Nat} (s : Ps) {u : Int} (hu : ∃ g ∈ gs, u = (g : Int)) : left gs (free s u).1 (free s u).2 ≤ left gs s.1 s.2 := by
  obtain ⟨g, hg, rfl⟩ := hu
  unfold left free
  simp only
  by_cases h : s.1 g - 1 = 0
  · rw [if_pos h, push_len]
    have := cnt_lt (fun x : Nat => decide (0 < s.1 x)) (fun x : Nat => decide (0 < upd s.1 g (s.1 g - 1) x)) gs (fun x _ hx => by
      have hx := of_decide_eq_true hx
      refine decide_eq_true ?_
      simp only [upd] at hx
      split at hx
      · omega
      · exact hx) ⟨g, hg, by simp; omega, by simp [upd]; omega⟩
    omega
  · rw [if_neg h]
    have := cnt_le (fun x : Nat => decide (0 < s.1 x)) (fun x : Nat => decide (0 < upd s.1 g (s.1 g - 1) x)) gs (fun x _ hx => by
      have hx := of_decide_eq_true hx
      refine decide_eq_true ?_
      simp only [upd] at hx
      split at hx
      · rename_i e; rw [e]; omega
      · exact hx)
    omega
theorem frees_left {gs : List Nat} : ∀ (us : List Int) (s : Ps), (∀ u ∈ us, ∃ g ∈ gs, u = (g : Int)) → left gs (us.foldl free s).1 (us.foldl free s).2 ≤ left gs s.1 s.2
  | [], _, _ => Nat.le_refl _
  | u :: us, s, h => by
    rw [List.foldl_cons]
    have h1 := frees_left us (free s u) fun x hx => h x (List.mem_cons_of_mem _ hx)
    have h2 := free_left s (h u List.mem_cons_self)
    omega
theorem free_bd (s : Ps) (u : Int) {a b : Int} (h : ∀ x, a ≤ s.1 x ∧ s.1 x ≤ b) : ∀ x, a - 1 ≤ (free s u).1 x ∧ (free s u).1 x ≤ b := fun x => by
  have := h x
  have := h u
  simp only [free, upd]
  split <;> omega
theorem frees_bd : ∀ (us : List Int) (s : Ps) {a b : Int}, (∀ x, a ≤ s.1 x ∧ s.1 x ≤ b) → ∀ x, a - us.length ≤ (us.foldl free s).1 x ∧ (us.foldl free s).1 x ≤ b
  | [], s, a, b, h => by simpa using h
  | u :: us, s, a, b, h => by
    intro x
    have := frees_bd us (free s u) (free_bd s u h) x
    rw [List.foldl_cons, List.length_cons]
    omega
/-- all are of these glyphs -/
def In (gs : List Nat) (l : List Int) : Prop := ∀ y ∈ l, ∃ g ∈ gs, y = (g : Int)
theorem In.perm {gs : List Nat} {l l' : List Int} (h : In gs l) (hp : l'.Perm l) : In gs l' := fun y hy => h y (hp.mem_iff.1 hy)
theorem In.snoc {gs : List Nat} {l : List Int} (h : In gs l) {x : Int} (hx : ∃ g ∈ gs, x = (g : Int)) : In gs (l ++ [x]) := fun y hy => by
  rcases List.mem_append.1 hy with hy | hy
  · exact h y hy
  · simp only [List.mem_singleton] at hy; rw [hy]; exact hx
theorem firsts_in {gl : List Gl} {gs : List Nat} : ∀ j, j ≤ gs.length → In gs (firsts gl (gs.take j)).2
  | 0, _ => by simp [firsts, In]
  | j + 1, hj => by
    obtain ⟨g, hg⟩ : ∃ g, gs[j]? = some g := ⟨_, List.getElem?_eq_getElem (by omega)⟩
    have hm := List.mem_of_getElem? hg
    have h2 := firsts_in (gl := gl) (gs := gs) j (by omega)
    rw [firsts_succ hg]
    unfold first
    simp only
    split
    · exact h2.snoc ⟨g, hm, rfl⟩
    · exact h2
theorem free_in {gs : List Nat} {s : Ps} (h : In gs s.2) {u : Int} (hu : ∃ g ∈ gs, u = (g : Int)) : In gs (free s u).2 := by
  unfold free
  simp only
  split
  · exact (h.snoc hu).perm (Hp.push_perm _ _)
  · exact h
theorem frees_in {gs : List Nat} : ∀ (us : List Int) (s : Ps), In gs s.2 → In gs us → In gs (us.foldl free s).2
  | [], _, h, _ => h
  | u :: us, s, h, hu => by
    rw [List.foldl_cons]
    exact frees_in us _ (free_in h (hu u List.mem_cons_self)) fun y hy => hu y (List.mem_cons_of_mem _ hy)
end Ln
theorem ta_int (t : TypeId) (x : Int) (w : World) : (Instr.typeAssert (.iface 3 (.int .i64 x)) t 3 false).run Try.prog w = .ok (.int .i64 x) w := by kernel_rfl
/-- what holds of memory while line goes through the glyphs: j are done -/
structure LnW (v : Fv) (gl : List Gl) (gs : List Nat) (w : World) (j : Nat) (rv : Value) (f : Int → Option Value) (ds : List Nat) (wr : World) : Prop where
  ln : LnS wr w.heap.size (w.heap.size + 1 + 1) (w.heap.size + 1) (w.heap.size + 1 + 1 + 1 + 1) (w.heap.size + 1 + 1 + 1) (w.heap.size + 1 + 1 + 1 + 1 + 1) rv (.slice none 0 0) f (Ln.firsts gl (gs.take j)).1.1 (Ln.firsts gl (gs.take j)).1.2 (Ln.firsts gl (gs.take j)).2 []
  below : Below w.heap.size w wr
  font : Blk wr w.heap.size 32 v.cs
  marks : Marks wr (w.heap.size + 6) ds
def LnI (v : Fv) (gl : List Gl) (gs : List Nat) (A : Option Addr) (c : Nat) (w : World) (N k : Nat) (a : Act) (wr : World) : Prop :=
  ∃ (u9 u20 u21 u22 u23 u24 u25 u41 u42 u43 u44 u45 u46 u47 u48 u49 : Value) (j : Nat) (ds : List Nat) (rv : Value) (f : Int → Option Value), a = { tmps := #[.agg v.cs, .slice A gs.length c, .pointer (some ⟨N, 0, none⟩), undef, .slice none 0 0, .pointer (some ⟨N + 1 + 1, 0, none⟩), .pointer (some ⟨N + 1 + 1 + 1 + 1, 0, none⟩), .pointer (some ⟨N + 1 + 1 + 1 + 1 + 1, 0, none⟩), undef, u9, undef, undef, undef, undef, undef, .map (some (N + 1)), .map (some (N + 1 + 1 + 1)), .slice A gs.length c, .int .i64 gs.length, .int .i64 j, u20, u21, u22, u23, u24, u25, undef, undef, undef, undef, undef, undef, undef, undef, undef, undef, undef, undef, undef, undef, undef, u41, u42, u43, u44, u45, u46, u47, u48, u49, undef, undef, undef, undef, undef, undef, undef, undef, undef, undef, undef, undef, undef, undef, undef, undef, undef, undef, undef, undef, undef, undef, undef, undef, undef, undef, undef, undef, undef, undef, undef, undef, undef, undef], defers := ds.map mark } ∧ j + k = gs.length ∧ LnW v gl gs w j rv f ds wr
/-- within the round of glyph g, whose box lies at gb: of its parts these have come -/
structure LnR (v : Fv) (gl : List Gl) (gs : List Nat) (w : World) (j : Nat) (rv : Value) (gb_ g : Nat) (ds : List Nat) (pre : List (PartOf gl g)) (W : World) : Prop where
  ln : ∃ f, LnS W w.heap.size (w.heap.size + 1 + 1) (w.heap.size + 1) (w.heap.size + 1 + 1 + 1 + 1) (w.heap.size + 1 + 1 + 1) (w.heap.size + 1 + 1 + 1 + 1 + 1) rv (.slice none 0 0) f ((pre.map (·.1)).foldl (Ln.use g) (Ln.firsts gl (gs.take j)).1).1 ((pre.map (·.1)).foldl (Ln.use g) (Ln.firsts gl (gs.take j)).1).2 (Ln.firsts gl (gs.take j)).2 [] ∧ ∀ k u, f k = some u → u.ownBlock ≠ some gb_
  below : Below w.heap.size w W
  font : Blk W w.heap.size 32 v.cs
  gb : Blk W gb_ 3 #[.int .i64 g]
  bx : Blk W (gb_ + 1) 32 v.cs
  marks : Marks W (w.heap.size + 6) ds
theorem grown_far {W W' : World} {row : Option Nat} {B : Nat} (hg : W.grownBy W' row) (hr : ∀ r, row = some r → B ≤ r ∧ ∃ o : Obj, W.heap[r]? = some o ∧ o.isCells = false) :
    (∀ (g : Nat) (o : Obj), W.heap[g]? = some o → o.isCells = true → W'.heap[g]? = some o) ∧ ∀ g, g < B → g < W.heap.size → W'.heap[g]? = W.heap[g]? := by
  refine ⟨fun g o e hc => ?_, fun g h1 h2 => hg.block g h2 (fun e => by have := (hr g e.symm).1; omega)⟩
  rw [hg.block g (Array.getElem?_eq_some_iff.1 e).1 (fun e2 => by
    obtain ⟨_, o', ho', hc'⟩ := hr g e2.symm
    rw [e] at ho'; cases ho'; rw [hc] at hc'; cases hc')]
  exact e
theorem LnR.own {v : Fv} {gl : List Gl} {gs : List Nat} {w : World} {j : Nat} {rv : Value} {gb g : Nat} {ds : List Nat} {B : Nat} (hB : w.heap.size + 6 ≤ B) (hd : ∀ D ∈ ds, D < B) : OwnFrom B (LnR v gl gs w j rv gb g ds) := by
  intro pre W W' row h hg hr
  obtain ⟨k1, k2⟩ := grown_far hg hr
  obtain ⟨f, hl, hn⟩ := h.ln
  exact ⟨⟨f, hl.keep k1 (k2 _ (by omega) hl.mm.lt) (k2 _ (by omega) hl.um.lt), hn⟩, h.below.grown hg h.below.size (fun k e => by have := (hr k e).1; omega), h.font.keepC k1, h.gb.keepC k1, h.bx.keepC k1,
    ⟨h.marks.1, fun D hD => ⟨(h.marks.2 D hD).1, by rw [k2 D (hd D hD) (h.marks.lt D hD)]; exact (h.marks.2 D hD).2⟩⟩⟩
theorem LnR.grow {v : Fv} {gl : List Gl} {gs : List Nat} {w : World} {j : Nat} {rv : Value} {gb g : Nat} {ds : List Nat} {pre : List (PartOf gl g)} {W W' : World} (h : LnR v gl gs w j rv gb g ds pre W) (hg : Grow W W') : LnR v gl gs w j rv gb g ds pre W' := by
  obtain ⟨f, hl, hn⟩ := h.ln
  exact ⟨⟨f, hl.grow hg, hn⟩, h.below.trans ((hg.below h.below.size)), h.font.keepC fun b o e _ => by rw [hg.block b (Array.getElem?_eq_some_iff.1 e).1 (fun x => x)]; exact e, h.gb.keepC fun b o e _ => by rw [hg.block b (Array.getElem?_eq_some_iff.1 e).1 (fun x => x)]; exact e, h.bx.keepC fun b o e _ => by rw [hg.block b (Array.getElem?_eq_some_iff.1 e).1 (fun x => x)]; exact e,
    h.marks.keep fun D _ e => by rw [hg.block D (Array.getElem?_eq_some_iff.1 e).1 (fun x => x)]; exact e⟩
set_option maxRecDepth 100000 in
set_option maxHeartbeats 4000000 in
theorem line_any (v : Fv) (gl : List Gl) (gs : List Nat) (A : Option Addr) (c : Nat) (w : World) (hv : v.n = gl.length) (hf : FAt w w.heap.size v.A gl) (hr : Reads w w.heap.size 1 A gs.length (ints (gs.map (Nat.cast : Nat → Int)))) (hgs : ∀ g ∈ gs, g < gl.length) (hgl : gs.length ≤ 1000) (hc : gs.length ≤ c) :
    Calls Try.prog 21 #[.agg v.cs, .slice A gs.length c] w fun e w' => ∃ tv, e = .returned tv ∧ w'.ownsRow w.heap.size 3 1 tv (Ln.line gl gs).length (ints (Ln.line gl gs)) ∧ Below w.heap.size w w' := by
  have hfew := hf.few
  obtain ⟨vu, vA, vn, vc, d2, d3, d4, d5, d6, d7, d8⟩ := v
  simp only at hf hv
  have HF := Lib.hid hf
  have HR := Lib.hid hr
  have HGS := Lib.hid hgs
  have HV := Lib.hid hv
  clear hf hr hgs hv
  refine calls_of_marks Try.func21 rfl ?_
  simp only [Try.ntmps21, List.size_toArray, List.length_cons, List.length_nil, Nat.reduceAdd, Nat.reduceSub, Array.replicate_succ, Array.replicate_zero, List.push_toArray, List.append_toArray, List.nil_append, List.cons_append]
  have hmm := @run_makeMap Try.prog
  go_wp2_with fail
  refine wp_loop_ghost_k (LnI ⟨vu, vA, vn, vc, d2, d3, d4, d5, d6, d7, d8⟩ gl gs A c w w.heap.size) gs.length ?_ ?_
  · refine ⟨_, _, _, _, _, _, _, _, _, _, _, _, _, _, _, _, 0, [], .slice none 0 0, fun _ => none, rfl, by omega, ⟨?_, ?_, ?_, Marks.nil _ _⟩⟩
    · have e0 : Ln.firsts gl (gs.take 0) = ((fun _ => 0, fun _ => []), []) := rfl
      rw [e0]
      refine ⟨by omega, ?_, ?_, ?_, ?_, fun _ => .inl ⟨rfl, rfl⟩, fun _ _ _ _ _ h => (by cases h), ⟨?_, owns_nil _ _ _ _⟩, owns_nil _ _ _ _, apart_nil⟩
      · exact (((Blk.new_at _ _ _ (by simp)).alloc _).alloc _).alloc _
      · exact ((((CMap.new_at _ (by simp)).alloc _).alloc _).alloc _).alloc _
      · exact (Blk.new_at _ _ _ (by simp)).alloc _
      · exact ((IMap.new_at _ (by simp)).alloc _).alloc _
      · exact Blk.new_at _ _ _ (by simp)
    · exact (by repeat (first | exact Below.refl _ _ | assumption | (refine Below.setCell ?_ (by first | omega | (simp; done) | (simp; omega)) _) | (refine Below.drew ?_) | (refine below_drewN ?_ _) | (refine Below.alloc ?_ (by first | omega | (simp; done) | (simp; omega)) _)))
    · exact ((((((Blk.new _ _ _).alloc _).alloc _).alloc _).alloc _).alloc _)
  · rintro k a wr ⟨u9, u20, u21, u22, u23, u24, u25, u41, u42, u43, u44, u45, u46, u47, u48, u49, j, ds, rv, f, rfl, hj, hW⟩ JJ KK hJJ hKK
    by_cases hlt : j < gs.length
    · obtain ⟨g, hg⟩ : ∃ g, gs[j]? = some g := ⟨_, List.getElem?_eq_getElem hlt⟩
      have hgn := HGS.out g (List.mem_of_getElem? hg)
      obtain ⟨rb, ro, hrA, hrb, hrc⟩ := HR.out.at_ (by omega)
      have z0 := (hW.below.cell (p := ⟨rb, ro + j, none⟩) hrb).trans (hrc j (.int .i64 g) (ints_at _ _ _ (by rw [List.getElem?_map, hg]; rfl)))
      subst hrA
      have hbl := hW.below.size
      have zl : rb < wr.heap.size := by omega
      have y0 := hW.font.cell 0
      have y1 := hW.font.cell 1
      have y2 := hW.font.cell 2
      have y3 := hW.font.cell 3
      have y4 := hW.font.cell 4
      have y5 := hW.font.cell 5
      have y6 := hW.font.cell 6
      have y7 := hW.font.cell 7
      have y8 := hW.font.cell 8
      have yl := hW.font.lt
      simp only [List.getElem?_toArray, List.getElem?_cons_zero, List.getElem?_cons_succ] at y0 y1 y2 y3 y4 y5 y6 y7 y8
      have HW := Lib.hid hW
      have HG := Lib.hid hg
      have HJ := Lib.hid hj
      have HJK := Lib.hid hJJ
      clear hW hg hj hrc hJJ
      go_wp2_with fail
      refine (parts_any ⟨vu, vA, vn, vc, d2, d3, d4, d5, d6, d7, d8⟩ g _).mono ?_
      rintro e w' ⟨rfl, rfl⟩
      go_wp2_with fail
      obtain ⟨W1, hW1⟩ : ∃ W1, ((wr.alloc (.cells #[.int .i64 g] 3)).alloc (.cells (Fv.cs ⟨vu, vA, vn, vc, d2, d3, d4, d5, d6, d7, d8⟩) 32)).alloc (.cells #[.int .i64 g] 3) = W1 := ⟨_, rfl⟩
      have hs1 : W1.heap.size = wr.heap.size + 3 := by rw [← hW1]; simp
      have hg1 : Grow wr W1 := by rw [← hW1]; exact (((Fr.refl _ _).alloc _).alloc _).alloc _
      have hgb : Blk W1 wr.heap.size 3 #[.int .i64 g] := by rw [← hW1]; exact ((Blk.new _ _ _).alloc _).alloc _
      have hX : Blk W1 (wr.heap.size + 1) 32 (Fv.cs ⟨vu, vA, vn, vc, d2, d3, d4, d5, d6, d7, d8⟩) := by rw [← hW1]; exact (Blk.new_at _ _ _ (by simp)).alloc _
      have hY : Blk W1 (wr.heap.size + 1 + 1) 3 #[.int .i64 g] := by rw [← hW1]; exact Blk.new_at _ _ _ (by simp)
      rw [hW1]
      have HB1 := Lib.hid (HW.out.below.trans (hg1.below hbl))
      have hF1 : FAt W1 w.heap.size vA gl := HF.out.below HB1.out (Nat.le_refl _)
      have h0 : LnR ⟨vu, vA, vn, vc, d2, d3, d4, d5, d6, d7, d8⟩ gl gs w j rv wr.heap.size g ds [] W1 := ⟨⟨f, HW.out.ln.grow hg1, fun k u hu e => by
        rcases HW.out.ln.rows k with ⟨e1, _⟩ | ⟨u', e1, ho, _⟩
        · rw [hu] at e1; cases e1
        · rw [hu] at e1; injection e1 with e1; subst e1; have := (owns_block ho e).2.1; omega⟩, HB1.out, HW.out.font.keepC (fun b o e _ => by rw [hg1.block b (Array.getElem?_eq_some_iff.1 e).1 (fun x => x)]; exact e), hgb, hX, HW.out.marks.keep fun D _ e => by rw [hg1.block D (Array.getElem?_eq_some_iff.1 e).1 (fun x => x)]; exact e⟩
      have HS1 := Lib.hid hs1
      have HM := Lib.hid HW.out.marks.lt
      have HLT : Hid (w.heap.size + 6 ≤ wr.heap.size) := Lib.hid (by have := HW.out.ln.hp.box.lt; omega)
      refine (wpIn_wide (n := 8)).1 ?_
      refine wpIn_rangeFunc_ownH (α := PartOf gl g) rfl (by omega) (gf := 53) (lb := #[.pointer (some ⟨wr.heap.size + 1, 0, none⟩), .pointer (some ⟨wr.heap.size + 1 + 1, 0, none⟩)]) rfl trivial (enters_of Try.func53 (by kernel_rfl) rfl)
        (parts_stops 7 (wr.heap.size + 1) (wr.heap.size + 1 + 1) w.heap.size ⟨vu, vA, vn, vc, d2, d3, d4, d5, d6, d7, d8⟩ gl g (by omega) W1 hX (by rw [hY.cell]; rfl) HV.out hF1 HB1.out.size hgn) kpP_t (fun W l o o' h1 _ _ _ => kpP_put W l o' (by omega) (by omega)) (Below.refl _ _) (fun _ => rfl)
        (LnR ⟨vu, vA, vn, vc, d2, d3, d4, d5, d6, d7, d8⟩ gl gs w j rv wr.heap.size g ds) (fun _ _ _ => False) (LnR.own (by have := HLT.out; omega) (fun D hD => by have := HM.out D hD; omega)) (fun _ _ _ _ _ hs _ _ => hs) h0
        (fun x a' W => ∃ pb, a' = { tmps := #[.agg (Fv.cs ⟨vu, vA, vn, vc, d2, d3, d4, d5, d6, d7, d8⟩), .slice (some ⟨rb, ro, none⟩) gs.length c, .pointer (some ⟨w.heap.size, 0, none⟩), undef, .slice none 0 0, .pointer (some ⟨w.heap.size + 1 + 1, 0, none⟩), .pointer (some ⟨w.heap.size + 1 + 1 + 1 + 1, 0, none⟩), .pointer (some ⟨w.heap.size + 1 + 1 + 1 + 1 + 1, 0, none⟩), undef, .pointer (some ⟨wr.heap.size, 0, none⟩), .pointer (some ⟨pb, 0, none⟩), undef, undef, undef, undef, .map (some (w.heap.size + 1)), .map (some (w.heap.size + 1 + 1 + 1)), .slice (some ⟨rb, ro, none⟩) gs.length c, .int .i64 gs.length, .int .i64 j, .bool true, .pointer (some ⟨rb, ro + j, none⟩), .int .i64 g, .agg (Fv.cs ⟨vu, vA, vn, vc, d2, d3, d4, d5, d6, d7, d8⟩), .int .i64 g, .func (.func 53) #[] #[.pointer (some ⟨wr.heap.size + 1, 0, none⟩), .pointer (some ⟨wr.heap.size + 1 + 1, 0, none⟩)], pv x.1, undef, undef, undef, undef, undef, undef, undef, undef, undef, undef, undef, undef, undef, undef, u41, u42, u43, u44, u45, u46, u47, u48, u49, undef, undef, undef, undef, undef, undef, undef, undef, undef, undef, undef, undef, undef, undef, undef, undef, undef, undef, undef, undef, undef, undef, undef, undef, undef, undef, undef, undef, undef, undef, undef, undef, undef, undef], defers := [] } ∧ Blk W pb 48 #[.int .i64 x.1.1, .int .i64 x.1.2.1, .int .i64 x.1.2.2]) ?hAx ?assign ?body ?done ?stop
      case hAx =>
        rintro x a' _ W W' row ⟨pb, e, hb⟩ hg hr
        exact ⟨pb, e, (grown_far hg hr).1 _ _ hb rfl⟩
      case assign =>
        intro l pre x W K hI hK2
        have HK2 := Lib.hid hK2
        have HI := Lib.hid hI
        clear hK2 hI h0 hX hY hgb hF1 hg1 hs1 hW1
        obtain ⟨⟨xg, xx, xy⟩, hxm⟩ := x
        unfold pv
        gi_wp2
        exact HK2.out _ _ ((KeepsOthers.alloc _ _).from _) (kpP_alloc _ _ HI.out.below.size (by have := HI.out.bx.lt; omega)) (HI.out.grow ((Fr.refl _ _).alloc _)) ⟨W.heap.size, rfl, Blk.new _ _ _⟩
      case body =>
        rintro l pre ⟨⟨pg, px, py⟩, hxm⟩ a' W hl _ hI ⟨pb, rfl, hpb⟩ hlen
        obtain ⟨f2, hL, hFN⟩ := hI.ln
        obtain ⟨s2, hs2⟩ : ∃ s2, (pre.map (·.1)).foldl (Ln.use g) (Ln.firsts gl (gs.take j)).1 = s2 := ⟨_, rfl⟩
        have HS2 := Lib.hid hs2
        rw [hs2] at hL
        have hpl : ∀ g ∈ gs, (partsOf gl g).length ≤ 1000 := fun g' hg' => by
          obtain ⟨gg, hgg⟩ : ∃ gg, gl[g']? = some gg := ⟨_, List.getElem?_eq_getElem (HGS.out g' hg')⟩
          have := (HF.out.parts hgg)
          obtain ⟨_, _, _, _, _, _, _, _, _, h1, _⟩ := this
          have h2 : (partsOf gl g').length ≤ gg.parts.length := by simp only [partsOf, hgg, psOf, Option.map_some, Option.getD_some]; exact List.length_filter_le _ _
          omega
        have hbd : Ln.Bd gs 1001000 s2 := by
          have h1 := (Ln.firsts_bd (gl := gl) hpl j (by omega)).1
          have h2 := Ln.uses_bd (List.mem_of_getElem? HG.out) (pre.map (·.1)) h1
          rw [hs2] at h2
          have h3 := hpl g (List.mem_of_getElem? HG.out)
          intro x
          obtain ⟨k1, k2, k3, k4⟩ := h2 x
          rw [List.length_map] at k2 k3
          exact ⟨k1, by omega, by omega, k4⟩
        clear hpl
        have hgi : I64 (g : Int) := by unfold I64; omega
        have hk := hL.mm.look g hgi
        obtain ⟨w2, h1, h2, h3, h4⟩ := hL.mm.store g hgi (s2.1 g + 1)
        have e1 := hL.mbx.cell 0
        have e2 := hI.gb.cell 0
        simp only [List.getElem?_toArray, List.getElem?_cons_zero] at e1 e2
        have hc0 := (hbd g).1
        have hc1 := (hbd g).2.1
        have HFN := Lib.hid hFN
        have HI := Lib.hid hI
        have HL := Lib.hid hL
        have HBD := Lib.hid hbd
        have HPB := Lib.hid hpb
        have H3 := Lib.hid h3
        have H4 := Lib.hid h4
        have H2 := Lib.hid h2
        clear hFN hI hL hbd hpb hs2 h2 h3 h4 h0 hX hY hgb hF1 hg1 hs1 hW1 hmm
        gi_wp2_with fail
        have hL3 := HL.out.count g (s2.1 g + 1) H2.out H3.out
        have hpgi : I64 pg := by have := mem_psOf hxm; unfold I64; simp only at this; omega
        have hKC : ∀ (b : Nat) (t : TypeId) (cs : Array Value), Blk W b t cs → Blk w2 b t cs := fun b t cs hb => (H3.out.block b hb.lt (fun e => by injection e with e; exact HL.out.mm.mne hb e)).trans hb
        have hpb2 := hKC _ _ _ HPB.out
        have hgb2 := hKC _ _ _ HI.out.gb
        have hlk := hL3.look pg hpgi
        have p0 := hpb2.cell 0
        have p1 := hgb2.cell 0
        have p2 := hL3.ubx.cell 0
        simp only [List.getElem?_toArray, List.getElem?_cons_zero] at p0 p1 p2
        have lp := hpb2.lt
        have lg := hgb2.lt
        have lu := hL3.ubx.lt
        obtain ⟨u0, hu0⟩ : ∃ u0, (f2 pg).getD (.slice none 0 0) = u0 := ⟨_, rfl⟩
        rw [hu0] at hlk
        obtain ⟨r1, r2, r3, r4⟩ := hL3.row pg
        rw [hu0] at r1
        obtain ⟨uA, uc, huv, huc, hum⟩ := owns_form r1
        have HU0 := Lib.hid hu0
        have HUV := Lib.hid huv
        have HL3 := Lib.hid hL3
        have HLA := Lib.hid (hL3.drew.alloc (.cells #[.int .i64 g] 3))
        have HR1 := Lib.hid (owns_grow (w' := w2.drew.alloc (.cells #[.int .i64 g] 3)) r1 ((Fr.refl _ _).drew.alloc _))
        have HKC := Lib.hid hKC
        have hlk2 := HLA.out.look pg hpgi
        rw [hu0] at hlk2
        obtain ⟨i0, hi0, hi1, hi2, hi3⟩ := info_m info_int
        have hul : (s2.2 pg).length ≤ 1001000 := by have := (HBD.out pg).2.2.1; omega
        clear hL3 hpb2 hgb2 r1 r2 r3 r4 hu0 huv e1 e2 hk h1 hKC
        have hS : (fun wq : World => wq.cell? ⟨w.heap.size + 1 + 1 + 1 + 1, 0, none⟩ = some (.map (some (w.heap.size + 1 + 1 + 1))) ∧ wq.cell? ⟨pb, 0, none⟩ = some (.int .i64 pg) ∧ wq.cell? ⟨wr.heap.size, 0, none⟩ = some (.int .i64 g) ∧ (Instr.lookup 94 (.map (some (w.heap.size + 1 + 1 + 1))) (.int .i64 pg) false).run Try.prog wq = .ok u0 wq) w2.drew := ⟨p2, p0, p1, by have := HL3.out.drew.look pg hpgi; rwa [HU0.out] at this⟩
        refine region_in_round_seqT (fun i => !([8, 9, 10] : List Nat).contains i) (fun i => ([0, 2, 3, 5, 6, 7] : List Nat).contains i) (fun i => ([8, 9] : List Nat).contains i) [0, 1, 2, 3, 4, 5, 6, 7, 8, 9, 10] (fun wq : World => wq.cell? ⟨w.heap.size + 1 + 1 + 1 + 1, 0, none⟩ = some (.map (some (w.heap.size + 1 + 1 + 1))) ∧ wq.cell? ⟨pb, 0, none⟩ = some (.int .i64 pg) ∧ wq.cell? ⟨wr.heap.size, 0, none⟩ = some (.int .i64 g) ∧ (Instr.lookup 94 (.map (some (w.heap.size + 1 + 1 + 1))) (.int .i64 pg) false).run Try.prog wq = .ok u0 wq) (by kernel_rfl) (by kernel_rfl) (by kernel_rfl) (by kernel_rfl) (by kernel_rfl) (by rintro ⟨_, _, h⟩; exact h) ?_
        iterate 8 (first | refine wpSeq_pureA (v := _) rfl rfl rfl ?_ | refine wpSeq_loadA (v := _) rfl rfl hS rfl ?_)
        refine wpSeq_heavy rfl rfl (fun K hK => ?_); go_simp
        refine hK _ _ (fun _ => ⟨(World.cell?_alloc_lt _ _ _ lu).trans p2, (World.cell?_alloc_lt _ _ _ lp).trans p0, (World.cell?_alloc_lt _ _ _ lg).trans p1, hlk2⟩) ?_; clear hK K
        refine wpSeq_heavy rfl rfl (fun K hK => ?_)
        refine step_own _ rfl (.tmp 37) (.tmp 39) _ rfl w.heap.size 3 i0 _ 1 8 Try.underlying22 hi0 hi1 hi2 hi3 rfl (by decide) u0 (s2.2 pg).length _ rfl HR1.out _ _ 1 1 [.int .i64 g] rfl (Reads.blk (cs := [.int .i64 g]) (Blk.new _ _ _) 1 1 rfl) (by simp [Value.oneCell']) (by unfold maxLen; omega) (by omega) (by have := HI.out.below.size; simp; omega) ?_
        intro v' w6 hrow hg hnew
        rw [← HU0.out] at hg hnew
        obtain ⟨g1, g2, g3, g4⟩ := HLA.out.grown (k := pg) hrow hg hnew
        obtain ⟨w7, m1, m2, m3, m4⟩ := g3.store (t := 94) Try.underlying94 pg hpgi v'
        have hN := HLA.out.used hrow hg hnew m2 m3
        have hb6 := (g1 _ _ _ HLA.out.ubx (by decide)).cell 0
        have hp6 := (g1 _ _ _ ((HKC.out _ _ _ HPB.out).drew.alloc _) (by decide)).cell 0
        have hgA : Blk (w2.drew.alloc (.cells #[.int .i64 g] 3)) wr.heap.size 3 #[.int .i64 g] := (HKC.out _ _ _ HI.out.gb).drew.alloc _
        have hgne : some wr.heap.size ≠ ((f2 pg).getD (.slice none 0 0)).ownBlock := by
          cases hf : f2 pg with
          | none => simp [Value.ownBlock]
          | some u => exact fun e => HFN.out pg u hf e.symm
        have hg6 : Blk w6 wr.heap.size 3 #[.int .i64 g] := hgA.grown hg hgne
        have hg6c := hg6.cell 0
        have hlk6 : (Instr.lookup 94 (.map (some (w.heap.size + 1 + 1 + 1))) (.int .i64 pg) false).run Try.prog w6 = .ok u0 w6 := by rw [← HU0.out]; exact g3.look (t := 94) Try.underlying94 (z := .slice none 0 0) (by kernel_rfl) pg hpgi
        simp only [List.getElem?_toArray, List.getElem?_cons_zero] at hb6 hp6 hg6c
        have HG6 := Lib.hid hg6
        have HG1 := Lib.hid g1
        have HG3 := Lib.hid g3
        have HNE := Lib.hid hgne
        have HN := Lib.hid hN
        have HGG := Lib.hid hg
        have HNW := Lib.hid hnew
        have HM2 := Lib.hid m2
        have HM3 := Lib.hid m3
        have HM4 := Lib.hid m4
        clear hN hrow hg hnew g1 g2 g3 g4 m2 m3 m4 hg6 hgA hlk hlk2 hgne
        refine hK _ _ (fun _ => ⟨hb6, hp6, hg6c, hlk6⟩) ?_; clear hK K
        refine wpSeq_heavy rfl rfl (fun K hK => ?_); go_simp
        refine hK _ _ (fun h => by cases h) ?_; clear hK K
        refine wpSeq_end ?_
        gi_wp2_with fail
        have hgA : Grow w2 (w2.drew.alloc (.cells #[.int .i64 g] 3)) := (Fr.refl _ _).drew.alloc _
        have hu0b : ∀ b, ((f2 pg).getD (.slice none 0 0)).ownBlock = some b → ∃ cs, Blk (w2.drew.alloc (.cells #[.int .i64 g] 3)) b 3 cs := fun b e => (owns_block (HLA.out.row pg).1 e).2.2
        have hszA := H4.out
        have KC7 : ∀ (b : Nat) (t : TypeId) (cs : Array Value), Blk W b t cs → t ≠ 3 → Blk w7 b t cs := fun b t cs hb ht => by
          have h6 := HG1.out b t cs ((HKC.out b t cs hb).drew.alloc _) ht
          exact (HM3.out.block b h6.lt (fun e => by injection e with e; exact HG3.out.mne h6 e)).trans h6
        have HN7 := HN.out
        have efold : ((pre ++ [(⟨(pg, px, py), hxm⟩ : PartOf gl g)]).map (·.1)).foldl (Ln.use g) (Ln.firsts gl (gs.take j)).1 = (upd s2.1 (g : Int) (s2.1 g + 1), upd s2.2 pg (s2.2 pg ++ [(g : Int)])) := by rw [List.map_append, List.foldl_append, HS2.out]; rfl
        have hB7 : Below w.heap.size W w7 := by
          have b1 : Below w.heap.size W w2 := (Below.refl _ _).grown H3.out HI.out.below.size (fun b e => by injection e with e; omega)
          have b2 : Below w.heap.size W (w2.drew.alloc (.cells #[.int .i64 g] 3)) := b1.drew.alloc (by have := HI.out.below.size; show _ ≤ w2.heap.size; omega) _
          have b3 : Below w.heap.size W w6 := b2.grown HGG.out (by have := HI.out.below.size; simp; omega) (fun b e => (owns_block (HLA.out.row pg).1 e).1)
          exact b3.grown HM3.out (by have := HI.out.below.size; have := HGG.out.size; simp at this; omega) (fun b e => by injection e with e; omega)
        refine ⟨?_, ⟨?_, ?_⟩, ?_⟩
        · refine (KeepsFrom.of_grownBy H3.out (fun b e => by injection e with e; have := HS1.out; omega)).trans (((((KeepsOthers.drew w2).trans (KeepsOthers.alloc _ _)).trans (KeepsOthers.of_grownBy HGG.out (fun b o e ho => ?_))).from _).trans (KeepsFrom.of_grownBy HM3.out (fun b e => by injection e with e; have := HS1.out; omega)))
          obtain ⟨cs, hcs⟩ := hu0b b e
          rw [show _ = _ from hcs] at ho; injection ho with ho; subst ho; rfl
        · exact hB7
        · exact (KC7 _ _ _ HI.out.bx (by decide)).trans (show _ = _ from HI.out.bx).symm
        · refine ⟨⟨_, by rw [efold]; exact HN7, ?_⟩, ?_, KC7 _ _ _ HI.out.font (by decide), ?_, KC7 _ _ _ HI.out.bx (by decide), ?_⟩
          · intro k' u hu e
            by_cases hk' : k' = pg
            · subst hk'
              simp only [if_true, Option.some.injEq] at hu
              subst hu
              rcases HNW.out with h | h
              · exact HNE.out (e.symm.trans h)
              · rw [h] at e; injection e with e; simp at e; omega
            · simp only [if_neg hk'] at hu
              exact HFN.out k' u hu e
          · exact HI.out.below.trans hB7
          · exact (HM3.out.block _ HG6.out.lt (fun e => by injection e with e; exact HG3.out.mne HG6.out e)).trans HG6.out
          · refine HI.out.marks.keep fun D hD e => ?_
            have hl0 : D < W.heap.size := (Array.getElem?_eq_some_iff.1 e).1
            have e2 : w2.heap[D]? = some (.deferred (some [])) := (H3.out.block D hl0 (fun e => by injection e with e; omega)).trans e
            have e3 : (w2.drew.alloc (.cells #[.int .i64 g] 3)).heap[D]? = some (.deferred (some [])) := (Below.heap_alloc w2.drew _ D (by show D < w2.heap.size; omega)).trans e2
            have e4 : w6.heap[D]? = some (.deferred (some [])) := (HGG.out.block D (Array.getElem?_eq_some_iff.1 e3).1 (fun e5 => by
              obtain ⟨cs, hcs⟩ := hu0b D e5.symm
              unfold Blk at hcs
              rw [hcs] at e3; cases e3)).trans e3
            exact (HM3.out.block D (Array.getElem?_eq_some_iff.1 e4).1 (fun e => by injection e with e; omega)).trans e4
      case done =>
        rintro D xs W hD hxs hI hK3
        obtain ⟨f2, hL, hFN⟩ := hI.ln
        have es : (xs.map (·.1)).foldl (Ln.use g) (Ln.firsts gl (gs.take j)).1 = Ln.uses gl g (Ln.firsts gl (gs.take j)).1 := by rw [hxs]; rfl
        rw [es] at hL
        have hfs := Ln.firsts_succ (gl := gl) HG.out
        have hll : (Ln.firsts gl (gs.take j)).2.length ≤ 1000 := by
          have hpl : ∀ g ∈ gs, (partsOf gl g).length ≤ 1000 := fun g' hg' => by
            obtain ⟨gg, hgg⟩ : ∃ gg, gl[g']? = some gg := ⟨_, List.getElem?_eq_getElem (HGS.out g' hg')⟩
            obtain ⟨_, _, _, _, _, _, _, _, _, h1, _⟩ := HF.out.parts hgg
            have h2 : (partsOf gl g').length ≤ gg.parts.length := by simp only [partsOf, hgg, psOf, Option.map_some, Option.getD_some]; exact List.length_filter_le _ _
            omega
          have := (Ln.firsts_bd (gl := gl) hpl j (by omega)).2
          omega
        obtain ⟨s1, hs1'⟩ : ∃ s1, Ln.firsts gl (gs.take j) = s1 := ⟨_, rfl⟩
        rw [hs1'] at hL hfs hll
        obtain ⟨s3, hs3⟩ : ∃ s3, Ln.uses gl g s1.1 = s3 := ⟨_, rfl⟩
        have hfs2 : Ln.firsts gl (gs.take (j + 1)) = (s3, if s3.1 g = 0 then s1.2 ++ [(g : Int)] else s1.2) := by rw [hfs, ← hs3]; rfl
        rw [hs3] at hL
        have hmk : Marks W (w.heap.size + 6) (D :: ds) := hI.marks.cons (fun E hE => HM.out E hE) (by have := HS1.out; omega) (by have := HS1.out; have := HLT.out; omega) hK3
        have hgi : I64 (g : Int) := by unfold I64; omega
        have hk := hL.mm.look g hgi
        have e1 := hL.mbx.cell 0
        have e2 := hI.gb.cell 0
        have e3 := hL.hp.box.cell 0
        have e3f := hL.hp.box.frozen 0
        simp only [List.getElem?_toArray, List.getElem?_cons_zero] at e1 e2 e3
        have l1 := hL.mbx.lt
        have l2 := hI.gb.lt
        have l3 := hL.hp.box.lt
        obtain ⟨rA, rc, hrv, hrc, hrm⟩ := owns_form hL.hp.row
        subst hrv
        have HFS := Lib.hid hfs2
        have HI := Lib.hid hI
        have HL := Lib.hid hL
        have HMK := Lib.hid hmk
        obtain ⟨i0, hi0, hi1, hi2, hi3⟩ := info_m info_int
        clear hI hL hmk hfs hfs2 hs3 hs1' es hxs hFN h0 hX hY hgb hF1 hg1 hs1 hW1 hmm hK3
        by_cases hz : s3.1 g = 0
        · rw [hz] at hk
          have HZ := Lib.hid hz
          have HLA := Lib.hid (HL.out.alloc (.cells #[.int .i64 g] 3))
          clear hz
          go_wp2_with (at_builtin; refine wpList_append_any _ rfl (.tmp 45) (.tmp 47) _ rfl w.heap.size 3 i0 _ 1 8 Try.underlying95 hi0 hi1 hi2 hi3 rfl (show 0 < 1 by decide) _ _ _ rfl HLA.out.hp.row _ _ 1 1 [.int .i64 g] rfl (Reads.blk (cs := [.int .i64 g]) (Blk.new _ _ _) 1 1 rfl) (by simp [Value.oneCell']) (by unfold maxLen; omega) (by omega) (by have := HI.out.below.size; simp; omega) ?_; intro v' w6 hrow hg hnew; obtain ⟨hb6, hB6, hF6⟩ := HLA.out.hp.pushed hrow hg hnew; have HN := Lib.hid (HLA.out.heap hB6 hF6 (fun k hk => by rcases hnew with e | e; exact .inl (e ▸ hk); rw [e] at hk; injection hk with hk; right; omega)); have HF6 := Lib.hid hF6; have q6 := hb6.cell 0; have qf6 := hb6.frozen 0; have ql6 := hb6.lt; simp only [List.getElem?_toArray, List.getElem?_cons_zero] at q6; obtain ⟨Av, cv', hve, _⟩ := owns_form hrow; subst hve; clear hrow hg hnew hb6 hB6 hF6)
          have hal : Grow W (W.alloc (.cells #[.int .i64 g] 3)) := (Fr.refl _ _).alloc _
          obtain ⟨c1, c2, c3⟩ := HLA.out.frC HF6.out (by omega) (by have := HI.out.below.size; simp; omega)
          refine Handed.intro (k - 1) (by have := HJ.out; omega) (HJK.out _ _ _ ⟨_, _, _, _, _, _, _, _, _, _, _, _, _, _, _, _, j + 1, D :: ds, .slice Av (s1.2.length + 1) cv', f2, rfl, by have := HJ.out; omega, ⟨?_, ?_, ?_, ?_⟩⟩)
          · rw [HFS.out]
            simp only
            rw [if_pos HZ.out]
            exact HN.out
          · exact (HI.out.below.trans (hal.below HI.out.below.size)).trans c3
          · exact c1 _ _ _ (HI.out.font.alloc _) (by decide) (by decide)
          · exact HMK.out.keep fun E _ e => c2 E ((Below.heap_alloc W _ E (Array.getElem?_eq_some_iff.1 e).1).trans e)
        · have hz2 : (s3.1 g == 0) = false := by simpa using hz
          have HZ := Lib.hid hz
          clear hz
          go_wp2_with fail
          refine Handed.intro (k - 1) (by have := HJ.out; omega) (HJK.out _ _ _ ⟨_, _, _, _, _, _, _, _, _, _, _, _, _, _, _, _, j + 1, D :: ds, .slice rA s1.2.length rc, f2, rfl, by have := HJ.out; omega, ⟨?_, HI.out.below, HI.out.font, HMK.out⟩⟩)
          rw [HFS.out]
          simp only
          rw [if_neg HZ.out]
          exact HL.out
      case stop =>
        rintro D c pre W _ _ h _
        exact h.elim
    · have hje : j = gs.length := by omega
      have htk : gs.take j = gs := by rw [hje, List.take_length]
      have hpl : ∀ g ∈ gs, (partsOf gl g).length ≤ 1000 := fun g' hg' => by
        obtain ⟨gg, hgg⟩ : ∃ gg, gl[g']? = some gg := ⟨_, List.getElem?_eq_getElem (HGS.out g' hg')⟩
        obtain ⟨_, _, _, _, _, _, _, _, _, h1, _⟩ := HF.out.parts hgg
        have h2 : (partsOf gl g').length ≤ gg.parts.length := by simp only [partsOf, hgg, psOf, Option.map_some, Option.getD_some]; exact List.length_filter_le _ _
        omega
      obtain ⟨hbd, hll⟩ := Ln.firsts_bd (gl := gl) hpl j (by omega)
      obtain ⟨hLn, hBe, _, hMk⟩ := hW
      rw [htk] at hLn hbd hll
      obtain ⟨⟨⟨c0, U⟩, l0⟩, hs⟩ : ∃ s, Ln.firsts gl gs = s := ⟨_, rfl⟩
      have hline : Ln.line gl gs = (Ln.rounds U (2 * gs.length) ((c0, Hp.init l0), [])).2 := by unfold Ln.line; rw [hs]
      have hin := (Ln.firsts_in (gl := gl) (gs := gs) j (by omega))
      rw [htk, hs] at hin
      rw [hs] at hLn hbd hll
      simp only at hLn hbd hll hin
      have HIN := Lib.hid (hin.perm (Hp.init_perm l0))
      have HLINE := Lib.hid hline
      have HBD := Lib.hid hbd
      have HUB : Hid (∀ x, (U x).length ≤ 1000000) := Lib.hid fun x => by have := (hbd x).2.2.1; simp only at this; omega
      have HUI : Hid (∀ x, Ln.In gs (U x)) := Lib.hid fun x => (hbd x).2.2.2
      have HGX : Hid (∀ g ∈ gs, g < 1000) := Lib.hid fun g hg => by have := HGS.out g hg; omega
      have HBe := Lib.hid hBe
      have HMk := Lib.hid hMk
      have HLn := Lib.hid hLn
      have hbs := hBe.size
      clear hin hLn hbd hBe hMk hline hs htk hpl hj hmm hJJ HF HR HGS
      go_wp2_with fail
      refine (hinit_any w.heap.size (w.heap.size + 1 + 1 + 1 + 1 + 1) rv l0 _ HLn.out.hp (by omega)).mono ?_
      rintro e w1 ⟨rfl, hV, hF⟩
      have hF' : Fr (fun k => k = w.heap.size + 1 + 1 + 1 + 1 + 1 ∨ rv.ownBlock = some k) wr w1 := hF.mono fun k _ e => .inr e
      obtain ⟨c1, c2, c3⟩ := HLn.out.frC hF' (by omega) hbs
      have HL1 := Lib.hid (HLn.out.heap hV hF' (fun k hk => .inl hk))
      have HB1 := Lib.hid (HBe.out.trans c3)
      have HM1 := Lib.hid (HMk.out.keep fun E _ e => c2 E e)
      clear hV hF hF' c1 c2 c3 HLn HBe HMk
      go_wp2_with fail
      obtain ⟨R, hR⟩ : ∃ R, Ln.rounds U (2 * gs.length) ((c0, Hp.init l0), []) = R := ⟨_, rfl⟩
      have HRR := Lib.hid hR
      clear hR
      go_loopg [11] (2 * gs.length) (fun k t wr => ∃ (tv rv : Value) (f : Int → Option Value) (c' : Int → Int) (l told : List Int), t = tv ∧ Ln.rounds U k ((c', l), told) = R ∧ Ln.left gs c' l ≤ k ∧ k ≤ 2 * gs.length ∧ (∀ x, -((2 * gs.length - k : Int) * 1000000) ≤ c' x ∧ c' x ≤ 1000000) ∧ told.length + k = 2 * gs.length ∧ Ln.In gs l ∧
        LnS wr w.heap.size (w.heap.size + 1 + 1) (w.heap.size + 1) (w.heap.size + 1 + 1 + 1 + 1) (w.heap.size + 1 + 1 + 1) (w.heap.size + 1 + 1 + 1 + 1 + 1) rv tv f c' U l told ∧ Below w.heap.size w wr ∧ Marks wr (w.heap.size + 6) ds)
      case atStart =>
        refine ⟨_, rv, f, c0, Hp.init l0, [], rfl, HRR.out, ?_, Nat.le_refl _, fun x => ?_, by simp, HIN.out, HL1.out, HB1.out, HM1.out⟩
        · unfold Ln.left
          rw [Ln.init_len]
          have := List.length_filter_le (fun g : Nat => decide (0 < c0 g)) gs
          omega
        · have := HBD.out x
          obtain ⟨h1, h2, _⟩ := this
          simp only at h1 h2
          omega
      case round =>
        obtain ⟨tv, rv, f, c', l, told, rfl, hr, hlk, hk2, hcb, htk, hin, hL, hB, hM⟩ := hrel
        have HR2 := Lib.hid hr
        have HIN2 := Lib.hid hin
        have HLK := Lib.hid hlk
        have HCB := Lib.hid hcb
        have HTK := Lib.hid htk
        have HL := Lib.hid hL
        have HB := Lib.hid hB
        have HM := Lib.hid hM
        have e0 := hL.hp.box.cell 0
        simp only [List.getElem?_toArray, List.getElem?_cons_zero] at e0
        obtain ⟨rA, rc, hrv, hrc, hrm⟩ := owns_form hL.hp.row
        subst hrv
        have hln : l.length ≤ 2000 := by unfold Ln.left at hlk; omega
        have hbs := hB.size
        clear hin HIN hr hlk hcb htk hL hB hM HL1 HB1 HM1 HBD
        by_cases h0 : l.length = 0
        · have hl0 : l = [] := List.eq_nil_of_length_eq_zero h0
          subst hl0
          have hR : ((c', ([] : List Int)), told) = R := by
            rw [← HR2.out]
            cases gk with
            | zero => rfl
            | succ k => unfold Ln.rounds; rw [if_pos rfl]
          go_wp2_with fail
          show LeavesInM Fence.wide 8 Try.prog _ _ _ (ds.map mark) .returning wr
          refine leaves_marks ds wr HM.out fun W' hW' => ?_
          have hl : Ln.line gl gs = told := by rw [HLINE.out, HRR.out, ← hR]
          refine ⟨_, results_tmp rfl _ _ _, u11, rfl, ?_, HB.out.trans (hW'.below hbs fun k hk e => by have := (HM.out.2 k e).1; omega)⟩
          rw [hl]
          refine owns_keep HL.out.tl fun g e => hW'.block g (owns_block HL.out.tl e).2.1 fun e2 => ?_
          obtain ⟨_, _, cs, hb⟩ := owns_block HL.out.tl e
          have h2 := (HM.out.2 g e2).2
          unfold Blk at hb
          rw [hb] at h2; cases h2
        · obtain ⟨k, rfl⟩ : ∃ k', gk = k' + 1 := ⟨gk - 1, by have := HLK.out; unfold Ln.left at this; omega⟩
          go_wp2_with fail
          refine (hpop_any w.heap.size (w.heap.size + 1 + 1 + 1 + 1 + 1) _ l _ HL.out.hp (by omega) (by omega)).mono ?_
          rintro e w2 ⟨rfl, rv2, hV, hF, hO⟩
          obtain ⟨c1, c2, c3⟩ := HL.out.frC hF (by omega) hbs
          have HL2 := Lib.hid (HL.out.heap hV hF hO)
          have HB2 := Lib.hid (HB.out.trans c3)
          have HM2 := Lib.hid (HM.out.keep fun E _ e => c2 E e)
          clear hV hF hO c1 c2 c3 HL HB HM e0
          obtain ⟨x, hx⟩ : ∃ x, (Hp.pop l).1 = x := ⟨_, rfl⟩
          obtain ⟨l2, hl2⟩ : ∃ l2, (Hp.pop l).2 = l2 := ⟨_, rfl⟩
          rw [hl2] at HL2
          rw [hx]
          have HX := Lib.hid hx
          have HX2 := Lib.hid hl2
          clear hx hl2
          have hta := fun t => ta_int t x
          obtain ⟨i0, hi0, hi1, hi2, hi3⟩ := info_m info_int
          have htl : told.length ≤ 2000 := by have := HTK.out; omega
          have HLA := Lib.hid (HL2.out.alloc (.cells #[.int .i64 x] 3))
          go_upto_region 19 with (at_builtin; refine wpList_append_any _ rfl (.tmp 58) (.tmp 60) _ rfl w.heap.size 3 i0 _ 1 8 Try.underlying22 hi0 hi1 hi2 hi3 rfl (show 0 < 1 by decide) u11 told.length (ints told) rfl HLA.out.tl _ _ 1 1 [.int .i64 x] rfl (Reads.blk (cs := [.int .i64 x]) (Blk.new _ _ _) 1 1 rfl) (by simp [Value.oneCell']) (by unfold maxLen; omega) (by omega) (by have := HB2.out.size; simp; omega) ?_; intro v' w6 hrow hg hnew; have HN := Lib.hid (HLA.out.tell hrow hg hnew); have HGG := Lib.hid hg; obtain ⟨Av, cv', hve, _⟩ := owns_form hrow; subst hve; clear hrow hg hnew)
          have hal : Grow w2 (w2.alloc (.cells #[.int .i64 x] 3)) := (Fr.refl _ _).alloc _
          obtain ⟨c1, c2⟩ := HLA.out.tlC HGG.out (by have := HB2.out.size; simp; omega)
          have HB6 := Lib.hid ((HB2.out.trans (hal.below HB2.out.size)).trans c2)
          have HM6 := Lib.hid (HM2.out.keep fun E _ e => c1 E ((Below.heap_alloc w2 _ E (Array.getElem?_eq_some_iff.1 e).1).trans e))
          have hpp := Hp.pop_perm (l := l) (by omega)
          rw [HX.out, HX2.out] at hpp
          have hin2 := HIN2.out.perm hpp
          obtain ⟨gx, hgx, hxg⟩ := hin2 x List.mem_cons_self
          have hin3 : Ln.In gs l2 := fun y hy => hin2 y (List.mem_cons_of_mem _ hy)
          subst hxg
          have hgxn := HGX.out gx hgx
          have hgi : I64 (gx : Int) := by unfold I64; omega
          have hlk := HN.out.look gx hgi
          obtain ⟨r1, _⟩ := HN.out.row gx
          obtain ⟨u0, hu0⟩ : ∃ u0, (f gx).getD (.slice none 0 0) = u0 := ⟨_, rfl⟩
          rw [hu0] at hlk r1
          obtain ⟨uA, uc, huv, huc, hum⟩ := owns_form r1
          subst huv
          obtain ⟨n, hn⟩ : ∃ n, n = (U gx).length := ⟨_, rfl⟩
          have hun := HUB.out gx
          rw [← hn] at hlk r1 huc hun
          have q0 := HN.out.ubx.cell 0
          have ql := HN.out.ubx.lt
          simp only [List.getElem?_toArray, List.getElem?_cons_zero] at q0
          have HPP := Lib.hid hpp
          have HIN3 := Lib.hid hin3
          have HU0 := Lib.hid hu0
          have HNN := Lib.hid hn
          clear r1 hu0 hn hpp hin2 hin3 c1 c2 HL2 HLA HB2 HM2 HGG hta
          go_wp2_with fail
          go_loopw [66] (fun t wr => ∃ (i : Nat) (p : Ln.Ps) (rv3 : Value), t = .int .i64 i ∧ i ≤ n ∧ ((U gx).take i).foldl Ln.free (c', l2) = p ∧
            LnS wr w.heap.size (w.heap.size + 1 + 1) (w.heap.size + 1) (w.heap.size + 1 + 1 + 1 + 1) (w.heap.size + 1 + 1 + 1) (w.heap.size + 1 + 1 + 1 + 1 + 1) rv3 (.slice Av (told.length + 1) cv') f p.1 U p.2 (told ++ [(gx : Int)]) ∧ Below w.heap.size w wr ∧ Marks wr (w.heap.size + 6) ds) (fun t _ => n - (intOf t).toNat)
          case atStart => exact ⟨0, _, rv2, rfl, Nat.zero_le _, rfl, HN.out, HB6.out, HM6.out⟩
          case round =>
            obtain ⟨i, p, rv3, rfl, hi, hp, hL, hB, hM⟩ := hrel
            have hlp : p.2.length ≤ 2000 := by
              have h1 := Ln.frees_left ((U gx).take i) (c', l2) (gs := gs) (fun y hy => HUI.out gx y (List.mem_of_mem_take hy))
              have h2 := HLK.out
              have h3 := HPP.out.length_eq
              rw [hp] at h1
              unfold Ln.left at h1 h2
              simp only [List.length_cons] at h1 h3
              omega
            have hbp : ∀ x, -3000000000 ≤ p.1 x ∧ p.1 x ≤ 1000000 := fun x => by
              have h1 := Ln.frees_bd ((U gx).take i) (c', l2) HCB.out x
              rw [hp, List.length_take] at h1
              omega
            have hBs := hB.size
            have HPE := Lib.hid hp
            have HL := Lib.hid hL
            have HB := Lib.hid hB
            have HM := Lib.hid hM
            clear hp hL hB hM HN HB6 HM6
            by_cases hlt : i < n
            · obtain ⟨u, hu⟩ : ∃ u, (U gx)[i]? = some u := ⟨_, List.getElem?_eq_getElem (by have := HNN.out; omega)⟩
              obtain ⟨gu, hgu, rfl⟩ := HUI.out gx u (List.mem_of_getElem? hu)
              obtain ⟨r1, _⟩ := HL.out.row gx
              rw [HU0.out, ← HNN.out] at r1
              obtain ⟨ub_, uo, hue, _, hul, _, hur⟩ := owns_at r1 (by omega)
              injection hue with hue1 _ hue3
              subst hue1
              subst hue3
              have z0 := hur i _ (ints_at _ _ _ hu)
              have hgun := HGX.out gu hgu
              have hgui : I64 (gu : Int) := by unfold I64; omega
              have hk := HL.out.mm.look gu hgui
              obtain ⟨w7, m1, m2, m3, m4⟩ := HL.out.mm.store gu hgui (p.1 gu - 1)
              have HL7 := Lib.hid (HL.out.count gu (p.1 gu - 1) m2 m3)
              have hk7 := m2.look gu hgui
              rw [upd_same] at hk7
              have hb1 := (hbp gu).1
              have hb2 := (hbp gu).2
              have e1 := HL.out.mbx.cell 0
              have e7 := HL7.out.mbx.cell 0
              simp only [List.getElem?_toArray, List.getElem?_cons_zero] at e1 e7
              have HM3 := Lib.hid m3
              have HHU := Lib.hid hu
              have hz7 : wr.heap.size ≤ w7.heap.size := by omega
              have hB7 : Below w.heap.size w w7 := HB.out.grown m3 hBs (fun b e => by injection e with e; omega)
              have hM7 : Marks w7 (w.heap.size + 6) ds := HM.out.keep fun D hD e => (m3.block D (Array.getElem?_eq_some_iff.1 e).1 (fun e2 => by injection e2 with e2; omega)).trans e
              have HB7 := Lib.hid hB7
              have HM7 := Lib.hid hM7
              have hfold : ((U gx).take (i + 1)).foldl Ln.free (c', l2) = Ln.free p gu := by rw [List.take_add_one, hu, List.foldl_append, HPE.out]; rfl
              have HFO := Lib.hid hfold
              clear r1 hur hu m2 m3 m4 hB7 hM7 hfold HL HB HM
              by_cases hz : p.1 gu - 1 = 0
              · have HZ := Lib.hid hz
                rw [hz] at hk7
                clear hz
                go_wp2_with fail
                refine (hpush_any w.heap.size (w.heap.size + 1 + 1 + 1 + 1 + 1) rv3 p.2 gu _ HL7.out.hp (by omega) (by omega)).mono ?_
                rintro e w8 ⟨rfl, rv4, hV, hF, hO⟩
                obtain ⟨c1, c2, c3⟩ := HL7.out.frC hF (by omega) (by omega)
                have HL8 := Lib.hid (HL7.out.heap hV hF hO)
                have HB8 := Lib.hid (HB7.out.trans c3)
                have HM8 := Lib.hid (HM7.out.keep fun E _ e => c2 E e)
                clear hV hF hO c1 c2 c3 HL7 HB7 HM7
                go_wp2_with fail
                go_roundw
                case rel => exact ⟨i + 1, _, rv4, by go_num, by omega, HFO.out, by unfold Ln.free; simp only; rw [if_pos HZ.out]; exact HL8.out, HB8.out, HM8.out⟩
                case measure => simp [intOf]; omega
              · have HZ := Lib.hid hz
                have hz2 : (p.1 gu - 1 == 0) = false := by simpa using hz
                clear hz
                go_wp2_with fail
                go_roundw
                case rel => exact ⟨i + 1, _, rv3, by go_num, by omega, HFO.out, by unfold Ln.free; simp only; rw [if_neg HZ.out]; exact HL7.out, HB7.out, HM7.out⟩
                case measure => simp [intOf]; omega
            · obtain rfl : i = n := by omega
              go_wp2_with fail
              have hU : (U gx).take i = U gx := by rw [HNN.out, List.take_length]
              have hpe := HPE.out
              rw [hU] at hpe
              have hrd : Ln.round U ((c', l), told) = (p, told ++ [(gx : Int)]) := by
                unfold Ln.round
                simp only
                rw [HX.out, HX2.out, hpe]
              have hne : ¬ ((c', l), told).1.2 = [] := fun e => h0 (by simp only at e; rw [e]; rfl)
              have hr2 := HR2.out
              unfold Ln.rounds at hr2
              rw [if_neg hne, hrd] at hr2
              go_roundg k
              case measure => omega
              case rel =>
                refine ⟨_, rv3, f, p.1, p.2, _, rfl, hr2, ?_, by omega, fun x => ?_, by simp; have := HTK.out; omega, ?_, HL.out, HB.out, HM.out⟩
                · have h1 := Ln.frees_left (U gx) (c', l2) (gs := gs) (HUI.out gx)
                  have h2 := HLK.out
                  have h3 := HPP.out.length_eq
                  rw [hpe] at h1
                  unfold Ln.left at h1 h2 ⊢
                  simp only [List.length_cons] at h1 h3
                  omega
                · have h1 := Ln.frees_bd (U gx) (c', l2) HCB.out x
                  rw [hpe] at h1
                  have := HUB.out gx
                  omega
                · have := Ln.frees_in (gs := gs) (U gx) (c', l2) HIN3.out (HUI.out gx)
                  rwa [hpe] at this
end Go.Proofs.Ytoklllbaihccnaa

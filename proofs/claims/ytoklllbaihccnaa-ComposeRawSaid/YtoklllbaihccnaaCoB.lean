/- A font as compose reads it; there; parts, whose iterator tells a glyph's parts that there are. -/
import Derived.Test.YtoklllbaihccnaaCoA
import Derived.RangeFuncKeeps
import Derived.RangeFuncWrites
import Derived.RangeFuncLeaves
import Derived.RangeFuncBound
import Derived.Shelf.Abstract
import Derived.OwnWalkIn
import Derived.TacticsInMore
import Derived.LoopNIn
import Derived.LoopIn
import Derived.Laws.EntriesVeiled
set_option linter.unusedVariables false
set_option linter.unusedSimpArgs false
namespace Go.Proofs.Ytoklllbaihccnaa
open Go.RowKit Go.Shelf
attribute [local go_sem] Oper.semAt_some

abbrev Prt := Int × Int × Int
/-- a glyph: its parts (which glyph, where), its own outline -/
structure Gl where
  parts : List Prt
  pts : List (Int × Int × Bool)
  ends : List Int
def prts (l : List Prt) : List Value := l.flatMap fun p => [.int .i64 p.1, .int .i64 p.2.1, .int .i64 p.2.2]
def opts (l : List (Int × Int × Bool)) : List Value := l.flatMap fun p => [.int .i64 p.1, .int .i64 p.2.1, .bool p.2.2]
theorem flat3 {α : Type} (f : α → List Value) (hf : ∀ a, (f a).length = 3) : ∀ (l : List α) (i : Nat) (a : α), l[i]? = some a → ∀ j, j < 3 → (l.flatMap f)[i * 3 + j]? = (f a)[j]?
  | [], _, _, h, _, _ => by simp at h
  | b :: l, 0, a, h, j, hj => by
    simp only [List.getElem?_cons_zero, Option.some.injEq] at h
    subst h
    rw [List.flatMap_cons, List.getElem?_append_left (by rw [hf]; omega)]
    simp
  | b :: l, i + 1, a, h, j, hj => by
    rw [List.flatMap_cons, List.getElem?_append_right (by rw [hf]; omega), hf, show (i + 1) * 3 + j - 3 = i * 3 + j by omega]
    exact flat3 f hf l i a (by simpa using h) j hj
theorem flat3_len {α : Type} (f : α → List Value) (hf : ∀ a, (f a).length = 3) : ∀ l : List α, (l.flatMap f).length = l.length * 3
  | [] => rfl
  | a :: l => by rw [List.flatMap_cons, List.length_append, hf, flat3_len f hf l, List.length_cons]; omega
theorem prts_at {l : List Prt} {i : Nat} {p : Prt} (h : l[i]? = some p) : (prts l)[i * 3]? = some (.int .i64 p.1) ∧ (prts l)[i * 3 + 1]? = some (.int .i64 p.2.1) ∧ (prts l)[i * 3 + 2]? = some (.int .i64 p.2.2) :=
  ⟨flat3 _ (fun _ => rfl) l i p h 0 (by decide), flat3 _ (fun _ => rfl) l i p h 1 (by decide), flat3 _ (fun _ => rfl) l i p h 2 (by decide)⟩
theorem opts_at {l : List (Int × Int × Bool)} {i : Nat} {p : Int × Int × Bool} (h : l[i]? = some p) : (opts l)[i * 3]? = some (.int .i64 p.1) ∧ (opts l)[i * 3 + 1]? = some (.int .i64 p.2.1) ∧ (opts l)[i * 3 + 2]? = some (.bool p.2.2) :=
  ⟨flat3 _ (fun _ => rfl) l i p h 0 (by decide), flat3 _ (fun _ => rfl) l i p h 1 (by decide), flat3 _ (fun _ => rfl) l i p h 2 (by decide)⟩
theorem prts_len (l : List Prt) : (prts l).length = l.length * 3 := flat3_len _ (fun _ => rfl) l
theorem opts_len (l : List (Int × Int × Bool)) : (opts l).length = l.length * 3 := flat3_len _ (fun _ => rfl) l

/-- the nine cells of a glyph -/
structure GlAt (w : World) (B : Nat) (g : Gl) (cs : List Value) : Prop where
  is : ∃ c0 c1 c2 pA pc eA ec qA qc c6 c7 c8, cs = [c0, c1, c2, .slice pA g.pts.length pc, .slice eA g.ends.length ec, .slice qA g.parts.length qc, c6, c7, c8] ∧
    g.pts.length ≤ pc ∧ g.ends.length ≤ ec ∧ g.parts.length ≤ qc ∧ Reads w B 3 pA g.pts.length (opts g.pts) ∧ Reads w B 1 eA g.ends.length (ints g.ends) ∧ Reads w B 3 qA g.parts.length (prts g.parts)
  pts : g.pts.length ≤ 1000000 ∧ ∀ p ∈ g.pts, I64 p.1 ∧ I64 p.2.1
  ends : g.ends.length ≤ 1000000 ∧ ∀ p ∈ g.ends, I64 p
  parts : g.parts.length ≤ 1000 ∧ ∀ p ∈ g.parts, I64 p.1 ∧ I64 p.2.1 ∧ I64 p.2.2
theorem GlAt.keep {w w' : World} {B : Nat} {g : Gl} {cs : List Value} (h : GlAt w B g cs) (hk : ∀ p : Addr, p.block < B → w'.cell? p = w.cell? p) : GlAt w' B g cs := by
  obtain ⟨c0, c1, c2, pA, pc, eA, ec, qA, qc, c6, c7, c8, e, h1, h2, h3, h4, h5, h6⟩ := h.is
  exact ⟨⟨c0, c1, c2, pA, pc, eA, ec, qA, qc, c6, c7, c8, e, h1, h2, h3, h4.keep hk, h5.keep hk, h6.keep hk⟩, h.pts, h.ends, h.parts⟩
theorem GlAt.more {w : World} {B B' : Nat} {g : Gl} {cs : List Value} (h : GlAt w B g cs) (hB : B ≤ B') : GlAt w B' g cs := by
  obtain ⟨c0, c1, c2, pA, pc, eA, ec, qA, qc, c6, c7, c8, e, h1, h2, h3, h4, h5, h6⟩ := h.is
  exact ⟨⟨c0, c1, c2, pA, pc, eA, ec, qA, qc, c6, c7, c8, e, h1, h2, h3, h4.more hB, h5.more hB, h6.more hB⟩, h.pts, h.ends, h.parts⟩
/-- a font's glyphs, from address A on, in blocks below B -/
structure FAt (w : World) (B : Nat) (A : Option Addr) (gl : List Gl) : Prop where
  is : ∃ css : List (List Value), css.length = gl.length ∧ (∀ (i : Nat) g cs, gl[i]? = some g → css[i]? = some cs → GlAt w B g cs) ∧ Reads w B 9 A gl.length css.flatten
  few : gl.length ≤ 1000
theorem FAt.keep {w w' : World} {B : Nat} {A : Option Addr} {gl : List Gl} (h : FAt w B A gl) (hk : ∀ p : Addr, p.block < B → w'.cell? p = w.cell? p) : FAt w' B A gl := by
  obtain ⟨css, h1, h2, h3⟩ := h.is
  exact ⟨⟨css, h1, fun i g cs a b => (h2 i g cs a b).keep hk, h3.keep hk⟩, h.few⟩
theorem FAt.more {w : World} {B B' : Nat} {A : Option Addr} {gl : List Gl} (h : FAt w B A gl) (hB : B ≤ B') : FAt w B' A gl := by
  obtain ⟨css, h1, h2, h3⟩ := h.is
  exact ⟨⟨css, h1, fun i g cs a b => (h2 i g cs a b).more hB, h3.more hB⟩, h.few⟩
theorem FAt.below {w w' : World} {B C : Nat} {A : Option Addr} {gl : List Gl} (h : FAt w B A gl) (hb : Below C w w') (hC : B ≤ C) : FAt w' B A gl := h.keep fun _ hp => hb.cell (by omega)
/-- a glyph's cells, where they lie -/
theorem FAt.get {w : World} {B : Nat} {A : Option Addr} {gl : List Gl} (h : FAt w B A gl) {i : Nat} {g : Gl} (hi : gl[i]? = some g) :
    ∃ b off cs, A = some ⟨b, off, none⟩ ∧ b < B ∧ GlAt w B g cs ∧ ∀ j u, cs[j]? = some u → w.cell? ⟨b, off + i * 9 + j, none⟩ = some u := by
  obtain ⟨css, h1, h2, h3⟩ := h.is
  have hl : i < gl.length := (List.getElem?_eq_some_iff.1 hi).1
  obtain ⟨cs, hcs⟩ : ∃ cs, css[i]? = some cs := ⟨_, List.getElem?_eq_getElem (by omega)⟩
  obtain ⟨b, off, e, hb, hc⟩ := h3.2 (by omega)
  refine ⟨b, off, cs, e, hb, h2 i g cs hi hcs, fun j u hj => ?_⟩
  rw [Nat.add_assoc]
  refine hc _ _ ((flatten_get css (n := 9) fun cs' hcs' => ?_).2 i j cs u hcs hj)
  obtain ⟨k, hk⟩ := List.mem_iff_getElem?.1 hcs'
  have hkl : k < css.length := (List.getElem?_eq_some_iff.1 hk).1
  obtain ⟨c0, c1, c2, pA, pc, eA, ec, qA, qc, c6, c7, c8, e, _⟩ := (h2 k _ cs' (List.getElem?_eq_getElem (by omega)) hk).is
  rw [e]; rfl
/-- a glyph's parts, where they lie -/
theorem FAt.parts {w : World} {B : Nat} {A : Option Addr} {gl : List Gl} (h : FAt w B A gl) {i : Nat} {g : Gl} (hi : gl[i]? = some g) :
    ∃ b off qA qc, A = some ⟨b, off, none⟩ ∧ b < B ∧ w.cell? ⟨b, off + i * 9 + 5, none⟩ = some (.slice qA g.parts.length qc) ∧ g.parts.length ≤ qc ∧ Reads w B 3 qA g.parts.length (prts g.parts) ∧ g.parts.length ≤ 1000 ∧ ∀ p ∈ g.parts, I64 p.1 ∧ I64 p.2.1 ∧ I64 p.2.2 := by
  obtain ⟨b, off, cs, e, hb, hg, hc⟩ := h.get hi
  obtain ⟨c0, c1, c2, pA, pc, eA, ec, qA, qc, c6, c7, c8, e1, _, _, h3, _, _, h6⟩ := hg.is
  exact ⟨b, off, qA, qc, e, hb, hc 5 _ (by rw [e1]; rfl), h3, h6, hg.parts⟩
/-- a glyph's outline, where it lies -/
theorem FAt.outline {w : World} {B : Nat} {A : Option Addr} {gl : List Gl} (h : FAt w B A gl) {i : Nat} {g : Gl} (hi : gl[i]? = some g) :
    ∃ b off pA pc eA ec, A = some ⟨b, off, none⟩ ∧ b < B ∧ w.cell? ⟨b, off + i * 9 + 3, none⟩ = some (.slice pA g.pts.length pc) ∧ w.cell? ⟨b, off + i * 9 + 4, none⟩ = some (.slice eA g.ends.length ec) ∧
      g.pts.length ≤ pc ∧ g.ends.length ≤ ec ∧ Reads w B 3 pA g.pts.length (opts g.pts) ∧ Reads w B 1 eA g.ends.length (ints g.ends) ∧ (g.pts.length ≤ 1000000 ∧ ∀ p ∈ g.pts, I64 p.1 ∧ I64 p.2.1) ∧ g.ends.length ≤ 1000000 ∧ ∀ p ∈ g.ends, I64 p := by
  obtain ⟨b, off, cs, e, hb, hg, hc⟩ := h.get hi
  obtain ⟨c0, c1, c2, pA, pc, eA, ec, qA, qc, c6, c7, c8, e1, h1, h2, h3, h4, h5, h6⟩ := hg.is
  exact ⟨b, off, pA, pc, eA, ec, e, hb, hc 3 _ (by rw [e1]; rfl), hc 4 _ (by rw [e1]; rfl), h1, h2, h4, h5, hg.pts, hg.ends⟩

/-- a font's nine cells -/
structure Fv where
  u : Value
  A : Option Addr
  n : Nat
  c : Nat
  d2 : Value
  d3 : Value
  d4 : Value
  d5 : Value
  d6 : Value
  d7 : Value
  d8 : Value
abbrev Fv.cs (v : Fv) : Array Value := #[v.u, .slice v.A v.n v.c, v.d2, v.d3, v.d4, v.d5, v.d6, v.d7, v.d8]
def thereB (n : Nat) (g : Int) : Bool := decide (0 ≤ g ∧ g < n)
/-- the parts whose glyphs there are -/
def psOf (n : Nat) (l : List Prt) : List Prt := l.filter fun p => thereB n p.1
def partsOf (gl : List Gl) (g : Nat) : List Prt := psOf gl.length ((gl[g]?.map Gl.parts).getD [])

set_option maxHeartbeats 400000 in
theorem there_any (v : Fv) (g : Int) (w : World) (hn : v.n ≤ 1000000) (hg : I64 g) :
    Calls Try.prog 23 #[.agg v.cs, .int .i64 g] w fun e w' => e = .returned (.bool (thereB v.n g)) ∧ w' = w.alloc (.cells v.cs 32) := by
  unfold I64 at hg
  by_cases h0 : 0 ≤ g
  · by_cases h1 : g < v.n
    · go_enter Try.func23, Try.ntmps23
      go_wp2
      go_ret
      exact ⟨ret_bool (by simp [thereB, h0, h1]), rfl⟩
    · go_enter Try.func23, Try.ntmps23
      go_wp2
      go_ret
      exact ⟨ret_bool (by simp [thereB, h0, h1]), rfl⟩
  · go_enter Try.func23, Try.ntmps23
    go_wp2
    go_ret
    exact ⟨ret_bool (by simp [thereB]; omega), rfl⟩

theorem parts_any (v : Fv) (g : Int) (w : World) :
    Calls Try.prog 33 #[.agg v.cs, .int .i64 g] w fun e w' => e = .returned (.func (.func 53) #[] #[.pointer (some ⟨w.heap.size, 0, none⟩), .pointer (some ⟨w.heap.size + 1, 0, none⟩)]) ∧
      w' = (w.alloc (.cells v.cs 32)).alloc (.cells #[.int .i64 g] 3) := by
  go_enter Try.func33, Try.ntmps33
  go_wp2
  go_ret
  exact ⟨rfl, rfl⟩
/-- what a round keeps: what lay below n0, and the font's box -/
def KpP (n0 X : Nat) (W W' : World) : Prop := Below n0 W W' ∧ W'.heap[X]? = W.heap[X]?
theorem kpP_t {n0 X : Nat} {A B C : World} (h : KpP n0 X A B) (k : KpP n0 X B C) : KpP n0 X A C := ⟨h.1.trans k.1, k.2.trans h.2⟩
theorem below_putObj {n0 : Nat} (W : World) (l : Nat) (o : Obj) (hl : n0 ≤ l) : Below n0 W (W.putObj l o) :=
  ⟨rfl, rfl, rfl, by simp, fun k hk => World.putObj_heap_other (by omega)⟩
theorem kpP_put {n0 X : Nat} (W : World) (l : Nat) (o : Obj) (hl : n0 ≤ l) (hX : X ≠ l) : KpP n0 X W (W.putObj l o) := ⟨below_putObj W l o hl, World.putObj_heap_other hX⟩
abbrev PartOf (gl : List Gl) (g : Nat) := {p : Prt // p ∈ partsOf gl g}
def pv (p : Prt) : Value := .agg #[.int .i64 p.1, .int .i64 p.2.1, .int .i64 p.2.2]
theorem mem_psOf {n : Nat} {l : List Prt} {p : Prt} (h : p ∈ psOf n l) : p ∈ l ∧ 0 ≤ p.1 ∧ p.1 < n := by
  simp only [psOf, List.mem_filter, thereB, decide_eq_true_eq] at h
  exact h
theorem psOf_take {n : Nat} {l : List Prt} {k : Nat} {p : Prt} (h : l[k]? = some p) : psOf n (l.take (k + 1)) = psOf n (l.take k) ++ if thereB n p.1 = true then [p] else [] := by
  rw [List.take_add_one, h]
  simp only [psOf, List.filter_append, Option.toList]
  congr 1
  by_cases hb : thereB n p.1 = true
  · rw [if_pos hb, List.filter_cons_of_pos (p := fun q : Prt => thereB n q.1) hb]; rfl
  · rw [if_neg hb, List.filter_cons_of_neg (p := fun q : Prt => thereB n q.1) hb]; rfl
theorem psOf_mem_take {n : Nat} {l : List Prt} {k : Nat} {p : Prt} (h : p ∈ psOf n (l.take k)) : p ∈ psOf n l := by
  simp only [psOf, List.mem_filter] at h ⊢
  exact ⟨List.mem_of_mem_take h.1, h.2⟩
theorem psOf_len_take {n : Nat} {l : List Prt} (k : Nat) : (psOf n (l.take k)).length ≤ (psOf n l).length := by
  unfold psOf
  exact ((List.take_sublist k l).filter _).length_le

theorem abides_grow {β : Type} {B : Nat} {J : β → World → Prop} (h : AbidesFrom B J) {x : β} {W : World} (hj : J x W) (o : Obj) : J x (W.alloc o) :=
  h x W _ none hj (World.grownBy_alloc _ _ _) (fun r e => by cases e)
theorem kpP_alloc {n0 X : Nat} (W : World) (o : Obj) (hn : n0 ≤ W.heap.size) (hX : X < W.heap.size) : KpP n0 X W (W.alloc o) := ⟨(Below.refl _ _).alloc hn _, Below.heap_alloc _ _ _ hX⟩
set_option maxRecDepth 100000 in
set_option maxHeartbeats 2000000 in
theorem parts_in (n l X Y n0 : Nat) (v : Fv) (gl : List Gl) (g : Nat) (J Jx : List (PartOf gl g) → World → Prop) (hn : 1 ≤ n)
    (hY : ∀ pre x W, J pre W → pre.length < (partsOf gl g).length → YieldAt Fence.wide (n - 1) Try.prog l #[pv x.1] W fun e W' =>
      (e = .returned (.bool true) ∧ J (pre ++ [x]) W' ∧ KpP n0 X W W') ∨ (e = .returned (.bool false) ∧ Jx (pre ++ [x]) W'))
    {N1 : Nat} (hJ : AbidesFrom N1 J)
    (W : World) (hX : Blk W X 32 v.cs) (hYb : W.cell? ⟨Y, 0, none⟩ = some (.int .i64 g)) (hv : v.n = gl.length) (hf : FAt W n0 v.A gl) (hn0 : n0 ≤ W.heap.size) (hg : g < gl.length) (h0 : J [] W) :
    CallsIn Fence.wide n Try.prog 53 #[.func (.yield l) #[] #[], .pointer (some ⟨X, 0, none⟩), .pointer (some ⟨Y, 0, none⟩)] W fun e W' => (∃ v, e = .returned v) ∧
      ((∃ ys : List (PartOf gl g), ys.map (·.1) = partsOf gl g ∧ J ys W') ∨ (∃ pre, True ∧ Jx pre W')) := by
  obtain ⟨gg, hgg⟩ : ∃ gg, gl[g]? = some gg := ⟨_, List.getElem?_eq_getElem hg⟩
  obtain ⟨b, off, qA, qc, hA, hb, hc5, hqc, hq, hql, hqi⟩ := hf.parts hgg
  have hpo : partsOf gl g = psOf gl.length gg.parts := by simp [partsOf, hgg]
  have hfew := hf.few
  have x0 := hX.cell 0
  have x1 := hX.cell 1
  have xl := hX.lt
  have yl := World.block_lt_of_cell? W _ hYb
  have bl := World.block_lt_of_cell? W _ hc5
  simp only [List.getElem?_toArray, List.getElem?_cons_zero, List.getElem?_cons_succ] at x0 x1 xl yl bl
  have HX := Lib.hid hX
  have HPO := Lib.hid hpo
  have HY := Lib.hid hY
  have HJ := Lib.hid hJ
  have HV := Lib.hid hv
  have HQ := Lib.hid hq
  have HQI := Lib.hid hqi
  have HGG := Lib.hid hgg
  obtain ⟨m, hm⟩ : ∃ m, m = gg.parts.length := ⟨_, rfl⟩
  rw [← hm] at hc5 hqc hql
  have HM := Lib.hid hm
  obtain ⟨vu, vA, vn, vc, d2, d3, d4, d5, d6, d7, d8⟩ := v
  simp only at hA x0 x1 HV
  subst hA
  clear hX hpo hY hJ hv hq hqi hm hf hgg
  refine callsIn_of_wp Try.func53 rfl trivial ?_ rfl
  simp only [Try.ntmps53, List.size_toArray, List.length_cons, List.length_nil, Nat.reduceAdd, Nat.reduceSub, Array.replicate_succ, Array.replicate_zero, List.push_toArray, List.append_toArray, List.nil_append, List.cons_append]
  have hgn : g < vn := by have : vn = gl.length := HV.out; omega
  gi_wp2_with fail
  gi_loopw [13] (fun i wr => ∃ (k : Nat) (pre : List (PartOf gl g)), k ≤ m ∧ i = .int .i64 k ∧ pre.map (·.1) = psOf gl.length (gg.parts.take k) ∧ J pre wr ∧ KpP n0 X W wr) (fun i _ => m - (intOf i).toNat)
  case atStart => exact ⟨0, [], Nat.zero_le _, rfl, by simp [psOf], h0, Below.refl _ _, rfl⟩
  case round =>
    obtain ⟨k, pre, hk, rfl, hpre, hJ0, hK0⟩ := hrel
    have hPRE := Lib.hid hpre
    have hK := Lib.hid hK0
    have hsz := hK0.1.size
    have xl' : X < wr.heap.size := by omega
    have hXr : Blk wr X 32 #[vu, .slice (some ⟨b, off, none⟩) vn vc, d2, d3, d4, d5, d6, d7, d8] := hK0.2.trans HX.out
    have y0 := hXr.cell 0
    have y1 := hXr.cell 1
    have y2 := hXr.cell 2
    have y3 := hXr.cell 3
    have y4 := hXr.cell 4
    have y5 := hXr.cell 5
    have y6 := hXr.cell 6
    have y7 := hXr.cell 7
    have y8 := hXr.cell 8
    simp only [List.getElem?_toArray, List.getElem?_cons_zero, List.getElem?_cons_succ] at y0 y1 y2 y3 y4 y5 y6 y7 y8
    have HJ0 := Lib.hid hJ0
    clear hpre hK0 hJ0 x0 x1 hc5 hXr
    by_cases hlt : k < m
    · obtain ⟨⟨pg, px, py⟩, hp⟩ : ∃ p, gg.parts[k]? = some p := ⟨_, List.getElem?_eq_getElem (by have := HM.out; omega)⟩
      obtain ⟨c1, c2, c3⟩ := prts_at hp
      obtain ⟨q1, q2, q3⟩ := HQI.out _ (List.mem_of_getElem? hp)
      obtain ⟨qb, qo, hqA, hqb, hqc2⟩ := HQ.out.at_ (by have := HM.out; omega)
      have z1 := (hK.out.1.cell (p := ⟨qb, qo + k * 3, none⟩) hqb).trans (hqc2 _ _ c1)
      have z2 := (hK.out.1.cell (p := ⟨qb, qo + (k * 3 + 1), none⟩) hqb).trans (hqc2 _ _ c2)
      have z3 := (hK.out.1.cell (p := ⟨qb, qo + (k * 3 + 2), none⟩) hqb).trans (hqc2 _ _ c3)
      simp only [← Nat.add_assoc] at z1 z2 z3
      have zl : qb < wr.heap.size := by omega
      subst hqA
      have HP := Lib.hid hp
      have HT := Lib.hid (psOf_take (n := gl.length) hp)
      clear hp c1 c2 c3 hqc2
      have hgi : I64 pg := q1
      by_cases hth : thereB vn pg = true
      · have hmem : (pg, px, py) ∈ partsOf gl g := by
          rw [HPO.out]
          simp only [psOf, List.mem_filter]
          have e : vn = gl.length := HV.out
          exact ⟨List.mem_of_getElem? HP.out, e ▸ hth⟩
        obtain ⟨x, hx⟩ : ∃ x : PartOf gl g, x.1 = (pg, px, py) := ⟨⟨_, hmem⟩, rfl⟩
        clear hmem
        obtain ⟨fn, tmps, assign, body, hy, hR⟩ := HY.out pre x ((wr.alloc (.cells #[.int .i64 pg, .int .i64 px, .int .i64 py] 48)).alloc (.cells #[vu, .slice (some ⟨b, off, none⟩) vn vc, d2, d3, d4, d5, d6, d7, d8] 32)) (abides_grow HJ.out (abides_grow HJ.out HJ0.out _) _) (by
          have e1 := congrArg List.length hPRE.out
          have e2 := congrArg List.length HT.out
          rw [if_pos (by have e : vn = gl.length := HV.out; exact e ▸ hth)] at e2
          simp only [List.length_map, List.length_append, List.length_singleton] at e1 e2
          have e3 := psOf_len_take (n := gl.length) (l := gg.parts) (k + 1)
          rw [HPO.out]
          omega)
        rw [hx] at hy
        simp only [pv] at hy
        have HXE := Lib.hid hx
        have HR := Lib.hid hR
        have hth' : thereB vn pg = true := hth
        clear hx hR hth
        gi_wp2_with fail
        refine ⟨trivial, ?_⟩
        refine (callsIn_wide.2 (there_any ⟨vu, (some ⟨b, off, none⟩), vn, vc, d2, d3, d4, d5, d6, d7, d8⟩ pg _ (by have e : vn = gl.length := HV.out; simp only; omega) hgi)).mono ?_
        rintro e w' ⟨rfl, rfl⟩
        rw [show thereB (Fv.n ⟨vu, (some ⟨b, off, none⟩), vn, vc, d2, d3, d4, d5, d6, d7, d8⟩) pg = true from hth']
        gi_wp2_with fail
        refine HR.out.mono ?_
        rintro e W3 (⟨rfl, hJ3, hk3⟩ | ⟨rfl, hJx3⟩)
        · have HJ3 := Lib.hid hJ3
          have HK3 := Lib.hid (kpP_t hK.out (kpP_t (kpP_t (kpP_alloc _ _ (by have := hK.out.1.size; omega) xl') (kpP_alloc _ _ (by have := hK.out.1.size; simp; omega) (by simp; omega))) hk3))
          clear hJ3 hk3
          gi_wp2_with fail
          go_roundw
          case rel => exact ⟨k + 1, pre ++ [x], by omega, by go_num, by rw [List.map_append, hPRE.out, HT.out, if_pos (by have e : vn = gl.length := HV.out; exact e ▸ hth'), List.map_singleton, HXE.out], HJ3.out, HK3.out⟩
          case measure => simp [intOf]; omega
        · gi_wp2
          refine bodyPost_ret (results_none rfl _ _ _) rfl ?_
          exact ⟨⟨_, rfl⟩, .inr ⟨_, trivial, hJx3⟩⟩
      · have hth' : thereB vn pg = false := by simpa using hth
        have HK3 := Lib.hid (kpP_t hK.out (kpP_t (kpP_alloc (o := .cells #[.int .i64 pg, .int .i64 px, .int .i64 py] 48) _ (by have := hK.out.1.size; omega) xl') (kpP_alloc (o := .cells #[vu, .slice (some ⟨b, off, none⟩) vn vc, d2, d3, d4, d5, d6, d7, d8] 32) _ (by have := hK.out.1.size; simp; omega) (by simp; omega))))
        have HJ3 := Lib.hid (abides_grow HJ.out (abides_grow HJ.out HJ0.out (.cells #[.int .i64 pg, .int .i64 px, .int .i64 py] 48)) (.cells #[vu, .slice (some ⟨b, off, none⟩) vn vc, d2, d3, d4, d5, d6, d7, d8] 32))
        clear hth
        gi_wp2_with fail
        refine ⟨trivial, ?_⟩
        refine (callsIn_wide.2 (there_any ⟨vu, (some ⟨b, off, none⟩), vn, vc, d2, d3, d4, d5, d6, d7, d8⟩ pg _ (by have e : vn = gl.length := HV.out; simp only; omega) hgi)).mono ?_
        rintro e w' ⟨rfl, rfl⟩
        rw [show thereB (Fv.n ⟨vu, (some ⟨b, off, none⟩), vn, vc, d2, d3, d4, d5, d6, d7, d8⟩) pg = false from hth']
        gi_wp2_with fail
        refine ⟨fun _ h => (by cases h), ?_⟩
        gi_wp2_with fail
        go_roundw
        case rel => exact ⟨k + 1, pre, by omega, by go_num, by rw [hPRE.out, HT.out, if_neg (by have e : vn = gl.length := HV.out; rw [← e, hth']; decide), List.append_nil], HJ3.out, HK3.out⟩
        case measure => simp [intOf]; omega
    · obtain rfl : k = m := by omega
      gi_wp2
      go_end0
      exact ⟨⟨_, rfl⟩, .inl ⟨pre, by rw [hPRE.out, HPO.out, HM.out, List.take_length], HJ0.out⟩⟩

theorem parts_stops (n X Y n0 : Nat) (v : Fv) (gl : List Gl) (g : Nat) (hn : 1 ≤ n) (w : World) (hX : Blk w X 32 v.cs) (hY : w.cell? ⟨Y, 0, none⟩ = some (.int .i64 g)) (hv : v.n = gl.length) (hf : FAt w n0 v.A gl) (hn0 : n0 ≤ w.heap.size) (hg : g < gl.length) :
    SeqStopsK Fence.wide n Try.prog 53 #[.pointer (some ⟨X, 0, none⟩), .pointer (some ⟨Y, 0, none⟩)] (fun x : PartOf gl g => #[pv x.1]) (KpP n0 X) (fun ys => ys.map (·.1) = partsOf gl g) (fun _ => True) (partsOf gl g).length w := by
  intro l J Jx W hW hJ _ hYi h0
  have yl := World.block_lt_of_cell? w _ hY
  have hs := hW.size
  exact parts_in n l X Y n0 v gl g J Jx hn hYi hJ W (hX.below hW hX.lt) ((hW.cell (p := ⟨Y, 0, none⟩) yl).trans hY) hv (hf.below hW hn0) (by omega) hg h0
end Go.Proofs.Ytoklllbaihccnaa

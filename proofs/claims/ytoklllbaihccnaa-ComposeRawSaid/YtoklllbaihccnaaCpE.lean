/- fleuronref04.Made: its contract. Expanded from XCpE.src by expand.py. -/
import Derived.Test.YtoklllbaihccnaaCpD
set_option linter.unusedVariables false
set_option linter.unusedSimpArgs false
namespace Go.Proofs.Ytoklllbaihccnaa
open Go.RowKit Go.Shelf
namespace M4
def glyph (i : Nat) : Gl := if i % 3 = 2 then ⟨[], [], []⟩ else ⟨[], [((i : Int), 1, true), (10 * (i : Int), 2, false)], [1]⟩
def num (s : List Int) : Nat := match s with
  | [] => 1
  | x :: _ => (1 + x % 8).toNat
def kOf (n : Nat) (loops : Bool) (x : Int) : Int := if loops = false ∧ 0 ≤ (x.tdiv 8) % (n + 1) - 1 ∧ (x.tdiv 8) % (n + 1) - 1 ≤ x % n then x % n + 1 else (x.tdiv 8) % (n + 1) - 1
def part (n : Nat) (loops : Bool) (x : Int) : Prt := (kOf n loops x, x % 50, (x.tdiv 3) % 50 - 25)
def more (g : Gl) (p : Prt) : Gl := { g with parts := g.parts ++ [p] }
def add (n : Nat) (loops : Bool) (gl : List Gl) (x : Int) : List Gl :=
  if loops = false ∧ (n : Int) ≤ kOf n loops x then gl else gl.set (x % n).toNat (more (gl.getD (x % n).toNat ⟨[], [], []⟩) (part n loops x))
def made (s : List Int) (loops : Bool) : List Gl := ((s.drop 1).take 15).foldl (add (num s) loops) ((List.range (num s)).map glyph)
end M4
/-- a glyph's data while a font is made -/
structure Gd where
  g : Gl
  pA : Option Addr
  pc : Nat
  eA : Option Addr
  ec : Nat
  qv : Value
abbrev gcells (d : Gd) : List Value := [.string ⟨#[]⟩, .int .i64 0, .bool false, .slice d.pA d.g.pts.length d.pc, .slice d.eA d.g.ends.length d.ec, d.qv, .slice none 0 0, .slice none 0 0, .slice none 0 0]
abbrev fontC (gv : Value) : Array Value := #[.int .i64 0, gv, .slice none 0 0, .slice none 0 0, .slice none 0 0, .slice none 0 0, .slice none 0 0, .slice none 0 0, .slice none 0 0]
/-- a row that lies in a block of its own, whole -/
def Rd (W : World) (t : TypeId) (A : Option Addr) (xs : List Value) : Prop := xs = [] ∨ ∃ b cs, A = some ⟨b, 0, none⟩ ∧ Blk W b t cs ∧ cs.toList = xs
theorem Rd.keep {W W' : World} {t : TypeId} {A : Option Addr} {xs : List Value} (h : Rd W t A xs) (k : ∀ b cs, Blk W b t cs → Blk W' b t cs) : Rd W' t A xs := by
  rcases h with h | ⟨b, cs, e, hb, hc⟩
  · exact .inl h
  · exact .inr ⟨b, cs, e, k _ _ hb, hc⟩
theorem Rd.reads {W : World} {t : TypeId} {A : Option Addr} {xs : List Value} {size n : Nat} (h : Rd W t A xs) (hn : xs.length = n * size) (hs : 0 < size) : Reads W W.heap.size size A n xs := by
  refine ⟨hn, fun h0 => ?_⟩
  rcases h with h | ⟨b, cs, e, hb, hc⟩
  · subst h
    have := Nat.mul_pos h0 hs
    simp at hn; omega
  · exact ⟨b, 0, e, hb.lt, fun j u hu => by rw [Nat.zero_add, hb.cell]; rw [← hc] at hu; simpa using hu⟩
structure MkS (w W : World) (fb : Nat) (gv : Value) (ds : List Gd) : Prop where
  box : Blk W fb 32 (fontC gv)
  row : W.ownsRow w.heap.size 45 9 gv ds.length (ds.flatMap gcells)
  pts : ∀ d ∈ ds, Rd W 59 d.pA (opts d.g.pts) ∧ d.g.pts.length ≤ d.pc ∧ Rd W 3 d.eA (ints d.g.ends) ∧ d.g.ends.length ≤ d.ec
  parts : ∀ d ∈ ds, W.ownsRow w.heap.size 48 3 d.qv d.g.parts.length (prts d.g.parts)
  ap : ∀ (i j : Nat) di dj, i ≠ j → ds[i]? = some di → ds[j]? = some dj → Apart di.qv dj.qv
  gr : Grow w W
  fbb : w.heap.size < fb
  res : Blk W w.heap.size 32 (fontC (.slice none 0 0))
section
variable {w W W' w6 : World} {fb : Nat} {gv : Value} {ds : List Gd}
theorem flat9_len (l : List Gd) : (l.flatMap gcells).length = l.length * 9 := by
  induction l with
  | nil => rfl
  | cons a l ih => rw [List.flatMap_cons, List.length_append, ih, List.length_cons]; simp; omega
theorem flat9_set : ∀ {l : List Gd} {a : Nat} {d d' : Gd} {j : Nat} {u : Value}, l[a]? = some d → j < 9 → gcells d' = (gcells d).set j u → (l.flatMap gcells).set (a * 9 + j) u = (l.set a d').flatMap gcells
  | [], _, _, _, _, _, h, _, _ => by simp at h
  | b :: l, 0, d, d', j, u, h, hj, e => by
    simp only [List.getElem?_cons_zero, Option.some.injEq] at h
    subst h
    rw [List.set_cons_zero, List.flatMap_cons, List.flatMap_cons, Nat.zero_mul, Nat.zero_add, List.set_append_left _ _ (by simpa using hj), e]
  | b :: l, a + 1, d, d', j, u, h, hj, e => by
    rw [List.set_cons_succ, List.flatMap_cons, List.flatMap_cons, List.set_append_right _ _ (by simp; omega)]
    have := flat9_set (l := l) (a := a) (d := d) (d' := d') (j := j) (u := u) (by simpa using h) hj e
    rw [← this]
    congr 2
    simp; omega
theorem flat9_get : ∀ {l : List Gd} {a : Nat} {d : Gd}, l[a]? = some d → ∀ j, j < 9 → (l.flatMap gcells)[a * 9 + j]? = (gcells d)[j]?
  | [], _, _, h, _, _ => by simp at h
  | b :: l, 0, d, h, j, hj => by
    simp only [List.getElem?_cons_zero, Option.some.injEq] at h
    subst h
    rw [List.flatMap_cons, Nat.zero_mul, Nat.zero_add, List.getElem?_append_left (by simpa using hj)]
  | b :: l, a + 1, d, h, j, hj => by
    rw [List.flatMap_cons, List.getElem?_append_right (by simp; omega)]
    have := flat9_get (l := l) (a := a) (d := d) (by simpa using h) j hj
    rw [← this]
    congr 1
    simp; omega
theorem MkS.grow (h : MkS w W fb gv ds) (hg : Grow W W') : MkS w W' fb gv ds :=
  ⟨hg.blk h.box fun x => x, owns_grow h.row hg, fun d hd => by
    obtain ⟨a1, a2, a3, a4⟩ := h.pts d hd
    exact ⟨a1.keep fun b cs hb => hg.blk hb fun x => x, a2, a3.keep fun b cs hb => hg.blk hb fun x => x, a4⟩, fun d hd => owns_grow (h.parts d hd) hg, h.ap, h.gr.trans hg, h.fbb, hg.blk h.res fun x => x⟩
/-- one glyph more -/
theorem MkS.glyph (h : MkS w W fb gv ds) {d : Gd} {v' : Value} (ho : w6.ownsRow w.heap.size 45 9 v' (ds.length + 1) (ds.flatMap gcells ++ gcells d)) (hg : W.grownBy w6 gv.ownBlock)
    (h1 : Rd W 59 d.pA (opts d.g.pts) ∧ d.g.pts.length ≤ d.pc ∧ Rd W 3 d.eA (ints d.g.ends) ∧ d.g.ends.length ≤ d.ec) (h2 : d.g.parts = [] ∧ d.qv = .slice none 0 0) :
    Blk w6 fb 32 (fontC gv) ∧ MkS w (w6.setCell ⟨fb, 1, none⟩ v') fb v' (ds ++ [d]) := by
  have hpb : ∀ g, gv.ownBlock = some g → w.heap.size ≤ g ∧ ∃ cs, Blk W g 45 cs := fun g e => ⟨(owns_block h.row e).1, (owns_block h.row e).2.2⟩
  have k : ∀ g t cs, Blk W g t cs → t ≠ 45 → Blk w6 g t cs := fun g t cs h ht => (hg.block g h.lt (fun e => by obtain ⟨_, cs', h'⟩ := hpb g e.symm; exact h.ne_ h' ht rfl)).trans h
  have b6 := k _ _ _ h.box (by decide)
  have k2 : ∀ g t cs, Blk W g t cs → t ≠ 45 → t ≠ 32 → Blk (w6.setCell ⟨fb, 1, none⟩ v') g t cs := fun g t cs hb h1 h2 => (k g t cs hb h1).far (p := ⟨fb, 1, none⟩) (hb.ne_ h.box h2) v'
  have k3 : ∀ {n : Nat} {u : Value} {xs : List Value}, W.ownsRow w.heap.size 48 3 u n xs → (w6.setCell ⟨fb, 1, none⟩ v').ownsRow w.heap.size 48 3 u n xs := fun ho => owns_keep ho fun g e => by
    obtain ⟨_, _, cs, hb⟩ := owns_block ho e
    rw [show (w6.setCell ⟨fb, 1, none⟩ v').heap[g]? = _ from k2 g _ _ hb (by decide) (by decide)]; exact hb.symm
  refine ⟨b6, ?_, ?_, fun d' hd' => ?_, fun d' hd' => ?_, fun i j di dj hij hi hj => ?_, ?_, h.fbb, (k _ _ _ h.res (by decide)).far (p := ⟨fb, 1, none⟩) (by have := h.fbb; simp only; omega) _⟩
  · have := b6.set_ 1 v'
    simpa [fontC] using this
  · show World.ownsRow _ _ _ _ _ (ds ++ [d]).length ((ds ++ [d]).flatMap gcells)
    rw [List.flatMap_append, List.length_append, List.length_singleton, List.flatMap_singleton]
    exact owns_set ho b6 (by decide) 1 v'
  · have hx : Rd W 59 d'.pA (opts d'.g.pts) ∧ d'.g.pts.length ≤ d'.pc ∧ Rd W 3 d'.eA (ints d'.g.ends) ∧ d'.g.ends.length ≤ d'.ec := by
      rcases List.mem_append.1 hd' with hd' | hd'
      · exact h.pts d' hd'
      · simp only [List.mem_singleton] at hd'; rw [hd']; exact h1
    obtain ⟨a1, a2, a3, a4⟩ := hx
    exact ⟨a1.keep fun b cs hb => k2 _ _ _ hb (by decide) (by decide), a2, a3.keep fun b cs hb => k2 _ _ _ hb (by decide) (by decide), a4⟩
  · rcases List.mem_append.1 hd' with hd' | hd'
    · exact k3 (h.parts d' hd')
    · simp only [List.mem_singleton] at hd'; rw [hd', h2.1, h2.2]; exact owns_nil _ _ _ _
  · rw [List.getElem?_append] at hi hj
    split at hi
    · split at hj
      · exact h.ap i j di dj hij hi hj
      · have e : dj = d := by
          cases hjx : j - ds.length with
          | zero => rw [hjx] at hj; simp at hj; exact hj.symm
          | succ m => rw [hjx] at hj; simp at hj
        rw [e, h2.2]; exact apart_nil.symm
    · have e : di = d := by
        cases hix : i - ds.length with
        | zero => rw [hix] at hi; simp at hi; exact hi.symm
        | succ m => rw [hix] at hi; simp at hi
      rw [e, h2.2]; exact apart_nil
  · have f1 := h.gr.grown_ hg (fun r e => .inr (hpb r e).1)
    exact f1.setCell (p := ⟨fb, 1, none⟩) (.inr (Nat.le_of_lt h.fbb)) v'
/-- one part more -/
theorem MkS.part (h : MkS w W fb gv ds) {a gb c : Nat} {d : Gd} {v' : Value} {p : Prt} (hgv : gv = .slice (some ⟨gb, 0, none⟩) ds.length c) (hd : ds[a]? = some d) (ho : w6.ownsRow w.heap.size 48 3 v' (d.g.parts.length + 1) (prts d.g.parts ++ prts [p])) (hg : W.grownBy w6 d.qv.ownBlock)
    (hn : v'.ownBlock = d.qv.ownBlock ∨ v'.ownBlock = some W.heap.size) :
    (∀ g t cs, Blk W g t cs → t ≠ 48 → Blk w6 g t cs) ∧ MkS w (w6.setCell ⟨gb, a * 9 + 5, none⟩ v') fb gv (ds.set a { d with qv := v', g := M4.more d.g p }) := by
  have hdm := List.mem_of_getElem? hd
  have hpb : ∀ g, d.qv.ownBlock = some g → w.heap.size ≤ g ∧ ∃ cs, Blk W g 48 cs := fun g e => ⟨(owns_block (h.parts d hdm) e).1, (owns_block (h.parts d hdm) e).2.2⟩
  have k : ∀ g t cs, Blk W g t cs → t ≠ 48 → Blk w6 g t cs := fun g t cs h ht => (hg.block g h.lt (fun e => by obtain ⟨_, cs', h'⟩ := hpb g e.symm; exact h.ne_ h' ht rfl)).trans h
  obtain ⟨hgbb, _, gcs, hgb⟩ := owns_block h.row (show gv.ownBlock = some gb by rw [hgv]; rfl)
  have gb6 := k _ _ _ hgb (by decide)
  have k2 : ∀ g t cs, Blk W g t cs → t ≠ 48 → t ≠ 45 → Blk (w6.setCell ⟨gb, a * 9 + 5, none⟩ v') g t cs := fun g t cs hb h1 h2 => (k g t cs hb h1).far (p := ⟨gb, a * 9 + 5, none⟩) (hb.ne_ hgb h2) v'
  have hal : a < ds.length := (List.getElem?_eq_some_iff.1 hd).1
  have hnew : (w6.setCell ⟨gb, a * 9 + 5, none⟩ v').ownsRow w.heap.size 48 3 v' (d.g.parts.length + 1) (prts d.g.parts ++ prts [p]) := owns_set ho gb6 (by decide) _ _
  refine ⟨k, k2 _ _ _ h.box (by decide) (by decide), ?_, fun d' hd' => ?_, fun d' hd' => ?_, fun i j di dj hij hi hj => ?_, ?_, h.fbb, k2 _ _ _ h.res (by decide) (by decide)⟩
  · have hr : w6.ownsRow w.heap.size 45 9 gv ds.length (ds.flatMap gcells) := owns_grownBy h.row hg (apart_types h.row (h.parts d hdm) (by decide))
    rw [hgv] at hr ⊢
    have h2 := owns_setRow hr (a * 9 + 5) v'
    rw [flat9_set (d' := { d with qv := v', g := M4.more d.g p }) hd (by decide) (by simp [M4.more])] at h2
    rw [List.length_set]
    exact h2
  · have hx : Rd W 59 d'.pA (opts d'.g.pts) ∧ d'.g.pts.length ≤ d'.pc ∧ Rd W 3 d'.eA (ints d'.g.ends) ∧ d'.g.ends.length ≤ d'.ec := by
      rcases List.mem_or_eq_of_mem_set hd' with hd' | rfl
      · exact h.pts d' hd'
      · exact h.pts d hdm
    obtain ⟨a1, a2, a3, a4⟩ := hx
    exact ⟨a1.keep fun b cs hb => k2 _ _ _ hb (by decide) (by decide), a2, a3.keep fun b cs hb => k2 _ _ _ hb (by decide) (by decide), a4⟩
  · obtain ⟨i, hi⟩ := List.mem_iff_getElem?.1 hd'
    rw [List.getElem?_set] at hi
    split at hi
    · rename_i e
      simp only [hal, if_true, Option.some.injEq] at hi
      subst hi
      show World.ownsRow _ _ _ _ v' (d.g.parts ++ [p]).length (prts (d.g.parts ++ [p]))
      rw [show prts (d.g.parts ++ [p]) = prts d.g.parts ++ prts [p] by simp [prts], List.length_append, List.length_singleton]
      exact hnew
    · rename_i e
      have ha := h.ap i a d' d (Ne.symm e) hi hd
      exact owns_set (owns_grownBy (h.parts d' (List.mem_of_getElem? hi)) hg ha) gb6 (by decide) _ _
  · rw [List.getElem?_set] at hi hj
    have hpu : ∀ m dm, m ≠ a → ds[m]? = some dm → Apart v' dm.qv := fun m dm hm hdm2 => apart_pushed (h.parts dm (List.mem_of_getElem? hdm2)) (h.ap a m d dm (Ne.symm hm) hd hdm2) hn
    split at hi
    · rename_i e
      simp only [hal, if_true, Option.some.injEq] at hi
      subst hi
      split at hj
      · rename_i e2; exact absurd (e.symm.trans e2) hij
      · rename_i e2; exact hpu j dj (Ne.symm e2) hj
    · rename_i e
      split at hj
      · simp only [hal, if_true, Option.some.injEq] at hj
        subst hj
        exact (hpu i di (Ne.symm e) hi).symm
      · exact h.ap i j di dj hij hi hj
  · have f1 := h.gr.grown_ hg (fun r e => .inr (hpb r e).1)
    exact f1.setCell (p := ⟨gb, a * 9 + 5, none⟩) (.inr hgbb) v'
end
/-- a font's glyphs, each of whose cells holds one value -/
structure FOne (w : World) (B : Nat) (A : Option Addr) (gl : List Gl) : Prop where
  is : ∃ css : List (List Value), css.length = gl.length ∧ (∀ (i : Nat) g cs, gl[i]? = some g → css[i]? = some cs → GlAt w B g cs) ∧ Reads w B 9 A gl.length css.flatten ∧ ∀ cs ∈ css, ∀ u ∈ cs, u.oneCell' = true
  few : gl.length ≤ 1000
theorem FOne.fat {w : World} {B : Nat} {A : Option Addr} {gl : List Gl} (h : FOne w B A gl) : FAt w B A gl := by
  obtain ⟨css, h1, h2, h3, _⟩ := h.is
  exact ⟨⟨css, h1, h2, h3⟩, h.few⟩
theorem FOne.keep {w w' : World} {B : Nat} {A : Option Addr} {gl : List Gl} (h : FOne w B A gl) (hk : ∀ p : Addr, p.block < B → w'.cell? p = w.cell? p) : FOne w' B A gl := by
  obtain ⟨css, h1, h2, h3, h4⟩ := h.is
  exact ⟨⟨css, h1, fun i g cs a b => (h2 i g cs a b).keep hk, h3.keep hk, h4⟩, h.few⟩
theorem FOne.more {w : World} {B B' : Nat} {A : Option Addr} {gl : List Gl} (h : FOne w B A gl) (hB : B ≤ B') : FOne w B' A gl := by
  obtain ⟨css, h1, h2, h3, h4⟩ := h.is
  exact ⟨⟨css, h1, fun i g cs a b => (h2 i g cs a b).more hB, h3.more hB, h4⟩, h.few⟩
namespace M4
/-- j numbers have made parts -/
def upto (s : List Int) (n : Nat) (loops : Bool) (j : Nat) : List Gl := ((s.drop 1).take j).foldl (add n loops) ((List.range n).map glyph)
theorem add_len (n : Nat) (loops : Bool) (gl : List Gl) (x : Int) : (add n loops gl x).length = gl.length := by unfold add; split <;> simp
theorem upto_len (s : List Int) (n : Nat) (loops : Bool) (j : Nat) : (upto s n loops j).length = n := by
  unfold upto
  have : ∀ (l : List Int) (gl : List Gl), (l.foldl (add n loops) gl).length = gl.length := by
    intro l
    induction l with
    | nil => intro gl; rfl
    | cons x l ih => intro gl; rw [List.foldl_cons, ih, add_len]
  rw [this]; simp
theorem upto_succ {s : List Int} (n : Nat) (loops : Bool) {j : Nat} {x : Int} (h : s[j + 1]? = some x) : upto s n loops (j + 1) = add n loops (upto s n loops j) x := by
  unfold upto
  rw [List.take_add_one, List.getElem?_drop, Nat.add_comm 1 j, h, List.foldl_append]
  rfl
/-- what holds of each glyph, j numbers having made parts -/
def Ok (j : Nat) (g : Gl) : Prop := g.parts.length ≤ j ∧ (∀ p ∈ g.parts, -1 ≤ p.1 ∧ p.1 ≤ 16 ∧ 0 ≤ p.2.1 ∧ p.2.1 < 50 ∧ -25 ≤ p.2.2 ∧ p.2.2 < 25) ∧ g.pts.length ≤ 2 ∧ (∀ p ∈ g.pts, 0 ≤ p.1 ∧ p.1 ≤ 80 ∧ 0 ≤ p.2.1 ∧ p.2.1 ≤ 2) ∧ g.ends.length ≤ 1 ∧ ∀ e ∈ g.ends, e = 1
theorem kOf_in {n : Nat} (hn : 1 ≤ n ∧ n ≤ 8) (loops : Bool) (x : Int) : -1 ≤ kOf n loops x ∧ kOf n loops x ≤ 16 := by
  have h1 := Int.emod_nonneg (x.tdiv 8) (show (n : Int) + 1 ≠ 0 by omega)
  have h2 := Int.emod_lt_of_pos (x.tdiv 8) (show (0 : Int) < (n : Int) + 1 by omega)
  have h3 := Int.emod_nonneg x (show (n : Int) ≠ 0 by omega)
  have h4 := Int.emod_lt_of_pos x (show (0 : Int) < (n : Int) by omega)
  unfold kOf
  split <;> omega
theorem add_ok {n : Nat} (hn : 1 ≤ n ∧ n ≤ 8) (loops : Bool) {gl : List Gl} {j : Nat} (h : ∀ g ∈ gl, Ok j g) (x : Int) : ∀ g ∈ add n loops gl x, Ok (j + 1) g := by
  have hup : ∀ g, Ok j g → Ok (j + 1) g := fun g h => ⟨by have := h.1; omega, h.2⟩
  unfold add
  split
  · exact fun g hg => hup g (h g hg)
  · intro g hg
    rcases List.mem_or_eq_of_mem_set hg with hg | rfl
    · exact hup g (h g hg)
    · have h0 : Ok j (gl.getD (x % n).toNat ⟨[], [], []⟩) := by
        rw [List.getD_eq_getElem?_getD]
        cases he : gl[(x % n).toNat]? with
        | none => exact ⟨Nat.zero_le _, by simp, by simp, by simp, by simp, by simp⟩
        | some g => exact h g (List.mem_of_getElem? he)
      generalize gl.getD (x % n).toNat ⟨[], [], []⟩ = g0 at h0 ⊢
      obtain ⟨a1, a2, a3⟩ := h0
      refine ⟨by simp only [more, List.length_append, List.length_singleton]; omega, fun p hp => ?_, a3⟩
      simp only [more, List.mem_append, List.mem_singleton] at hp
      rcases hp with hp | rfl
      · exact a2 p hp
      · have := kOf_in hn loops x
        simp only [part]
        omega
theorem upto_ok {s : List Int} {n : Nat} (hn : 1 ≤ n ∧ n ≤ 8) (loops : Bool) (j : Nat) : ∀ g ∈ upto s n loops j, Ok j g := by
  unfold upto
  have h0 : ∀ g ∈ (List.range n).map glyph, Ok 0 g := fun g hg => by
    obtain ⟨i, hi, rfl⟩ := List.mem_map.1 hg
    have := List.mem_range.1 hi
    unfold glyph
    split
    · exact ⟨Nat.zero_le _, by simp, by simp, by simp, by simp, by simp⟩
    · refine ⟨Nat.zero_le _, by simp, by simp, fun p hp => ?_, by simp, by simp⟩
      simp only [List.mem_cons, List.not_mem_nil, or_false] at hp
      rcases hp with rfl | rfl <;> simp only <;> omega
  have : ∀ (l : List Int) (gl : List Gl) (i : Nat), (∀ g ∈ gl, Ok i g) → ∀ g ∈ l.foldl (add n loops) gl, Ok (i + l.length) g := by
    intro l
    induction l with
    | nil => intro gl i h; exact h
    | cons x l ih =>
      intro gl i h
      rw [List.foldl_cons, List.length_cons, show i + (l.length + 1) = i + 1 + l.length by omega]
      exact ih _ _ (add_ok hn loops h x)
  intro g hg
  have h1 := this ((s.drop 1).take j) _ 0 h0 g hg
  have hl : ((s.drop 1).take j).length ≤ j := by rw [List.length_take]; omega
  exact ⟨by have := h1.1; omega, h1.2⟩
end M4
end Go.Proofs.Ytoklllbaihccnaa

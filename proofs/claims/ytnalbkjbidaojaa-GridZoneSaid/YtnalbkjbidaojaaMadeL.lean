/- fleuronref07.Made: the font while it is made. -/
import Derived.Test.YtnalbkjbidaojaaMadeK
import Derived.Test.YtnalbkjbidaojaaMadeJ
import Derived.Test.YtnalbkjbidaojaaSeqs
namespace Go.Proofs.Ytnalbkjbidaojaa
open Go.RowKit

/-- any row -/
def sliceR (N0 : Nat) : Repr N0 Value where
  size := 1
  tys := []
  rel _ _ v cs := cs = [v] ∧ ∃ A n c, v = .slice A n c
  len h := by obtain ⟨rfl, _⟩ := h; rfl
  keep h _ := h
  more h _ := h
  one h := by obtain ⟨rfl, A, n, c, e⟩ := h; rw [e]; simp [Value.oneCell']
def axisR (N0 : Nat) : Repr N0 (ByteArray × Int × Int × Int) := Repr.pair Repr.str (Repr.pair Repr.int (Repr.pair Repr.int Repr.int))
def featR (N0 : Nat) : Repr N0 (ByteArray × Value) := Repr.pair Repr.str (sliceR N0)
def charR (N0 : Nat) : Repr N0 (Int × Int) := Repr.pair Repr.int Repr.int
theorem axis_info : (Try.prog.info? 100).map (fun i => (i.zero, i.size, i.bytes)) = some (some (.agg #[.string ByteArray.empty, .int .i64 0, .int .i64 0, .int .i64 0]), 4, 40) := by kernel_rfl
theorem tent_info : (Try.prog.info? 105).map (fun i => (i.zero, i.size, i.bytes)) = some (some (.agg #[.int .i64 0, .int .i64 0, .int .i64 0]), 3, 24) := by kernel_rfl
theorem region_info : (Try.prog.info? 103).map (fun i => (i.zero, i.size, i.bytes)) = some (some (.agg #[.slice none 0 0]), 1, 24) := by kernel_rfl
theorem char_info : (Try.prog.info? 110).map (fun i => (i.zero, i.size, i.bytes)) = some (some (.agg #[.int .i64 0, .int .i64 0]), 2, 16) := by kernel_rfl
theorem feature_info : (Try.prog.info? 114).map (fun i => (i.zero, i.size, i.bytes)) = some (some (.agg #[.string ByteArray.empty, .slice none 0 0]), 2, 40) := by kernel_rfl
theorem Mk.set2 {w : World} {m : MkC} (h : Mk w m) (v : Value) : Mk (w.setCell ⟨m.M, 2, none⟩ v) {m with c2 := v} := by
  obtain ⟨at_, ha, hs, hBM, hb, xs, hr, hx⟩ := h
  exact ⟨at_, ha, hs, hBM, by simpa using hb.set_ 2 v, xs, hr.setCell hBM _, hx⟩
theorem Mk.set4 {w : World} {m : MkC} (h : Mk w m) (v : Value) : Mk (w.setCell ⟨m.M, 4, none⟩ v) {m with c4 := v} := by
  obtain ⟨at_, ha, hs, hBM, hb, xs, hr, hx⟩ := h
  exact ⟨at_, ha, hs, hBM, by simpa using hb.set_ 4 v, xs, hr.setCell hBM _, hx⟩
theorem Mk.set5 {w : World} {m : MkC} (h : Mk w m) (v : Value) : Mk (w.setCell ⟨m.M, 5, none⟩ v) {m with c5 := v} := by
  obtain ⟨at_, ha, hs, hBM, hb, xs, hr, hx⟩ := h
  exact ⟨at_, ha, hs, hBM, by simpa using hb.set_ 5 v, xs, hr.setCell hBM _, hx⟩
theorem Mk.set6 {w : World} {m : MkC} (h : Mk w m) (v : Value) : Mk (w.setCell ⟨m.M, 6, none⟩ v) {m with c6 := v} := by
  obtain ⟨at_, ha, hs, hBM, hb, xs, hr, hx⟩ := h
  exact ⟨at_, ha, hs, hBM, by simpa using hb.set_ 6 v, xs, hr.setCell hBM _, hx⟩
theorem Mk.set7 {w : World} {m : MkC} (h : Mk w m) (v : Value) : Mk (w.setCell ⟨m.M, 7, none⟩ v) {m with c7 := v} := by
  obtain ⟨at_, ha, hs, hBM, hb, xs, hr, hx⟩ := h
  exact ⟨at_, ha, hs, hBM, by simpa using hb.set_ 7 v, xs, hr.setCell hBM _, hx⟩
theorem Mk.set8 {w : World} {m : MkC} (h : Mk w m) (v : Value) : Mk (w.setCell ⟨m.M, 8, none⟩ v) {m with c8 := v} := by
  obtain ⟨at_, ha, hs, hBM, hb, xs, hr, hx⟩ := h
  exact ⟨at_, ha, hs, hBM, by simpa using hb.set_ 8 v, xs, hr.setCell hBM _, hx⟩
theorem Mk.set9 {w : World} {m : MkC} (h : Mk w m) (v : Value) : Mk (w.setCell ⟨m.M, 9, none⟩ v) {m with c9 := v} := by
  obtain ⟨at_, ha, hs, hBM, hb, xs, hr, hx⟩ := h
  exact ⟨at_, ha, hs, hBM, by simpa using hb.set_ 9 v, xs, hr.setCell hBM _, hx⟩
theorem Mk.set10 {w : World} {m : MkC} (h : Mk w m) (v : Value) : Mk (w.setCell ⟨m.M, 10, none⟩ v) {m with c10 := v} := by
  obtain ⟨at_, ha, hs, hBM, hb, xs, hr, hx⟩ := h
  exact ⟨at_, ha, hs, hBM, by simpa using hb.set_ 10 v, xs, hr.setCell hBM _, hx⟩
theorem Mk.cell {w : World} {m : MkC} (h : Mk w m) :
    w.cell? ⟨m.M, 2, none⟩ = some m.c2 ∧ w.cell? ⟨m.M, 3, none⟩ = some m.c3 ∧ w.cell? ⟨m.M, 4, none⟩ = some m.c4 ∧ w.cell? ⟨m.M, 5, none⟩ = some m.c5 ∧ w.cell? ⟨m.M, 6, none⟩ = some m.c6 ∧ w.cell? ⟨m.M, 7, none⟩ = some m.c7 ∧ w.cell? ⟨m.M, 8, none⟩ = some m.c8 ∧ w.cell? ⟨m.M, 9, none⟩ = some m.c9 ∧ w.cell? ⟨m.M, 10, none⟩ = some m.c10 ∧ w.cell? ⟨m.M, 11, none⟩ = some m.c11 := by
  have := h.cells.1
  refine ⟨?_, ?_, ?_, ?_, ?_, ?_, ?_, ?_, ?_, ?_⟩ <;> (rw [this _ (by omega)]; rfl)
theorem FrM.set (M : Nat) (w : World) (i : Nat) (u : Value) : FrM M w (w.setCell ⟨M, i, none⟩ u) := Fr.setCell (S := fun k => k = M) (p := ⟨M, i, none⟩) (Fr.refl _ w) (.inl rfl) _

def fontZero : Array Value := #[.int .i64 0, .slice none 0 0, .slice none 0 0, .slice none 0 0, .slice none 0 0, .slice none 0 0, .slice none 0 0, .slice none 0 0, .slice none 0 0]
/-- what lies deep in a font: glyphs, functions, numbers; they lie below B1 -/
structure Deep (N0 : Nat) (w : World) (rb B1 M : Nat) (v3 v9 v10 : Value) (gl : List GlyD) (fl : List (List (Int × Int))) (cl : List Int) (wx : World) : Prop where
  gl : (Repr.row 74 (glyphR N0)).rel wx B1 gl [v3]
  fl : (Repr.row 49 (codeR N0)).rel wx B1 fl [v9]
  cl : (intsR N0).rel wx B1 cl [v10]
  res : Blk wx rb 42 fontZero
  below : Below w.heap.size w wx
  hM : N0 ≤ w.heap.size ∧ w.heap.size ≤ rb ∧ rb < M ∧ M < B1 ∧ B1 ≤ wx.heap.size
section
variable {N0 : Nat} {w wx wy : World} {rb B1 M : Nat} {v3 v9 v10 : Value} {gl : List GlyD} {fl : List (List (Int × Int))} {cl : List Int}
theorem keepM {α : Type} (R : Repr N0 α) {a : α} {cs : List Value} (h : R.rel wx B1 a cs) {xM : Array Value} (hb : Blk wx M 96 xM) (hn : 96 ∉ R.tys) (hN : N0 ≤ M) (hk : ∀ g, g < B1 → g ≠ M → wy.heap[g]? = wx.heap[g]?) : R.rel wy B1 a cs :=
  R.keep h fun g t xs fz hg ht hh => by
    by_cases hgM : g = M
    · subst hgM
      exfalso
      rcases ht with ht | ht
      · omega
      · unfold Blk at hb
        rw [hb] at hh
        injection hh with hh
        injection hh with _ h2
        exact hn (h2 ▸ ht)
    · rw [hk g hg hgM]; exact hh
theorem rowGlyph_maker (N0 : Nat) : 96 ∉ (Repr.row 74 (glyphR N0)).tys := glyphR_maker N0
theorem Deep.keep (h : Deep N0 w rb B1 M v3 v9 v10 gl fl cl wx) {xM : Array Value} (hb : Blk wx M 96 xM) (hk : ∀ g, g < B1 → g ≠ M → wy.heap[g]? = wx.heap[g]?) (hs : wx.heap.size ≤ wy.heap.size) (hbl : Below w.heap.size w wy) : Deep N0 w rb B1 M v3 v9 v10 gl fl cl wy := by
  have _hM := h.hM
  exact ⟨keepM _ h.gl hb (rowGlyph_maker N0) (by omega) hk, keepM _ h.fl hb (by show 96 ∉ [49, 68]; decide) (by omega) hk, keepM _ h.cl hb (by show 96 ∉ [3]; decide) (by omega) hk,
    (hk rb (by omega) (by omega)).trans h.res, hbl, by omega⟩
theorem Deep.fr (h : Deep N0 w rb B1 M v3 v9 v10 gl fl cl wx) {xM : Array Value} (hb : Blk wx M 96 xM) (hf : FrM M wx wy) : Deep N0 w rb B1 M v3 v9 v10 gl fl cl wy := by
  have _hM := h.hM
  exact h.keep hb (fun g _ hne => hf.block g (by omega) hne) hf.size (h.below.trans (hf.below (by omega) fun k hk => by omega))
theorem Deep.own (h : Deep N0 w rb B1 M v3 v9 v10 gl fl cl wx) {xM : Array Value} (hb : Blk wx M 96 xM) {α : Type} {R : Repr N0 α} {t : TypeId} {v : Value} {l : List α} (k : OwnAt R t B1 wx v l) (hg : wx.grownBy wy v.ownBlock) : Deep N0 w rb B1 M v3 v9 v10 gl fl cl wy := by
  have _hM := h.hM
  exact h.keep hb (fun g _ _ => hg.block g (by omega) fun e => by have := (k.block e.symm).1; omega) hg.size (below_own k h.below hg (by omega) (by omega))
theorem Deep.setO (h : Deep N0 w rb B1 M v3 v9 v10 gl fl cl wx) {xM : Array Value} (hb : Blk wx M 96 xM) {k : Nat} (hk : B1 ≤ k) (i : Nat) (u : Value) : Deep N0 w rb B1 M v3 v9 v10 gl fl cl (wx.setCell ⟨k, i, none⟩ u) := by
  have _hM := h.hM
  exact h.keep hb (fun _ _ _ => Below.heap_setCell _ _ _ _ (by simp; omega)) (by rw [size_setCell]; exact Nat.le_refl _) (h.below.setCell (by simp; omega) _)
theorem Deep.adv (h : Deep N0 w rb B1 M v3 v9 v10 gl fl cl wx) : Deep N0 w rb wx.heap.size M v3 v9 v10 gl fl cl wx := by
  have hM := h.hM
  exact ⟨Repr.more _ h.gl hM.2.2.2.2, Repr.more _ h.fl hM.2.2.2.2, Repr.more _ h.cl hM.2.2.2.2, h.res, h.below, by omega⟩
end
/-- while a row of the font is made: the row is of one's own, from B1 on -/
structure PhI {N0 : Nat} {α : Type} (R : Repr N0 α) (t : TypeId) (w : World) (rb B1 : Nat) (m : MkC) (v3 v9 v10 : Value) (gl : List GlyD) (fl : List (List (Int × Int))) (cl : List Int) (v : Value) (l : List α) (wx : World) : Prop where
  row : OwnAt R t B1 wx v l
  dp : Deep N0 w rb B1 m.M v3 v9 v10 gl fl cl wx
  hmk : Mk wx m
  ht : 96 ∉ t :: R.tys
section
variable {N0 : Nat} {α : Type} {R : Repr N0 α} {t : TypeId} {w wx wy : World} {rb B1 : Nat} {m m' : MkC} {v3 v9 v10 v v' : Value} {gl : List GlyD} {fl : List (List (Int × Int))} {cl : List Int} {l l' : List α}
theorem PhI.next (h : PhI R t w rb B1 m v3 v9 v10 gl fl cl v l wx) (hm : Mk wy m') (hf : FrM m.M wx wy) (he : m'.M = m.M := by rfl) : PhI R t w rb B1 m' v3 v9 v10 gl fl cl v l wy := by
  obtain ⟨xM, hb⟩ := h.hmk.blk
  have _hM := h.dp.hM
  exact ⟨h.row.fr hf hb h.ht (by omega), by rw [he]; exact h.dp.fr hb hf, hm, h.ht⟩
theorem PhI.alloc (h : PhI R t w rb B1 m v3 v9 v10 gl fl cl v l wx) (o : Obj) : PhI R t w rb B1 m v3 v9 v10 gl fl cl v l (wx.alloc o) := h.next (h.hmk.alloc o) ((Fr.refl _ _).alloc o)
theorem PhI.drew (h : PhI R t w rb B1 m v3 v9 v10 gl fl cl v l wx) : PhI R t w rb B1 m v3 v9 v10 gl fl cl v l wx.drew := h.next h.hmk (Fr.refl _ _).drew
theorem PhI.push (h : PhI R t w rb B1 m v3 v9 v10 gl fl cl v l wx) (ho : OwnAt R t B1 wy v' l') (hg : wx.grownBy wy v.ownBlock) : PhI R t w rb B1 m v3 v9 v10 gl fl cl v' l' wy := by
  obtain ⟨xM, hb⟩ := h.hmk.blk
  have _hM := h.dp.hM
  exact ⟨ho, h.dp.own hb h.row hg, h.hmk.grown h.row hg (fun e => h.ht (e ▸ List.mem_cons_self)) (by omega), h.ht⟩
theorem PhI.start (R : Repr N0 α) (t : TypeId) (ht : 96 ∉ t :: R.tys) (hm : Mk wx m) (hd : Deep N0 w rb B1 m.M v3 v9 v10 gl fl cl wx) : PhI R t w rb wx.heap.size m v3 v9 v10 gl fl cl (.slice none 0 0) [] wx := ⟨OwnAt.nil _ _ _ _, hd.adv, hm, ht⟩
/-- a box of another type is written -/
theorem PhI.setO (h : PhI R t w rb B1 m v3 v9 v10 gl fl cl v l wx) {k : Nat} {t0 : TypeId} {xs : Array Value} (hb0 : Blk wx k t0 xs) (hk : B1 ≤ k) (hne : t0 ∉ t :: R.tys) (i : Nat) (u : Value) : PhI R t w rb B1 m v3 v9 v10 gl fl cl v l (wx.setCell ⟨k, i, none⟩ u) := by
  obtain ⟨xM, hb⟩ := h.hmk.blk
  have _hM := h.dp.hM
  exact ⟨h.row.setCell hb0 hne (by omega) _ _, h.dp.setO hb hk _ _, h.hmk.setCell (by simp; omega) _, h.ht⟩
/-- a box of the same type is written, that is another block -/
theorem PhI.setF (h : PhI R t w rb B1 m v3 v9 v10 gl fl cl v l wx) {k : Nat} {t0 : TypeId} {xs : Array Value} (hb0 : Blk wx k t0 xs) (hk : B1 ≤ k) (hd : ∀ k', v.ownBlock = some k' → k' ≠ k) (hne : t0 ∉ R.tys) (i : Nat) (u : Value) : PhI R t w rb B1 m v3 v9 v10 gl fl cl v l (wx.setCell ⟨k, i, none⟩ u) := by
  obtain ⟨xM, hb⟩ := h.hmk.blk
  have _hM := h.dp.hM
  exact ⟨h.row.far hb0 hd hne (by omega) _ _, h.dp.setO hb hk _ _, h.hmk.setCell (by simp; omega) _, h.ht⟩
/-- another row of one's own grows, of another type -/
theorem PhI.other (h : PhI R t w rb B1 m v3 v9 v10 gl fl cl v l wx) {β : Type} {R' : Repr N0 β} {t' : TypeId} {u : Value} {lu : List β} (k : OwnAt R' t' B1 wx u lu) (hg : wx.grownBy wy u.ownBlock) (n1 : 96 ≠ t') (n2 : t' ∉ t :: R.tys) : PhI R t w rb B1 m v3 v9 v10 gl fl cl v l wy := by
  obtain ⟨xM, hb⟩ := h.hmk.blk
  have _hM := h.dp.hM
  exact ⟨h.row.apart k hg (by omega) n2, h.dp.own hb k hg, h.hmk.grown k hg n1 (by omega), h.ht⟩
end
/-- what is known of the other cells -/
def wSl (v : Value) (b : Nat) : Prop := ∃ A n c, v = .slice A n c ∧ n ≤ b
structure Weak (m : MkC) : Prop where
  c2 : ∃ n, m.c2 = .int .i64 n ∧ I64 n
  c4 : wSl m.c4 16
  c5 : wSl m.c5 6
  c6 : wSl m.c6 8
  c7 : wSl m.c7 2
  c8 : wSl m.c8 3
/-- which rows have nothing yet: axes, regions, functions, numbers, glyphs, chars, lookups, features -/
structure Nils (m : MkC) (p : Nat) : Prop where
  c7 : p < 1 → m.c7 = .slice none 0 0
  c8 : p < 2 → m.c8 = .slice none 0 0
  c9 : p < 3 → m.c9 = .slice none 0 0
  c10 : p < 4 → m.c10 = .slice none 0 0
  c3 : p < 5 → m.c3 = .slice none 0 0
  c4 : p < 6 → m.c4 = .slice none 0 0
  c5 : p < 7 → m.c5 = .slice none 0 0
  c6 : p < 8 → m.c6 = .slice none 0 0
theorem Nils.succ {m : MkC} {p : Nat} (h : Nils m p) : Nils m (p + 1) := ⟨fun _ => h.c7 (by omega), fun _ => h.c8 (by omega), fun _ => h.c9 (by omega), fun _ => h.c10 (by omega), fun _ => h.c3 (by omega), fun _ => h.c4 (by omega), fun _ => h.c5 (by omega), fun _ => h.c6 (by omega)⟩
/-- between two rows -/
structure BtwI (N0 : Nat) (w : World) (rb M : Nat) (g0 p : Nat) (m : MkC) (gl : List GlyD) (fl : List (List (Int × Int))) (cl : List Int) (wx : World) : Prop where
  hmk : Mk wx {m with M := M}
  dp : Deep N0 w rb wx.heap.size M m.c3 m.c9 m.c10 gl fl cl wx
  wk : Weak m
  nil : Nils m p
  g0 : g0 ≤ gl.length
  g1 : gl.length ≤ 10
  gb : ∀ g ∈ gl, g.pts.length ≤ 10 ∧ HintOk g.hint
  f1 : fl.length ≤ 2
  fb : FnsOk fl
  cb : cl.length ≤ 3
def Btw (N0 : Nat) (w : World) (rb M : Nat) (g0 p : Nat) (wx : World) : Prop := ∃ m gl fl cl, BtwI N0 w rb M g0 p m gl fl cl wx
section
variable {N0 : Nat} {w wx wy : World} {rb B1 M : Nat} {v3 v9 v10 v : Value} {gl : List GlyD} {fl : List (List (Int × Int))} {cl : List Int} {g0 p : Nat} {m : MkC}
theorem BtwI.next (h : BtwI N0 w rb M g0 p m gl fl cl wx) (hm : Mk wy {m with M := M}) (hf : FrM M wx wy) : BtwI N0 w rb M g0 p m gl fl cl wy := by
  obtain ⟨xM, hb⟩ := h.hmk.blk
  exact ⟨hm, (h.dp.fr hb hf).adv, h.wk, h.nil, h.g0, h.g1, h.gb, h.f1, h.fb, h.cb⟩
theorem Deep.set3 (h : Deep N0 w rb B1 M v3 v9 v10 gl fl cl wx) {l : List GlyD} (hr : (Repr.row 74 (glyphR N0)).rel wx wx.heap.size l [v]) : Deep N0 w rb wx.heap.size M v v9 v10 l fl cl wx := ⟨hr, h.adv.fl, h.adv.cl, h.res, h.below, h.adv.hM⟩
theorem Deep.set9 (h : Deep N0 w rb B1 M v3 v9 v10 gl fl cl wx) {l : List (List (Int × Int))} (hr : (Repr.row 49 (codeR N0)).rel wx wx.heap.size l [v]) : Deep N0 w rb wx.heap.size M v3 v v10 gl l cl wx := ⟨h.adv.gl, hr, h.adv.cl, h.res, h.below, h.adv.hM⟩
theorem Deep.set10 (h : Deep N0 w rb B1 M v3 v9 v10 gl fl cl wx) {l : List Int} (hr : (intsR N0).rel wx wx.heap.size l [v]) : Deep N0 w rb wx.heap.size M v3 v9 v gl fl l wx := ⟨h.adv.gl, h.adv.fl, hr, h.res, h.below, h.adv.hM⟩
end
end Go.Proofs.Ytnalbkjbidaojaa

/- fleuronref07's maker: a glyph while it is made. -/
import Derived.Test.YtnalbkjbidaojaaMadeG
import Derived.Test.YtnalbkjbidaojaaMkA
namespace Go.Proofs.Ytnalbkjbidaojaa
open Go.RowKit

def partR (N0 : Nat) : Repr N0 (Int × Int × Int) := Repr.pair Repr.int (Repr.pair Repr.int Repr.int)
def fourR (N0 : Nat) : Repr N0 (Int × Int × Int × Int) := Repr.pair Repr.int (Repr.pair Repr.int (Repr.pair Repr.int Repr.int))
theorem partR_mk (N0 : Nat) (w : World) (B : Nat) (a b c : Int) (h1 : I64 a) (h2 : I64 b) (h3 : I64 c) : (partR N0).rel w B (a, b, c) [.int .i64 a, .int .i64 b, .int .i64 c] := ⟨[_], [_, _], rfl, ⟨rfl, h1⟩, [_], [_], rfl, ⟨rfl, h2⟩, rfl, h3⟩
theorem fourR_mk (N0 : Nat) (w : World) (B : Nat) (a b c d : Int) (h1 : I64 a) (h2 : I64 b) (h3 : I64 c) (h4 : I64 d) : (fourR N0).rel w B (a, b, c, d) [.int .i64 a, .int .i64 b, .int .i64 c, .int .i64 d] := ⟨[_], [_, _, _], rfl, ⟨rfl, h1⟩, [_], [_, _], rfl, ⟨rfl, h2⟩, [_], [_], rfl, ⟨rfl, h3⟩, rfl, h4⟩
theorem part_info : (Try.prog.info? 126).map (fun i => (i.zero, i.size, i.bytes)) = some (some (.agg #[.int .i64 0, .int .i64 0, .int .i64 0]), 3, 24) := by kernel_rfl
theorem anchor_info : (Try.prog.info? 130).map (fun i => (i.zero, i.size, i.bytes)) = some (some (.agg #[.int .i64 0, .int .i64 0, .int .i64 0, .int .i64 0]), 4, 32) := by kernel_rfl
theorem delta_info : (Try.prog.info? 132).map (fun i => (i.zero, i.size, i.bytes)) = some (some (.agg #[.int .i64 0, .int .i64 0, .int .i64 0, .int .i64 0]), 4, 32) := by kernel_rfl

structure GlyD where
  name : ByteArray
  adv : Int
  mark : Bool
  pts : List (Int × Int × Bool)
  ends : List Int
  parts : List (Int × Int × Int)
  anchors : List (Int × Int × Int × Int)
  deltas : List (Int × Int × Int × Int)
  hint : List (Int × Int)
def glyphR (N0 : Nat) : Repr N0 GlyD := Repr.map (fun g => (g.name, g.adv, g.mark, (g.pts, g.ends), g.parts, g.anchors, g.deltas, g.hint))
  (Repr.pair Repr.str (Repr.pair Repr.int (Repr.pair Repr.bool (Repr.pair (outlineR N0) (Repr.pair (Repr.row 126 (partR N0)) (Repr.pair (Repr.row 130 (fourR N0)) (Repr.pair (Repr.row 132 (fourR N0)) (codeR N0))))))))
/-- while a glyph is made: its box, its rows -/
structure GlyI (N0 : Nat) (m : MkC) (w0 : World) (gb : Nat) (wx : World) (vp ve va vn vd vh : Value) (g : GlyD) : Prop where
  box : Blk wx gb 74 #[.string g.name, .int .i64 g.adv, .bool g.mark, vp, ve, va, vn, vd, vh]
  outl : (outlineR N0).rel wx wx.heap.size (g.pts, g.ends) [vp, ve]
  parts : OwnAt (partR N0) 126 w0.heap.size wx va g.parts
  anchors : OwnAt (fourR N0) 130 w0.heap.size wx vn g.anchors
  deltas : OwnAt (fourR N0) 132 w0.heap.size wx vd g.deltas
  hint : (codeR N0).rel wx wx.heap.size g.hint [vh]
  adv : I64 g.adv
  hmk : Mk wx m
  fr : FrM m.M w0 wx
  hob : w0.heap.size ≤ gb
  hM : N0 ≤ m.M ∧ m.M < w0.heap.size

theorem outlineR_tys (N0 : Nat) : (outlineR N0).tys = [61, 3] := rfl
theorem codeR_tys (N0 : Nat) : (codeR N0).tys = [68] := rfl
theorem partR_tys (N0 : Nat) : (partR N0).tys = [] := rfl
theorem fourR_tys (N0 : Nat) : (fourR N0).tys = [] := rfl
section
variable {N0 : Nat} {m m' : MkC} {w0 wx wy : World} {gb : Nat} {vp ve va vn vd vh : Value} {g : GlyD}
theorem GlyI.next (h : GlyI N0 m w0 gb wx vp ve va vn vd vh g) (hm : Mk wy m') (hf : FrM m.M wx wy) (he : m'.M = m.M := by rfl) : GlyI N0 m' w0 gb wy vp ve va vn vd vh g := by
  obtain ⟨xM, hb⟩ := h.hmk.blk
  have hM := h.hM
  have hob := h.hob
  exact ⟨hf.blk h.box (by omega), (outlineR N0).more ((outlineR N0).fr h.outl hf hb (by rw [outlineR_tys]; simp) hM.1) hf.size, h.parts.fr hf hb (by rw [partR_tys]; simp) hM.1, h.anchors.fr hf hb (by rw [fourR_tys]; simp) hM.1, h.deltas.fr hf hb (by rw [fourR_tys]; simp) hM.1,
    (codeR N0).more ((codeR N0).fr h.hint hf hb (by rw [codeR_tys]; simp) hM.1) hf.size, h.adv, hm, by rw [he]; exact h.fr.trans hf, hob, by rw [he]; exact hM⟩
theorem GlyI.below (h : GlyI N0 m w0 gb wx vp ve va vn vd vh g) (hb : Below wx.heap.size wx wy) : GlyI N0 m w0 gb wy vp ve va vn vd vh g := by
  obtain ⟨at_, ha, hs, hBM, hbk, xs, hr, hx⟩ := h.hmk
  have hl := hbk.lt
  exact h.next ⟨at_, ha, hs, hBM, hbk.below hb hl, xs, hr.below hb (by omega), hx⟩ (Fr.of_below hb fun _ hk _ => hk)
theorem GlyI.alloc (h : GlyI N0 m w0 gb wx vp ve va vn vd vh g) (o : Obj) : GlyI N0 m w0 gb (wx.alloc o) vp ve va vn vd vh g := h.below ((Below.refl _ _).alloc (Nat.le_refl _) _)
theorem GlyI.drew (h : GlyI N0 m w0 gb wx vp ve va vn vd vh g) : GlyI N0 m w0 gb wx.drew vp ve va vn vd vh g := h.below (Below.refl _ _).drew
/-- a cell of its box is written -/
theorem GlyI.set (h : GlyI N0 m w0 gb wx vp ve va vn vd vh g) (i : Nat) (u : Value) {vp' ve' va' vn' vd' vh' : Value} {g' : GlyD}
    (hbox : #[.string g.name, .int .i64 g.adv, .bool g.mark, vp, ve, va, vn, vd, vh].setIfInBounds i u = #[.string g'.name, .int .i64 g'.adv, .bool g'.mark, vp', ve', va', vn', vd', vh'])
    (h1 : (outlineR N0).rel wx wx.heap.size (g'.pts, g'.ends) [vp', ve']) (h2 : OwnAt (partR N0) 126 w0.heap.size wx va' g'.parts) (h3 : OwnAt (fourR N0) 130 w0.heap.size wx vn' g'.anchors) (h4 : OwnAt (fourR N0) 132 w0.heap.size wx vd' g'.deltas) (h5 : (codeR N0).rel wx wx.heap.size g'.hint [vh']) (h6 : I64 g'.adv) :
    GlyI N0 m w0 gb (wx.setCell ⟨gb, i, none⟩ u) vp' ve' va' vn' vd' vh' g' := by
  have hM := h.hM
  have hob := h.hob
  have hb := h.box
  exact ⟨by rw [← hbox]; exact hb.set_ i u, by rw [size_setCell]; exact (outlineR N0).setCell h1 hb (by rw [outlineR_tys]; simp) (by omega) _ _, h2.setCell hb (by rw [partR_tys]; simp) (by omega) _ _, h3.setCell hb (by rw [fourR_tys]; simp) (by omega) _ _, h4.setCell hb (by rw [fourR_tys]; simp) (by omega) _ _,
    by rw [size_setCell]; exact (codeR N0).setCell h5 hb (by rw [codeR_tys]; simp) (by omega) _ _, h6, h.hmk.setCell (by simp; omega) _, h.fr.setCell (.inr hob) _, hob, hM⟩
/-- a row of its own has grown -/
theorem GlyI.grown {α : Type} {R : Repr N0 α} {t : TypeId} {v : Value} {l : List α} (h : GlyI N0 m w0 gb wx vp ve va vn vd vh g) (k : OwnAt R t w0.heap.size wx v l) (hg : wx.grownBy wy v.ownBlock) (n1 : 96 ≠ t) (n2 : 74 ≠ t) :
    Blk wy gb 74 #[.string g.name, .int .i64 g.adv, .bool g.mark, vp, ve, va, vn, vd, vh] ∧ Mk wy m ∧ FrM m.M w0 wy :=
  ⟨h.box.grownOwn k hg n2, h.hmk.grown k hg n1 h.hM.2, h.fr.grownM hg fun _ e => (k.block e).1⟩
theorem GlyI.pushParts (h : GlyI N0 m w0 gb wx vp ve va vn vd vh g) {A' : Option Addr} {n' c' : Nat} {l' : List (Int × Int × Int)} (ho : OwnAt (partR N0) 126 w0.heap.size wy (.slice A' n' c') l') (hg : wx.grownBy wy va.ownBlock) :
    Blk wy gb 74 #[.string g.name, .int .i64 g.adv, .bool g.mark, vp, ve, va, vn, vd, vh] ∧ GlyI N0 m w0 gb (wy.setCell ⟨gb, 5, none⟩ (.slice A' n' c')) vp ve (.slice A' n' c') vn vd vh {g with parts := l'} := by
  have hM := h.hM
  have hob := h.hob
  have hN : N0 ≤ w0.heap.size := by omega
  obtain ⟨hb, hm, hf⟩ := h.grown h.parts hg (by decide) (by decide)
  exact ⟨hb, by simpa using hb.set_ 5 (.slice A' n' c'), by rw [size_setCell]; exact (outlineR N0).setCell ((outlineR N0).more ((outlineR N0).apart h.outl h.parts hg hN (by rw [outlineR_tys]; simp)) hg.size) hb (by rw [outlineR_tys]; simp) (by omega) _ _, ho.setCell hb (by rw [partR_tys]; simp) (by omega) _ _,
    (h.anchors.apart h.parts hg hN (by rw [fourR_tys]; simp)).setCell hb (by rw [fourR_tys]; simp) (by omega) _ _, (h.deltas.apart h.parts hg hN (by rw [fourR_tys]; simp)).setCell hb (by rw [fourR_tys]; simp) (by omega) _ _,
    by rw [size_setCell]; exact (codeR N0).setCell ((codeR N0).more ((codeR N0).apart h.hint h.parts hg hN (by rw [codeR_tys]; simp)) hg.size) hb (by rw [codeR_tys]; simp) (by omega) _ _, h.adv, hm.setCell (by simp; omega) _, hf.setCell (.inr hob) _, hob, hM⟩
theorem GlyI.pushAnchors (h : GlyI N0 m w0 gb wx vp ve va vn vd vh g) {A' : Option Addr} {n' c' : Nat} {l' : List (Int × Int × Int × Int)} (ho : OwnAt (fourR N0) 130 w0.heap.size wy (.slice A' n' c') l') (hg : wx.grownBy wy vn.ownBlock) :
    Blk wy gb 74 #[.string g.name, .int .i64 g.adv, .bool g.mark, vp, ve, va, vn, vd, vh] ∧ GlyI N0 m w0 gb (wy.setCell ⟨gb, 6, none⟩ (.slice A' n' c')) vp ve va (.slice A' n' c') vd vh {g with anchors := l'} := by
  have hM := h.hM
  have hob := h.hob
  have hN : N0 ≤ w0.heap.size := by omega
  obtain ⟨hb, hm, hf⟩ := h.grown h.anchors hg (by decide) (by decide)
  exact ⟨hb, by simpa using hb.set_ 6 (.slice A' n' c'), by rw [size_setCell]; exact (outlineR N0).setCell ((outlineR N0).more ((outlineR N0).apart h.outl h.anchors hg hN (by rw [outlineR_tys]; simp)) hg.size) hb (by rw [outlineR_tys]; simp) (by omega) _ _, (h.parts.apart h.anchors hg hN (by rw [partR_tys]; simp)).setCell hb (by rw [partR_tys]; simp) (by omega) _ _,
    ho.setCell hb (by rw [fourR_tys]; simp) (by omega) _ _, (h.deltas.apart h.anchors hg hN (by rw [fourR_tys]; simp)).setCell hb (by rw [fourR_tys]; simp) (by omega) _ _,
    by rw [size_setCell]; exact (codeR N0).setCell ((codeR N0).more ((codeR N0).apart h.hint h.anchors hg hN (by rw [codeR_tys]; simp)) hg.size) hb (by rw [codeR_tys]; simp) (by omega) _ _, h.adv, hm.setCell (by simp; omega) _, hf.setCell (.inr hob) _, hob, hM⟩
theorem GlyI.pushDeltas (h : GlyI N0 m w0 gb wx vp ve va vn vd vh g) {A' : Option Addr} {n' c' : Nat} {l' : List (Int × Int × Int × Int)} (ho : OwnAt (fourR N0) 132 w0.heap.size wy (.slice A' n' c') l') (hg : wx.grownBy wy vd.ownBlock) :
    Blk wy gb 74 #[.string g.name, .int .i64 g.adv, .bool g.mark, vp, ve, va, vn, vd, vh] ∧ GlyI N0 m w0 gb (wy.setCell ⟨gb, 7, none⟩ (.slice A' n' c')) vp ve va vn (.slice A' n' c') vh {g with deltas := l'} := by
  have hM := h.hM
  have hob := h.hob
  have hN : N0 ≤ w0.heap.size := by omega
  obtain ⟨hb, hm, hf⟩ := h.grown h.deltas hg (by decide) (by decide)
  exact ⟨hb, by simpa using hb.set_ 7 (.slice A' n' c'), by rw [size_setCell]; exact (outlineR N0).setCell ((outlineR N0).more ((outlineR N0).apart h.outl h.deltas hg hN (by rw [outlineR_tys]; simp)) hg.size) hb (by rw [outlineR_tys]; simp) (by omega) _ _, (h.parts.apart h.deltas hg hN (by rw [partR_tys]; simp)).setCell hb (by rw [partR_tys]; simp) (by omega) _ _,
    (h.anchors.apart h.deltas hg hN (by rw [fourR_tys]; simp)).setCell hb (by rw [fourR_tys]; simp) (by omega) _ _, ho.setCell hb (by rw [fourR_tys]; simp) (by omega) _ _,
    by rw [size_setCell]; exact (codeR N0).setCell ((codeR N0).more ((codeR N0).apart h.hint h.deltas hg hN (by rw [codeR_tys]; simp)) hg.size) hb (by rw [codeR_tys]; simp) (by omega) _ _, h.adv, hm.setCell (by simp; omega) _, hf.setCell (.inr hob) _, hob, hM⟩
/-- a cell of another block is written -/
theorem GlyI.other (h : GlyI N0 m w0 gb wx vp ve va vn vd vh g) {k : Nat} {t : TypeId} {xs : Array Value} (hb : Blk wx k t xs) (_n1 : 96 ≠ t) (n2 : 74 ≠ t) (n3 : t ∉ (outlineR N0).tys) (_n4 : t ∉ (partR N0).tys) (n5 : t ∉ (codeR N0).tys) (hk : w0.heap.size ≤ k) (hd : ∀ (k' : Nat), vd.ownBlock = some k' → k' ≠ k) (i : Nat) (u : Value) (n6 : t ≠ 126 := by decide) (n7 : t ≠ 130 := by decide) : GlyI N0 m w0 gb (wx.setCell ⟨k, i, none⟩ u) vp ve va vn vd vh g := by
  have hM := h.hM
  have hob := h.hob
  have hne : gb ≠ k := by
    rintro rfl
    have h1 := h.box
    unfold Blk at h1 hb
    rw [hb] at h1
    injection h1 with h1
    injection h1 with _ h2
    exact n2 h2.symm
  exact ⟨h.box.far hne u, by rw [size_setCell]; exact (outlineR N0).setCell h.outl hb n3 (by omega) _ _, h.parts.setCell hb (by rw [partR_tys]; simpa using n6) (by omega) _ _, h.anchors.setCell hb (by rw [fourR_tys]; simpa using n7) (by omega) _ _,
    h.deltas.far hb hd (by rw [fourR_tys]; simp) (by omega) _ _, by rw [size_setCell]; exact (codeR N0).setCell h.hint hb n5 (by omega) _ _, h.adv, h.hmk.setCell (by simp; omega) _, h.fr.setCell (.inr hk) _, hob, hM⟩
theorem GlyI.rel (h : GlyI N0 m w0 gb wx vp ve va vn vd vh g) : (glyphR N0).rel wx wx.heap.size g [.string g.name, .int .i64 g.adv, .bool g.mark, vp, ve, va, vn, vd, vh] :=
  ⟨[_], [_, _, _, _, _, _, _, _], rfl, rfl, [_], [_, _, _, _, _, _, _], rfl, ⟨rfl, h.adv⟩, [_], [_, _, _, _, _, _], rfl, rfl, [_, _], [_, _, _, _], rfl, h.outl, [_], [_, _, _], rfl, h.parts.rel, [_], [_, _], rfl, h.anchors.rel, [_], [_], rfl, h.deltas.rel, h.hint⟩
end
theorem glyphR_cells {N0 : Nat} {w : World} {B : Nat} {g : GlyD} {cs : List Value} (h : (glyphR N0).rel w B g cs) :
    ∃ Ap np kp Ae ne ke Aa na ka An nn kn Ad nd kd A c, cs = [.string g.name, .int .i64 g.adv, .bool g.mark, .slice Ap np kp, .slice Ae ne ke, .slice Aa na ka, .slice An nn kn, .slice Ad nd kd, .slice A g.hint.length c] ∧ g.hint.length ≤ c ∧ c ≤ maxLen ∧ RowAt (insR N0) 68 w B A g.hint := by
  obtain ⟨_, _, rfl, rfl, _, _, rfl, ⟨rfl, _⟩, _, _, rfl, rfl, _, _, rfl, ⟨_, _, rfl, ⟨A1, k1, rfl, _⟩, ⟨A2, k2, rfl, _⟩⟩, _, _, rfl, ⟨A3, k3, rfl, _⟩, _, _, rfl, ⟨A4, k4, rfl, _⟩, _, _, rfl, ⟨A5, k5, rfl, _⟩, ⟨A, c, rfl, h1, h2, h3⟩⟩ := h
  exact ⟨_, _, _, _, _, _, _, _, _, _, _, _, _, _, _, A, c, rfl, h1, h2, h3⟩
theorem coderow_info : (Try.prog.info? 49).map (fun i => (i.zero, i.size, i.bytes)) = some (some (.slice none 0 0), 1, 24) := by kernel_rfl
end Go.Proofs.Ytnalbkjbidaojaa

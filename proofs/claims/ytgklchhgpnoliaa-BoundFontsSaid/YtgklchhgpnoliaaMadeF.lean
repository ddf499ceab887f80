/- fleuronref07's maker: a rule while it is made. -/
import Derived.Test.YtgklchhgpnoliaaMadeE
import Derived.Test.YtgklchhgpnoliaaRepB
namespace Go.Proofs.Ytgklchhgpnoliaa
open Go.RowKit

def rowsIR (N0 : Nat) : Repr N0 (List (List Int)) := Repr.row 43 (intsR N0)
def callR (N0 : Nat) : Repr N0 (Int × Int) := Repr.pair Repr.int Repr.int
structure RuleD where
  back : List (List Int)
  inn : List (List Int)
  ahead : List (List Int)
  out : List Int
  calls : List (Int × Int)
  x : Int
def ruleR (N0 : Nat) : Repr N0 RuleD := Repr.map (fun r => (r.back, r.inn, r.ahead, r.out, r.calls, r.x)) (Repr.pair (rowsIR N0) (Repr.pair (rowsIR N0) (Repr.pair (rowsIR N0) (Repr.pair (intsR N0) (Repr.pair (Repr.row 151 (callR N0)) Repr.int)))))
theorem call_info : (Try.prog.info? 151).map (fun i => (i.zero, i.size, i.bytes)) = some (some (.agg #[.int .i64 0, .int .i64 0]), 2, 16) := by kernel_rfl

theorem Repr.grownB {N0 : Nat} {α : Type} (R : Repr N0 α) {w w' : World} {B : Nat} {a : α} {cs : List Value} (h : R.rel w B a cs) {row : Option Nat} (hg : w.grownBy w' row) (hr : ∀ g, row = some g → B ≤ g) : R.rel w' B a cs :=
  R.keep h fun g t xs fz hgB _ hh => by
    have hlt : g < w.heap.size := (Array.getElem?_eq_some_iff.1 hh).1
    rw [hg.block g hlt (fun e => by have := hr g e.symm; omega)]; exact hh

/-- while a rule is made: its box, its rows; Out and Calls are of its own, from base B1 on; the others lie below -/
structure RuleI (N0 : Nat) (m : MkC) (w0 : World) (rb B1 : Nat) (wx : World) (vb vi va vo vc : Value) (r : RuleD) : Prop where
  box : Blk wx rb 138 #[vb, vi, va, vo, vc, .int .i64 r.x]
  back : (rowsIR N0).rel wx B1 r.back [vb]
  inn : (rowsIR N0).rel wx B1 r.inn [vi]
  ahead : (rowsIR N0).rel wx B1 r.ahead [va]
  out : OwnAt (Repr.int (N0 := N0)) 3 B1 wx vo r.out
  calls : OwnAt (callR N0) 151 B1 wx vc r.calls
  x : I64 r.x
  hmk : Mk wx m
  fr : FrM m.M w0 wx
  hob : w0.heap.size ≤ rb ∧ rb < B1
  hM : N0 ≤ m.M ∧ m.M < w0.heap.size
  hB : w0.heap.size ≤ B1 ∧ B1 ≤ wx.heap.size

section
variable {N0 : Nat} {m : MkC} {w0 wx wy : World} {rb B1 : Nat} {vb vi va vo vc : Value} {r : RuleD}
theorem RuleI.next (h : RuleI N0 m w0 rb B1 wx vb vi va vo vc r) (hm : Mk wy m) (hf : FrM m.M wx wy) : RuleI N0 m w0 rb B1 wy vb vi va vo vc r := by
  obtain ⟨xM, hb⟩ := h.hmk.blk
  have hM := h.hM
  have hob := h.hob
  have hz := hf.size
  have hB := h.hB
  exact ⟨hf.blk h.box (by omega), (rowsIR N0).fr h.back hf hb (by simp [rowsIR, intsR, Repr.row, Repr.int]) hM.1, (rowsIR N0).fr h.inn hf hb (by simp [rowsIR, intsR, Repr.row, Repr.int]) hM.1, (rowsIR N0).fr h.ahead hf hb (by simp [rowsIR, intsR, Repr.row, Repr.int]) hM.1,
    h.out.fr hf hb (by simp [Repr.int]) hM.1, h.calls.fr hf hb (by simp [callR, Repr.pair, Repr.int]) hM.1, h.x, hm, h.fr.trans hf, hob, hM, hB.1, by omega⟩
theorem RuleI.below (h : RuleI N0 m w0 rb B1 wx vb vi va vo vc r) (hb : Below wx.heap.size wx wy) : RuleI N0 m w0 rb B1 wy vb vi va vo vc r := by
  have hM := h.hM
  have hob := h.hob
  have hz := hb.size
  have hB := h.hB
  obtain ⟨at_, ha, hs, hBM, hbk, xs, hr, hx⟩ := h.hmk
  have hl := hbk.lt
  exact ⟨h.box.below hb (by omega), (rowsIR N0).below h.back hb hB.2, (rowsIR N0).below h.inn hb hB.2, (rowsIR N0).below h.ahead hb hB.2, h.out.below hb (Nat.le_refl _), h.calls.below hb (Nat.le_refl _), h.x,
    ⟨at_, ha, hs, hBM, hbk.below hb hl, xs, hr.below hb (by omega), hx⟩, h.fr.trans (Fr.of_below hb fun k hk _ => hk), hob, hM, hB.1, by omega⟩
theorem RuleI.alloc (h : RuleI N0 m w0 rb B1 wx vb vi va vo vc r) (o : Obj) : RuleI N0 m w0 rb B1 (wx.alloc o) vb vi va vo vc r := h.below ((Below.refl _ _).alloc (Nat.le_refl _) _)
theorem RuleI.drew (h : RuleI N0 m w0 rb B1 wx vb vi va vo vc r) : RuleI N0 m w0 rb B1 wx.drew vb vi va vo vc r := h.below (Below.refl _ _).drew
/-- as long as nothing is of its own, all lies below what there is -/
theorem RuleI.adv (h : RuleI N0 m w0 rb B1 wx vb vi va (.slice none 0 0) (.slice none 0 0) r) (ho : r.out = []) (hc : r.calls = []) : RuleI N0 m w0 rb wx.heap.size wx vb vi va (.slice none 0 0) (.slice none 0 0) r := by
  have hB := h.hB
  have hob := h.hob
  exact ⟨h.box, (rowsIR N0).more h.back hB.2, (rowsIR N0).more h.inn hB.2, (rowsIR N0).more h.ahead hB.2, by rw [ho]; exact OwnAt.nil _ _ _ _, by rw [hc]; exact OwnAt.nil _ _ _ _, h.x, h.hmk, h.fr, ⟨hob.1, by omega⟩, h.hM, by omega, Nat.le_refl _⟩
/-- a cell of its box is written -/
theorem RuleI.set (h : RuleI N0 m w0 rb B1 wx vb vi va vo vc r) (i : Nat) (u : Value) {vb' vi' va' vo' vc' : Value} {r' : RuleD} (hbox : #[vb, vi, va, vo, vc, .int .i64 r.x].setIfInBounds i u = #[vb', vi', va', vo', vc', .int .i64 r'.x])
    (h1 : (rowsIR N0).rel wx B1 r'.back [vb']) (h2 : (rowsIR N0).rel wx B1 r'.inn [vi']) (h3 : (rowsIR N0).rel wx B1 r'.ahead [va']) (h4 : OwnAt (Repr.int (N0 := N0)) 3 B1 wx vo' r'.out) (h5 : OwnAt (callR N0) 151 B1 wx vc' r'.calls) (h6 : I64 r'.x) :
    RuleI N0 m w0 rb B1 (wx.setCell ⟨rb, i, none⟩ u) vb' vi' va' vo' vc' r' := by
  have hM := h.hM
  have hob := h.hob
  have hB := h.hB
  exact ⟨by rw [← hbox]; exact h.box.set_ i u, (rowsIR N0).setCell h1 h.box (by simp [rowsIR, intsR, Repr.row, Repr.int]) (by omega) _ _, (rowsIR N0).setCell h2 h.box (by simp [rowsIR, intsR, Repr.row, Repr.int]) (by omega) _ _, (rowsIR N0).setCell h3 h.box (by simp [rowsIR, intsR, Repr.row, Repr.int]) (by omega) _ _,
    h4.setCell h.box (by simp [Repr.int]) (by omega) _ _, h5.setCell h.box (by simp [callR, Repr.pair, Repr.int]) (by omega) _ _, h6, h.hmk.setCell (by simp; omega) _, h.fr.setCell (.inr hob.1) _, hob, hM, hB.1, by rw [size_setCell]; exact hB.2⟩
/-- Out has grown -/
theorem RuleI.pushOut (h : RuleI N0 m w0 rb B1 wx vb vi va vo vc r) {A' : Option Addr} {n' c' : Nat} {l' : List Int} (ho : OwnAt (Repr.int (N0 := N0)) 3 B1 wy (.slice A' n' c') l') (hg : wx.grownBy wy vo.ownBlock) :
    Blk wy rb 138 #[vb, vi, va, vo, vc, .int .i64 r.x] ∧ RuleI N0 m w0 rb B1 (wy.setCell ⟨rb, 3, none⟩ (.slice A' n' c')) vb vi va (.slice A' n' c') vc {r with out := l'} := by
  have hM := h.hM
  have hob := h.hob
  have hB := h.hB
  have hb := h.box.grownOwn h.out hg (by decide)
  have hrow := fun g e => (h.out.block (g := g) e).1
  have hc : OwnAt (callR N0) 151 B1 wy vc r.calls := h.calls.grown hg fun g t' xs fz e hh => by
    obtain ⟨h1, _, ys, hy⟩ := h.out.block e
    rw [hy] at hh
    injection hh with hh
    injection hh with _ ht
    subst ht
    exact ⟨by omega, by simp [callR, Repr.pair, Repr.int]⟩
  refine ⟨hb, ⟨by simpa using hb.set_ 3 (.slice A' n' c'), (rowsIR N0).setCell ((rowsIR N0).grownB h.back hg hrow) hb (by simp [rowsIR, intsR, Repr.row, Repr.int]) (by omega) _ _, (rowsIR N0).setCell ((rowsIR N0).grownB h.inn hg hrow) hb (by simp [rowsIR, intsR, Repr.row, Repr.int]) (by omega) _ _, (rowsIR N0).setCell ((rowsIR N0).grownB h.ahead hg hrow) hb (by simp [rowsIR, intsR, Repr.row, Repr.int]) (by omega) _ _,
    ho.setCell hb (by simp [Repr.int]) (by omega) _ _, hc.setCell hb (by simp [callR, Repr.pair, Repr.int]) (by omega) _ _, h.x, (h.hmk.grown h.out hg (by decide) (by omega)).setCell (by simp; omega) _, ?_, hob, hM, hB.1, by rw [size_setCell]; have := hg.size; omega⟩⟩
  exact (h.fr.grownM hg fun g e => by have := hrow g e; omega).setCell (.inr hob.1) _
/-- Calls has grown -/
theorem RuleI.pushCalls (h : RuleI N0 m w0 rb B1 wx vb vi va vo vc r) {A' : Option Addr} {n' c' : Nat} {l' : List (Int × Int)} (ho : OwnAt (callR N0) 151 B1 wy (.slice A' n' c') l') (hg : wx.grownBy wy vc.ownBlock) :
    Blk wy rb 138 #[vb, vi, va, vo, vc, .int .i64 r.x] ∧ RuleI N0 m w0 rb B1 (wy.setCell ⟨rb, 4, none⟩ (.slice A' n' c')) vb vi va vo (.slice A' n' c') {r with calls := l'} := by
  have hM := h.hM
  have hob := h.hob
  have hB := h.hB
  have hb := h.box.grownOwn h.calls hg (by decide)
  have hrow := fun g e => (h.calls.block (g := g) e).1
  have hc : OwnAt (Repr.int (N0 := N0)) 3 B1 wy vo r.out := h.out.grown hg fun g t' xs fz e hh => by
    obtain ⟨h1, _, ys, hy⟩ := h.calls.block e
    rw [hy] at hh
    injection hh with hh
    injection hh with _ ht
    subst ht
    exact ⟨by omega, by simp [Repr.int]⟩
  refine ⟨hb, ⟨by simpa using hb.set_ 4 (.slice A' n' c'), (rowsIR N0).setCell ((rowsIR N0).grownB h.back hg hrow) hb (by simp [rowsIR, intsR, Repr.row, Repr.int]) (by omega) _ _, (rowsIR N0).setCell ((rowsIR N0).grownB h.inn hg hrow) hb (by simp [rowsIR, intsR, Repr.row, Repr.int]) (by omega) _ _, (rowsIR N0).setCell ((rowsIR N0).grownB h.ahead hg hrow) hb (by simp [rowsIR, intsR, Repr.row, Repr.int]) (by omega) _ _,
    hc.setCell hb (by simp [Repr.int]) (by omega) _ _, ho.setCell hb (by simp [callR, Repr.pair, Repr.int]) (by omega) _ _, h.x, (h.hmk.grown h.calls hg (by decide) (by omega)).setCell (by simp; omega) _, ?_, hob, hM, hB.1, by rw [size_setCell]; have := hg.size; omega⟩⟩
  exact (h.fr.grownM hg fun g e => by have := hrow g e; omega).setCell (.inr hob.1) _
end
end Go.Proofs.Ytgklchhgpnoliaa

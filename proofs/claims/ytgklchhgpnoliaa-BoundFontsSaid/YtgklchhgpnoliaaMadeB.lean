/- fleuronref07's maker: an outline. -/
import Derived.Test.YtgklchhgpnoliaaMadeA
import Derived.Test.YtgklchhgpnoliaaRepB
import Derived.Deep.RegionLaw
import Derived.Deep.DeepCutAuto
namespace Go.Proofs.Ytgklchhgpnoliaa
open Go.RowKit

def pointR (N0 : Nat) : Repr N0 (Int × Int × Bool) := Repr.pair Repr.int (Repr.pair Repr.int Repr.bool)
def intsR (N0 : Nat) : Repr N0 (List Int) := Repr.row 3 Repr.int
def outlineR (N0 : Nat) : Repr N0 (List (Int × Int × Bool) × List Int) := Repr.pair (Repr.row 148 (pointR N0)) (intsR N0)
theorem pointR_mk (N0 : Nat) (w : World) (B : Nat) (x y : Int) (b : Bool) (h1 : I64 x) (h2 : I64 y) : (pointR N0).rel w B (x, y, b) [.int .i64 x, .int .i64 y, .bool b] := ⟨[_], [_, _], rfl, ⟨rfl, h1⟩, [_], [_], rfl, ⟨rfl, h2⟩, rfl⟩
theorem point_info : (Try.prog.info? 148).map (fun i => (i.zero, i.size, i.bytes)) = some (some (.agg #[.int .i64 0, .int .i64 0, .bool false]), 3, 24) := by kernel_rfl
theorem intM_info : (Try.prog.info? 3).map (fun i => (i.zero, i.size, i.bytes)) = some (some (.int .i64 0), 1, 8) := by kernel_rfl

section
variable (N0 : Nat) (m : MkC) (w0 : World)
/-- while an outline is made: its box, its two rows -/
structure OutI (ob : Nat) (wx : World) (vp ve : Value) (l : List (Int × Int × Bool)) (es : List Int) : Prop where
  box : Blk wx ob 68 #[vp, ve]
  pts : OwnAt (pointR N0) 148 w0.heap.size wx vp l
  ends : OwnAt (Repr.int (N0 := N0)) 3 w0.heap.size wx ve es
  hmk : Mk wx m
  fr : FrM m.M w0 wx
  hob : w0.heap.size ≤ ob
  hM : N0 ≤ m.M ∧ m.M < w0.heap.size
end
section
variable {N0 : Nat} {m : MkC} {w0 wx wy : World} {ob : Nat} {vp ve : Value} {l : List (Int × Int × Bool)} {es : List Int}
theorem OutI.next (h : OutI N0 m w0 ob wx vp ve l es) (hm : Mk wy m) (hf : FrM m.M wx wy) : OutI N0 m w0 ob wy vp ve l es := by
  have hm0 := h.hmk
  obtain ⟨at_, _, _, _, hb, _⟩ := hm0
  have hM := h.hM
  have hob := h.hob
  exact ⟨hf.blk h.box (by omega), h.pts.fr hf hb (by simp [pointR, Repr.pair, Repr.int, Repr.bool]) hM.1, h.ends.fr hf hb (by simp [Repr.int]) hM.1, hm, h.fr.trans hf, hob, hM⟩
theorem OutI.alloc (h : OutI N0 m w0 ob wx vp ve l es) (o : Obj) : OutI N0 m w0 ob (wx.alloc o) vp ve l es := by
  obtain ⟨at_, ha, hs, hBM, hb, xs, hr, hx⟩ := h.hmk
  have hl := hb.lt
  exact ⟨h.box.alloc o, h.pts.below ((Below.refl _ _).alloc (Nat.le_refl _) _) (Nat.le_refl _), h.ends.below ((Below.refl _ _).alloc (Nat.le_refl _) _) (Nat.le_refl _), ⟨at_, ha, hs, hBM, hb.alloc o, xs, hr.alloc (by omega) o, hx⟩, h.fr.alloc o, h.hob, h.hM⟩
theorem OutI.drew (h : OutI N0 m w0 ob wx vp ve l es) : OutI N0 m w0 ob wx.drew vp ve l es :=
  ⟨h.box, h.pts.below (Below.refl wx.heap.size wx).drew (Nat.le_refl _), h.ends.below (Below.refl wx.heap.size wx).drew (Nat.le_refl _), h.hmk, h.fr.drew, h.hob, h.hM⟩
theorem i64_wrap (x : Int) : I64 (IntKind.i64.wrap x) := by rw [IntKind.wrap_i64]; unfold I64; omega
theorem Mk.grown {α : Type} {R : Repr N0 α} {t : TypeId} {base : Nat} {v : Value} {l : List α} (h : Mk wx m) (ho : OwnAt R t base wx v l) (hg : wx.grownBy wy v.ownBlock) (hne : 90 ≠ t) (hb : m.M < base) : Mk wy m := by
  obtain ⟨at_, ha, hs, hBM, hbk, xs, hr, hx⟩ := h
  refine ⟨at_, ha, hs, hBM, hbk.grownOwn ho hg hne, xs, hr.keep fun p hp => ?_, hx⟩
  exact World.cell?_of_block (w := wx) (hg.block p.block (by have := hbk.lt; omega) fun e => by obtain ⟨h1, _⟩ := ho.block e.symm; omega)
theorem Mk.alloc (h : Mk wx m) (o : Obj) : Mk (wx.alloc o) m := by
  obtain ⟨at_, ha, hs, hBM, hb, xs, hr, hx⟩ := h
  have hl := hb.lt
  exact ⟨at_, ha, hs, hBM, hb.alloc o, xs, hr.alloc (by omega) o, hx⟩
theorem Mk.setCell (h : Mk wx m) {p : Addr} (hp : m.M < p.block) (u : Value) : Mk (wx.setCell p u) m := by
  obtain ⟨at_, ha, hs, hBM, hb, xs, hr, hx⟩ := h
  exact ⟨at_, ha, hs, hBM, hb.far (by omega) u, xs, hr.setCell (by omega) u, hx⟩
theorem Fr.grownM {M : Nat} {row : Option Nat} (h : FrM M w0 wx) (hg : wx.grownBy wy row) (hr : ∀ g, row = some g → w0.heap.size ≤ g) : FrM M w0 wy :=
  ⟨hg.os.trans h.os, hg.tape.trans h.tape, hg.output.trans h.output, Nat.le_trans h.size hg.size, fun k hk hs => (hg.block k (Nat.lt_of_lt_of_le hk h.size) fun e => by have := hr k e.symm; omega).trans (h.block k hk hs)⟩
theorem OutI.push (h : OutI N0 m w0 ob wx vp ve l es) {o : Obj} {A' : Option Addr} {n' c' : Nat} {l' : List (Int × Int × Bool)} (ho : OwnAt (pointR N0) 148 w0.heap.size wy (.slice A' n' c') l') (hg : (wx.alloc o).grownBy wy vp.ownBlock) :
    Blk wy ob 68 #[vp, ve] ∧ OutI N0 m w0 ob (wy.setCell ⟨ob, 0, none⟩ (.slice A' n' c')) (.slice A' n' c') ve l' es := by
  have ha := h.alloc o
  have hM := h.hM
  have hob := h.hob
  have hb := ha.box.grownOwn ha.pts hg (by decide)
  have he : OwnAt (Repr.int (N0 := N0)) 3 w0.heap.size wy ve es := ha.ends.grown hg fun g t' xs fz e hh => by
    obtain ⟨h1, _, ys, hy⟩ := ha.pts.block e
    rw [hy] at hh
    injection hh with hh
    injection hh with _ ht
    subst ht
    exact ⟨by omega, by simp [Repr.int]⟩
  refine ⟨hb, ⟨by simpa using hb.set_ 0 (.slice A' n' c'), ho.setCell hb (by simp [pointR, Repr.pair, Repr.int, Repr.bool]) (by omega) 0 _, he.setCell hb (by simp [Repr.int]) (by omega) 0 _, (ha.hmk.grown ha.pts hg (by decide) (by omega)).setCell (by simp; omega) _, ?_, hob, hM⟩⟩
  exact (ha.fr.grownM hg fun g e => (ha.pts.block e).1).setCell (.inr hob) _
theorem OutI.pushE (h : OutI N0 m w0 ob wx vp ve l es) {o : Obj} {A' : Option Addr} {n' c' : Nat} {es' : List Int} (ho : OwnAt (Repr.int (N0 := N0)) 3 w0.heap.size wy (.slice A' n' c') es') (hg : (wx.alloc o).grownBy wy ve.ownBlock) :
    Blk wy ob 68 #[vp, ve] ∧ OutI N0 m w0 ob (wy.setCell ⟨ob, 1, none⟩ (.slice A' n' c')) vp (.slice A' n' c') l es' := by
  have ha := h.alloc o
  have hM := h.hM
  have hob := h.hob
  have hb := ha.box.grownOwn ha.ends hg (by decide)
  have he : OwnAt (pointR N0) 148 w0.heap.size wy vp l := ha.pts.grown hg fun g t' xs fz e hh => by
    obtain ⟨h1, _, ys, hy⟩ := ha.ends.block e
    rw [hy] at hh
    injection hh with hh
    injection hh with _ ht
    subst ht
    exact ⟨by omega, by simp [pointR, Repr.pair, Repr.int, Repr.bool]⟩
  refine ⟨hb, ⟨by simpa using hb.set_ 1 (.slice A' n' c'), he.setCell hb (by simp [pointR, Repr.pair, Repr.int, Repr.bool]) (by omega) 1 _, ho.setCell hb (by simp [Repr.int]) (by omega) 1 _, (ha.hmk.grown ha.ends hg (by decide) (by omega)).setCell (by simp; omega) _, ?_, hob, hM⟩⟩
  exact (ha.fr.grownM hg fun g e => (ha.ends.block e).1).setCell (.inr hob) _
end
end Go.Proofs.Ytgklchhgpnoliaa

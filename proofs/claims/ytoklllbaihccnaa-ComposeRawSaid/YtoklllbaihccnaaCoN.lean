/- A range over a glyph's parts within a function; compose.down$1: how deep a glyph is, by what is known of its parts. Expanded from XCoN.src by expand.py. -/
import Derived.Test.YtoklllbaihccnaaCoM
set_option linter.unusedVariables false
set_option linter.unusedSimpArgs false
namespace Go.Proofs.Ytoklllbaihccnaa
open Go.RowKit Go.Shelf
attribute [local go_sem] Oper.semAt_some
abbrev pcs (x : Prt) : Array Value := #[.int .i64 x.1, .int .i64 x.2.1, .int .i64 x.2.2]
/-- what a round over a part keeps -/
def partPost (B : Nat) (Kp : World → World → Prop) (I : List Prt → World → Prop) (xs : List Prt) (W : World) : Exit → Act → World → Prop
  | .normal, _, W' => KeepsFrom B W W' ∧ Kp W W' ∧ I xs W'
  | _, _, _ => False
theorem parts_loop {g : Operand} {k : Tmp} {assign body : Code} {Q : Exit → Act → World → Prop} {a : Act} {W1 : World} (n0 X Y : Nat) (v : Fv) (gl : List Gl) (i : Nat)
    (hg : a.eval g = .func (.func 53) #[] #[.pointer (some ⟨X, 0, none⟩), .pointer (some ⟨Y, 0, none⟩)])
    (hX : Blk W1 X 32 v.cs) (hY : Blk W1 Y 3 #[.int .i64 i]) (hv : v.n = gl.length) (hf : FAt W1 n0 v.A gl) (hn0 : n0 ≤ W1.heap.size) (hi : i < gl.length)
    (I : List Prt → World → Prop) (hI : OwnFrom W1.heap.size I) (h0 : I [] W1) (fr : Prt → Nat → Act)
    (hassign : ∀ (l : Nat) (x : Prt) (W : World) (K : Act → World → Prop), K (fr x W.heap.size) (W.alloc (.cells (pcs x) 48)) →
      assign.wpIn (Fence.wide.inRound l) 6 Try.prog (Exit.then K (fun _ _ _ => False)) { tmps := (#[k].zip #[pv x]).foldl (fun t (p, v) => t.setIfInBounds p v) a.tmps, defers := [] } W)
    (hbody : ∀ (l : Nat) (pre : List Prt) (x : Prt) (pb : Nat) (W : World), W1.heap.size ≤ l → (∃ r, W.heap[l]? = some (.loop r)) → x ∈ partsOf gl i → pre.length < (partsOf gl i).length → I pre W → Blk W pb 48 (pcs x) → Blk W X 32 v.cs →
      body.wpIn (Fence.wide.inRound l) 6 Try.prog (partPost W1.heap.size (KpP n0 X) I (pre ++ [x]) W) (fr x pb) W)
    (hsz : ∀ pre W, I pre W → n0 ≤ W.heap.size)
    (hgr : ∀ pre W W', I pre W → Grow W W' → I pre W')
    (hdone : ∀ (D : Nat) (W : World), W1.heap.size ≤ D → I (partsOf gl i) W → W.heap[D]? = some (.deferred (some [])) → Q .normal { a with defers := { target := .collected D, args := #[] } :: a.defers } W) :
    (Code.rangeFunc g #[k] assign body).wp Try.prog Q a W1 := by
  refine (wpIn_wide (n := 8)).1 ?_
  refine wpIn_rangeFunc_ownH (α := PartOf gl i) rfl (by omega) hg trivial (enters_of Try.func53 (by kernel_rfl) rfl)
    (parts_stops 7 X Y n0 v gl i (by omega) W1 hX (by rw [hY.cell]; rfl) hv hf hn0 hi) kpP_t (fun W l o o' h1 _ _ _ => kpP_put W l o' (by omega) (by have := hX.lt; omega)) (Below.refl _ _) (fun _ => rfl)
    (fun pre W => I (pre.map (·.1)) W ∧ Blk W X 32 v.cs) (fun _ _ _ => False) ?_ (fun _ _ _ _ _ hs _ _ => hs) ⟨h0, hX⟩
    (fun x a' W => ∃ pb, a' = fr x.1 pb ∧ Blk W pb 48 (pcs x.1)) ?hAx ?assign ?body ?done ?stop
  · intro pre W W' row h hg hr
    exact ⟨hI _ _ _ _ h.1 hg hr, h.2.keepC (grown_far hg hr).1⟩
  case hAx =>
    rintro x a' _ W W' row ⟨pb, e, hb⟩ hg hr
    exact ⟨pb, e, (grown_far hg hr).1 _ _ hb rfl⟩
  case assign =>
    intro l pre x W K hI2 hK2
    refine hassign l x.1 W K (hK2 _ _ ((KeepsOthers.alloc _ _).from _) (kpP_alloc _ _ (hsz _ _ hI2.1) hI2.2.lt) ⟨hgr _ _ _ hI2.1 ((Fr.refl _ _).alloc _), hI2.2.alloc _⟩ ⟨W.heap.size, rfl, Blk.new _ _ _⟩)
  case body =>
    rintro l pre x a' W hl hr ⟨hI2, hb2⟩ ⟨pb, rfl, hpb⟩ hlen
    refine wpIn_mono (hbody l (pre.map (·.1)) x.1 pb W hl hr x.2 (by rw [List.length_map]; exact hlen) hI2 hpb hb2) ?_
    intro e a1 W' h
    cases e with
    | normal =>
      obtain ⟨h1, h2, h3⟩ := h
      exact ⟨h1, h2, by rw [List.map_append]; exact h3, h2.2.trans hb2⟩
    | ret => exact h.elim
    | exit id => exact h.elim
    | goto t => exact h.elim
    | panic ch => exact h.elim
    | outgrown => exact h.elim
  case done =>
    rintro D xs W hD hxs ⟨hI2, _⟩ hK3
    rw [hxs] at hI2
    exact hdone D W hD hI2 hK3
  case stop =>
    rintro D c pre W _ _ h _
    exact h.elim
/-- blocks that lie as they lay -/
structure Kps (n0 : Nat) (w : World) (bs : List (Nat × TypeId × Array Value)) (W : World) : Prop where
  below : Below n0 w W
  blk : ∀ b ∈ bs, Blk W b.1 b.2.1 b.2.2
theorem Kps.grown {n0 B : Nat} {w W W' : World} {bs : List (Nat × TypeId × Array Value)} {row : Option Nat} (h : Kps n0 w bs W) (hB : n0 ≤ B) (hs : n0 ≤ W.heap.size) (hg : W.grownBy W' row) (hr : ∀ r, row = some r → B ≤ r ∧ ∃ o : Obj, W.heap[r]? = some o ∧ o.isCells = false) : Kps n0 w bs W' :=
  ⟨h.below.grown hg hs (fun k e => by have := (hr k e).1; omega), fun b hb => (h.blk b hb).keepC (grown_far hg hr).1⟩
theorem Kps.grow {n0 : Nat} {w W W' : World} {bs : List (Nat × TypeId × Array Value)} (h : Kps n0 w bs W) (hs : n0 ≤ W.heap.size) (hg : Grow W W') : Kps n0 w bs W' :=
  ⟨h.below.trans (hg.below hs), fun b hb => hg.blk (h.blk b hb) (fun x => x)⟩
theorem Kps.setCell {n0 : Nat} {w W : World} {bs : List (Nat × TypeId × Array Value)} (h : Kps n0 w bs W) (p : Addr) (hp : n0 ≤ p.block) (hne : ∀ b ∈ bs, b.1 ≠ p.block) (u : Value) : Kps n0 w bs (W.setCell p u) :=
  ⟨h.below.trans ⟨rfl, rfl, rfl, by simp, fun k hk => Below.heap_setCell _ _ _ _ (by omega)⟩, fun b hb => (h.blk b hb).far (hne b hb) u⟩
namespace Dp
def most (gl : List Gl) (g : Int) (k : Int → Int) : Int := (partsOf gl g.toNat).foldl (fun m p => max m (k p.1 + 1)) 0
def mostOf (k : Int → Int) (l : List Prt) : Int := l.foldl (fun m p => max m (k p.1 + 1)) 0
theorem mostOf_bd {k : Int → Int} (hk : ∀ x, 0 ≤ k x ∧ k x ≤ 1000) (l : List Prt) : 0 ≤ mostOf k l ∧ mostOf k l ≤ 1001 := by
  unfold mostOf
  have : ∀ (l : List Prt) (m : Int), 0 ≤ m ∧ m ≤ 1001 → 0 ≤ l.foldl (fun m p => max m (k p.1 + 1)) m ∧ l.foldl (fun m p => max m (k p.1 + 1)) m ≤ 1001 := by
    intro l
    induction l with
    | nil => intro m h; exact h
    | cons p l ih => intro m h; rw [List.foldl_cons]; exact ih _ (by have := hk p.1; omega)
  exact this l 0 (by omega)
theorem mostOf_snoc (k : Int → Int) (l : List Prt) (p : Prt) : mostOf k (l ++ [p]) = max (mostOf k l) (k p.1 + 1) := by simp [mostOf, List.foldl_append]
end Dp
/-- within down$1 -/
structure DnJ (w : World) (M X : Nat) (fv : Fv) (k : Int → Int) (pre : List Prt) (W : World) : Prop where
  kp : Kps w.heap.size w [(w.heap.size, 83, #[.map (some M)]), (w.heap.size + 1 + 1, 32, fv.cs)] W
  acc : Blk W (w.heap.size + 1) 3 #[.int .i64 (Dp.mostOf k pre)]
set_option maxRecDepth 100000 in
set_option maxHeartbeats 4000000 in
theorem down1_any (fv : Fv) (gl : List Gl) (g M X n0 : Nat) (k : Int → Int) (w : World) (hv : fv.n = gl.length) (hX : Blk w X 32 fv.cs) (hf : FAt w n0 fv.A gl) (hn : n0 ≤ w.heap.size) (hg : g < gl.length) (hM : CMap w M k) (hk : ∀ x, 0 ≤ k x ∧ k x ≤ 1000) :
    Calls Try.prog 52 #[.int .i64 g, .map (some M), .pointer (some ⟨X, 0, none⟩)] w fun e w' => e = .returned (.int .i64 (Dp.most gl g k)) ∧ Grow w w' := by
  have hfew := hf.few
  have HF := Lib.hid hf
  have HV := Lib.hid hv
  have HX := Lib.hid hX
  have HM := Lib.hid hM
  have HK := Lib.hid hk
  have x0 := hX.cell 0
  have x1 := hX.cell 1
  have x2 := hX.cell 2
  have x3 := hX.cell 3
  have x4 := hX.cell 4
  have x5 := hX.cell 5
  have x6 := hX.cell 6
  have x7 := hX.cell 7
  have x8 := hX.cell 8
  have lx := hX.lt
  simp only [List.getElem?_toArray, List.getElem?_cons_zero, List.getElem?_cons_succ] at x0 x1 x2 x3 x4 x5 x6 x7 x8
  clear hf hv hX hM hk
  refine calls_of_marks Try.func52 rfl ?_
  simp only [Try.ntmps52, List.size_toArray, List.length_cons, List.length_nil, Nat.reduceAdd, Nat.reduceSub, Array.replicate_succ, Array.replicate_zero, List.push_toArray, List.append_toArray, List.nil_append, List.cons_append]
  go_wp2_with fail
  refine (parts_any fv g _).mono ?_
  rintro e w' ⟨rfl, rfl⟩
  go_wp2_with fail
  obtain ⟨W1, hW1⟩ : ∃ W1, ((((w.alloc (.cells #[.map (some M)] 83)).alloc (.cells #[.int .i64 0] 3)).alloc (.cells fv.cs 32)).alloc (.cells #[.int .i64 g] 3)) = W1 := ⟨_, rfl⟩
  have hs1 : W1.heap.size = w.heap.size + 4 := by rw [← hW1]; simp
  have hg1 : Grow w W1 := by rw [← hW1]; exact ((((Fr.refl _ _).alloc _).alloc _).alloc _).alloc _
  have hJ1 : DnJ w M X fv k [] W1 := by
    rw [← hW1]
    refine ⟨⟨(((((Fr.refl (fun _ => False) w).alloc _).alloc _).alloc _).alloc _).below (Nat.le_refl _) (fun _ _ x => x), fun b hb => ?_⟩, ?_⟩
    · simp only [List.mem_cons, List.not_mem_nil, or_false] at hb
      rcases hb with rfl | rfl
      · exact (((Blk.new _ _ _).alloc _).alloc _).alloc _
      · exact (Blk.new_at _ _ _ (by simp)).alloc _
    · exact ((Blk.new_at _ _ _ (by simp)).alloc _).alloc _
  have hX1 : Blk W1 (w.heap.size + 1 + 1) 32 fv.cs := hJ1.kp.blk (_, _, _) (by simp)
  have hY1 : Blk W1 (w.heap.size + 1 + 1 + 1) 3 #[.int .i64 g] := by rw [← hW1]; exact Blk.new_at _ _ _ (by simp)
  rw [hW1]
  have HS1 := Lib.hid hs1
  have HG1 := Lib.hid hg1
  refine parts_loop w.heap.size (w.heap.size + 1 + 1) (w.heap.size + 1 + 1 + 1) fv gl g rfl hX1 hY1 HV.out (((HF.out.more hn).keep fun p hp => (hg1.below (Nat.le_refl _)).cell hp)) (by omega) hg (DnJ w M X fv k)
    (fun pre W W' row h hg hr => ⟨h.kp.grown (by omega) h.kp.below.size hg hr, h.acc.keepC (grown_far hg hr).1⟩) hJ1
    (fun x pb => { tmps := #[.int .i64 g, .map (some M), .pointer (some ⟨X, 0, none⟩), undef, .pointer (some ⟨w.heap.size, 0, none⟩), .int .i64 0, .pointer (some ⟨w.heap.size + 1, 0, none⟩), .pointer (some ⟨pb, 0, none⟩), .agg fv.cs, .int .i64 g, .func (.func 53) #[] #[.pointer (some ⟨w.heap.size + 1 + 1, 0, none⟩), .pointer (some ⟨w.heap.size + 1 + 1 + 1, 0, none⟩)], pv x, undef, undef, undef, undef, undef, undef, undef, undef], defers := [] }) ?assign ?body (fun pre W h => h.kp.below.size) (fun pre W W' h hg => ⟨h.kp.grow h.kp.below.size hg, hg.blk h.acc (fun x => x)⟩) ?done
  case assign =>
    intro l x W K hK
    clear hX1 hY1 hJ1 hW1 hs1 hg1
    have HKK := Lib.hid hK
    clear hK
    obtain ⟨xg, xx, xy⟩ := x
    unfold pv
    gi_wp2
    exact HKK.out
  case body =>
    rintro l pre ⟨pg, px, py⟩ pb W hl _ hxm hlen hJ hpb hXb
    have p0 := hpb.cell 0
    have a0 := hJ.acc.cell 0
    have m0 := (hJ.kp.blk _ List.mem_cons_self).cell 0
    have lp := hpb.lt
    have la := hJ.acc.lt
    have lm := (hJ.kp.blk _ List.mem_cons_self).lt
    have af := hJ.acc.frozen 0
    simp only [List.getElem?_toArray, List.getElem?_cons_zero] at p0 a0 m0
    have hpgi : I64 pg := by have := mem_psOf hxm; unfold I64; simp only at this; omega
    have hlk := (HM.out.keep (hJ.kp.below.block _ HM.out.lt)).look pg hpgi
    obtain ⟨ka, hka⟩ : ∃ ka, k pg = ka := ⟨_, rfl⟩
    rw [hka] at hlk
    have hkb := HK.out pg
    rw [hka] at hkb
    obtain ⟨ma, hma⟩ : ∃ ma, Dp.mostOf k pre = ma := ⟨_, rfl⟩
    have hmb := Dp.mostOf_bd HK.out pre
    rw [hma] at hmb a0
    have HJ := Lib.hid hJ
    have HMA := Lib.hid hma
    have HKA := Lib.hid hka
    have hmx : (if ma < ka + 1 then ka + 1 else ma) = max ma (ka + 1) := by omega
    clear hX1 hY1 hJ1 hW1 hs1 hg1 hJ hpb hXb hma hka
    gi_wp2_with fail
    refine ⟨(KeepsOthers.setCell _ _ _).from _, ⟨⟨rfl, rfl, rfl, by simp, fun j hj => Below.heap_setCell _ _ _ _ (by simp only; omega)⟩, Below.heap_setCell _ _ _ _ (by simp)⟩, HJ.out.kp.setCell _ (by simp) (fun b hb => by simp only [List.mem_cons, List.not_mem_nil, or_false] at hb; rcases hb with rfl | rfl <;> simp) _, ?_⟩
    have := HJ.out.acc.set_ 0 (.int .i64 (max ma (ka + 1)))
    rw [Dp.mostOf_snoc, HMA.out]
    simp only
    rw [HKA.out]
    exact this
  case done =>
    intro D W hD hJ hK3
    have a0 := hJ.acc.cell 0
    have la := hJ.acc.lt
    simp only [List.getElem?_toArray, List.getElem?_cons_zero] at a0
    have HJ := Lib.hid hJ
    have HK3 := Lib.hid hK3
    clear hX1 hY1 hJ1 hW1 hs1 hg1 hJ hK3
    go_wp2_with fail
    show LeavesInM Fence.wide 8 Try.prog _ _ _ ([D].map mark) .returning W
    refine leaves_marks (B := D) [D] W ⟨by simp, fun E hE => by simp only [List.mem_singleton] at hE; subst hE; exact ⟨Nat.le_refl _, HK3.out⟩⟩ fun W' hW' => ?_
    have hB : Below w.heap.size w W' := HJ.out.kp.below.trans (hW'.below HJ.out.kp.below.size (fun k _ e => by simp only [List.mem_singleton] at e; have := HS1.out; omega))
    exact ⟨_, results_tmp rfl _ _ _, rfl, hB.os, hB.tape, hB.output, hB.size, fun j hj _ => hB.block j hj⟩
end Go.Proofs.Ytoklllbaihccnaa

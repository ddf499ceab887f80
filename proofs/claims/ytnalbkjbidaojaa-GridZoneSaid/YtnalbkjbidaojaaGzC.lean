/- grid.has and grid.Program: their contracts. -/
import Derived.Test.YtnalbkjbidaojaaGzA
import Derived.Test.YtnalbkjbidaojaaMadeI
namespace Go.Proofs.Ytnalbkjbidaojaa
open Go.RowKit Mc

/-- while a program is made: its box, its rows -/
structure PgI (N : Nat) (X : World) (pb : Nat) (wr : World) (vf vm vc : Value) (p : Pg) : Prop where
  box : Blk wr pb 51 #[vf, vm, vc, .int .i64 p.size]
  fs : OwnAt (codeR N) 49 X.heap.size wr vf p.funcs
  main : wr.ownsRow X.heap.size 68 2 vm p.main.length (pts p.main)
  cvt : wr.ownsRow X.heap.size 3 1 vc p.cvt.length (ints p.cvt)
  fr : Fr (· = pb) X wr
  hpb : X.heap.size ≤ pb
  hN : N ≤ X.heap.size
section
variable {N : Nat} {X wr w1 : World} {pb : Nat} {vf vm vc : Value} {p : Pg}
theorem PgI.go (h : PgI N X pb wr vf vm vc p) (hg : Grow wr w1) : PgI N X pb w1 vf vm vc p :=
  ⟨hg.blk h.box (fun x => x), h.fs.below (Grow.below hg (Nat.le_refl _)) (Nat.le_refl _), owns_grow h.main hg, owns_grow h.cvt hg, h.fr.trans (hg.mono fun _ _ x => x.elim), h.hpb, h.hN⟩
theorem PgI.pushF (h : PgI N X pb wr vf vm vc p) {l : List (Int × Int)} {v' : Value} (hown : OwnAt (codeR N) 49 X.heap.size w1 v' (p.funcs ++ [l])) (hg : wr.grownBy w1 vf.ownBlock) :
    Blk w1 pb 51 #[vf, vm, vc, .int .i64 p.size] ∧ PgI N X pb (w1.setCell ⟨pb, 0, none⟩ v') v' vm vc { p with funcs := p.funcs ++ [l] } := by
  have hb1 : Blk w1 pb 51 #[vf, vm, vc, .int .i64 p.size] := Blk.grownOwn h.box h.fs hg (by decide)
  have kp : ∀ {size n : Nat} {t : TypeId} {v : Value} {xs : List Value}, wr.ownsRow X.heap.size t size v n xs → t ≠ 49 → w1.ownsRow X.heap.size t size v n xs := fun h1 ht => owns_keep h1 fun g e => by
    obtain ⟨_, hlt, cs, hb⟩ := owns_block h1 e
    refine hg.block g hlt fun e2 => ?_
    obtain ⟨_, _, xs', hx⟩ := h.fs.block e2.symm
    rw [show wr.heap[g]? = _ from hb] at hx
    injection hx with hx
    injection hx with _ hx
    exact ht hx
  refine ⟨hb1, by have := hb1.set_ 0 v'; simpa using this, hown.setCell hb1 (by simp only [codeR, insR, Repr.row, Repr.pair, Repr.int, List.mem_cons, List.append_nil, List.not_mem_nil, or_false]; decide) (Nat.le_trans h.hN h.hpb) 0 v', owns_box (kp h.main (by decide)) hb1 (by decide) 0 v', owns_box (kp h.cvt (by decide)) hb1 (by decide) 0 v', ?_, h.hpb, h.hN⟩
  refine Fr.setCell ⟨hg.os.trans h.fr.os, hg.tape.trans h.fr.tape, hg.output.trans h.fr.output, Nat.le_trans h.fr.size hg.size, fun k hk hs => (hg.block k (Nat.lt_of_lt_of_le hk h.fr.size) (fun e => ?_)).trans (h.fr.block k hk hs)⟩ (.inl rfl) _
  have := (h.fs.block e.symm).1
  omega
theorem PgI.setM (h : PgI N X pb wr vf vm vc p) {l : List (Int × Int)} {v' : Value} (hown : wr.ownsRow X.heap.size 68 2 v' l.length (pts l)) : PgI N X pb (wr.setCell ⟨pb, 1, none⟩ v') vf v' vc { p with main := l } :=
  ⟨by have := h.box.set_ 1 v'; simpa using this, h.fs.setCell h.box (by simp only [codeR, insR, Repr.row, Repr.pair, Repr.int, List.mem_cons, List.append_nil, List.not_mem_nil, or_false]; decide) (Nat.le_trans h.hN h.hpb) 1 v', owns_box hown h.box (by decide) 1 v', owns_box h.cvt h.box (by decide) 1 v', h.fr.setCell (.inl rfl) _, h.hpb, h.hN⟩
end
theorem insCells_pts (l : List (Int × Int)) : insCells l = pts l := insCells_flat l
def GpI (N : Nat) (X : World) (pb : Nat) (fl : List (List (Int × Int))) (vc : Value) (cl : List Int) (size : Int) (i : Value) (wr : World) : Prop := ∃ (k : Nat) (vf : Value), k ≤ fl.length ∧ i = .int .i64 (k : Int) ∧ PgI N X pb wr vf (.slice none 0 0) vc ⟨fl.take k, [], cl, size⟩
def PgOwn (B : Nat) (W : World) (p : Pg) (vf vm vc : Value) : Prop := OwnAt (codeR B) 49 B W vf p.funcs ∧ W.ownsRow B 68 2 vm p.main.length (pts p.main) ∧ W.ownsRow B 3 1 vc p.cvt.length (ints p.cvt)
def PgPost (w : World) (p : Pg) (e : Ending) (w' : World) : Prop := ∃ vf vm vc, e = .returned (.agg #[vf, vm, vc, .int .i64 p.size]) ∧ PgOwn w.heap.size w' p vf vm vc ∧ Grow w w'
/-- the program that grid.Program tells -/
def gpr (unit size glyph : Int) (gl : List GlyD) (fl : List (List (Int × Int))) (cl : List Int) : Pg := ⟨fl, if 0 ≤ glyph ∧ glyph < gl.length then (gl[glyph.toNat]?.map GlyD.hint).getD [] else [], cl.map (gsc unit size), size⟩
theorem has_any (u f1 f2 f3 f4 f5 f6 f7 f8 : Value) (gA : Option Addr) (n gc : Nat) (i : Int) (w : World) (hf : f1 = .slice gA n gc) (_hn : n ≤ 1000000) :
    Calls Try.prog 24 #[.agg #[u, f1, f2, f3, f4, f5, f6, f7, f8], .int .i64 i] w fun e w' => e = .returned (.bool (decide (0 ≤ i ∧ i < n))) ∧ Grow w w' := by
  subst hf
  have HF := Lib.hid (show Grow w (w.alloc (.cells #[u, .slice gA n gc, f2, f3, f4, f5, f6, f7, f8] 42)) from (Fr.refl _ _).alloc _)
  by_cases h0 : 0 ≤ i
  · by_cases h1 : i < n
    · go_enter Try.func24, Try.ntmps24
      go_wp2
      go_ret
      exact ⟨ret_bool (by simp; omega), HF.out⟩
    · go_enter Try.func24, Try.ntmps24
      go_wp2
      go_ret
      exact ⟨ret_bool (by simp; omega), HF.out⟩
  · go_enter Try.func24, Try.ntmps24
    go_wp2
    go_ret
    exact ⟨ret_bool (by simp; omega), HF.out⟩
def GpV (fb N : Nat) (unit size : Int) (cA : Option Addr) (cc : Nat) (cl : List Int) (i : Nat) (v : Value) (W : World) : Prop :=
  match i with
  | 0 => v = .pointer (some ⟨fb, 0, none⟩)
  | 1 => v = .int .i64 unit
  | 2 => v = .int .i64 size
  | 3 => ∃ a b, v = .func (.func 42) #[] #[.pointer (some ⟨a, 0, none⟩), .pointer (some ⟨b, 0, none⟩)] ∧ Blk W a 3 #[.int .i64 unit] ∧ Blk W b 3 #[.int .i64 size]
  | 4 => v = .pointer (some ⟨fb, 8, none⟩)
  | 5 => v = .slice cA cl.length cc
  | 6 => W.ownsRow N 3 1 v cl.length (ints (cl.map (gsc unit size)))
  | 7 => v = .int .i64 size
  | 8 => ∃ vc, v = .agg #[.slice none 0 0, .slice none 0 0, vc, .int .i64 size] ∧ W.ownsRow N 3 1 vc cl.length (ints (cl.map (gsc unit size)))
  | 9 => ∃ g, v = .pointer (some ⟨g, 0, none⟩) ∧ N ≤ g ∧ Blk W g 51 #[.slice none 0 0, .slice none 0 0, .slice none 0 0, .int .i64 0]
  | _ => True
theorem GpV.grow {fb N : Nat} {unit size : Int} {cA : Option Addr} {cc : Nat} {cl : List Int} {i : Nat} {v : Value} {W W' : World} (h : GpV fb N unit size cA cc cl i v W) (hg : Grow W W') : GpV fb N unit size cA cc cl i v W' := by
  match i with
  | 0 | 1 | 2 | 4 | 5 | 7 => exact h
  | 3 => obtain ⟨a, b, e, h1, h2⟩ := h; exact ⟨a, b, e, hg.blk h1 (fun x => x), hg.blk h2 (fun x => x)⟩
  | 6 => exact owns_grow h hg
  | 8 => obtain ⟨vc, e, h1⟩ := h; exact ⟨vc, e, owns_grow h1 hg⟩
  | 9 => obtain ⟨g, e, h1, h2⟩ := h; exact ⟨g, e, h1, hg.blk h2 (fun x => x)⟩
  | i + 10 => trivial

set_option maxHeartbeats 4000000 in
set_option maxRecDepth 100000 in
theorem gprog_any (N0 : Nat) (unit size glyph : Int) (f2 f3 f4 f5 f6 : Value) (gA fA cA : Option Addr) (gc fc cc B : Nat) (gl : List GlyD) (fl : List (List (Int × Int))) (cl : List Int) (w : World)
    (hgl : RowAt (glyphR N0) 74 w B gA gl) (hfl : RowAt (codeR N0) 49 w B fA fl) (hcl : Reads w B 1 cA cl.length (ints cl)) (hB : B ≤ w.heap.size) (h1 : gl.length ≤ 1000000) (h2 : fl.length ≤ 1000000) (h3 : cl.length ≤ 1000000)
    (h4 : ∀ g ∈ gl, g.hint.length ≤ 1000000) (h5 : ∀ l ∈ fl, l.length ≤ 1000000) (hi : ∀ x ∈ cl, -9223372036854775808 ≤ x ∧ x ≤ 9223372036854775807) (hu : -9223372036854775808 ≤ unit ∧ unit ≤ 9223372036854775807) :
    Calls Try.prog 12 #[.agg #[.int .i64 unit, .slice gA gl.length gc, f2, f3, f4, f5, f6, .slice fA fl.length fc, .slice cA cl.length cc], .int .i64 glyph, .int .i64 size] w (PgPost w (gpr unit size glyph gl fl cl)) := by
  obtain ⟨X, hX⟩ : ∃ X, X = ((w.alloc (.cells #[.int .i64 unit, .slice gA gl.length gc, f2, f3, f4, f5, f6, .slice fA fl.length fc, .slice cA cl.length cc] 42)).alloc (.cells #[.slice none 0 0, .slice none 0 0, .slice none 0 0, .int .i64 0] 51)) := ⟨_, rfl⟩
  have hXw : Grow w X := by rw [hX]; exact ((Fr.refl _ w).alloc _).alloc _
  have hb0 : Blk X w.heap.size 42 #[.int .i64 unit, .slice gA gl.length gc, f2, f3, f4, f5, f6, .slice fA fl.length fc, .slice cA cl.length cc] := by rw [hX]; exact (Blk.new _ _ _).alloc _
  have hb1 : Blk X (w.heap.size + 1) 51 #[.slice none 0 0, .slice none 0 0, .slice none 0 0, .int .i64 0] := by rw [hX]; exact Blk.new_at _ _ _ (by simp)
  have hz0 : X.heap.size = w.heap.size + 2 := by rw [hX]; simp
  have HXZ := Lib.hid hz0
  have HFB := Lib.hid hb0
  have HB1 := Lib.hid hb1
  have HXG := Lib.hid hXw
  have hX0 := Lib.hid hX
  have hbl := Grow.below hXw (Nat.le_refl _)
  have HCV := Lib.hid (hcl.below hbl hB)
  have HGL := Lib.hid (hgl.below hbl hB)
  have HFL := Lib.hid (hfl.below hbl hB)
  have HBX := Lib.hid (show B ≤ X.heap.size by omega)
  have HCL := Lib.hid h3
  have HCI := Lib.hid hi
  have HU := Lib.hid hu
  have HH := Lib.hid h4
  have HFH := Lib.hid h5
  have HGN := Lib.hid h1
  have HFN := Lib.hid h2
  obtain ⟨i0, hi0, hi1, hi2, hi3⟩ := info_m coderow_info
  clear hgl hfl hcl hB h1 h2 h3 h4 h5 hi hu hX hXw hb0 hb1 hz0 hbl
  go_enter Try.func12, Try.ntmps12
  go_upto_region 1 with fail
  rw [← hX0.out]
  refine wp_region_conc (GpV w.heap.size X.heap.size unit size cA cc cl) (fun W => Grow X W) Grow (by as_aux_lemma => kernel_rfl) (by as_aux_lemma => kernel_rfl) 10 rfl ?_ ?_ ?_ ?_
  · intro i v W W' hv hr
    exact hv.grow hr
  · exact (Fr.refl _ _).drew
  · intro j ev val W hj hG hev hd
    have _ec := hev.const
    have _ef := hev.func
    have HGG := Lib.hid hG
    have hzW := hG.size
    clear hG
    match j, hj with
    | 0, _ =>
      have _s3 : ev (.tmp 3) = .pointer (some ⟨w.heap.size, 0, none⟩) := hev.other 3 (by kernel_rfl)
      refine ⟨_, rfl, rfl, ?_⟩; unfold yields; go_simp
      exact ⟨rfl, HGG.out, Fr.refl _ _⟩
    | 1, _ =>
      have d0 := hd 0 (by kernel_rfl); have x0 := hev.dep 0 10 (by kernel_rfl) (by kernel_rfl); simp only [GpV] at d0
      rw [d0] at x0
      have hp := HGG.out.blk HFB.out (fun x => x)
      have r0 := hp.cell 0
      simp only [List.getElem?_toArray, List.getElem?_cons_zero] at r0
      have hpl2 := hp.lt
      clear hp
      refine ⟨_, rfl, rfl, ?_⟩; unfold yields; go_simp
      exact ⟨rfl, HGG.out, Fr.refl _ _⟩
    | 2, _ =>
      have _s2 : ev (.tmp 2) = .int .i64 size := hev.other 2 (by kernel_rfl)
      refine ⟨_, rfl, rfl, ?_⟩; unfold yields; go_simp
      exact ⟨rfl, HGG.out, Fr.refl _ _⟩
    | 3, _ =>
      have d1 := hd 1 (by kernel_rfl); have x1 := hev.dep 1 11 (by kernel_rfl) (by kernel_rfl); simp only [GpV] at d1
      rw [d1] at x1
      have d2 := hd 2 (by kernel_rfl); have x2 := hev.dep 2 12 (by kernel_rfl) (by kernel_rfl); simp only [GpV] at d2
      rw [d2] at x2
      refine ⟨_, rfl, rfl, ?_⟩; unfold yields; go_simp
      refine (scaler_any unit size W).mono ?_
      rintro e w5 ⟨rfl, rfl⟩
      have hg5 : Grow W ((W.alloc (.cells #[.int .i64 unit] 3)).alloc (.cells #[.int .i64 size] 3)) := ((Fr.refl _ _).alloc _).alloc _
      exact ⟨_, rfl, ⟨_, _, rfl, (Blk.new _ _ _).alloc _, Blk.new_at _ _ _ (by simp)⟩, HGG.out.trans hg5, hg5⟩
    | 4, _ =>
      have _s3 : ev (.tmp 3) = .pointer (some ⟨w.heap.size, 0, none⟩) := hev.other 3 (by kernel_rfl)
      refine ⟨_, rfl, rfl, ?_⟩; unfold yields; go_simp
      exact ⟨rfl, HGG.out, Fr.refl _ _⟩
    | 5, _ =>
      have d4 := hd 4 (by kernel_rfl); have x4 := hev.dep 4 14 (by kernel_rfl) (by kernel_rfl); simp only [GpV] at d4
      rw [d4] at x4
      have hp := HGG.out.blk HFB.out (fun x => x)
      have r0 := hp.cell 8
      simp only [List.getElem?_toArray, List.getElem?_cons_zero, List.getElem?_cons_succ] at r0
      have hpl2 := hp.lt
      clear hp
      refine ⟨_, rfl, rfl, ?_⟩; unfold yields; go_simp
      exact ⟨rfl, HGG.out, Fr.refl _ _⟩
    | 6, _ =>
      have d3 := hd 3 (by kernel_rfl); have x3 := hev.dep 3 13 (by kernel_rfl) (by kernel_rfl); simp only [GpV] at d3
      have d5 := hd 5 (by kernel_rfl); have x5 := hev.dep 5 15 (by kernel_rfl) (by kernel_rfl); simp only [GpV] at d5
      rw [d5] at x5
      obtain ⟨a, b, e3, hk1, hk2⟩ := d3
      rw [e3] at x3
      have q1 := hk1.cell 0
      have q2 := hk2.cell 0
      simp only [List.getElem?_toArray, List.getElem?_cons_zero] at q1 q2
      have hsc := scl_any cA cc B a b cl unit size W (HCV.out.keep fun q hq => HGG.out.cell (by have := HBX.out; omega) (fun x => x)) (by have := HBX.out; omega) HCL.out HCI.out HU.out q1 q2 hk1.lt hk2.lt
      clear e3 hk1 hk2 q1 q2
      refine ⟨_, rfl, rfl, ?_⟩; unfold yields; go_simp
      refine hsc.mono ?_
      rintro e w5 ⟨g5, rfl, hg51, hb5, hbl5⟩
      have hg5 : Grow W w5 := Fr.of_below hbl5 (fun k hk _ => hk)
      refine ⟨_, rfl, ⟨by simp [ints], .inr ⟨g5, cl.length, _, rfl, by omega, hb5, Nat.le_refl _, by have := HCL.out; unfold maxLen; omega, by simp [ints], by rw [List.take_of_length_le (by simp [ints])]⟩⟩, HGG.out.trans hg5, hg5⟩
    | 7, _ =>
      have _s2 : ev (.tmp 2) = .int .i64 size := hev.other 2 (by kernel_rfl)
      refine ⟨_, rfl, rfl, ?_⟩; unfold yields; go_simp
      exact ⟨rfl, HGG.out, Fr.refl _ _⟩
    | 8, _ =>
      have d6 := hd 6 (by kernel_rfl); have x6 := hev.dep 6 16 (by kernel_rfl) (by kernel_rfl); simp only [GpV] at d6
      have d7 := hd 7 (by kernel_rfl); have x7 := hev.dep 7 17 (by kernel_rfl) (by kernel_rfl); simp only [GpV] at d7
      rw [d7] at x7
      obtain ⟨Ac6, kc6, e6, _⟩ := owns_form d6
      rw [e6] at x6 d6
      refine ⟨_, rfl, rfl, ?_⟩; unfold yields; go_simp
      exact ⟨⟨_, rfl, d6⟩, HGG.out, Fr.refl _ _⟩
    | 9, _ =>
      refine ⟨_, rfl, rfl, ?_⟩; unfold yields; go_simp
      exact ⟨⟨_, rfl, hzW, Blk.new _ _ _⟩, HGG.out.alloc _, (Fr.refl _ _).alloc _⟩
    | i + 10, hi => exact absurd hi (by simp)
  · intro val W hG hV
    obtain ⟨vc, e8, hvc⟩ := hV 8 (by decide)
    obtain ⟨pb, e9, hpb, hkp⟩ := hV 9 (by decide)
    obtain ⟨Ac, kc, rfl, _⟩ := owns_form hvc
    have y0 := hkp.cell 0
    have y1 := hkp.cell 1
    have y2 := hkp.cell 2
    have y3 := hkp.cell 3
    simp only [List.getElem?_toArray, List.getElem?_cons_zero, List.getElem?_cons_succ] at y0 y1 y2 y3
    have yf := hkp.frozen
    have yl := hkp.lt
    obtain ⟨q3, hq3⟩ : ∃ q, q = ((((W.setCell ⟨pb, 0, none⟩ (.slice none 0 0)).setCell ⟨pb, 1, none⟩ (.slice none 0 0)).setCell ⟨pb, 2, none⟩ (.slice Ac cl.length kc)).setCell ⟨pb, 3, none⟩ (.int .i64 size)) := ⟨_, rfl⟩
    have k1 := hkp.set_ 0 (.slice none 0 0)
    have k2 := k1.set_ 1 (.slice none 0 0)
    have k3 := k2.set_ 2 (.slice Ac cl.length kc)
    have k4 := k3.set_ 3 (.int .i64 size)
    have o4 := owns_box (owns_box (owns_box (owns_box hvc hkp (by decide) 0 (.slice none 0 0)) k1 (by decide) 1 (.slice none 0 0)) k2 (by decide) 2 (.slice Ac cl.length kc)) k3 (by decide) 3 (.int .i64 size)
    have g4 := (((hG.setCell (p := ⟨pb, 0, none⟩) (.inr hpb) (.slice none 0 0)).setCell (p := ⟨pb, 1, none⟩) (.inr hpb) (.slice none 0 0)).setCell (p := ⟨pb, 2, none⟩) (.inr hpb) (.slice Ac cl.length kc)).setCell (p := ⟨pb, 3, none⟩) (.inr hpb) (.int .i64 size)
    rw [← hq3] at k4 o4 g4
    have hPI : PgI w.heap.size X pb q3 (.slice none 0 0) (.slice none 0 0) (.slice Ac cl.length kc) ⟨[], [], cl.map (gsc unit size), size⟩ := ⟨by simpa using k4, OwnAt.nil _ _ _ _, owns_nil _ _ _ _, by rw [List.length_map]; exact o4, g4.mono (fun _ _ x => x.elim), hpb, HXG.out.size⟩
    have HPI := Lib.hid hPI
    clear hV hG hvc hkp k1 k2 k3 k4 o4 g4 hPI
    unfold wpOp
    change (if _ then _ else _)
    rw [if_pos (by kernel_rfl)]
    refine .inl ?_
    simp only [fillA, dstOf, List.getElem?_toArray, List.getElem?_cons_zero, List.getElem?_cons_succ, Option.bind_some, e8, e9]
    go_simp
    rw [← hq3]
    clear y0 y1 y2 y3 yf yl hq3
    have HPB := Lib.hid hpb
    obtain ⟨vc, hvc⟩ : ∃ vc, vc = Value.slice Ac cl.length kc := ⟨_, rfl⟩
    rw [← hvc] at HPI ⊢
    generalize hcl : cl.map (gsc unit size) = cl' at *
    have HCM := Lib.hid hcl
    have hfb := HPI.out.fr.blk HFB.out (show ¬ w.heap.size = pb by have := HXZ.out; omega)
    have y0 := hfb.cell 7
    simp only [List.getElem?_toArray, List.getElem?_cons_zero, List.getElem?_cons_succ] at y0
    have yl := hfb.lt
    have H0 := Lib.hid (show GpI w.heap.size X pb fl vc cl' size (.int .i64 0) q3 from ⟨0, _, Nat.zero_le _, rfl, HPI.out⟩)
    clear HPI hfb hvc hcl hpb
    go_upto_region 3 with fail
    clear y0 yl
    go_wp2_with fail
    go_loopw [22] (fun i wr => GpI w.heap.size X pb fl vc cl' size i wr) (fun i _ => fl.length - (intOf i).toNat)
    case atStart => exact H0.out
    case round =>
      clear H0
      obtain ⟨k, vf, hk, rfl, hI⟩ := hrel
      have HI := Lib.hid hI
      by_cases hlt : (k : Int) < (fl.length : Int)
      · obtain ⟨l, hl⟩ : ∃ l, fl[k]? = some l := ⟨_, List.getElem?_eq_getElem (by omega)⟩
        obtain ⟨cb, co, cs, rfl, hcb, hrel, hcc⟩ := HFL.out.get hl
        obtain ⟨Al, lc, rfl, hl1, hl2, hrow⟩ := hrel
        have hfn := HFN.out
        have hws := hI.fr.size
        have hpb := HPB.out
        have hbx := HBX.out
        have x0 := (hI.fr.cell (p := ⟨cb, co + k * 1 + 0, none⟩) (by simp; omega) (show ¬ cb = pb by omega)).trans (hcc 0 _ rfl)
        rw [Nat.add_zero, Nat.mul_one] at x0
        have hcl : cb < wr.heap.size := by omega
        have hlm := HFH.out l (List.mem_of_getElem? hl)
        have HII := Lib.hid (codeR_ints hrow)
        have HRD : Hid (Reads wr B 2 Al l.length (pts l)) := Lib.hid (by rw [← insCells_pts]; exact (codeR_reads hrow).keep fun q hq => hI.fr.cell (by omega) (show ¬ q.block = pb by omega))
        have HLK := Lib.hid hl
        have HFS := Lib.hid (show (fl.take k).length = k by rw [List.length_take]; omega)
        obtain ⟨Af, cf, hvf, hf1, hf2, _⟩ := hI.fs.form
        rw [show (Pg.funcs ⟨fl.take k, [], cl', size⟩).length = k from HFS.out] at hvf
        subst hvf
        have z0 := hI.box.cell 0
        simp only [List.getElem?_toArray, List.getElem?_cons_zero] at z0
        have zl := hI.box.lt
        clear hcc hrow hI hl hws hpb hbx hf1 hf2
        go_upto_region 5 with fail
        clear x0 hcl
        have hS : (fun w' : World => w'.cell? ⟨pb, 0, none⟩ = some (.slice Af k cf)) wr.drew := z0
        refine wp_region_seqT (fun i => !([3, 4, 5, 7] : List Nat).contains i) (fun i => ([1] : List Nat).contains i) (fun i => ([3, 4] : List Nat).contains i) [0, 1, 2, 3, 4, 5, 6, 7] (fun w' : World => w'.cell? ⟨pb, 0, none⟩ = some (.slice Af k cf)) (by kernel_rfl) (by kernel_rfl) (by kernel_rfl) (by kernel_rfl) ?_
        refine wpSeq_pure (v := _) rfl rfl rfl (by kernel_rfl) (fun _ _ _ h => h) (fun wq => by first | (go_simp; done) | (go_simp; rfl)) ?_
        refine wpSeq_load (v := _) rfl rfl (by kernel_rfl) (fun _ _ _ h => h) hS rfl (fun wq hq => by (try dsimp only at hq); first | (go_simp; done) | (go_simp; rfl)) ?_
        refine wpSeq_pure (v := _) rfl rfl rfl (by kernel_rfl) (fun _ _ _ h => h) (fun wq => by first | (go_simp; done) | (go_simp; rfl)) ?_
        refine wpSeq_heavy rfl rfl (fun K hK => ?_); go_simp
        refine (clone_ins wr.drew Al l.length lc B (pts l) HRD.out (pts_one _) (by omega)).mono ?_
        rintro e w5 ⟨v5, rfl, ho5, hg5⟩
        have HI5 := Lib.hid ((HI.out.go (Fr.refl _ _).drew).go hg5)
        obtain ⟨A5, c5, rfl, h51, h52⟩ := owns_form ho5
        have hrel5 : (codeR w.heap.size).rel w5 w5.heap.size l [.slice A5 l.length c5] := (OwnAt.of_own (R := insR w.heap.size) (fun x => [.int .i64 x.1, .int .i64 x.2]) (fun a ha => insR_mk _ _ _ _ _ (HII.out a ha).1 (HII.out a ha).2) ho5).rel
        have HR5 := Lib.hid hrel5
        have hs5 : w5.cell? ⟨pb, 0, none⟩ = some (.slice Af k cf) := by rw [HI5.out.box.cell]; rfl
        clear hrel5 ho5 hg5 h51 h52 z0 zl hS
        refine hK _ _ (fun _ => hs5) ?_; clear hK K
        refine wpSeq_heavy rfl rfl (fun K hK => ?_); go_simp
        have HI6 := Lib.hid (HI5.out.go ((Fr.refl _ _).alloc (.cells #[.slice A5 l.length c5] 49)))
        have HR6 := Lib.hid ((codeR w.heap.size).more ((codeR w.heap.size).below HR5.out ((Below.refl _ w5).alloc (Nat.le_refl _) (.cells #[.slice A5 l.length c5] 49)) (Nat.le_refl _)) (show w5.heap.size ≤ (w5.alloc (.cells #[.slice A5 l.length c5] 49)).heap.size by simp))
        have hs6 : (w5.alloc (.cells #[.slice A5 l.length c5] 49)).cell? ⟨pb, 0, none⟩ = some (.slice Af k cf) := by rw [HI6.out.box.cell]; rfl
        clear HI5 HR5 hs5
        refine hK _ _ (fun _ => hs6) ?_; clear hK K
        refine wpSeq_heavy rfl rfl (fun K hK => ?_)
        refine step_push _ rfl (.tmp 27) (.tmp 30) _ rfl (codeR w.heap.size) X.heap.size 49 i0 _ 24 Try.underlying40 hi0 hi1 hi2 hi3 rfl (show 0 < 1 by decide) (by simp only [codeR, insR, Repr.row, Repr.pair, Repr.int, List.mem_cons, List.append_nil, List.not_mem_nil, or_false]; decide) HXG.out.size (.slice Af k cf) (fl.take k) rfl HI6.out.fs w5.heap.size [_] l rfl (Blk.new _ _ _) HR6.out (by have := HFS.out; have := HFN.out; unfold maxLen; omega) (by have := HFS.out; have := HFN.out; omega) (by have := HI6.out.fr.size; omega) ?_
        intro A9 c9 w9 hown9 hg9
        obtain ⟨hb9, hI9⟩ := HI6.out.pushF hown9 hg9
        have b0 := hb9.cell 0
        have b1 := hb9.frozen 0
        have b2 := hb9.lt
        simp only [List.getElem?_toArray, List.getElem?_cons_zero] at b0
        have HI9 := Lib.hid hI9
        clear hI9 hb9 hown9 hg9 HI6 HR6 hs6
        refine hK _ _ (fun h => by cases h) ?_; clear hK K
        refine wpSeq_pure (v := _) rfl rfl rfl (by kernel_rfl) (fun _ _ _ h => h) (fun wq => by first | (go_simp; done) | (go_simp; rfl)) ?_
        refine wpSeq_heavy rfl rfl (fun K hK => ?_); go_simp
        refine hK _ _ (fun h => by cases h) ?_; clear hK K
        refine wpSeq_end ?_
        go_wp2_with fail
        refine ⟨⟨k + 1, .slice A9 (k + 1) c9, by omega, by first | rfl | go_num, ?_⟩, by simp [intOf]; omega⟩
        have h := HI9.out
        rw [HFS.out] at h
        rw [List.take_add_one, HLK.out]
        exact h
      · have hke : k = fl.length := by omega
        subst hke
        rw [List.take_length] at hI
        clear HI hlt hk
        have hfb := hI.fr.blk HFB.out (show ¬ w.heap.size = pb by have := HXZ.out; have := HPB.out; omega)
        have HI := Lib.hid hI
        have HPW := Lib.hid hfb
        have y0 := hfb.cell 0
        have y1 := hfb.cell 1
        have y2 := hfb.cell 2
        have y3 := hfb.cell 3
        have y4 := hfb.cell 4
        have y5 := hfb.cell 5
        have y6 := hfb.cell 6
        have y7 := hfb.cell 7
        have y8 := hfb.cell 8
        simp only [List.getElem?_toArray, List.getElem?_cons_zero, List.getElem?_cons_succ] at y0 y1 y2 y3 y4 y5 y6 y7 y8
        have yl := hfb.lt
        clear hI hfb
        go_wp2_with fail
        refine (has_any (.int .i64 unit) (.slice gA gl.length gc) f2 f3 f4 f5 f6 (.slice fA fl.length fc) (.slice cA cl.length cc) gA gl.length gc glyph wr rfl HGN.out).mono ?_
        rintro e w3 ⟨rfl, hg3⟩
        clear y0 y1 y2 y3 y4 y5 y6 y7 y8 yl
        have HI3 := Lib.hid (HI.out.go hg3)
        have hfb := hg3.blk HPW.out (fun x => x)
        have y1 := hfb.cell 1
        simp only [List.getElem?_toArray, List.getElem?_cons_zero, List.getElem?_cons_succ] at y1
        have yl := hfb.lt
        clear hg3 hfb HI HPW
        by_cases hgi : 0 ≤ glyph ∧ glyph < gl.length
        · obtain ⟨gi, rfl⟩ := Int.eq_ofNat_of_zero_le hgi.1
          have hlt : gi < gl.length := by omega
          obtain ⟨g, hg⟩ : ∃ g, gl[gi]? = some g := ⟨_, List.getElem?_eq_getElem hlt⟩
          obtain ⟨gb, go, gcs, rfl, hgb, hgr, hgc⟩ := HGL.out.get hg
          obtain ⟨Ap, np, kp, Ae, ne, ke, Aa, na, ka, An, nn, kn, Ad, nd, kd, Ah, hc, rfl, hh1, hh2, hrow⟩ := glyphR_cells hgr
          have hws := HI3.out.fr.size
          have hpb := HPB.out
          have hbx := HBX.out
          have x0 := (HI3.out.fr.cell (p := ⟨gb, go + gi * 9 + 8, none⟩) (by simp; omega) (show ¬ gb = pb by omega)).trans (hgc 8 _ rfl)
          have hgl : gb < w3.heap.size := by omega
          have HRD : Hid (Reads w3 B 2 Ah g.hint.length (pts g.hint)) := Lib.hid (by rw [← insCells_pts]; exact (codeR_reads hrow).keep fun q hq => HI3.out.fr.cell (by omega) (show ¬ q.block = pb by omega))
          have hhl := HH.out g (List.mem_of_getElem? hg)
          have HMN := Lib.hid (show (if 0 ≤ (gi : Int) ∧ (gi : Int) < gl.length then (gl[(gi : Int).toNat]?.map GlyD.hint).getD [] else []) = g.hint by rw [if_pos hgi, Int.toNat_natCast, hg]; rfl)
          have hd1 : decide (0 ≤ (gi : Int) ∧ (gi : Int) < gl.length) = true := decide_eq_true hgi
          have hlt2 : (gi : Int) < (gl.length : Int) := by omega
          clear hgc hrow hg hgr hws hpb hbx hgi
          rw [hd1]
          clear hd1
          go_wp2_with fail
          refine (clone_ins w3 Ah g.hint.length hc B (pts g.hint) HRD.out (pts_one _) (by omega)).mono ?_
          rintro e w5 ⟨v5, rfl, ho5, hg5⟩
          clear x0 y1 yl
          have hI5 := HI3.out.go hg5
          obtain ⟨A5, c5, rfl, _⟩ := owns_form ho5
          have z1 := hI5.box.cell 1
          have zf := hI5.box.frozen 1
          have zl := hI5.box.lt
          simp only [List.getElem?_toArray, List.getElem?_cons_zero, List.getElem?_cons_succ] at z1
          have HI := Lib.hid (hI5.setM (l := g.hint) (owns_mono ho5 HI3.out.fr.size))
          clear HI3 ho5 hg5 hI5
          go_upto_region 9 with fail
          clear z1 zf zl
          generalize w5.setCell ⟨pb, 1, none⟩ (.slice A5 g.hint.length c5) = W6 at *
          have HPF := Lib.hid (HI.out.fs)
          obtain ⟨Af, cf, rfl, _⟩ := HI.out.fs.form
          obtain ⟨Ac', cc', rfl, _⟩ := owns_form HI.out.cvt
          dsimp only at HI ⊢
          have hbr := HI.out.fr.blk HB1.out (show ¬ w.heap.size + 1 = pb by have := HXZ.out; have := HPB.out; omega)
          have x0 := HI.out.box.cell 0
          have x1 := HI.out.box.cell 1
          have x2 := HI.out.box.cell 2
          have x3 := HI.out.box.cell 3
          have z0 := hbr.cell 0
          have z1 := hbr.cell 1
          have z2 := hbr.cell 2
          have z3 := hbr.cell 3
          simp only [List.getElem?_toArray, List.getElem?_cons_zero, List.getElem?_cons_succ] at x0 x1 x2 x3 z0 z1 z2 z3
          have xl := HI.out.box.lt
          have zf := hbr.frozen
          have zl := hbr.lt
          have hend : ∀ W', W' = ((((W6.setCell ⟨w.heap.size + 1, 0, none⟩ (.slice Af fl.length cf)).setCell ⟨w.heap.size + 1, 1, none⟩ (.slice A5 g.hint.length c5)).setCell ⟨w.heap.size + 1, 2, none⟩ (.slice Ac' cl'.length cc')).setCell ⟨w.heap.size + 1, 3, none⟩ (.int .i64 size)) → PgPost w ⟨fl, g.hint, cl', size⟩ (.returned (.agg #[.slice Af fl.length cf, .slice A5 g.hint.length c5, .slice Ac' cl'.length cc', .int .i64 size])) W' := by
            intro W' hW'
            have k0 := hbr
            have k1 := k0.set_ 0 (.slice Af fl.length cf)
            have k2 := k1.set_ 1 (.slice A5 g.hint.length c5)
            have k3 := k2.set_ 2 (.slice Ac' cl'.length cc')
            have hb := HXG.out.size
            have hn : 51 ∉ 49 :: (codeR w.heap.size).tys := by simp only [codeR, insR, Repr.row, Repr.pair, Repr.int, List.mem_cons, List.append_nil, List.not_mem_nil, or_false]; decide
            have q0 := ((((HI.out.fs.mono hb).setCell k0 hn (by omega) 0 (.slice Af fl.length cf)).setCell k1 hn (by omega) 1 (.slice A5 g.hint.length c5)).setCell k2 hn (by omega) 2 (.slice Ac' cl'.length cc')).setCell k3 hn (by omega) 3 (.int .i64 size)
            have q1 := owns_box (owns_box (owns_box (owns_box (owns_mono HI.out.main hb) k0 (by decide) _ _) k1 (by decide) _ _) k2 (by decide) _ _) k3 (by decide) 3 (.int .i64 size)
            have q2 := owns_box (owns_box (owns_box (owns_box (owns_mono HI.out.cvt hb) k0 (by decide) _ _) k1 (by decide) _ _) k2 (by decide) _ _) k3 (by decide) 3 (.int .i64 size)
            refine ⟨_, _, _, rfl, ?_, ?_⟩
            · rw [hW']
              exact ⟨q0, q1, q2⟩
            · rw [hW']
              have hX := HXG.out
              have hpb := HPB.out
              have hf : Grow w W6 := ⟨HI.out.fr.os.trans hX.os, HI.out.fr.tape.trans hX.tape, HI.out.fr.output.trans hX.output, by have := HI.out.fr.size; omega, fun k hk _ => (HI.out.fr.block k (by omega) (by omega)).trans (hX.block k hk (fun x => x))⟩
              have hg1 : w.heap.size ≤ w.heap.size + 1 := by omega
              exact (((hf.setCell (.inr hg1) _).setCell (.inr hg1) _).setCell (.inr hg1) _).setCell (.inr hg1) _
          have HEND := Lib.hid hend
          clear hend hbr HI HPF
          go_wp2
          refine bodyPost_ret (v := .agg #[.slice Af fl.length cf, .slice A5 g.hint.length c5, .slice Ac' cl'.length cc', .int .i64 size]) (by simp [results, Try.results12, go_sem, z0, z1, z2, z3]) rfl ?_
          unfold gpr
          rw [HMN.out, HCM.out]
          exact HEND.out _ rfl
        · have HMN := Lib.hid (show (if 0 ≤ glyph ∧ glyph < gl.length then (gl[glyph.toNat]?.map GlyD.hint).getD [] else []) = [] from if_neg hgi)
          rw [decide_eq_false hgi]
          clear hgi
          have HI := HI3
          clear HI3 y1 yl
          go_upto_region 9 with fail
          have HPF := Lib.hid (HI.out.fs)
          obtain ⟨Af, cf, rfl, _⟩ := HI.out.fs.form
          obtain ⟨Ac', cc', rfl, _⟩ := owns_form HI.out.cvt
          dsimp only at HI ⊢
          have hbr := HI.out.fr.blk HB1.out (show ¬ w.heap.size + 1 = pb by have := HXZ.out; have := HPB.out; omega)
          have x0 := HI.out.box.cell 0
          have x1 := HI.out.box.cell 1
          have x2 := HI.out.box.cell 2
          have x3 := HI.out.box.cell 3
          have z0 := hbr.cell 0
          have z1 := hbr.cell 1
          have z2 := hbr.cell 2
          have z3 := hbr.cell 3
          simp only [List.getElem?_toArray, List.getElem?_cons_zero, List.getElem?_cons_succ] at x0 x1 x2 x3 z0 z1 z2 z3
          have xl := HI.out.box.lt
          have zf := hbr.frozen
          have zl := hbr.lt
          have hend : ∀ W', W' = ((((w3.setCell ⟨w.heap.size + 1, 0, none⟩ (.slice Af fl.length cf)).setCell ⟨w.heap.size + 1, 1, none⟩ (.slice none 0 0)).setCell ⟨w.heap.size + 1, 2, none⟩ (.slice Ac' cl'.length cc')).setCell ⟨w.heap.size + 1, 3, none⟩ (.int .i64 size)) → PgPost w ⟨fl, ([] : List (Int × Int)), cl', size⟩ (.returned (.agg #[.slice Af fl.length cf, .slice none 0 0, .slice Ac' cl'.length cc', .int .i64 size])) W' := by
            intro W' hW'
            have k0 := hbr
            have k1 := k0.set_ 0 (.slice Af fl.length cf)
            have k2 := k1.set_ 1 (.slice none 0 0)
            have k3 := k2.set_ 2 (.slice Ac' cl'.length cc')
            have hb := HXG.out.size
            have hn : 51 ∉ 49 :: (codeR w.heap.size).tys := by simp only [codeR, insR, Repr.row, Repr.pair, Repr.int, List.mem_cons, List.append_nil, List.not_mem_nil, or_false]; decide
            have q0 := ((((HI.out.fs.mono hb).setCell k0 hn (by omega) 0 (.slice Af fl.length cf)).setCell k1 hn (by omega) 1 (.slice none 0 0)).setCell k2 hn (by omega) 2 (.slice Ac' cl'.length cc')).setCell k3 hn (by omega) 3 (.int .i64 size)
            have q1 := owns_box (owns_box (owns_box (owns_box (owns_mono HI.out.main hb) k0 (by decide) _ _) k1 (by decide) _ _) k2 (by decide) _ _) k3 (by decide) 3 (.int .i64 size)
            have q2 := owns_box (owns_box (owns_box (owns_box (owns_mono HI.out.cvt hb) k0 (by decide) _ _) k1 (by decide) _ _) k2 (by decide) _ _) k3 (by decide) 3 (.int .i64 size)
            refine ⟨_, _, _, rfl, ?_, ?_⟩
            · rw [hW']
              exact ⟨q0, q1, q2⟩
            · rw [hW']
              have hX := HXG.out
              have hpb := HPB.out
              have hf : Grow w w3 := ⟨HI.out.fr.os.trans hX.os, HI.out.fr.tape.trans hX.tape, HI.out.fr.output.trans hX.output, by have := HI.out.fr.size; omega, fun k hk _ => (HI.out.fr.block k (by omega) (by omega)).trans (hX.block k hk (fun x => x))⟩
              have hg1 : w.heap.size ≤ w.heap.size + 1 := by omega
              exact (((hf.setCell (.inr hg1) _).setCell (.inr hg1) _).setCell (.inr hg1) _).setCell (.inr hg1) _
          have HEND := Lib.hid hend
          clear hend hbr HI HPF
          go_wp2
          refine bodyPost_ret (v := .agg #[.slice Af fl.length cf, .slice none 0 0, .slice Ac' cl'.length cc', .int .i64 size]) (by simp [results, Try.results12, go_sem, z0, z1, z2, z3]) rfl ?_
          unfold gpr
          rw [HMN.out, HCM.out]
          exact HEND.out _ rfl
end Go.Proofs.Ytnalbkjbidaojaa

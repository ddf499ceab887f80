/- Parts of the proof, joined: Rzn. -/
import Derived.Test.YtnhebmgibiomnaaGreatPa32
set_option linter.unusedVariables false
set_option linter.unusedSimpArgs false
namespace Go.Proofs.YtnhebmgibiomnaaGreat
open Go.RowKit Mc
theorem rkeep_still (n : Int) (w : World) : Calls Tryz.prog 53 #[.int .i64 n] w fun e w' => e = .returned (.int .i64 (k32 n)) ∧ w' = w := (rkeep_any n w).mono fun _ _ h => ⟨h.1, h.2.symm⟩
def znK (z : Zn) (k : Nat) : Zn := ⟨(List.range k).map (oF z), (List.range k).map (cF z), (List.range k).map (tF z), []⟩
theorem znK_org (z : Zn) (k : Nat) : (List.range (k + 1)).map (oF z) = (List.range k).map (oF z) ++ [oF z k] := by rw [List.range_succ, List.map_append]; rfl
theorem znK_cur (z : Zn) (k : Nat) : (List.range (k + 1)).map (cF z) = (List.range k).map (cF z) ++ [cF z k] := by rw [List.range_succ, List.map_append]; rfl
theorem znK_touch (z : Zn) (k : Nat) : (List.range (k + 1)).map (tF z) = (List.range k).map (tF z) ++ [tF z k] := by rw [List.range_succ, List.map_append]; rfl
def znOf (z : Zn) : Zn := ⟨(List.range z.cur.length).map (oF z), z.cur.map Mc.k2, (List.range z.cur.length).map (tF z), z.ends⟩
def RzI (w : World) (bx : Nat) (zb : Nat) (z : Zn) (cs : Array Value) (i : Value) (wr : World) : Prop := ∃ (k : Nat) (vo vu vt : Value), k ≤ z.cur.length ∧ i = .int .i64 (k : Int) ∧ ZnI w zb wr vo vu vt (.slice none 0 0) (znK z k) ∧ Blk wr bx 30 cs
def RzV (bx cb co k n uc N : Nat) (x y : Int) (i : Nat) (v : Value) (W : World) : Prop :=
  match i with
  | 0 | 7 => v = .pointer (some ⟨bx, 1, none⟩)
  | 1 | 8 => v = .slice (some ⟨cb, co, none⟩) n uc
  | 2 | 9 => v = .int .i64 (k : Int)
  | 3 | 4 | 10 => v = .pointer (some ⟨cb, co + k * 2, none⟩)
  | 11 => v = .pointer (some ⟨cb, co + k * 2 + 1, none⟩)
  | 5 => v = .int .i64 x
  | 12 => v = .int .i64 y
  | 6 => v = .int .i64 (k32 x)
  | 13 => v = .int .i64 (k32 y)
  | 14 => v = .agg #[.int .i64 (k32 x), .int .i64 (k32 y)]
  | 15 => ∃ g, v = .pointer (some ⟨g, 0, none⟩) ∧ N ≤ g ∧ Blk W g 76 #[.int .i64 0, .int .i64 0]
  | _ => True
theorem RzV.grow {bx cb co k n uc N : Nat} {x y : Int} {i : Nat} {v : Value} {W W' : World} (h : RzV bx cb co k n uc N x y i v W) (hg : Grow W W') : RzV bx cb co k n uc N x y i v W' := by
  unfold RzV at *
  split at h <;> try exact h
  obtain ⟨g, h1, h2, h3⟩ := h
  exact ⟨g, h1, h2, hg.blk h3 (fun x => x)⟩
set_option maxHeartbeats 4000000 in
set_option maxRecDepth 100000 in
theorem rzone_any (w : World) (B : Nat) (z : Zn) (hz : ZnOk z) (oA uA tA eA : Option Addr) (oc uc tc ec : Nat) (h : ZnAt w B z oA uA tA eA) (hB : B ≤ w.heap.size) :
    Calls Tryz.prog 25 #[.agg #[.slice oA z.org.length oc, .slice uA z.cur.length uc, .slice tA z.touch.length tc, .slice eA z.ends.length ec]] w (ZnPost w (znOf z)) := by
  obtain ⟨X, hX⟩ : ∃ X, X = (((w.alloc (.cells #[.slice oA z.org.length oc, .slice uA z.cur.length uc, .slice tA z.touch.length tc, .slice eA z.ends.length ec] 30)).alloc (.cells #[.slice none 0 0, .slice none 0 0, .slice none 0 0, .slice none 0 0] 30)).alloc (.cells #[.slice none 0 0, .slice none 0 0, .slice none 0 0, .slice none 0 0] 30)) := ⟨_, rfl⟩
  have hXG : Grow w X := by rw [hX]; exact (((Fr.refl _ w).alloc _).alloc _).alloc _
  have hXz : X.heap.size = w.heap.size + 1 + 1 + 1 := by rw [hX]; simp
  have hbz : Blk X w.heap.size 30 #[.slice oA z.org.length oc, .slice uA z.cur.length uc, .slice tA z.touch.length tc, .slice eA z.ends.length ec] := by rw [hX]; exact ((Blk.new _ _ _).alloc _).alloc _
  have hb0 : Blk X (w.heap.size + 1) 30 #[.slice none 0 0, .slice none 0 0, .slice none 0 0, .slice none 0 0] := by rw [hX]; exact (Blk.new_at _ _ _ (by simp)).alloc _
  have hb1 : Blk X (w.heap.size + 1 + 1) 30 #[.slice none 0 0, .slice none 0 0, .slice none 0 0, .slice none 0 0] := by rw [hX]; exact Blk.new_at _ _ _ (by simp)
  have hI0 : ZnI X (w.heap.size + 1 + 1) X (.slice none 0 0) (.slice none 0 0) (.slice none 0 0) (.slice none 0 0) (znK z 0) := ⟨hb1, owns_nil _ _ _ _, owns_nil _ _ _ _, owns_nil _ _ _ _, owns_nil _ _ _ _, apart_nil, apart_nil, Fr.refl _ _, by omega⟩
  have HZA := Lib.hid (h.keep (W' := X) fun q hq => hXG.cell (by omega) (fun x => x))
  have H0 : Hid (RzI X w.heap.size (w.heap.size + 1 + 1) z #[.slice oA z.org.length oc, .slice uA z.cur.length uc, .slice tA z.touch.length tc, .slice eA z.ends.length ec] (.int .i64 0) X) := Lib.hid ⟨0, _, _, _, Nat.zero_le _, rfl, hI0, hbz⟩
  have HX := Lib.hid hX
  have HXG := Lib.hid hXG
  have HXZ := Lib.hid hXz
  have HB0 := Lib.hid hb0
  have HBB := Lib.hid hB
  have hz1 := hz.org
  have hz2 := hz.cur
  have hz3 := hz.touch
  have hz4 := hz.ends
  obtain ⟨i0, hi0, hi1, hi2, hi3⟩ := info_m info_pt
  obtain ⟨j0, hj0, hj1, hj2, hj3⟩ := info_m info_int
  clear h hX hXG hb0 hb1 hI0 hB hXz hbz hz
  go_enter Tryz.func25, Tryz.ntmps25
  go_upto_region 2 with fail
  rw [← HX.out]
  go_wp2_with fail
  go_loopw [4] (fun i wr => RzI X w.heap.size (w.heap.size + 1 + 1) z #[.slice oA z.org.length oc, .slice uA z.cur.length uc, .slice tA z.touch.length tc, .slice eA z.ends.length ec] i wr) (fun i _ => z.cur.length - (intOf i).toNat)
  case atStart => exact H0.out
  case round =>
    clear H0
    obtain ⟨k, vo, vu, vt, hk, rfl, hI, hbx⟩ := hrel
    have y0 := hbx.cell 0
    have y1 := hbx.cell 1
    have y2 := hbx.cell 2
    have y3 := hbx.cell 3
    simp only [List.getElem?_toArray, List.getElem?_cons_zero, List.getElem?_cons_succ] at y0 y1 y2 y3
    have yl := hbx.lt
    by_cases hlt : (k : Int) < z.cur.length
    · obtain ⟨⟨x, y⟩, hxy⟩ : ∃ p, z.cur[k]? = some p := ⟨_, List.getElem?_eq_getElem (by omega)⟩
      obtain ⟨cb, co, rfl, hcb, hcc⟩ := HZA.out.cur.at_ (by omega)
      have hxz := HXZ.out
      have hcw : cb < w.heap.size := by have := HBB.out; omega
      have x0 := (hI.fr.cell (p := ⟨cb, co + 2 * k, none⟩) (by simp; omega) (show ¬ cb = w.heap.size + 1 + 1 by omega)).trans (hcc _ _ (pts_get hxy).1)
      have x1 := (hI.fr.cell (p := ⟨cb, co + (2 * k + 1), none⟩) (by simp; omega) (show ¬ cb = w.heap.size + 1 + 1 by omega)).trans (hcc _ _ (pts_get hxy).2)
      rw [Nat.mul_comm 2] at x0 x1
      rw [← Nat.add_assoc] at x1
      dsimp only at x0 x1
      have hcbl : cb < wr.heap.size := by omega
      have HCF : Hid (cF z k = (k32 x, k32 y)) := Lib.hid (by unfold cF; rw [getD_of hxy]; rfl)
      have HI := Lib.hid hI
      have HBX := Lib.hid hbx
      clear hcc hI hbx hxy hxz
      go_wp2_with fail
      refine wp_region_conc (RzV w.heap.size cb co k z.cur.length uc wr.heap.size x y) (fun W => Grow wr W) Grow (by as_aux_lemma => kernel_rfl) (by as_aux_lemma => kernel_rfl) 16 rfl ?_ ?_ ?_ ?_
      · intro i v W W' hv hr
        exact hv.grow hr
      · exact (Fr.refl _ _).drew
      · intro j ev val W hj hG hev hd
        have _e1 : ev (.tmp 1) = .pointer (some ⟨w.heap.size, 0, none⟩) := hev.other 1 (by kernel_rfl)
        have _e4 : ev (.tmp 4) = .int .i64 (k : Int) := hev.other 4 (by kernel_rfl)
        have _ec := hev.const
        have _ef := hev.func
        have hbz := hG.blk HBX.out (fun x => x)
        have z1 := hbz.cell 1
        simp only [List.getElem?_toArray, List.getElem?_cons_zero, List.getElem?_cons_succ] at z1
        have hzl := hbz.lt
        have xa := (hG.cell (p := ⟨cb, co + k * 2, none⟩) hcbl (fun x => x)).trans x0
        have xb := (hG.cell (p := ⟨cb, co + k * 2 + 1, none⟩) hcbl (fun x => x)).trans x1
        have hcbW : cb < W.heap.size := by have := hG.size; omega
        have i1 : (k : Int) < z.cur.length := hlt
        have i2 : k < z.cur.length := by omega
        have HGG := Lib.hid hG
        clear hG hbz y0 y1 y2 y3 x0 x1
        match j, hj with
        | 0, _ =>
          refine ⟨_, rfl, rfl, ?_⟩; unfold yields; go_simp
          exact ⟨rfl, HGG.out, Fr.refl _ _⟩
        | 1, _ =>
          have d0 := hd 0 (by kernel_rfl); have x0 := hev.dep 0 15 (by kernel_rfl) (by kernel_rfl); simp only [RzV] at d0
          rw [d0] at x0
          refine ⟨_, rfl, rfl, ?_⟩; unfold yields; go_simp
          exact ⟨rfl, HGG.out, Fr.refl _ _⟩
        | 2, _ =>
          refine ⟨_, rfl, rfl, ?_⟩; unfold yields; go_simp
          exact ⟨rfl, HGG.out, Fr.refl _ _⟩
        | 3, _ =>
          have d1 := hd 1 (by kernel_rfl); have x1 := hev.dep 1 16 (by kernel_rfl) (by kernel_rfl); simp only [RzV] at d1
          rw [d1] at x1
          have d2 := hd 2 (by kernel_rfl); have x2 := hev.dep 2 17 (by kernel_rfl) (by kernel_rfl); simp only [RzV] at d2
          rw [d2] at x2
          refine ⟨_, rfl, rfl, ?_⟩; unfold yields; go_simp
          exact ⟨rfl, HGG.out, Fr.refl _ _⟩
        | 4, _ =>
          have d3 := hd 3 (by kernel_rfl); have x3 := hev.dep 3 18 (by kernel_rfl) (by kernel_rfl); simp only [RzV] at d3
          rw [d3] at x3
          refine ⟨_, rfl, rfl, ?_⟩; unfold yields; go_simp
          exact ⟨rfl, HGG.out, Fr.refl _ _⟩
        | 5, _ =>
          have d4 := hd 4 (by kernel_rfl); have x4 := hev.dep 4 19 (by kernel_rfl) (by kernel_rfl); simp only [RzV] at d4
          rw [d4] at x4
          refine ⟨_, rfl, rfl, ?_⟩; unfold yields; go_simp
          exact ⟨rfl, HGG.out, Fr.refl _ _⟩
        | 6, _ =>
          have d5 := hd 5 (by kernel_rfl); have x5 := hev.dep 5 20 (by kernel_rfl) (by kernel_rfl); simp only [RzV] at d5
          rw [d5] at x5
          refine ⟨_, rfl, rfl, ?_⟩; unfold yields; go_simp
          refine (rkeep_still x W).mono ?_
          rintro e w5 ⟨rfl, rfl⟩
          exact ⟨_, rfl, rfl, HGG.out, Fr.refl _ _⟩
        | 7, _ =>
          refine ⟨_, rfl, rfl, ?_⟩; unfold yields; go_simp
          exact ⟨rfl, HGG.out, Fr.refl _ _⟩
        | 8, _ =>
          have d7 := hd 7 (by kernel_rfl); have x7 := hev.dep 7 22 (by kernel_rfl) (by kernel_rfl); simp only [RzV] at d7
          rw [d7] at x7
          refine ⟨_, rfl, rfl, ?_⟩; unfold yields; go_simp
          exact ⟨rfl, HGG.out, Fr.refl _ _⟩
        | 9, _ =>
          refine ⟨_, rfl, rfl, ?_⟩; unfold yields; go_simp
          exact ⟨rfl, HGG.out, Fr.refl _ _⟩
        | 10, _ =>
          have d8 := hd 8 (by kernel_rfl); have x8 := hev.dep 8 23 (by kernel_rfl) (by kernel_rfl); simp only [RzV] at d8
          rw [d8] at x8
          have d9 := hd 9 (by kernel_rfl); have x9 := hev.dep 9 24 (by kernel_rfl) (by kernel_rfl); simp only [RzV] at d9
          rw [d9] at x9
          refine ⟨_, rfl, rfl, ?_⟩; unfold yields; go_simp
          exact ⟨rfl, HGG.out, Fr.refl _ _⟩
        | 11, _ =>
          have d10 := hd 10 (by kernel_rfl); have x10 := hev.dep 10 25 (by kernel_rfl) (by kernel_rfl); simp only [RzV] at d10
          rw [d10] at x10
          refine ⟨_, rfl, rfl, ?_⟩; unfold yields; go_simp
          exact ⟨rfl, HGG.out, Fr.refl _ _⟩
        | 12, _ =>
          have d11 := hd 11 (by kernel_rfl); have x11 := hev.dep 11 26 (by kernel_rfl) (by kernel_rfl); simp only [RzV] at d11
          rw [d11] at x11
          refine ⟨_, rfl, rfl, ?_⟩; unfold yields; go_simp
          exact ⟨rfl, HGG.out, Fr.refl _ _⟩
        | 13, _ =>
          have d12 := hd 12 (by kernel_rfl); have x12 := hev.dep 12 27 (by kernel_rfl) (by kernel_rfl); simp only [RzV] at d12
          rw [d12] at x12
          refine ⟨_, rfl, rfl, ?_⟩; unfold yields; go_simp
          refine (rkeep_still y W).mono ?_
          rintro e w5 ⟨rfl, rfl⟩
          exact ⟨_, rfl, rfl, HGG.out, Fr.refl _ _⟩
        | 14, _ =>
          have d6 := hd 6 (by kernel_rfl); have x6 := hev.dep 6 21 (by kernel_rfl) (by kernel_rfl); simp only [RzV] at d6
          rw [d6] at x6
          have d13 := hd 13 (by kernel_rfl); have x13 := hev.dep 13 28 (by kernel_rfl) (by kernel_rfl); simp only [RzV] at d13
          rw [d13] at x13
          refine ⟨_, rfl, rfl, ?_⟩; unfold yields; go_simp
          exact ⟨rfl, HGG.out, Fr.refl _ _⟩
        | 15, _ =>
          refine ⟨_, rfl, rfl, ?_⟩; unfold yields; go_simp
          exact ⟨⟨_, rfl, HGG.out.size, Blk.new _ _ _⟩, HGG.out.alloc _, (Fr.refl _ _).alloc _⟩
        | j + 16, hj => exact absurd hj (by omega)
      · intro val W hG hV
        have v14 := hV 14 (by decide)
        obtain ⟨g, v15, hg1, hg2⟩ := hV 15 (by decide)
        simp only [RzV] at v14
        have c0 := hg2.cell 0
        have c1 := hg2.cell 1
        simp only [List.getElem?_toArray, List.getElem?_cons_zero, List.getElem?_cons_succ] at c0 c1
        have f0 := hg2.frozen 0
        have f1 := hg2.frozen 1
        have gl := hg2.lt
        have hGW : Grow wr ((W.setCell ⟨g, 0, none⟩ (.int .i64 (k32 x))).setCell ⟨g, 1, none⟩ (.int .i64 (k32 y))) := (hG.setCell (.inr hg1) _).setCell (.inr hg1) _
        have HI2 := Lib.hid (HI.out.go hGW)
        have HX2 := Lib.hid (hGW.blk HBX.out (fun x => x))
        have HC2 : Hid (Blk ((W.setCell ⟨g, 0, none⟩ (.int .i64 (k32 x))).setCell ⟨g, 1, none⟩ (.int .i64 (k32 y))) g 76 #[.int .i64 (k32 x), .int .i64 (k32 y)]) := Lib.hid (by have := (hg2.set_ 0 (.int .i64 (k32 x))).set_ 1 (.int .i64 (k32 y)); simpa using this)
        have hws := HI.out.fr.size
        have hgz : ¬ g = w.heap.size + 1 + 1 := by have := HXZ.out; omega
        have hgx : ¬ g = w.heap.size := by have := HXZ.out; omega
        clear hV hG hg2 hGW HI HBX x0 x1 y0 y1 y2 y3 yl hcbl
        unfold wpOp
        change (if _ then _ else _)
        rw [if_pos (by kernel_rfl)]
        refine .inl ?_
        simp only [fillA, dstOf, List.getElem?_toArray, List.getElem?_cons_zero, List.getElem?_cons_succ, Option.bind_some]
        go_simp
        clear c0 c1 f0 f1 gl
        generalize ((W.setCell ⟨g, 0, none⟩ (.int .i64 (k32 x))).setCell ⟨g, 1, none⟩ (.int .i64 (k32 y))) = W2 at *
        generalize val 0 = a0 at *
        have c0 := HC2.out.cell 0
        have c1 := HC2.out.cell 1
        simp only [List.getElem?_toArray, List.getElem?_cons_zero, List.getElem?_cons_succ] at c0 c1
        have gl := HC2.out.lt
        have y0 := HX2.out.cell 0
        simp only [List.getElem?_toArray, List.getElem?_cons_zero] at y0
        have yl := HX2.out.lt
        go_upto_region 7 with fail
        clear c0 c1 gl
        have HO3 := Lib.hid (Blk.new W2 76 #[.int .i64 (k32 x), .int .i64 (k32 y)])
        have G3 : Hid (Grow W2 (W2.alloc (.cells #[.int .i64 (k32 x), .int .i64 (k32 y)] 76))) := Lib.hid ((Fr.refl _ _).alloc _)
        have hog : ¬ W2.heap.size = g := fun e => by have := HC2.out.lt; omega
        have hoz : ¬ W2.heap.size = w.heap.size + 1 + 1 := by have := HI2.out.box.lt; omega
        have hox : ¬ W2.heap.size = w.heap.size := by have := HX2.out.lt; omega
        clear y0 yl
        generalize W2.alloc (.cells #[.int .i64 (k32 x), .int .i64 (k32 y)] 76) = W3 at *
        generalize hoo : W2.heap.size = o at *
        have HOO := Lib.hid (Nat.le_of_eq hoo)
        clear hoo
        have HX3 := Lib.hid (G3.out.blk HX2.out (fun x => x))
        have HI3 := Lib.hid (HI2.out.go G3.out)
        have y0 := HX3.out.cell 0
        simp only [List.getElem?_toArray, List.getElem?_cons_zero] at y0
        have yl := HX3.out.lt
        have hws3 := HI3.out.fr.size
        by_cases hol : (k : Int) < z.org.length
        · obtain ⟨⟨x', y'⟩, hxy'⟩ : ∃ p, z.org[k]? = some p := ⟨_, List.getElem?_eq_getElem (by omega)⟩
          obtain ⟨ob, oo, rfl, hobb, hocc⟩ := HZA.out.org.at_ (by omega)
          have x4 := (HI3.out.fr.cell (p := ⟨ob, oo + 2 * k, none⟩) (by have := HXZ.out; have := HBB.out; simp; omega) (show ¬ ob = w.heap.size + 1 + 1 by have := HBB.out; omega)).trans (hocc _ _ (pts_get hxy').1)
          have x5 := (HI3.out.fr.cell (p := ⟨ob, oo + (2 * k + 1), none⟩) (by have := HXZ.out; have := HBB.out; simp; omega) (show ¬ ob = w.heap.size + 1 + 1 by have := HBB.out; omega)).trans (hocc _ _ (pts_get hxy').2)
          rw [Nat.mul_comm 2] at x4 x5
          rw [← Nat.add_assoc] at x5
          dsimp only at x4 x5
          have hobl : ob < W3.heap.size := by have := HBB.out; have := HXZ.out; omega
          have HOF : Hid (oF z k = (k32 x', k32 y')) := Lib.hid (by unfold oF; rw [hxy']; rfl)
          have r0 := HO3.out.cell 0
          have r1 := HO3.out.cell 1
          simp only [List.getElem?_toArray, List.getElem?_cons_zero, List.getElem?_cons_succ] at r0 r1
          have q0 := HO3.out.frozen 0
          have q1 := HO3.out.frozen 1
          have rl := HO3.out.lt
          clear hocc hxy'
          go_wp2_with fail
          go_still_tail 15, (by kernel_rfl)
          still_call (rkeep_still x' _)
          repeat still_step
          still_call (rkeep_still y' _)
          repeat still_step
          refine wpStill_nil ?_
          change wpList _ _ _ _ _ W3.drew
          go_upto_region 10 with fail
          have hG4 : Grow W2 ((W3.setCell ⟨o, 0, none⟩ (.int .i64 (k32 x'))).setCell ⟨o, 1, none⟩ (.int .i64 (k32 y'))).drew := ((G3.out.setCell (.inr HOO.out) _).setCell (.inr HOO.out) _).drew
          have HO4 : Hid (Blk ((W3.setCell ⟨o, 0, none⟩ (.int .i64 (k32 x'))).setCell ⟨o, 1, none⟩ (.int .i64 (k32 y'))).drew o 76 #[.int .i64 (k32 x'), .int .i64 (k32 y')]) := Lib.hid (by have := ((HO3.out.set_ 0 (.int .i64 (k32 x'))).set_ 1 (.int .i64 (k32 y'))).drew; simpa using this)
          have HG4 := Lib.hid hG4
          have NU : Hid (∀ g', vu.ownBlock = some g' → g' ≠ o) := Lib.hid (fun g' e => by have := (owns_block HI2.out.cur e).2.1; have := HOO.out; omega)
          clear hG4 HO3 HI3 HX3 G3 r0 r1 q0 q1 rl x4 x5 y0 yl hobl
          generalize ((W3.setCell ⟨o, 0, none⟩ (.int .i64 (k32 x'))).setCell ⟨o, 1, none⟩ (.int .i64 (k32 y'))).drew = W4 at *
          have HI4 := Lib.hid (HI2.out.go HG4.out)
          have HX4 := Lib.hid (HG4.out.blk HX2.out (fun x => x))
          have HC4 := Lib.hid (HG4.out.blk HC2.out (fun x => x))
          clear HG4 HI2 HX2 HC2 HOO
          generalize k32 x' = p1 at *
          generalize k32 y' = p2 at *
          have y2 := HX4.out.cell 2
          simp only [List.getElem?_toArray, List.getElem?_cons_zero, List.getElem?_cons_succ] at y2
          have yl2 := HX4.out.lt
          by_cases htl : (k : Int) < z.touch.length
          · obtain ⟨tt, htt⟩ : ∃ t, z.touch[k]? = some t := ⟨_, List.getElem?_eq_getElem (by omega)⟩
            obtain ⟨tb, tof, rfl, htb, htc⟩ := HZA.out.touch.at_ (by omega)
            have x3 := (HI4.out.fr.cell (p := ⟨tb, tof + k, none⟩) (by have := HXZ.out; have := HBB.out; simp; omega) (show ¬ tb = w.heap.size + 1 + 1 by have := HBB.out; omega)).trans (htc _ _ (ints_get htt))
            have htbl : tb < W4.heap.size := by have := HI4.out.fr.size; have := HBB.out; have := HXZ.out; omega
            have HTF : Hid (tF z k = tt % 4) := Lib.hid (by unfold tF; rw [getD_of htt])
            have hba := bits_and3 tt
            clear htc htt
            go_upto_region 12 with fail
            clear y2 yl2 x3 htbl hba
            have z1 := HI4.out.box.cell 1
            simp only [List.getElem?_toArray, List.getElem?_cons_zero, List.getElem?_cons_succ] at z1
            have zl := HI4.out.box.lt
            have c0 := HC4.out.cell 0
            have c1 := HC4.out.cell 1
            simp only [List.getElem?_toArray, List.getElem?_cons_zero, List.getElem?_cons_succ] at c0 c1
            have gl := HC4.out.lt
            have hws4 := HI4.out.fr.size
            go_upto_region 13 with (at_builtin; refine wpList_append_any _ rfl (.tmp 63) (.tmp 65) _ rfl X.heap.size 76 i0 _ 2 16 Tryz.underlying28 hi0 hi1 hi2 hi3 rfl (show 0 < 2 by decide) vu k (pts ((List.range k).map (cF z))) rfl (by have := (HI4.out.alloc (.cells #[.int .i64 (k32 x), .int .i64 (k32 y)] 76)).cur; simpa [znK] using this) _ _ 1 1 [.int .i64 (k32 x), .int .i64 (k32 y)] rfl (Reads.blk (cs := [.int .i64 (k32 x), .int .i64 (k32 y)]) (Blk.new _ _ _) 2 1 rfl) (by simp [Value.oneCell']) (by unfold maxLen; omega) (by omega) (by simp; omega) ?_; intro v' w8 ho8 hg8 h8; obtain ⟨hbx, hI8⟩ := (HI4.out.alloc (.cells #[.int .i64 (k32 x), .int .i64 (k32 y)] 76)).push_cur (p := ((k32 x), (k32 y))) (by simpa [znK] using ho8) hg8 h8; have b0 := hbx.cell 1; have b1 := hbx.frozen 1; have b2 := hbx.lt; have HX8 := Lib.hid (Blk.grown (HX4.out.alloc (.cells #[.int .i64 (k32 x), .int .i64 (k32 y)] 76)) hg8 (fun e => by obtain ⟨_, _, cs', hb⟩ := owns_block (HI4.out.alloc (.cells #[.int .i64 (k32 x), .int .i64 (k32 y)] 76)).cur e.symm; exact ((HX4.out.alloc (.cells #[.int .i64 (k32 x), .int .i64 (k32 y)] 76)).ne_ hb (by decide)) rfl)); have HO8 := Lib.hid (Blk.grown (HO4.out.alloc (.cells #[.int .i64 (k32 x), .int .i64 (k32 y)] 76)) hg8 (fun e => NU.out _ e.symm rfl)); obtain ⟨UA, Uc, e8, _⟩ := owns_form ho8; subst e8; simp only [List.getElem?_toArray, List.getElem?_cons_zero, List.getElem?_cons_succ] at b0; have HI8 := Lib.hid hI8; clear hI8 ho8 hg8 h8 hbx)
            have HX5 := Lib.hid (HX8.out.far (p := ⟨w.heap.size + 1 + 1, 1, none⟩) (by simp; omega) (.slice UA (k + 1) Uc))
            have HO5 := Lib.hid (HO8.out.far (p := ⟨w.heap.size + 1 + 1, 1, none⟩) (by simpa using hoz) (.slice UA (k + 1) Uc))
            have HI5 := HI8
            clear HI8 HI4 HX4 HC4 HO4 HX8 HO8 NU b0 b1 b2 z1 zl c0 c1 gl
            generalize w8.setCell ⟨w.heap.size + 1 + 1, 1, none⟩ (.slice UA (k + 1) Uc) = W5 at *
            have z1 := HI5.out.box.cell 0
            simp only [List.getElem?_toArray, List.getElem?_cons_zero] at z1
            have zl := HI5.out.box.lt
            have c0 := HO5.out.cell 0
            have c1 := HO5.out.cell 1
            simp only [List.getElem?_toArray, List.getElem?_cons_zero, List.getElem?_cons_succ] at c0 c1
            have gl := HO5.out.lt
            have hws5 := HI5.out.fr.size
            go_upto_region 14 with (at_builtin; refine wpList_append_any _ rfl (.tmp 69) (.tmp 71) _ rfl X.heap.size 76 i0 _ 2 16 Tryz.underlying28 hi0 hi1 hi2 hi3 rfl (show 0 < 2 by decide) vo k (pts ((List.range k).map (oF z))) rfl (by have := (HI5.out.alloc (.cells #[.int .i64 p1, .int .i64 p2] 76)).org; simpa [znK] using this) _ _ 1 1 [.int .i64 p1, .int .i64 p2] rfl (Reads.blk (cs := [.int .i64 p1, .int .i64 p2]) (Blk.new _ _ _) 2 1 rfl) (by simp [Value.oneCell']) (by unfold maxLen; omega) (by omega) (by simp; omega) ?_; intro v' w8 ho8 hg8 h8; obtain ⟨hbx, hI8⟩ := (HI5.out.alloc (.cells #[.int .i64 p1, .int .i64 p2] 76)).push_org (p := (p1, p2)) (by simpa [znK] using ho8) hg8 h8; have b0 := hbx.cell 0; have b1 := hbx.frozen 0; have b2 := hbx.lt; have HX8 := Lib.hid (Blk.grown (HX5.out.alloc (.cells #[.int .i64 p1, .int .i64 p2] 76)) hg8 (fun e => by obtain ⟨_, _, cs', hb⟩ := owns_block (HI5.out.alloc (.cells #[.int .i64 p1, .int .i64 p2] 76)).org e.symm; exact ((HX5.out.alloc (.cells #[.int .i64 p1, .int .i64 p2] 76)).ne_ hb (by decide)) rfl)); obtain ⟨VA, Vc, e8, _⟩ := owns_form ho8; subst e8; simp only [List.getElem?_toArray, List.getElem?_cons_zero] at b0; have HI8 := Lib.hid hI8; clear hI8 ho8 hg8 h8 hbx)
            have HX6 := Lib.hid (HX8.out.far (p := ⟨w.heap.size + 1 + 1, 0, none⟩) (by simp; omega) (.slice VA (k + 1) Vc))
            have HI6 := HI8
            clear HI8 HI5 HX5 HO5 HX8 b0 b1 b2 z1 zl c0 c1 gl
            generalize w8.setCell ⟨w.heap.size + 1 + 1, 0, none⟩ (.slice VA (k + 1) Vc) = W6 at *
            have z1 := HI6.out.box.cell 2
            simp only [List.getElem?_toArray, List.getElem?_cons_zero, List.getElem?_cons_succ] at z1
            have zl := HI6.out.box.lt
            have hws6 := HI6.out.fr.size
            go_wp2_with (at_builtin; refine wpList_append_any _ rfl (.tmp 75) (.tmp 77) _ rfl X.heap.size 3 j0 _ 1 8 Tryz.underlying22 hj0 hj1 hj2 hj3 rfl (show 0 < 1 by decide) vt k (ints ((List.range k).map (tF z))) rfl (by have := (HI6.out.alloc (.cells #[.int .i64 (tt % 4)] 3)).touch; simpa [znK] using this) _ _ 1 1 [.int .i64 (tt % 4)] rfl (Reads.blk (cs := [.int .i64 (tt % 4)]) (Blk.new _ _ _) 1 1 rfl) (by simp [Value.oneCell']) (by unfold maxLen; omega) (by omega) (by simp; omega) ?_; intro v' w8 ho8 hg8 h8; obtain ⟨hbx, hI8⟩ := (HI6.out.alloc (.cells #[.int .i64 (tt % 4)] 3)).push_touch (p := (tt % 4)) (by simpa [znK] using ho8) hg8 h8; have b0 := hbx.cell 2; have b1 := hbx.frozen 2; have b2 := hbx.lt; have HX8 := Lib.hid (Blk.grown (HX6.out.alloc (.cells #[.int .i64 (tt % 4)] 3)) hg8 (fun e => by obtain ⟨_, _, cs', hb⟩ := owns_block (HI6.out.alloc (.cells #[.int .i64 (tt % 4)] 3)).touch e.symm; exact ((HX6.out.alloc (.cells #[.int .i64 (tt % 4)] 3)).ne_ hb (by decide)) rfl)); obtain ⟨TA, Tc, e8, _⟩ := owns_form ho8; subst e8; simp only [List.getElem?_toArray, List.getElem?_cons_zero, List.getElem?_cons_succ] at b0; have HI8 := Lib.hid hI8; clear hI8 ho8 hg8 h8 hbx)
            refine ⟨⟨k + 1, .slice VA (k + 1) Vc, .slice UA (k + 1) Uc, .slice TA (k + 1) Tc, by omega, by simp, ?_, HX8.out.far (p := ⟨w.heap.size + 1 + 1, 2, none⟩) (by simp; omega) _⟩, by simp [intOf]; omega⟩
            have h := HI8.out
            simp only [znK] at h
            simp only [znK, znK_org, znK_cur, znK_touch, HOF.out, HCF.out, HTF.out]
            exact h
          · have HTF : Hid (tF z k = 0) := Lib.hid (by unfold tF; rw [List.getD_eq_getElem?_getD, List.getElem?_eq_none (by omega)]; rfl)
            go_upto_region 12 with fail
            clear y2 yl2
            have z1 := HI4.out.box.cell 1
            simp only [List.getElem?_toArray, List.getElem?_cons_zero, List.getElem?_cons_succ] at z1
            have zl := HI4.out.box.lt
            have c0 := HC4.out.cell 0
            have c1 := HC4.out.cell 1
            simp only [List.getElem?_toArray, List.getElem?_cons_zero, List.getElem?_cons_succ] at c0 c1
            have gl := HC4.out.lt
            have hws4 := HI4.out.fr.size
            go_upto_region 13 with (at_builtin; refine wpList_append_any _ rfl (.tmp 63) (.tmp 65) _ rfl X.heap.size 76 i0 _ 2 16 Tryz.underlying28 hi0 hi1 hi2 hi3 rfl (show 0 < 2 by decide) vu k (pts ((List.range k).map (cF z))) rfl (by have := (HI4.out.alloc (.cells #[.int .i64 (k32 x), .int .i64 (k32 y)] 76)).cur; simpa [znK] using this) _ _ 1 1 [.int .i64 (k32 x), .int .i64 (k32 y)] rfl (Reads.blk (cs := [.int .i64 (k32 x), .int .i64 (k32 y)]) (Blk.new _ _ _) 2 1 rfl) (by simp [Value.oneCell']) (by unfold maxLen; omega) (by omega) (by simp; omega) ?_; intro v' w8 ho8 hg8 h8; obtain ⟨hbx, hI8⟩ := (HI4.out.alloc (.cells #[.int .i64 (k32 x), .int .i64 (k32 y)] 76)).push_cur (p := ((k32 x), (k32 y))) (by simpa [znK] using ho8) hg8 h8; have b0 := hbx.cell 1; have b1 := hbx.frozen 1; have b2 := hbx.lt; have HX8 := Lib.hid (Blk.grown (HX4.out.alloc (.cells #[.int .i64 (k32 x), .int .i64 (k32 y)] 76)) hg8 (fun e => by obtain ⟨_, _, cs', hb⟩ := owns_block (HI4.out.alloc (.cells #[.int .i64 (k32 x), .int .i64 (k32 y)] 76)).cur e.symm; exact ((HX4.out.alloc (.cells #[.int .i64 (k32 x), .int .i64 (k32 y)] 76)).ne_ hb (by decide)) rfl)); have HO8 := Lib.hid (Blk.grown (HO4.out.alloc (.cells #[.int .i64 (k32 x), .int .i64 (k32 y)] 76)) hg8 (fun e => NU.out _ e.symm rfl)); obtain ⟨UA, Uc, e8, _⟩ := owns_form ho8; subst e8; simp only [List.getElem?_toArray, List.getElem?_cons_zero, List.getElem?_cons_succ] at b0; have HI8 := Lib.hid hI8; clear hI8 ho8 hg8 h8 hbx)
            have HX5 := Lib.hid (HX8.out.far (p := ⟨w.heap.size + 1 + 1, 1, none⟩) (by simp; omega) (.slice UA (k + 1) Uc))
            have HO5 := Lib.hid (HO8.out.far (p := ⟨w.heap.size + 1 + 1, 1, none⟩) (by simpa using hoz) (.slice UA (k + 1) Uc))
            have HI5 := HI8
            clear HI8 HI4 HX4 HC4 HO4 HX8 HO8 NU b0 b1 b2 z1 zl c0 c1 gl
            generalize w8.setCell ⟨w.heap.size + 1 + 1, 1, none⟩ (.slice UA (k + 1) Uc) = W5 at *
            have z1 := HI5.out.box.cell 0
            simp only [List.getElem?_toArray, List.getElem?_cons_zero] at z1
            have zl := HI5.out.box.lt
            have c0 := HO5.out.cell 0
            have c1 := HO5.out.cell 1
            simp only [List.getElem?_toArray, List.getElem?_cons_zero, List.getElem?_cons_succ] at c0 c1
            have gl := HO5.out.lt
            have hws5 := HI5.out.fr.size
            go_upto_region 14 with (at_builtin; refine wpList_append_any _ rfl (.tmp 69) (.tmp 71) _ rfl X.heap.size 76 i0 _ 2 16 Tryz.underlying28 hi0 hi1 hi2 hi3 rfl (show 0 < 2 by decide) vo k (pts ((List.range k).map (oF z))) rfl (by have := (HI5.out.alloc (.cells #[.int .i64 p1, .int .i64 p2] 76)).org; simpa [znK] using this) _ _ 1 1 [.int .i64 p1, .int .i64 p2] rfl (Reads.blk (cs := [.int .i64 p1, .int .i64 p2]) (Blk.new _ _ _) 2 1 rfl) (by simp [Value.oneCell']) (by unfold maxLen; omega) (by omega) (by simp; omega) ?_; intro v' w8 ho8 hg8 h8; obtain ⟨hbx, hI8⟩ := (HI5.out.alloc (.cells #[.int .i64 p1, .int .i64 p2] 76)).push_org (p := (p1, p2)) (by simpa [znK] using ho8) hg8 h8; have b0 := hbx.cell 0; have b1 := hbx.frozen 0; have b2 := hbx.lt; have HX8 := Lib.hid (Blk.grown (HX5.out.alloc (.cells #[.int .i64 p1, .int .i64 p2] 76)) hg8 (fun e => by obtain ⟨_, _, cs', hb⟩ := owns_block (HI5.out.alloc (.cells #[.int .i64 p1, .int .i64 p2] 76)).org e.symm; exact ((HX5.out.alloc (.cells #[.int .i64 p1, .int .i64 p2] 76)).ne_ hb (by decide)) rfl)); obtain ⟨VA, Vc, e8, _⟩ := owns_form ho8; subst e8; simp only [List.getElem?_toArray, List.getElem?_cons_zero] at b0; have HI8 := Lib.hid hI8; clear hI8 ho8 hg8 h8 hbx)
            have HX6 := Lib.hid (HX8.out.far (p := ⟨w.heap.size + 1 + 1, 0, none⟩) (by simp; omega) (.slice VA (k + 1) Vc))
            have HI6 := HI8
            clear HI8 HI5 HX5 HO5 HX8 b0 b1 b2 z1 zl c0 c1 gl
            generalize w8.setCell ⟨w.heap.size + 1 + 1, 0, none⟩ (.slice VA (k + 1) Vc) = W6 at *
            have z1 := HI6.out.box.cell 2
            simp only [List.getElem?_toArray, List.getElem?_cons_zero, List.getElem?_cons_succ] at z1
            have zl := HI6.out.box.lt
            have hws6 := HI6.out.fr.size
            go_wp2_with (at_builtin; refine wpList_append_any _ rfl (.tmp 75) (.tmp 77) _ rfl X.heap.size 3 j0 _ 1 8 Tryz.underlying22 hj0 hj1 hj2 hj3 rfl (show 0 < 1 by decide) vt k (ints ((List.range k).map (tF z))) rfl (by have := (HI6.out.alloc (.cells #[.int .i64 0] 3)).touch; simpa [znK] using this) _ _ 1 1 [.int .i64 0] rfl (Reads.blk (cs := [.int .i64 0]) (Blk.new _ _ _) 1 1 rfl) (by simp [Value.oneCell']) (by unfold maxLen; omega) (by omega) (by simp; omega) ?_; intro v' w8 ho8 hg8 h8; obtain ⟨hbx, hI8⟩ := (HI6.out.alloc (.cells #[.int .i64 0] 3)).push_touch (p := 0) (by simpa [znK] using ho8) hg8 h8; have b0 := hbx.cell 2; have b1 := hbx.frozen 2; have b2 := hbx.lt; have HX8 := Lib.hid (Blk.grown (HX6.out.alloc (.cells #[.int .i64 0] 3)) hg8 (fun e => by obtain ⟨_, _, cs', hb⟩ := owns_block (HI6.out.alloc (.cells #[.int .i64 0] 3)).touch e.symm; exact ((HX6.out.alloc (.cells #[.int .i64 0] 3)).ne_ hb (by decide)) rfl)); obtain ⟨TA, Tc, e8, _⟩ := owns_form ho8; subst e8; simp only [List.getElem?_toArray, List.getElem?_cons_zero, List.getElem?_cons_succ] at b0; have HI8 := Lib.hid hI8; clear hI8 ho8 hg8 h8 hbx)
            refine ⟨⟨k + 1, .slice VA (k + 1) Vc, .slice UA (k + 1) Uc, .slice TA (k + 1) Tc, by omega, by simp, ?_, HX8.out.far (p := ⟨w.heap.size + 1 + 1, 2, none⟩) (by simp; omega) _⟩, by simp [intOf]; omega⟩
            have h := HI8.out
            simp only [znK] at h
            simp only [znK, znK_org, znK_cur, znK_touch, HOF.out, HCF.out, HTF.out]
            exact h
        · have HOF : Hid (oF z k = (k32 x, k32 y)) := Lib.hid (by unfold oF; rw [List.getElem?_eq_none (by omega), Option.getD_none]; exact HCF.out)
          go_upto_region 10 with fail
          have HI4 := Lib.hid (HI2.out.go G3.out)
          have HX4 := HX3
          have HC4 := Lib.hid (G3.out.blk HC2.out (fun x => x))
          have HO4 := HO3
          have NU : Hid (∀ g', vu.ownBlock = some g' → g' ≠ o) := Lib.hid (fun g' e => by have := (owns_block HI2.out.cur e).2.1; have := HOO.out; omega)
          clear HI3 HX3 HO3 G3 HI2 HX2 HC2 HOO y0 yl
          generalize W3 = W4 at *
          have y2 := HX4.out.cell 2
          simp only [List.getElem?_toArray, List.getElem?_cons_zero, List.getElem?_cons_succ] at y2
          have yl2 := HX4.out.lt
          by_cases htl : (k : Int) < z.touch.length
          · obtain ⟨tt, htt⟩ : ∃ t, z.touch[k]? = some t := ⟨_, List.getElem?_eq_getElem (by omega)⟩
            obtain ⟨tb, tof, rfl, htb, htc⟩ := HZA.out.touch.at_ (by omega)
            have x3 := (HI4.out.fr.cell (p := ⟨tb, tof + k, none⟩) (by have := HXZ.out; have := HBB.out; simp; omega) (show ¬ tb = w.heap.size + 1 + 1 by have := HBB.out; omega)).trans (htc _ _ (ints_get htt))
            have htbl : tb < W4.heap.size := by have := HI4.out.fr.size; have := HBB.out; have := HXZ.out; omega
            have HTF : Hid (tF z k = tt % 4) := Lib.hid (by unfold tF; rw [getD_of htt])
            have hba := bits_and3 tt
            clear htc htt
            go_upto_region 12 with fail
            clear y2 yl2 x3 htbl hba
            have z1 := HI4.out.box.cell 1
            simp only [List.getElem?_toArray, List.getElem?_cons_zero, List.getElem?_cons_succ] at z1
            have zl := HI4.out.box.lt
            have c0 := HC4.out.cell 0
            have c1 := HC4.out.cell 1
            simp only [List.getElem?_toArray, List.getElem?_cons_zero, List.getElem?_cons_succ] at c0 c1
            have gl := HC4.out.lt
            have hws4 := HI4.out.fr.size
            go_upto_region 13 with (at_builtin; refine wpList_append_any _ rfl (.tmp 63) (.tmp 65) _ rfl X.heap.size 76 i0 _ 2 16 Tryz.underlying28 hi0 hi1 hi2 hi3 rfl (show 0 < 2 by decide) vu k (pts ((List.range k).map (cF z))) rfl (by have := (HI4.out.alloc (.cells #[.int .i64 (k32 x), .int .i64 (k32 y)] 76)).cur; simpa [znK] using this) _ _ 1 1 [.int .i64 (k32 x), .int .i64 (k32 y)] rfl (Reads.blk (cs := [.int .i64 (k32 x), .int .i64 (k32 y)]) (Blk.new _ _ _) 2 1 rfl) (by simp [Value.oneCell']) (by unfold maxLen; omega) (by omega) (by simp; omega) ?_; intro v' w8 ho8 hg8 h8; obtain ⟨hbx, hI8⟩ := (HI4.out.alloc (.cells #[.int .i64 (k32 x), .int .i64 (k32 y)] 76)).push_cur (p := ((k32 x), (k32 y))) (by simpa [znK] using ho8) hg8 h8; have b0 := hbx.cell 1; have b1 := hbx.frozen 1; have b2 := hbx.lt; have HX8 := Lib.hid (Blk.grown (HX4.out.alloc (.cells #[.int .i64 (k32 x), .int .i64 (k32 y)] 76)) hg8 (fun e => by obtain ⟨_, _, cs', hb⟩ := owns_block (HI4.out.alloc (.cells #[.int .i64 (k32 x), .int .i64 (k32 y)] 76)).cur e.symm; exact ((HX4.out.alloc (.cells #[.int .i64 (k32 x), .int .i64 (k32 y)] 76)).ne_ hb (by decide)) rfl)); have HO8 := Lib.hid (Blk.grown (HO4.out.alloc (.cells #[.int .i64 (k32 x), .int .i64 (k32 y)] 76)) hg8 (fun e => NU.out _ e.symm rfl)); obtain ⟨UA, Uc, e8, _⟩ := owns_form ho8; subst e8; simp only [List.getElem?_toArray, List.getElem?_cons_zero, List.getElem?_cons_succ] at b0; have HI8 := Lib.hid hI8; clear hI8 ho8 hg8 h8 hbx)
            have HX5 := Lib.hid (HX8.out.far (p := ⟨w.heap.size + 1 + 1, 1, none⟩) (by simp; omega) (.slice UA (k + 1) Uc))
            have HO5 := Lib.hid (HO8.out.far (p := ⟨w.heap.size + 1 + 1, 1, none⟩) (by simpa using hoz) (.slice UA (k + 1) Uc))
            have HI5 := HI8
            clear HI8 HI4 HX4 HC4 HO4 HX8 HO8 NU b0 b1 b2 z1 zl c0 c1 gl
            generalize w8.setCell ⟨w.heap.size + 1 + 1, 1, none⟩ (.slice UA (k + 1) Uc) = W5 at *
            have z1 := HI5.out.box.cell 0
            simp only [List.getElem?_toArray, List.getElem?_cons_zero] at z1
            have zl := HI5.out.box.lt
            have c0 := HO5.out.cell 0
            have c1 := HO5.out.cell 1
            simp only [List.getElem?_toArray, List.getElem?_cons_zero, List.getElem?_cons_succ] at c0 c1
            have gl := HO5.out.lt
            have hws5 := HI5.out.fr.size
            go_upto_region 14 with (at_builtin; refine wpList_append_any _ rfl (.tmp 69) (.tmp 71) _ rfl X.heap.size 76 i0 _ 2 16 Tryz.underlying28 hi0 hi1 hi2 hi3 rfl (show 0 < 2 by decide) vo k (pts ((List.range k).map (oF z))) rfl (by have := (HI5.out.alloc (.cells #[.int .i64 (k32 x), .int .i64 (k32 y)] 76)).org; simpa [znK] using this) _ _ 1 1 [.int .i64 (k32 x), .int .i64 (k32 y)] rfl (Reads.blk (cs := [.int .i64 (k32 x), .int .i64 (k32 y)]) (Blk.new _ _ _) 2 1 rfl) (by simp [Value.oneCell']) (by unfold maxLen; omega) (by omega) (by simp; omega) ?_; intro v' w8 ho8 hg8 h8; obtain ⟨hbx, hI8⟩ := (HI5.out.alloc (.cells #[.int .i64 (k32 x), .int .i64 (k32 y)] 76)).push_org (p := ((k32 x), (k32 y))) (by simpa [znK] using ho8) hg8 h8; have b0 := hbx.cell 0; have b1 := hbx.frozen 0; have b2 := hbx.lt; have HX8 := Lib.hid (Blk.grown (HX5.out.alloc (.cells #[.int .i64 (k32 x), .int .i64 (k32 y)] 76)) hg8 (fun e => by obtain ⟨_, _, cs', hb⟩ := owns_block (HI5.out.alloc (.cells #[.int .i64 (k32 x), .int .i64 (k32 y)] 76)).org e.symm; exact ((HX5.out.alloc (.cells #[.int .i64 (k32 x), .int .i64 (k32 y)] 76)).ne_ hb (by decide)) rfl)); obtain ⟨VA, Vc, e8, _⟩ := owns_form ho8; subst e8; simp only [List.getElem?_toArray, List.getElem?_cons_zero] at b0; have HI8 := Lib.hid hI8; clear hI8 ho8 hg8 h8 hbx)
            have HX6 := Lib.hid (HX8.out.far (p := ⟨w.heap.size + 1 + 1, 0, none⟩) (by simp; omega) (.slice VA (k + 1) Vc))
            have HI6 := HI8
            clear HI8 HI5 HX5 HO5 HX8 b0 b1 b2 z1 zl c0 c1 gl
            generalize w8.setCell ⟨w.heap.size + 1 + 1, 0, none⟩ (.slice VA (k + 1) Vc) = W6 at *
            have z1 := HI6.out.box.cell 2
            simp only [List.getElem?_toArray, List.getElem?_cons_zero, List.getElem?_cons_succ] at z1
            have zl := HI6.out.box.lt
            have hws6 := HI6.out.fr.size
            go_wp2_with (at_builtin; refine wpList_append_any _ rfl (.tmp 75) (.tmp 77) _ rfl X.heap.size 3 j0 _ 1 8 Tryz.underlying22 hj0 hj1 hj2 hj3 rfl (show 0 < 1 by decide) vt k (ints ((List.range k).map (tF z))) rfl (by have := (HI6.out.alloc (.cells #[.int .i64 (tt % 4)] 3)).touch; simpa [znK] using this) _ _ 1 1 [.int .i64 (tt % 4)] rfl (Reads.blk (cs := [.int .i64 (tt % 4)]) (Blk.new _ _ _) 1 1 rfl) (by simp [Value.oneCell']) (by unfold maxLen; omega) (by omega) (by simp; omega) ?_; intro v' w8 ho8 hg8 h8; obtain ⟨hbx, hI8⟩ := (HI6.out.alloc (.cells #[.int .i64 (tt % 4)] 3)).push_touch (p := (tt % 4)) (by simpa [znK] using ho8) hg8 h8; have b0 := hbx.cell 2; have b1 := hbx.frozen 2; have b2 := hbx.lt; have HX8 := Lib.hid (Blk.grown (HX6.out.alloc (.cells #[.int .i64 (tt % 4)] 3)) hg8 (fun e => by obtain ⟨_, _, cs', hb⟩ := owns_block (HI6.out.alloc (.cells #[.int .i64 (tt % 4)] 3)).touch e.symm; exact ((HX6.out.alloc (.cells #[.int .i64 (tt % 4)] 3)).ne_ hb (by decide)) rfl)); obtain ⟨TA, Tc, e8, _⟩ := owns_form ho8; subst e8; simp only [List.getElem?_toArray, List.getElem?_cons_zero, List.getElem?_cons_succ] at b0; have HI8 := Lib.hid hI8; clear hI8 ho8 hg8 h8 hbx)
            refine ⟨⟨k + 1, .slice VA (k + 1) Vc, .slice UA (k + 1) Uc, .slice TA (k + 1) Tc, by omega, by simp, ?_, HX8.out.far (p := ⟨w.heap.size + 1 + 1, 2, none⟩) (by simp; omega) _⟩, by simp [intOf]; omega⟩
            have h := HI8.out
            simp only [znK] at h
            simp only [znK, znK_org, znK_cur, znK_touch, HOF.out, HCF.out, HTF.out]
            exact h
          · have HTF : Hid (tF z k = 0) := Lib.hid (by unfold tF; rw [List.getD_eq_getElem?_getD, List.getElem?_eq_none (by omega)]; rfl)
            go_upto_region 12 with fail
            clear y2 yl2
            have z1 := HI4.out.box.cell 1
            simp only [List.getElem?_toArray, List.getElem?_cons_zero, List.getElem?_cons_succ] at z1
            have zl := HI4.out.box.lt
            have c0 := HC4.out.cell 0
            have c1 := HC4.out.cell 1
            simp only [List.getElem?_toArray, List.getElem?_cons_zero, List.getElem?_cons_succ] at c0 c1
            have gl := HC4.out.lt
            have hws4 := HI4.out.fr.size
            go_upto_region 13 with (at_builtin; refine wpList_append_any _ rfl (.tmp 63) (.tmp 65) _ rfl X.heap.size 76 i0 _ 2 16 Tryz.underlying28 hi0 hi1 hi2 hi3 rfl (show 0 < 2 by decide) vu k (pts ((List.range k).map (cF z))) rfl (by have := (HI4.out.alloc (.cells #[.int .i64 (k32 x), .int .i64 (k32 y)] 76)).cur; simpa [znK] using this) _ _ 1 1 [.int .i64 (k32 x), .int .i64 (k32 y)] rfl (Reads.blk (cs := [.int .i64 (k32 x), .int .i64 (k32 y)]) (Blk.new _ _ _) 2 1 rfl) (by simp [Value.oneCell']) (by unfold maxLen; omega) (by omega) (by simp; omega) ?_; intro v' w8 ho8 hg8 h8; obtain ⟨hbx, hI8⟩ := (HI4.out.alloc (.cells #[.int .i64 (k32 x), .int .i64 (k32 y)] 76)).push_cur (p := ((k32 x), (k32 y))) (by simpa [znK] using ho8) hg8 h8; have b0 := hbx.cell 1; have b1 := hbx.frozen 1; have b2 := hbx.lt; have HX8 := Lib.hid (Blk.grown (HX4.out.alloc (.cells #[.int .i64 (k32 x), .int .i64 (k32 y)] 76)) hg8 (fun e => by obtain ⟨_, _, cs', hb⟩ := owns_block (HI4.out.alloc (.cells #[.int .i64 (k32 x), .int .i64 (k32 y)] 76)).cur e.symm; exact ((HX4.out.alloc (.cells #[.int .i64 (k32 x), .int .i64 (k32 y)] 76)).ne_ hb (by decide)) rfl)); have HO8 := Lib.hid (Blk.grown (HO4.out.alloc (.cells #[.int .i64 (k32 x), .int .i64 (k32 y)] 76)) hg8 (fun e => NU.out _ e.symm rfl)); obtain ⟨UA, Uc, e8, _⟩ := owns_form ho8; subst e8; simp only [List.getElem?_toArray, List.getElem?_cons_zero, List.getElem?_cons_succ] at b0; have HI8 := Lib.hid hI8; clear hI8 ho8 hg8 h8 hbx)
            have HX5 := Lib.hid (HX8.out.far (p := ⟨w.heap.size + 1 + 1, 1, none⟩) (by simp; omega) (.slice UA (k + 1) Uc))
            have HO5 := Lib.hid (HO8.out.far (p := ⟨w.heap.size + 1 + 1, 1, none⟩) (by simpa using hoz) (.slice UA (k + 1) Uc))
            have HI5 := HI8
            clear HI8 HI4 HX4 HC4 HO4 HX8 HO8 NU b0 b1 b2 z1 zl c0 c1 gl
            generalize w8.setCell ⟨w.heap.size + 1 + 1, 1, none⟩ (.slice UA (k + 1) Uc) = W5 at *
            have z1 := HI5.out.box.cell 0
            simp only [List.getElem?_toArray, List.getElem?_cons_zero] at z1
            have zl := HI5.out.box.lt
            have c0 := HO5.out.cell 0
            have c1 := HO5.out.cell 1
            simp only [List.getElem?_toArray, List.getElem?_cons_zero, List.getElem?_cons_succ] at c0 c1
            have gl := HO5.out.lt
            have hws5 := HI5.out.fr.size
            go_upto_region 14 with (at_builtin; refine wpList_append_any _ rfl (.tmp 69) (.tmp 71) _ rfl X.heap.size 76 i0 _ 2 16 Tryz.underlying28 hi0 hi1 hi2 hi3 rfl (show 0 < 2 by decide) vo k (pts ((List.range k).map (oF z))) rfl (by have := (HI5.out.alloc (.cells #[.int .i64 (k32 x), .int .i64 (k32 y)] 76)).org; simpa [znK] using this) _ _ 1 1 [.int .i64 (k32 x), .int .i64 (k32 y)] rfl (Reads.blk (cs := [.int .i64 (k32 x), .int .i64 (k32 y)]) (Blk.new _ _ _) 2 1 rfl) (by simp [Value.oneCell']) (by unfold maxLen; omega) (by omega) (by simp; omega) ?_; intro v' w8 ho8 hg8 h8; obtain ⟨hbx, hI8⟩ := (HI5.out.alloc (.cells #[.int .i64 (k32 x), .int .i64 (k32 y)] 76)).push_org (p := ((k32 x), (k32 y))) (by simpa [znK] using ho8) hg8 h8; have b0 := hbx.cell 0; have b1 := hbx.frozen 0; have b2 := hbx.lt; have HX8 := Lib.hid (Blk.grown (HX5.out.alloc (.cells #[.int .i64 (k32 x), .int .i64 (k32 y)] 76)) hg8 (fun e => by obtain ⟨_, _, cs', hb⟩ := owns_block (HI5.out.alloc (.cells #[.int .i64 (k32 x), .int .i64 (k32 y)] 76)).org e.symm; exact ((HX5.out.alloc (.cells #[.int .i64 (k32 x), .int .i64 (k32 y)] 76)).ne_ hb (by decide)) rfl)); obtain ⟨VA, Vc, e8, _⟩ := owns_form ho8; subst e8; simp only [List.getElem?_toArray, List.getElem?_cons_zero] at b0; have HI8 := Lib.hid hI8; clear hI8 ho8 hg8 h8 hbx)
            have HX6 := Lib.hid (HX8.out.far (p := ⟨w.heap.size + 1 + 1, 0, none⟩) (by simp; omega) (.slice VA (k + 1) Vc))
            have HI6 := HI8
            clear HI8 HI5 HX5 HO5 HX8 b0 b1 b2 z1 zl c0 c1 gl
            generalize w8.setCell ⟨w.heap.size + 1 + 1, 0, none⟩ (.slice VA (k + 1) Vc) = W6 at *
            have z1 := HI6.out.box.cell 2
            simp only [List.getElem?_toArray, List.getElem?_cons_zero, List.getElem?_cons_succ] at z1
            have zl := HI6.out.box.lt
            have hws6 := HI6.out.fr.size
            go_wp2_with (at_builtin; refine wpList_append_any _ rfl (.tmp 75) (.tmp 77) _ rfl X.heap.size 3 j0 _ 1 8 Tryz.underlying22 hj0 hj1 hj2 hj3 rfl (show 0 < 1 by decide) vt k (ints ((List.range k).map (tF z))) rfl (by have := (HI6.out.alloc (.cells #[.int .i64 0] 3)).touch; simpa [znK] using this) _ _ 1 1 [.int .i64 0] rfl (Reads.blk (cs := [.int .i64 0]) (Blk.new _ _ _) 1 1 rfl) (by simp [Value.oneCell']) (by unfold maxLen; omega) (by omega) (by simp; omega) ?_; intro v' w8 ho8 hg8 h8; obtain ⟨hbx, hI8⟩ := (HI6.out.alloc (.cells #[.int .i64 0] 3)).push_touch (p := 0) (by simpa [znK] using ho8) hg8 h8; have b0 := hbx.cell 2; have b1 := hbx.frozen 2; have b2 := hbx.lt; have HX8 := Lib.hid (Blk.grown (HX6.out.alloc (.cells #[.int .i64 0] 3)) hg8 (fun e => by obtain ⟨_, _, cs', hb⟩ := owns_block (HI6.out.alloc (.cells #[.int .i64 0] 3)).touch e.symm; exact ((HX6.out.alloc (.cells #[.int .i64 0] 3)).ne_ hb (by decide)) rfl)); obtain ⟨TA, Tc, e8, _⟩ := owns_form ho8; subst e8; simp only [List.getElem?_toArray, List.getElem?_cons_zero, List.getElem?_cons_succ] at b0; have HI8 := Lib.hid hI8; clear hI8 ho8 hg8 h8 hbx)
            refine ⟨⟨k + 1, .slice VA (k + 1) Vc, .slice UA (k + 1) Uc, .slice TA (k + 1) Tc, by omega, by simp, ?_, HX8.out.far (p := ⟨w.heap.size + 1 + 1, 2, none⟩) (by simp; omega) _⟩, by simp [intOf]; omega⟩
            have h := HI8.out
            simp only [znK] at h
            simp only [znK, znK_org, znK_cur, znK_touch, HOF.out, HCF.out, HTF.out]
            exact h
    · obtain ⟨Ao, ao, rfl, _⟩ := owns_form hI.org
      obtain ⟨Au, au, rfl, _⟩ := owns_form hI.cur
      obtain ⟨At, at_, rfl, _⟩ := owns_form hI.touch
      have hke : k = z.cur.length := by omega
      have HKE := Lib.hid hke
      have hxz := HXZ.out
      have hbw := HBB.out
      have hws := hI.fr.size
      have hkeep : ∀ q : Addr, q.block < B → wr.cell? q = X.cell? q := fun q hq => hI.fr.cell (by omega) (show ¬ q.block = w.heap.size + 1 + 1 by omega)
      have HEN : Hid (Reads (wr.alloc (.cells #[] 3)) B 1 eA z.ends.length (ints z.ends)) := Lib.hid ((HZA.out.ends.keep hkeep).alloc (by omega) _)
      have HI := Lib.hid hI
      have HBR := Lib.hid (hI.fr.blk HB0.out (show ¬ w.heap.size + 1 = w.heap.size + 1 + 1 by omega))
      have zl := hI.box.lt
      clear hI hbx hkeep hke
      go_upto_region 16 with (at_builtin; refine wpList_append_any _ rfl (.tmp 80) (.tmp 82) _ rfl wr.heap.size 3 j0 _ 1 8 Tryz.underlying22 hj0 hj1 hj2 hj3 rfl (show 0 < 1 by decide) (.slice (some ⟨wr.heap.size, 0, none⟩) 0 0) 0 [] rfl (owns_empty (Blk.new _ _ _) (Nat.le_refl _)) _ eA z.ends.length ec (ints z.ends) rfl HEN.out (ints_one _) (by unfold maxLen; omega) (by omega) (by simp) ?_; intro v' w8 ho8 hg8 h8; have hg := grow_of_grown ((Fr.refl _ wr).alloc (.cells #[] 3)) hg8 (fun g e => by simp only [Value.ownBlock, Option.some.injEq] at e; omega); have HI8 := Lib.hid (HI.out.go hg); have HR8 := Lib.hid (hg.blk HBR.out (fun x => x)); have b0 := HI8.out.box.cell 3; have b1 := HI8.out.box.frozen 3; have b2 := HI8.out.box.lt; obtain ⟨Ae, ae, e8, _⟩ := owns_form ho8; subst e8; simp only [List.getElem?_toArray, List.getElem?_cons_zero, List.getElem?_cons_succ] at b0; have HO8 := Lib.hid ho8; clear ho8 hg8 h8 hg)
      have ho8 := HO8.out
      rw [Nat.zero_add, List.nil_append] at ho8
      have HO9 := Lib.hid (owns_box ho8 HI8.out.box (by decide) 3 (.slice Ae z.ends.length ae))
      have HBX : Hid (Blk (w8.setCell ⟨w.heap.size + 1 + 1, 3, none⟩ (.slice Ae z.ends.length ae)) (w.heap.size + 1 + 1) 30 #[.slice Ao (znK z k).org.length ao, .slice Au (znK z k).cur.length au, .slice At (znK z k).touch.length at_, .slice Ae z.ends.length ae]) := Lib.hid (by have := HI8.out.box.set_ 3 (.slice Ae z.ends.length ae); simpa using this)
      have HR9 := Lib.hid (HR8.out.far (p := ⟨w.heap.size + 1 + 1, 3, none⟩) (by simp) (.slice Ae z.ends.length ae))
      have HRO := Lib.hid (owns_box HI8.out.org HI8.out.box (by decide) 3 (.slice Ae z.ends.length ae))
      have HRU := Lib.hid (owns_box HI8.out.cur HI8.out.box (by decide) 3 (.slice Ae z.ends.length ae))
      have HRT := Lib.hid (owns_box HI8.out.touch HI8.out.box (by decide) 3 (.slice Ae z.ends.length ae))
      have HFR := Lib.hid (HI8.out.fr.setCell (p := ⟨w.heap.size + 1 + 1, 3, none⟩) (.inl rfl) (.slice Ae z.ends.length ae))
      clear HI8 HR8 HO8 HI HBR HEN b0 b1 b2 zl ho8
      generalize w8.setCell ⟨w.heap.size + 1 + 1, 3, none⟩ (.slice Ae z.ends.length ae) = W9 at *
      have x0 := HBX.out.cell 0
      have x1 := HBX.out.cell 1
      have x2 := HBX.out.cell 2
      have x3 := HBX.out.cell 3
      have y0 := HR9.out.cell 0
      have y1 := HR9.out.cell 1
      have y2 := HR9.out.cell 2
      have y3 := HR9.out.cell 3
      simp only [List.getElem?_toArray, List.getElem?_cons_zero, List.getElem?_cons_succ] at x0 x1 x2 x3 y0 y1 y2 y3
      have xl := HBX.out.lt
      have yf := HR9.out.frozen
      have yl := HR9.out.lt
      have hend : ∀ W', W' = ((((W9.setCell ⟨w.heap.size + 1, 0, none⟩ (.slice Ao (znK z k).org.length ao)).setCell ⟨w.heap.size + 1, 1, none⟩ (.slice Au (znK z k).cur.length au)).setCell ⟨w.heap.size + 1, 2, none⟩ (.slice At (znK z k).touch.length at_)).setCell ⟨w.heap.size + 1, 3, none⟩ (.slice Ae z.ends.length ae)) → ZnPost w (znOf z) (.returned (.agg #[.slice Ao (znK z k).org.length ao, .slice Au (znK z k).cur.length au, .slice At (znK z k).touch.length at_, .slice Ae z.ends.length ae])) W' := by
        intro W' hW'
        have k0 := HR9.out
        have k1 := k0.set_ 0 (.slice Ao (znK z k).org.length ao)
        have k2 := k1.set_ 1 (.slice Au (znK z k).cur.length au)
        have k3 := k2.set_ 2 (.slice At (znK z k).touch.length at_)
        have hX := HXG.out
        have hb : w.heap.size ≤ X.heap.size := by omega
        have q0 := owns_box (owns_box (owns_box (owns_box (owns_mono HRO.out hb) k0 (by decide) _ _) k1 (by decide) _ _) k2 (by decide) _ _) k3 (by decide) 3 (.slice Ae z.ends.length ae)
        have q1 := owns_box (owns_box (owns_box (owns_box (owns_mono HRU.out hb) k0 (by decide) _ _) k1 (by decide) _ _) k2 (by decide) _ _) k3 (by decide) 3 (.slice Ae z.ends.length ae)
        have q2 := owns_box (owns_box (owns_box (owns_box (owns_mono HRT.out hb) k0 (by decide) _ _) k1 (by decide) _ _) k2 (by decide) _ _) k3 (by decide) 3 (.slice Ae z.ends.length ae)
        have q3 := owns_box (owns_box (owns_box (owns_box (owns_mono HO9.out (show w.heap.size ≤ wr.heap.size by omega)) k0 (by decide) _ _) k1 (by decide) _ _) k2 (by decide) _ _) k3 (by decide) 3 (.slice Ae z.ends.length ae)
        refine ⟨_, _, _, _, rfl, ?_, ?_⟩
        · rw [hW']
          have e0 : (znK z k).org = (znOf z).org := by rw [HKE.out]; rfl
          have e1 : (znK z k).cur = (znOf z).cur := by rw [HKE.out]; exact range_cF z
          have e2 : (znK z k).touch = (znOf z).touch := by rw [HKE.out]; rfl
          unfold ZnOwn
          rw [← e0, ← e1, ← e2]
          exact ⟨q0, q1, q2, q3⟩
        · rw [hW']
          have hf : Grow w W9 := ⟨HFR.out.os.trans hX.os, HFR.out.tape.trans hX.tape, HFR.out.output.trans hX.output, by have := HFR.out.size; omega, fun k hk _ => (HFR.out.block k (by omega) (by omega)).trans (hX.block k hk (fun x => x))⟩
          have hg1 : w.heap.size ≤ w.heap.size + 1 := by omega
          exact (((hf.setCell (.inr hg1) _).setCell (.inr hg1) _).setCell (.inr hg1) _).setCell (.inr hg1) _
      have HEND := Lib.hid hend
      clear hend HR9 HBX HRO HRU HRT HO9 HFR
      go_wp2
      refine bodyPost_ret (v := .agg #[.slice Ao (znK z k).org.length ao, .slice Au (znK z k).cur.length au, .slice At (znK z k).touch.length at_, .slice Ae z.ends.length ae]) (by simp [results, Tryz.results25, go_sem, y0, y1, y2, y3]) rfl ?_
      exact HEND.out _ rfl
end Go.Proofs.YtnhebmgibiomnaaGreat

/- fleuronref02: Half: its contract. -/
import Derived.Test.YtnalbkjbidaojaaNumJ
namespace Go.Proofs.Ytnalbkjbidaojaa
open Go.RowKit Nm

theorem NumO.low {b b' K K' : Nat} {W : World} {v : Value} {x : Int} (h : NumO b W v x K) (hb : b' ≤ b) (hK : K ≤ K') : NumO b' W v x K' := by
  obtain ⟨b1, A, d, c, e, ho, h1, h2, h3⟩ := h
  exact ⟨b1, A, d, c, e, own_mono7 ho hb, h1, h2, Nat.le_trans h3 hK⟩
set_option maxHeartbeats 1000000 in
set_option maxRecDepth 100000 in
theorem half_any (v v2 : Value) (x y : Int) (N M B : Nat) (w : World) (h : NumIs w B v x N) (h2 : NumIs w B v2 y M) (hB : B ≤ w.heap.size) (hN : N ≤ 1000) (hM : M ≤ 1000) (hy : 0 < y) :
    Calls Try.prog 35 #[v, v2] w (fun e w' => ∃ r ok, e = .returned (.tuple #[.int .i64 r, .bool ok]) ∧ ok = decide (-9223372036854775808 ≤ (x + x + y) / (y + y) ∧ (x + x + y) / (y + y) ≤ 9223372036854775807) ∧ r = (if ok = true then (x + x + y) / (y + y) else 0) ∧ Below w.heap.size w w') := by
  have hi1 := h
  have hi2 := h2
  obtain ⟨b, A, d, c, rfl, -, -, -, -, -, -⟩ := h
  obtain ⟨b2, A2, d2, c2, rfl, -, -, -, -, -, -⟩ := h2
  obtain ⟨X, hX⟩ : ∃ X, X = (w.alloc (.cells #[.bool b, .slice A d.length c] 89)).alloc (.cells #[.bool b2, .slice A2 d2.length c2] 89) := ⟨_, rfl⟩
  have hX1 : Blk X w.heap.size 89 #[.bool b, .slice A d.length c] := by rw [hX]; exact (Blk.new _ _ _).alloc _
  have hX2 : Blk X (w.heap.size + 1) 89 #[.bool b2, .slice A2 d2.length c2] := by rw [hX]; exact Blk.new_at _ _ _ (by simp)
  have hXw : Below w.heap.size w X := by rw [hX]; exact ((Below.refl _ _).alloc (Nat.le_refl _) _).alloc (by simp) _
  have HX := Lib.hid hX
  have HB1 := Lib.hid hX1
  have HB2 := Lib.hid hX2
  have HW := Lib.hid hXw
  have HI1 := Lib.hid hi1
  have HI2 := Lib.hid hi2
  have hws := hXw.size
  clear hX hX1 hX2 hXw hi1 hi2
  go_enter Try.func35, Try.ntmps35
  go_upto_region 1 with fail
  rw [← HX.out]
  refine wp_region_concD (HfV w.heap.size X.heap.size (.agg #[.bool b, .slice A d.length c]) (.agg #[.bool b2, .slice A2 d2.length c2]) x y N M) HfD (fun W => Below X.heap.size X W) (HfR w.heap.size X.heap.size ((x + x + y) / (y + y)) (N + M + 7)) (by as_aux_lemma => kernel_rfl) (by as_aux_lemma => kernel_rfl) 15 rfl ?_ ?_ ?_ ?_
  · intro i v W W' hv hr
    exact hv.keep hr
  · exact (Below.refl _ _).drew
  · intro j ev val W T hj hG hev hVT hTD hd
    have HVT := Lib.hid hVT
    have HTD := Lib.hid hTD
    have _ec := hev.const
    have _ef := hev.func
    have HG := Lib.hid hG
    have hzW := hG.size
    have hXs := HB2.out.lt
    have HBW := Lib.hid (HW.out.trans (hG.mono HW.out.size))
    have hwW : w.heap.size ≤ W.heap.size := HBW.out.size
    clear hG hVT hTD
    match j, hj with
    | 0, _ =>
      have _s : ev (.tmp 2) = .pointer (some ⟨w.heap.size, 0, none⟩) := hev.other 2 (by kernel_rfl)
      have hp := HB1.out.below HG.out (by omega)
      have y0 := hp.cell 0
      have y1 := hp.cell 1
      simp only [List.getElem?_toArray, List.getElem?_cons_zero, List.getElem?_cons_succ] at y0 y1
      have pl := hp.lt
      clear hp
      refine ⟨_, rfl, rfl, ?_⟩; unfold yields; go_simp
      exact ⟨rfl, HG.out, HfR.refl, fun j _ => by unfold HfD; split <;> first | trivial | contradiction⟩
    | 1, _ =>
      have _s : ev (.tmp 2) = .pointer (some ⟨w.heap.size, 0, none⟩) := hev.other 2 (by kernel_rfl)
      have hp := HB1.out.below HG.out (by omega)
      have y0 := hp.cell 0
      have y1 := hp.cell 1
      simp only [List.getElem?_toArray, List.getElem?_cons_zero, List.getElem?_cons_succ] at y0 y1
      have pl := hp.lt
      clear hp
      refine ⟨_, rfl, rfl, ?_⟩; unfold yields; go_simp
      exact ⟨rfl, HG.out, HfR.refl, fun j _ => by unfold HfD; split <;> first | trivial | contradiction⟩
    | 2, _ =>
      have d0 := hd 0 (by kernel_rfl); have x0 := hev.dep 0 11 (by kernel_rfl) (by kernel_rfl); simp only [HfV] at d0
      have d1 := hd 1 (by kernel_rfl); have x1 := hev.dep 1 12 (by kernel_rfl) (by kernel_rfl); simp only [HfV] at d1
      rw [d0] at x0
      rw [d1] at x1
      have i1 := HI1.out.keep (HBW.out.mono hB) (Nat.le_refl _)
      have hc := plus_any _ _ _ _ _ _ B W i1 i1 (by omega) (by omega) (by omega)
      refine ⟨_, rfl, rfl, ?_⟩; unfold yields; go_simp
      refine hc.mono ?_
      rintro e w3 ⟨v, rfl, ho, hbl⟩
      exact ⟨_, rfl, ho.low hwW (by omega), HG.out.trans (hbl.mono hzW), HfR.of_below hbl, fun j _ => by unfold HfD; split <;> first | trivial | contradiction⟩
    | 3, _ =>
      have _s : ev (.tmp 3) = .pointer (some ⟨w.heap.size + 1, 0, none⟩) := hev.other 3 (by kernel_rfl)
      have hp := HB2.out.below HG.out (by omega)
      have y0 := hp.cell 0
      have y1 := hp.cell 1
      simp only [List.getElem?_toArray, List.getElem?_cons_zero, List.getElem?_cons_succ] at y0 y1
      have pl := hp.lt
      clear hp
      refine ⟨_, rfl, rfl, ?_⟩; unfold yields; go_simp
      exact ⟨rfl, HG.out, HfR.refl, fun j _ => by unfold HfD; split <;> first | trivial | contradiction⟩
    | 4, _ =>
      have d2 := hd 2 (by kernel_rfl); have x2 := hev.dep 2 13 (by kernel_rfl) (by kernel_rfl); simp only [HfV] at d2
      have d3 := hd 3 (by kernel_rfl); have x3 := hev.dep 3 14 (by kernel_rfl) (by kernel_rfl); simp only [HfV] at d3
      rw [d3] at x3
      have i1 := d2.is
      have i2 := (HI2.out.keep (HBW.out.mono hB) (Nat.le_refl _)).keep (Below.refl B W) (show B ≤ W.heap.size by omega)
      have hc := plus_any _ _ _ _ _ _ W.heap.size W i1 i2 (Nat.le_refl _) (by omega) (by omega)
      refine ⟨_, rfl, rfl, ?_⟩; unfold yields; go_simp
      refine hc.mono ?_
      rintro e w3 ⟨v, rfl, ho, hbl⟩
      exact ⟨_, rfl, ho.low hwW (by omega), HG.out.trans (hbl.mono hzW), HfR.of_below hbl, fun j _ => by unfold HfD; split <;> first | trivial | contradiction⟩
    | 5, _ =>
      have _s : ev (.tmp 3) = .pointer (some ⟨w.heap.size + 1, 0, none⟩) := hev.other 3 (by kernel_rfl)
      have hp := HB2.out.below HG.out (by omega)
      have y0 := hp.cell 0
      have y1 := hp.cell 1
      simp only [List.getElem?_toArray, List.getElem?_cons_zero, List.getElem?_cons_succ] at y0 y1
      have pl := hp.lt
      clear hp
      refine ⟨_, rfl, rfl, ?_⟩; unfold yields; go_simp
      exact ⟨rfl, HG.out, HfR.refl, fun j _ => by unfold HfD; split <;> first | trivial | contradiction⟩
    | 6, _ =>
      have _s : ev (.tmp 3) = .pointer (some ⟨w.heap.size + 1, 0, none⟩) := hev.other 3 (by kernel_rfl)
      have hp := HB2.out.below HG.out (by omega)
      have y0 := hp.cell 0
      have y1 := hp.cell 1
      simp only [List.getElem?_toArray, List.getElem?_cons_zero, List.getElem?_cons_succ] at y0 y1
      have pl := hp.lt
      clear hp
      refine ⟨_, rfl, rfl, ?_⟩; unfold yields; go_simp
      exact ⟨rfl, HG.out, HfR.refl, fun j _ => by unfold HfD; split <;> first | trivial | contradiction⟩
    | 7, _ =>
      have d5 := hd 5 (by kernel_rfl); have x5 := hev.dep 5 16 (by kernel_rfl) (by kernel_rfl); simp only [HfV] at d5
      have d6 := hd 6 (by kernel_rfl); have x6 := hev.dep 6 17 (by kernel_rfl) (by kernel_rfl); simp only [HfV] at d6
      rw [d5] at x5
      rw [d6] at x6
      have i1 := HI2.out.keep (HBW.out.mono hB) (Nat.le_refl _)
      have hc := plus_any _ _ _ _ _ _ B W i1 i1 (by omega) (by omega) (by omega)
      refine ⟨_, rfl, rfl, ?_⟩; unfold yields; go_simp
      refine hc.mono ?_
      rintro e w3 ⟨v, rfl, ho, hbl⟩
      exact ⟨_, rfl, ho.low hwW (by omega), HG.out.trans (hbl.mono hzW), HfR.of_below hbl, fun j _ => by unfold HfD; split <;> first | trivial | contradiction⟩
    | 8, _ =>
      have d4 := hd 4 (by kernel_rfl); have x4 := hev.dep 4 15 (by kernel_rfl) (by kernel_rfl); simp only [HfV] at d4
      have d7 := hd 7 (by kernel_rfl); have x7 := hev.dep 7 18 (by kernel_rfl) (by kernel_rfl); simp only [HfV] at d7
      have hc := parts_any _ _ _ _ _ _ W.heap.size W d4.is d7.is (Nat.le_refl _) (by omega) (by omega) (by omega)
      refine ⟨_, rfl, rfl, ?_⟩; unfold yields; go_simp
      refine hc.mono ?_
      rintro e w3 ⟨v1, v2, rfl, ho1, ho2, hbl⟩
      exact ⟨_, rfl, ⟨_, _, rfl, ho1.low hwW (by omega), ho2.low hwW (by omega)⟩, HG.out.trans (hbl.mono hzW), HfR.of_below hbl, fun j _ => by unfold HfD; split <;> first | trivial | contradiction⟩
    | 9, _ =>
      have d8 := hd 8 (by kernel_rfl); have x8 := hev.dep 8 19 (by kernel_rfl) (by kernel_rfl); simp only [HfV] at d8
      refine ⟨_, rfl, rfl, ?_⟩; unfold yields; go_simp
      exact ⟨d8, HG.out, HfR.refl, fun j _ => by unfold HfD; split <;> first | trivial | contradiction⟩
    | 10, _ =>
      have d9 := hd 9 (by kernel_rfl); have x9 := hev.dep 9 10 (by kernel_rfl) (by kernel_rfl); simp only [HfV] at d9
      obtain ⟨v1, v2, hv, h1, h2⟩ := d9
      rw [hv] at x9
      clear hv
      refine ⟨_, rfl, rfl, ?_⟩; unfold yields; go_simp
      exact ⟨h1, HG.out, HfR.refl, fun j _ => by unfold HfD; split <;> first | trivial | contradiction⟩
    | 11, _ =>
      have d9 := hd 9 (by kernel_rfl); have x9 := hev.dep 9 10 (by kernel_rfl) (by kernel_rfl); simp only [HfV] at d9
      obtain ⟨v1, v2, hv, h1, h2⟩ := d9
      rw [hv] at x9
      clear hv
      refine ⟨_, rfl, rfl, ?_⟩; unfold yields; go_simp
      exact ⟨h2, HG.out, HfR.refl, fun j _ => by unfold HfD; split <;> first | trivial | contradiction⟩
    | 12, _ =>
      refine ⟨_, rfl, rfl, ?_⟩; unfold yields; go_simp
      refine ⟨⟨_, _, _, rfl, hzW, Blk.new _ _ _⟩, HG.out.alloc (by omega) _, HfR.of_below ((Below.refl _ _).alloc (Nat.le_refl _) _), fun j hj => ?_⟩
      have hvj := HVT.out j hj
      have hdj := HTD.out j hj
      match j with
      | 13 =>
        obtain ⟨g, u0, u1, hv, _, hk⟩ := hvj
        intro e
        rw [hv] at e
        have := hk.lt
        injection e with e
        injection e with e
        injection e with e
        omega
      | 14 => exact absurd (hdj.symm.trans (by kernel_rfl)) Bool.false_ne_true
      | 0 | 1 | 2 | 3 | 4 | 5 | 6 | 7 | 8 | 9 | 10 | 11 | 12 => trivial
      | j + 15 => trivial
    | 13, _ =>
      refine ⟨_, rfl, rfl, ?_⟩; unfold yields; go_simp
      refine ⟨⟨_, _, _, rfl, hzW, Blk.new _ _ _⟩, HG.out.alloc (by omega) _, HfR.of_below ((Below.refl _ _).alloc (Nat.le_refl _) _), fun j hj => ?_⟩
      have hvj := HVT.out j hj
      have hdj := HTD.out j hj
      match j with
      | 12 =>
        obtain ⟨g, u0, u1, hv, _, hk⟩ := hvj
        intro e
        rw [hv] at e
        have := hk.lt
        injection e with e
        injection e with e
        injection e with e
        omega
      | 0 | 1 | 2 | 3 | 4 | 5 | 6 | 7 | 8 | 9 | 10 | 11 | 13 | 14 => trivial
      | j + 15 => trivial
    | 14, _ =>
      have d12 := hd 12 (by kernel_rfl); have x12 := hev.dep 12 6 (by kernel_rfl) (by kernel_rfl); simp only [HfV] at d12
      have d10 := hd 10 (by kernel_rfl); have x10 := hev.dep 10 20 (by kernel_rfl) (by kernel_rfl); simp only [HfV] at d10
      obtain ⟨g, u0, u1, hv, hg, hk⟩ := d12
      obtain ⟨b3, A3, d3, c3, hv3, ho3, hok3, hsv3, hl3⟩ := d10
      have HV12 := Lib.hid hv
      rw [hv] at x12
      rw [hv3] at x10
      have m0 := hk.cell
      have m1 := hk.frozen
      have m2 := hk.lt
      have HS := Lib.hid (HfR.store hk hg ho3 hok3 hsv3 hl3)
      have HN := Lib.hid (NumV.put hk ho3 hok3 hsv3 hl3)
      have HGS := Lib.hid ((HG.out.setCell (p := ⟨g, 0, none⟩) hg (.bool b3)).setCell (p := ⟨g, 1, none⟩) hg (.slice A3 d3.length c3))
      clear hv hv3 ho3 hok3 hsv3 hl3 hk
      refine ⟨_, rfl, rfl, ?_⟩; unfold yields; go_simp
      refine ⟨.pointer (some ⟨g, 0, none⟩), ⟨g, rfl, hg, HN.out⟩, HGS.out, HS.out, fun j hj => ?_⟩
      match j with
      | 12 => exact HV12.out.symm
      | 0 | 1 | 2 | 3 | 4 | 5 | 6 | 7 | 8 | 9 | 10 | 11 | 13 | 14 => trivial
      | j + 15 => trivial
    | i + 15, hi => exact absurd hi (by simp)
  · intro val W hG hV hD
    have v11 := hV 11 (by simp)
    have v12 := hV 12 (by simp)
    have v13 := hV 13 (by simp)
    have v14 := hV 14 (by simp)
    simp only [HfV] at v11 v12 v13 v14
    have d1 : val 12 ≠ val 13 := by rcases hD 12 13 (by simp) (by simp) (by simp) with h | h; exact h; exact Ne.symm h
    have d2 : val 14 = val 12 := by rcases hD 14 12 (by simp) (by simp) (by simp) with h | h; exact h; exact Eq.symm h
    obtain ⟨g, hv14, hg, hnv⟩ := v14
    obtain ⟨g3, u0, u1, hv13, hg3, hk3⟩ := v13
    obtain ⟨b3, A3, d3, c3, hv11, ho3, hok3, hsv3, hl3⟩ := v11
    have hv12 : val 12 = .pointer (some ⟨g, 0, none⟩) := by rw [← d2, hv14]
    have hne : g ≠ g3 := fun e => d1 (by rw [hv12, hv13, e])
    have HNV := Lib.hid (hnv.set2 hk3 hne (.bool b3) (.slice A3 d3.length c3))
    have HBL := Lib.hid (HW.out.trans (((hG.setCell (p := ⟨g3, 0, none⟩) hg3 (.bool b3)).setCell (p := ⟨g3, 1, none⟩) hg3 (.slice A3 d3.length c3)).mono hws))
    have b0 := hk3.cell 0
    have b1 := hk3.cell 1
    simp only [List.getElem?_toArray, List.getElem?_cons_zero, List.getElem?_cons_succ] at b0 b1
    have f0 := hk3.frozen 0
    have f1 := hk3.frozen 1
    have bl := hk3.lt
    clear v12 d1 d2 hv14 hnv hk3 ho3 hok3 hsv3 hG hV hD
    unfold wpOp
    change (if _ then _ else _)
    rw [if_pos (by kernel_rfl)]
    refine .inl ?_
    simp only [fillA, dstOf, List.getElem?_toArray, List.getElem?_cons_zero, List.getElem?_cons_succ, Option.bind_some, hv11, hv12, hv13]
    go_simp
    clear b0 b1 f0 f1 bl
    generalize ((W.setCell ⟨g3, 0, none⟩ (.bool b3)).setCell ⟨g3, 1, none⟩ (.slice A3 d3.length c3)) = W2 at *
    obtain ⟨b4, A4, d4, c4, hk4, is4, -⟩ := HNV.out.is
    generalize hq : (x + x + y) / (y + y) = q at *
    have HC := Lib.hid (int_any _ q _ W2.heap.size W2 is4 (Nat.le_refl _))
    have e0 := hk4.cell 0
    have e1 := hk4.cell 1
    have el := hk4.lt
    simp only [List.getElem?_toArray, List.getElem?_cons_zero, List.getElem?_cons_succ] at e0 e1
    clear is4 hk4
    go_wp2_with fail
    refine HC.out.mono ?_
    rintro e w3 ⟨r, ok, rfl, hok, hr, hbl3⟩
    clear e0 e1 el HC
    have HOK := Lib.hid hok
    have HR := Lib.hid hr
    clear hok hr
    have HEND := Lib.hid (HBL.out.trans (hbl3.mono HBL.out.size))
    cases ok
    · go_wp2
      go_ret2
      exact ⟨0, false, rfl, by rw [hq]; exact HOK.out, by simp, HEND.out⟩
    · go_wp2
      go_ret2
      exact ⟨r, true, rfl, by rw [hq]; exact HOK.out, by rw [hq, if_pos rfl]; exact HR.out trivial, HEND.out⟩
end Go.Proofs.Ytnalbkjbidaojaa

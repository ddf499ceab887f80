/- The law ComposeFlattens: its walk. Expanded from XCwF.src by expand.py. -/
import Derived.Test.YtoklllbaihccnaaCpF
import Derived.Test.YtoklllbaihccnaaCpG
import Derived.Test.YtoklllbaihccnaaCwK
import Derived.Deep.CutBlock
set_option linter.unusedVariables false
set_option linter.unusedSimpArgs false
namespace Go.Proofs.Ytoklllbaihccnaa
open Go.RowKit Go.Shelf
namespace M4
open Dp
theorem own_i64 (s : List Int) (loops : Bool) : ∀ y, ∀ e ∈ (ownO (made s loops) y).2, I64 e := by
  intro y e he
  unfold ownO at he
  cases h : (made s loops)[y.toNat]? with
  | none => rw [h] at he; cases he
  | some g =>
    rw [h] at he
    have := (made_get s loops (List.mem_of_getElem? h)).2.2.2.2.2 e he
    rw [this]; unfold I64; decide
theorem flattens (s : List Int) {g h : Int} (hg : 0 ≤ g ∧ g < (made s false).length) (eg : (flat (made s false) g).2 = 0) (eh : (flat (made s false) h).2 = 0) :
    flat (flatG (made s false) g) h = flat (made s false) h ∧ ∀ pre x post, (down (flatG (made s false) g) h).1 = pre ++ x :: post → ∀ y, (learnO (flatF (flatG (made s false) g)) pre y).1.length ≤ 90000 ∧ (learnO (flatF (flatG (made s false) g)) pre y).2.length ≤ 90000 :=
  Dp.flattens (made_p1000 s false) (own_i64 s false) hg eg eh (own_len s false) (partsOf_len s false) (show cap 1 15 4 ≤ 90000 by decide)
theorem flat_few (s : List Int) {g : Int} (eg : (flat (made s false) g).2 = 0) : (flat (made s false) g).1.1.length ≤ 90000 ∧ (flat (made s false) g).1.2.length ≤ 90000 := by
  obtain ⟨t, d, e0, hm, e⟩ := flat_zero (made_p1000 s false) eg
  obtain ⟨t0, d0, h4, _⟩ := (down_zero (made_p1000 s false)).1 e0
  rw [e]
  exact ol_bd d (by rw [d.same d0 .refl (loc_most _) .refl]; exact h4) hm (own_len s false) (partsOf_len s false) (show cap 1 15 4 ≤ 90000 by decide) .refl
end M4
set_option maxRecDepth 100000 in
set_option maxHeartbeats 4000000 in
theorem flattens_walk (s : List Int) (A : Option Addr) (c : Nat) (q0 q1 : Int) (w : World) (hs : Reads w w.heap.size 1 A s.length (ints s)) (hi : ∀ x ∈ s, I64 x) :
    Calls Try.prog 7 #[.slice A s.length c, .agg #[.int .i64 q0, .int .i64 q1]] w fun e w' => e = .returned (.bool true) ∧ Below w.heap.size w w' := by
  have HS := Lib.hid hs
  have HI := Lib.hid hi
  clear hs hi
  go_enter Try.func7, Try.ntmps7
  go_wp2_with fail
  obtain ⟨W0, hW0⟩ : ∃ W0, w.alloc (.cells #[.int .i64 q0, .int .i64 q1] 61) = W0 := ⟨_, rfl⟩
  have hQ : Blk W0 w.heap.size 61 #[.int .i64 q0, .int .i64 q1] := by rw [← hW0]; exact Blk.new _ _ _
  have hG0 : Grow w W0 := by rw [← hW0]; exact (Fr.refl _ _).alloc _
  rw [hW0]
  clear hW0
  refine (awake_any _).mono ?_
  rintro e w1 ⟨rfl, hg1⟩
  have HG1 := Lib.hid (hG0.trans hg1)
  have hQ1 := hg1.blk hQ fun x => x
  clear hg1 hQ hG0
  go_wp2_with fail
  refine (made_any s false A c w.heap.size w1 (HS.out.keep fun p hp => HG1.out.cell hp fun x => x) HI.out HG1.out.size).mono ?_
  rintro e w2 ⟨gA, gc, rfl, hf1, hg2⟩
  obtain ⟨gl, hgl⟩ : ∃ gl, M4.made s false = gl := ⟨_, rfl⟩
  have hlen := M4.made_len s false
  have hnum := M4.num_in s
  rw [hgl] at hf1 hlen ⊢
  obtain ⟨n, hn⟩ : ∃ n, n = gl.length := ⟨_, rfl⟩
  rw [← hn] at hlen ⊢
  have hn8 : 1 ≤ n ∧ n ≤ 8 := by omega
  have HGL := Lib.hid hgl
  have HG2 := Lib.hid (HG1.out.trans hg2)
  have hQ2 := hg2.blk hQ1 fun x => x
  have HF1 := Lib.hid hf1
  have HN := Lib.hid hn
  have x0 := hQ2.cell 0
  have x1 := hQ2.cell 1
  have xl := hQ2.lt
  simp only [List.getElem?_toArray, List.getElem?_cons_zero, List.getElem?_cons_succ] at x0 x1
  have HQ2 := Lib.hid hQ2
  clear hgl hlen hnum hf1 hg2 HS HI hn HG1 hQ1 hQ2
  go_wp2_with fail
  refine (lrest4_any q0 n _ (by omega) (by omega)).mono ?_
  rintro e w' ⟨rfl, rfl⟩
  go_wp2_with fail
  refine (lrest4_any q1 n _ (by omega) (by omega)).mono ?_
  rintro e w' ⟨rfl, rfl⟩
  obtain ⟨g, hg⟩ : ∃ g : Nat, (g : Int) = q0 % n := ⟨(q0 % n).toNat, by have := Int.emod_nonneg q0 (show (n : Int) ≠ 0 by omega); omega⟩
  obtain ⟨h, hh⟩ : ∃ h : Nat, (h : Int) = q1 % n := ⟨(q1 % n).toNat, by have := Int.emod_nonneg q1 (show (n : Int) ≠ 0 by omega); omega⟩
  have hgn : g < n := by have := Int.emod_lt_of_pos q0 (show (0 : Int) < n by omega); omega
  have hhn : h < n := by have := Int.emod_lt_of_pos q1 (show (0 : Int) < n by omega); omega
  rw [← hg, ← hh]
  clear hg hh x0 x1 xl
  go_wp2_with fail
  obtain ⟨W3, hW3⟩ : ∃ W3, w2.alloc (.cells (Fv.cs (fvC gA n gc)) 32) = W3 := ⟨_, rfl⟩
  have hG3 : Grow w2 W3 := by rw [← hW3]; exact (Fr.refl _ _).alloc _
  have hX3 : Blk W3 w2.heap.size 32 (Fv.cs (fvC gA n gc)) := by rw [← hW3]; exact Blk.new _ _ _
  have hs3 : W3.heap.size = w2.heap.size + 1 := by rw [← hW3]; simp
  rw [hW3]
  have HG3 := Lib.hid hG3
  clear hW3 hG3 HQ2
  refine (flat_any (fvC gA n gc) gl g W3 HN.out (((HF1.out.keep fun p hp => HG3.out.cell hp fun x => x).more HG3.out.size).fat) (by have := HN.out; omega) (by unfold I64; omega) (fvC_one _ _ _) (by rw [← HGL.out]; exact Dp.made_bd s false g)).mono ?_
  rintro e w4 ⟨pv, ev, rfl, hol, hb4⟩
  obtain ⟨R, hR⟩ : ∃ R, Dp.flat gl g = R := ⟨_, rfl⟩
  rw [hR] at hol ⊢
  obtain ⟨pA, pc, rfl, hpc, _⟩ := owns_form hol.pts
  obtain ⟨eA, ec, rfl, hec, _⟩ := owns_form hol.ends
  have hX4 := hX3.below hb4 (by omega)
  have hs4 := hb4.size
  have HOL := Lib.hid hol
  have HB4 := Lib.hid ((Grow.below HG3.out (Nat.le_refl _)).trans (hb4.mono HG3.out.size))
  have HR := Lib.hid hR
  have HX4 := Lib.hid hX4
  have y0 := hX4.cell 0
  have y1 := hX4.cell 1
  have y2 := hX4.cell 2
  have y3 := hX4.cell 3
  have y4 := hX4.cell 4
  have y5 := hX4.cell 5
  have y6 := hX4.cell 6
  have y7 := hX4.cell 7
  have y8 := hX4.cell 8
  have yl := hX4.lt
  simp only [List.getElem?_toArray, List.getElem?_cons_zero, List.getElem?_cons_succ] at y0 y1 y2 y3 y4 y5 y6 y7 y8
  clear hX3 hol hb4 hR hX4 hpc hec
  go_wp2_with fail
  obtain ⟨W5, hW5⟩ : ∃ W5, w4.alloc (.cells #[.slice pA R.1.1.length pc, .slice eA R.1.2.length ec] 39) = W5 := ⟨_, rfl⟩
  have hG5 : Grow w4 W5 := by rw [← hW5]; exact (Fr.refl _ _).alloc _
  have hO5 : Blk W5 w4.heap.size 39 #[.slice pA R.1.1.length pc, .slice eA R.1.2.length ec] := by rw [← hW5]; exact Blk.new _ _ _
  have hs5 : W5.heap.size = w4.heap.size + 1 := by rw [← hW5]; simp
  rw [hW5]
  have HG5 := Lib.hid hG5
  clear hW5 hG5 y0 y1 y2 y3 y4 y5 y6 y7 y8 yl
  have hB5 : Below w2.heap.size w2 W5 := HB4.out.trans (Grow.below HG5.out (Nat.le_trans HB4.out.size (Nat.le_refl _)))
  refine (flat_any (fvC gA n gc) gl h W5 HN.out (((HF1.out.keep fun p hp => hB5.cell hp).more hB5.size).fat) (by have := HN.out; omega) (by unfold I64; omega) (fvC_one _ _ _) (by rw [← HGL.out]; exact Dp.made_bd s false h)).mono ?_
  rintro e w6 ⟨pv, ev, rfl, hol, hb6⟩
  obtain ⟨R2, hR2⟩ : ∃ R2, Dp.flat gl h = R2 := ⟨_, rfl⟩
  rw [hR2] at hol ⊢
  obtain ⟨pA2, pc2, rfl, _⟩ := owns_form hol.pts
  obtain ⟨eA2, ec2, rfl, _⟩ := owns_form hol.ends
  have hX6 := (HG5.out.blk HX4.out fun x => x).below hb6 (by have := HX4.out.lt; omega)
  have hO6 := hO5.below hb6 (by omega)
  have hs6 := hb6.size
  have HOL2 := Lib.hid hol
  have HOL1 := Lib.hid ((HOL.out.grow HG5.out).grow (Fr.of_below hb6 fun k hk _ => hk))
  have HB6 := Lib.hid (hB5.trans (hb6.mono hB5.size))
  have HR2 := Lib.hid hR2
  have HX6 := Lib.hid hX6
  have HO6 := Lib.hid hO6
  have hx6l := hX6.lt
  have ho6l := hO6.lt
  clear hO5 hB5 hol hb6 hR2 hX6 hO6 HOL HX4
  obtain ⟨⟨⟨rp, re⟩, er⟩, hRe⟩ : ∃ r, r = R := ⟨_, rfl⟩
  obtain ⟨⟨⟨kp, ke⟩, ek⟩, hKe⟩ : ∃ r, r = R2 := ⟨_, rfl⟩
  subst hRe
  subst hKe
  by_cases he0 : er = 0
  · subst he0
    by_cases hk0 : ek = 0
    · subst hk0
      have y0 := HX6.out.cell 0
      have y1 := HX6.out.cell 1
      have y2 := HX6.out.cell 2
      have y3 := HX6.out.cell 3
      have y4 := HX6.out.cell 4
      have y5 := HX6.out.cell 5
      have y6 := HX6.out.cell 6
      have y7 := HX6.out.cell 7
      have y8 := HX6.out.cell 8
      have yl := HX6.out.lt
      simp only [List.getElem?_toArray, List.getElem?_cons_zero, List.getElem?_cons_succ] at y0 y1 y2 y3 y4 y5 y6 y7 y8
      have z0 := HO6.out.cell 0
      have z1 := HO6.out.cell 1
      simp only [List.getElem?_toArray, List.getElem?_cons_zero, List.getElem?_cons_succ] at z0 z1
      go_upto_region 10 with fail
      obtain ⟨W7, hW7⟩ : ∃ W7, (w6.alloc (.cells #[.slice pA2 kp.length pc2, .slice eA2 ke.length ec2] 39)).alloc (.cells (Fv.cs (fvC gA n gc)) 32) = W7 := ⟨_, rfl⟩
      have hG7 : Grow w6 W7 := by rw [← hW7]; exact ((Fr.refl _ _).alloc _).alloc _
      have hs7 : W7.heap.size = w6.heap.size + 2 := by rw [← hW7]; simp
      have hP7 : Blk W7 (w6.heap.size + 1) 32 (Fv.cs (fvC gA n gc)) := by rw [← hW7]; exact Blk.new_at _ _ _ (by simp)
      have hQ7 : Blk W7 w6.heap.size 39 #[.slice pA2 kp.length pc2, .slice eA2 ke.length ec2] := by rw [← hW7]; exact (Blk.new _ _ _).alloc _
      have u1 := (hG7.cell (p := ⟨w2.heap.size, 1, none⟩) yl (fun x => x)).trans y1
      have ul : w2.heap.size < W7.heap.size := by omega
      have zz0 := (hG7.cell (p := ⟨w4.heap.size, 0, none⟩) ho6l (fun x => x)).trans z0
      have zz1 := (hG7.cell (p := ⟨w4.heap.size, 1, none⟩) ho6l (fun x => x)).trans z1
      rw [hW7]
      clear hW7 y0 y1 y2 y3 y4 y5 y6 y7 y8 yl z0 z1
      obtain ⟨W8, hW8⟩ : ∃ W8, W7.alloc (.cells #[] 45) = W8 := ⟨_, rfl⟩
      have hG8 : Grow w6 W8 := by rw [← hW8]; exact hG7.alloc _
      have hs8 : W8.heap.size = W7.heap.size + 1 := by rw [← hW8]; simp
      have hE8 : W8.ownsRow w6.heap.size 45 9 (.slice (some ⟨W7.heap.size, 0, none⟩) 0 0) 0 [] := by
        rw [← hW8]
        exact owns_empty (Blk.new _ _ _) (by omega)
      have hP8 : Blk W8 (w6.heap.size + 1) 32 (Fv.cs (fvC gA n gc)) := by rw [← hW8]; exact hP7.alloc _
      have hQ8 : Blk W8 w6.heap.size 39 #[.slice pA2 kp.length pc2, .slice eA2 ke.length ec2] := by rw [← hW8]; exact hQ7.alloc _
      obtain ⟨css, c1, c2, c3, c4⟩ := HF1.out.is
      rw [← HN.out] at c3
      have hb8 : Below w2.heap.size w2 W8 := HB6.out.trans (Grow.below hG8 HB6.out.size)
      have HR8 := Lib.hid (c3.keep fun p hp => hb8.cell hp)
      have HC1 := Lib.hid c1
      have HC2 := Lib.hid c2
      have HC4 := Lib.hid (fun u hu => by obtain ⟨cs, h1, h2⟩ := List.mem_flatten.1 hu; exact c4 cs h1 u h2 : ∀ u ∈ css.flatten, u.oneCell' = true)
      have HG8 := Lib.hid hG8
      have HE8 := Lib.hid hE8
      have HP8 := Lib.hid hP8
      have HQ8 := Lib.hid hQ8
      have HB8 := Lib.hid hb8
      have HW8 := Lib.hid hW8
      have HS8 := Lib.hid hs8
      obtain ⟨i1, hi0, hi1, hi2, hi3⟩ := info_m info_glyph
      have HS7 := Lib.hid hs7
      clear c1 c2 c3 c4 hG7 hP7 hQ7 hG8 hE8 hP8 hQ8 hb8 hW8 hs8 hs7
      go_upto_region 11 with (at_builtin; go_loud (rw [HW8.out]); go_loud (refine wpList_append_any _ rfl (.tmp 52) (.tmp 54) _ rfl w6.heap.size 45 i1 _ 9 176 Try.underlying24 hi0 hi1 hi2 hi3 rfl (show 0 < 9 by decide) (.slice (some ⟨W7.heap.size, 0, none⟩) 0 0) 0 [] rfl HE8.out _ gA n gc css.flatten rfl HR8.out HC4.out (by unfold maxLen; omega) (by omega) (by have := HS8.out; have := HS7.out; omega) ?_); go_loud (intro v' w9 hrow hg hnew); go_loud (rw [Nat.zero_add, List.nil_append] at hrow); go_loud (have hk9 := grown_others HE8.out hg); go_loud (obtain ⟨gb, c9, hve, hc9, hgb, hgl, hcell⟩ := owns_at hrow (by omega)); go_loud (subst hve); clear hcell; go_loud (have HP9 := Lib.hid (hk9 _ _ _ HP8.out (by decide)); have HQ9 := Lib.hid (hk9 _ _ _ HQ8.out (by decide)); have HK9 := Lib.hid hk9; have HROW := Lib.hid hrow; have HGR := Lib.hid hg; have HNW := Lib.hid hnew; have t1 := HP9.out.cell 1; have tf := HP9.out.frozen 1; have tl := HP9.out.lt; simp only [List.getElem?_toArray, List.getElem?_cons_zero, List.getElem?_cons_succ] at t1; clear hrow hg hnew hk9))
      obtain ⟨V, hV⟩ : ∃ V, w9.setCell ⟨w6.heap.size + 1, 1, none⟩ (.slice (some ⟨gb, 0, none⟩) n c9) = V := ⟨_, rfl⟩
      have hPV : Blk V (w6.heap.size + 1) 32 (Fv.cs (fvC (some ⟨gb, 0, none⟩) n c9)) := by
        rw [← hV]
        have := HP9.out.set_ 1 (.slice (some ⟨gb, 0, none⟩) n c9)
        simpa using this
      have hQV : Blk V w6.heap.size 39 #[.slice pA2 kp.length pc2, .slice eA2 ke.length ec2] := by rw [← hV]; exact HQ9.out.far (p := ⟨w6.heap.size + 1, 1, none⟩) (by simp only; omega) _
      have hO8 := HG8.out.blk HO6.out fun x => x
      have hOV : Blk V w4.heap.size 39 #[.slice pA rp.length pc, .slice eA re.length ec] := by rw [← hV]; exact (HK9.out _ _ _ hO8 (by decide)).far (p := ⟨w6.heap.size + 1, 1, none⟩) (by simp only; omega) _
      have hRV : V.ownsRow w6.heap.size 45 9 (.slice (some ⟨gb, 0, none⟩) n c9) n css.flatten := by rw [← hV]; exact owns_set HROW.out HP9.out (by decide) 1 _
      have hgn2 : gb ≠ w6.heap.size + 1 := fun e => by
        obtain ⟨_, _, cs', hb'⟩ := owns_block HROW.out rfl
        exact HP9.out.ne_ hb' (by decide) e.symm
      rw [hV]
      obtain ⟨cs, hcs⟩ : ∃ cs, css[g]? = some cs := ⟨_, List.getElem?_eq_getElem (by have := HC1.out; have := HN.out; omega)⟩
      obtain ⟨gg, hgg⟩ : ∃ gg, gl[g]? = some gg := ⟨_, List.getElem?_eq_getElem (by have := HN.out; omega)⟩
      obtain ⟨k0, k1, k2, kpA, kpc, keA, kec, kqA, kqc, k6, k7, k8, hce, _⟩ := (HC2.out g gg cs hgg hcs).is
      have l9 := FOne.lens HC1.out HC2.out
      have z3 := owns_cell hRV ((flatten_get css l9).2 g 3 cs _ hcs (by rw [hce]; rfl))
      have z4 := owns_cell hRV ((flatten_get css l9).2 g 4 cs _ hcs (by rw [hce]; rfl))
      have z5 := owns_cell hRV ((flatten_get css l9).2 g 5 cs _ hcs (by rw [hce]; rfl))
      obtain ⟨_, hgbl, gcs, hgbk⟩ := owns_block hRV rfl
      have f3 := hgbk.frozen (g * 9 + 3)
      have f4 := hgbk.frozen (g * 9 + 4)
      have f5 := hgbk.frozen (g * 9 + 5)
      have u1 := hPV.cell 1
      have v0 := hOV.cell 0
      have v1 := hOV.cell 1
      simp only [List.getElem?_toArray, List.getElem?_cons_zero, List.getElem?_cons_succ] at u1 v0 v1 f3 f4 f5 hgbl
      have HPV := Lib.hid hPV
      have HQV := Lib.hid hQV
      have HOV := Lib.hid hOV
      have HRV := Lib.hid hRV
      have HV := Lib.hid hV
      have hgn3 : gb ≠ w4.heap.size := fun e => by
        obtain ⟨_, _, cs', hb'⟩ := owns_block hRV rfl
        exact hOV.ne_ hb' (by decide) e.symm
      have ko : ∀ {n base size : Nat} {t : TypeId} {v : Value} {xs : List Value}, w6.ownsRow base t size v n xs → t ≠ 45 → t ≠ 32 → V.ownsRow base t size v n xs := fun ho h1 h2 => by
        have o8 := owns_grow ho HG8.out
        have o9 := owns_keep (w' := w9) o8 fun b e => by
          obtain ⟨_, _, cs', hb'⟩ := owns_block o8 e
          rw [show w9.heap[b]? = _ from HK9.out b _ _ hb' h1]; exact hb'.symm
        rw [← HV.out]; exact owns_set o9 HP9.out (Ne.symm h2) 1 _
      have hw26 := HB6.out.size
      have hb9 : Below w2.heap.size w2 w9 := HB8.out.grown HGR.out HB8.out.size (fun b e => by have := HS7.out; injection e with e; simp only at e; omega)
      have hbv : Below w2.heap.size w2 V := by rw [← HV.out]; exact hb9.setCell (p := ⟨w6.heap.size + 1, 1, none⟩) (by simp only; omega) _
      have HLV := Lib.hid (show OlOwn V w2.heap.size (.slice pA rp.length pc) (.slice eA re.length ec) (rp, re) from ⟨owns_mono (ko HOL1.out.pts (by decide) (by decide)) (by omega), owns_mono (ko HOL1.out.ends (by decide) (by decide)) (by omega)⟩)
      have HMV := Lib.hid (show OlOwn V w2.heap.size (.slice pA2 kp.length pc2) (.slice eA2 ke.length ec2) (kp, ke) from ⟨owns_mono (ko HOL2.out.pts (by decide) (by decide)) (by omega), owns_mono (ko HOL2.out.ends (by decide) (by decide)) (by omega)⟩)
      have HBV := Lib.hid hbv
      have HW26 := Lib.hid hw26
      have hgb2 : w6.heap.size ≤ gb := hgb
      have HGB := Lib.hid hgb2
      have HG3 := Lib.hid hgn3
      have HG2' := Lib.hid hgn2
      clear hw26 hb9 hbv hgb2
      clear hO8 t1 tf tl hcs hgg hce l9 hgbk hPV hQV hOV hRV hV hc9 hgb hgl zz0 zz1 ul hi0 hi1 hi2 hi3 ko
      go_upto_region 13 with fail
      obtain ⟨W10, hW10⟩ : ∃ W10, ((V.setCell ⟨gb, g * 9 + 3, none⟩ (.slice pA rp.length pc)).setCell ⟨gb, g * 9 + 3 + 1, none⟩ (.slice eA re.length ec)).setCell ⟨gb, g * 9 + 5, none⟩ (.slice none 0 0) = W10 := ⟨_, rfl⟩
      have hmd := M4.flattens s (g := g) (h := h) (by rw [HGL.out, ← HN.out]; omega) (by rw [HGL.out, HR.out]) (by rw [HGL.out, HR2.out])
      have hfg := M4.flat_few s (g := g) (by rw [HGL.out, HR.out])
      have hfh := M4.flat_few s (g := h) (by rw [HGL.out, HR2.out])
      have hoi := Dp.flat_i64 (gl := M4.made s false) (g := g) (M4.made_p1000 s false) (M4.own_i64 s false)
      rw [HGL.out] at hmd hfg hfh hoi
      rw [HR.out] at hfg hoi
      rw [HR2.out] at hmd hfh
      have hpcs := owns_form HLV.out.pts
      have hecs := owns_form HLV.out.ends
      simp only at hfg hoi hfh hpcs hecs
      have hF10 : FAt W10 W10.heap.size (some ⟨gb, 0, none⟩) (Dp.flatG gl g) := by
        unfold Dp.flatG
        rw [HR.out, Int.toNat_natCast]
        refine FAt.flatG (W := V) (B := w2.heap.size) (c := c9) (n := n) (css := css) HC1.out (fun i g' cs' a b => (HC2.out i g' cs' a b).keep fun p hp => HBV.out.cell hp) (by have := HN.out; omega) HN.out (owns_mono HRV.out HW26.out) (by have := HN.out; omega) HLV.out hW10.symm hoi (show rp.length ≤ 1000000 by omega) (show re.length ≤ 1000000 by omega) (show rp.length ≤ pc from ?_) (show re.length ≤ ec from ?_) HBV.out.size
        · obtain ⟨_, _, e, h1, _⟩ := hpcs
          injection e with _ _ e
          omega
        · obtain ⟨_, _, e, h1, _⟩ := hecs
          injection e with _ _ e
          omega
      have hP10 : Blk W10 (w6.heap.size + 1) 32 (Fv.cs (fvC (some ⟨gb, 0, none⟩) n c9)) := by
        rw [← hW10]
        exact ((HPV.out.far (p := ⟨gb, g * 9 + 3, none⟩) (Ne.symm HG2'.out) _).far (p := ⟨gb, g * 9 + 3 + 1, none⟩) (Ne.symm HG2'.out) _).far (p := ⟨gb, g * 9 + 5, none⟩) (Ne.symm HG2'.out) _
      have hQ10 : Blk W10 w6.heap.size 39 #[.slice pA2 kp.length pc2, .slice eA2 ke.length ec2] := by
        have hne : w6.heap.size ≠ gb := fun e => by
          obtain ⟨_, _, cs', hb'⟩ := owns_block HRV.out (show (Value.slice (some ⟨gb, 0, none⟩) n c9).ownBlock = some gb from rfl)
          exact HQV.out.ne_ hb' (by decide) e
        rw [← hW10]
        exact ((HQV.out.far (p := ⟨gb, g * 9 + 3, none⟩) hne _).far (p := ⟨gb, g * 9 + 3 + 1, none⟩) hne _).far (p := ⟨gb, g * 9 + 5, none⟩) hne _
      have hM10 : OlOwn W10 w2.heap.size (.slice pA2 kp.length pc2) (.slice eA2 ke.length ec2) (kp, ke) := by
        rw [← hW10]
        obtain ⟨_, _, gcs, hgk⟩ := owns_block HRV.out rfl
        have a1 := hgk.set_ (g * 9 + 3) (.slice pA rp.length pc)
        have a2 := a1.set_ (g * 9 + 3 + 1) (.slice eA re.length ec)
        exact ⟨owns_set (owns_set (owns_set HMV.out.pts hgk (by decide) _ _) a1 (by decide) _ _) a2 (by decide) _ _, owns_set (owns_set (owns_set HMV.out.ends hgk (by decide) _ _) a1 (by decide) _ _) a2 (by decide) _ _⟩
      have hb10 : Below w2.heap.size w2 W10 := by
        have := HGB.out
        have := HW26.out
        rw [← hW10]
        exact ((HBV.out.setCell (p := ⟨gb, g * 9 + 3, none⟩) (by simp only; omega) _).setCell (p := ⟨gb, g * 9 + 3 + 1, none⟩) (by simp only; omega) _).setCell (p := ⟨gb, g * 9 + 5, none⟩) (by simp only; omega) _
      rw [hW10]
      have HF10 := Lib.hid hF10
      have HP10 := Lib.hid hP10
      have HQ10 := Lib.hid hQ10
      have HM10 := Lib.hid hM10
      have HB10 := Lib.hid hb10
      have HMD := Lib.hid hmd
      have HFH := Lib.hid hfh
      have y0 := hP10.cell 0
      have y1 := hP10.cell 1
      have y2 := hP10.cell 2
      have y3 := hP10.cell 3
      have y4 := hP10.cell 4
      have y5 := hP10.cell 5
      have y6 := hP10.cell 6
      have y7 := hP10.cell 7
      have y8 := hP10.cell 8
      have yl := hP10.lt
      simp only [List.getElem?_toArray, List.getElem?_cons_zero, List.getElem?_cons_succ] at y0 y1 y2 y3 y4 y5 y6 y7 y8
      clear hF10 hP10 hQ10 hM10 hb10 hmd hfh hfg hoi hpcs hecs hW10 z3 z4 z5 f3 f4 f5 u1 v0 v1 hgn3 hgn2 HV HBV HLV HMV HRV HOV HQV HPV
      go_wp2_with fail
      refine (flat_any (fvC (some ⟨gb, 0, none⟩) n c9) (Dp.flatG gl g) h W10 (by show n = _; rw [HN.out]; unfold Dp.flatG; rw [List.length_set]) HF10.out (by unfold Dp.flatG; rw [List.length_set, ← HN.out]; omega) (by unfold I64; omega) (fvC_one _ _ _) (fun _ _ => HMD.out.2)).mono ?_
      rintro e w11 ⟨pv, ev, rfl, hol11, hb11⟩
      rw [HMD.out.1] at hol11 ⊢
      obtain ⟨pA3, pc3, rfl, _⟩ := owns_form hol11.pts
      obtain ⟨eA3, ec3, rfl, _⟩ := owns_form hol11.ends
      have hQ11 := HQ10.out.below hb11 HQ10.out.lt
      have a0 := hQ11.cell 0
      have a1 := hQ11.cell 1
      have al := hQ11.lt
      simp only [List.getElem?_toArray, List.getElem?_cons_zero, List.getElem?_cons_succ] at a0 a1
      have HL11 := Lib.hid hol11
      have HM11 := Lib.hid (HM10.out.grow (Fr.of_below hb11 fun k hk _ => hk))
      have HB11 := Lib.hid (HB10.out.trans (hb11.mono HB10.out.size))
      clear hQ11 hol11 hb11 y0 y1 y2 y3 y4 y5 y6 y7 y8 yl
      go_wp2_with fail
      obtain ⟨W12, hW12⟩ : ∃ W12, w11.alloc (.cells #[.slice pA3 kp.length pc3, .slice eA3 ke.length ec3] 39) = W12 := ⟨_, rfl⟩
      have hG12 : Grow w11 W12 := by rw [← hW12]; exact (Fr.refl _ _).alloc _
      rw [hW12]
      refine (same4_any pA2 eA2 pA3 eA3 pc2 ec2 pc3 ec3 W12.heap.size (kp, ke) (kp, ke) W12 (Reads.of_own (HM11.out.grow hG12).pts) (Reads.of_own (HM11.out.grow hG12).ends) (Reads.of_own (HL11.out.grow hG12).pts) (Reads.of_own (HL11.out.grow hG12).ends) (Nat.le_refl _) (by have := HFH.out; simp only; omega) (by have := HFH.out; simp only; omega) (by have := HFH.out; simp only; omega) (by have := HFH.out; simp only; omega)).mono ?_
      rintro e w13 ⟨rfl, hg13⟩
      rw [show decide (((kp, ke) : Ol) = (kp, ke)) = true from decide_eq_true rfl]
      have HB13 := Lib.hid (HB11.out.trans (Grow.below (hG12.trans hg13) HB11.out.size))
      clear hW12 hG12 hg13 a0 a1 al
      go_wp2_with fail
      go_ret
      exact ⟨by first | rfl | trivial, (Grow.below HG2.out (Nat.le_refl _)).trans (HB13.out.mono HG2.out.size)⟩
    · have hk1 : (ek == 0) = false := by simpa using hk0
      go_wp2_with fail
      go_ret
      exact ⟨by first | rfl | trivial, (Grow.below HG2.out (Nat.le_refl _)).trans (Below.trans (HB6.out.mono HG2.out.size) (Grow.below ((Fr.refl _ _).alloc _) (Nat.le_trans HG2.out.size HB6.out.size)))⟩
  · have hk1 : (er == 0) = false := by simpa using he0
    go_wp2_with fail
    go_ret
    exact ⟨by first | rfl | trivial, (Grow.below HG2.out (Nat.le_refl _)).trans (Below.trans (HB6.out.mono HG2.out.size) (Grow.below ((Fr.refl _ _).alloc _) (Nat.le_trans HG2.out.size HB6.out.size)))⟩
end Go.Proofs.Ytoklllbaihccnaa

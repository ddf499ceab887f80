/- The law ComposeMoves: its walk. Expanded from XCwM.src by expand.py. -/
import Derived.Test.YtoklllbaihccnaaCpF
import Derived.Test.YtoklllbaihccnaaCpG
import Derived.Test.YtoklllbaihccnaaCwK
import Derived.Test.YtoklllbaihccnaaCqJ
import Derived.Deep.CutBlock
set_option linter.unusedVariables false
set_option linter.unusedSimpArgs false
namespace Go.Proofs.Ytoklllbaihccnaa
open Go.RowKit Go.Shelf
/-- a copied row of glyphs with one behind it that has just one part -/
theorem FAt.movG {W : World} {B gb pb c n : Nat} {gl : List Gl} {css : List (List Value)} {g x y : Int} (h1 : css.length = gl.length) (h2 : ∀ (i : Nat) g cs, gl[i]? = some g → css[i]? = some cs → GlAt W B g cs) (hf : gl.length ≤ 900) (hn : n = gl.length)
    (ho : W.ownsRow B 45 9 (.slice (some ⟨gb, 0, none⟩) (n + 1) c) (n + 1) (css.flatten ++ [.string ⟨#[]⟩, .int .i64 0, .bool false, .slice none 0 0, .slice none 0 0, .slice (some ⟨pb, 0, none⟩) 1 1, .slice none 0 0, .slice none 0 0, .slice none 0 0]))
    (hp : Blk W pb 48 #[.int .i64 g, .int .i64 x, .int .i64 y]) (hi : I64 g ∧ I64 x ∧ I64 y) (hBW : B ≤ W.heap.size) :
    FAt W W.heap.size (some ⟨gb, 0, none⟩) (gl ++ [⟨[(g, x, y)], [], []⟩]) := by
  refine ⟨⟨css ++ [[.string ⟨#[]⟩, .int .i64 0, .bool false, .slice none 0 0, .slice none 0 0, .slice (some ⟨pb, 0, none⟩) 1 1, .slice none 0 0, .slice none 0 0, .slice none 0 0]], by simp [h1], fun i g' cs' hg' hc' => ?_, ?_⟩, by simp; omega⟩
  · by_cases hi2 : i < gl.length
    · rw [List.getElem?_append_left hi2] at hg'
      rw [List.getElem?_append_left (by omega)] at hc'
      exact (h2 i g' cs' hg' hc').more hBW
    · have hie : i = gl.length := by
        have := (List.getElem?_eq_some_iff.1 hg').1
        simp at this
        omega
      rw [List.getElem?_append_right (by omega), hie, Nat.sub_self] at hg'
      rw [List.getElem?_append_right (by omega), show i - css.length = 0 by omega] at hc'
      simp only [List.getElem?_cons_zero, Option.some.injEq] at hg' hc'
      subst hg'
      subst hc'
      refine ⟨⟨_, _, _, none, 0, none, 0, some ⟨pb, 0, none⟩, 1, _, _, _, rfl, Nat.le_refl _, Nat.le_refl _, Nat.le_refl _, ⟨rfl, fun h => absurd h (Nat.lt_irrefl 0)⟩, ⟨rfl, fun h => absurd h (Nat.lt_irrefl 0)⟩, ?_⟩, ⟨Nat.zero_le _, fun p hp => by cases hp⟩, ⟨Nat.zero_le _, fun p hp => by cases hp⟩, ⟨(show 1 ≤ 1000 by decide), fun p hp => ?_⟩⟩
      · exact Reads.blk (cs := [.int .i64 g, .int .i64 x, .int .i64 y]) hp 3 1 rfl
      · rw [List.mem_singleton.1 hp]; exact hi
  · have := Reads.of_own ho
    rw [hn] at this
    rw [List.length_append, List.flatten_append]
    simpa using this
namespace M4
open Dp
theorem own_i64 (s : List Int) (loops : Bool) : ∀ y, ∀ e ∈ (ownO (made s loops) y).2, I64 e := by
  intro y e he
  unfold ownO at he
  cases h : (made s loops)[y.toNat]? with
  | none => rw [h] at he; cases he
  | some g =>
    rw [h] at he
    have := (made_get s loops (List.mem_of_getElem? h)).2.2.2.2.2 e he
    rw [this]; unfold I64; decide
theorem flat_few (s : List Int) {g : Int} (eg : (flat (made s false) g).2 = 0) : (flat (made s false) g).1.1.length ≤ 90000 ∧ (flat (made s false) g).1.2.length ≤ 90000 := by
  obtain ⟨t, d, e0, hm, e⟩ := flat_zero (made_p1000 s false) eg
  obtain ⟨t0, d0, h4, _⟩ := (down_zero (made_p1000 s false)).1 e0
  rw [e]
  exact ol_bd d (by rw [d.same d0 .refl (loc_most _) .refl]; exact h4) hm (own_len s false) (partsOf_len s false) (show cap 1 15 4 ≤ 90000 by decide) .refl
theorem moves (s : List Int) {g : Nat} (x y : Int) (hg : g < (made s false).length) :
    (((flat (made s false) g).2 ≠ 0 ∨ (down (made s false) g).2.1 = 4) → (flat (movG (made s false) g x y) (made s false).length).2 ≠ 0) ∧
    ((flat (made s false) g).2 = 0 → (down (made s false) g).2.1 ≠ 4 → flat (movG (made s false) g x y) (made s false).length = (((flat (made s false) g).1.1.map (mvP x y), (flat (made s false) g).1.2), 0)) :=
  Dp.moves (made_p1000 s false) (made_up s) hg (fun _ ha => made_noloop s ha) (own_i64 s false)
theorem mov_bd (s : List Int) {g : Nat} (x y : Int) (hg : g < (made s false).length) (h : Int) (h0 : (down (movG (made s false) g x y) h).2.2 = 0) (hm : learn (many (movG (made s false) g x y)) (down (movG (made s false) g x y) h).1 h ≤ 1000) :
    ∀ pre x' post, (down (movG (made s false) g x y) h).1 = pre ++ x' :: post → ∀ z, (learnO (flatF (movG (made s false) g x y)) pre z).1.length ≤ 90000 ∧ (learnO (flatF (movG (made s false) g x y)) pre z).2.length ≤ 90000 :=
  flat_bd (movG_few (by decide) (made_up s) hg (made_p1000 s false)) (movG_ends (own_len s false)) (movG_few (by decide) (made_up s) hg (partsOf_len s false)) h h0 hm
end M4
set_option maxRecDepth 100000 in
set_option maxHeartbeats 4000000 in
theorem moves_walk (s : List Int) (A : Option Addr) (c : Nat) (m0 q0 q1 : Int) (w : World) (hs : Reads w w.heap.size 1 A s.length (ints s)) (hi : ∀ x ∈ s, I64 x) (hq0 : I64 q0) (hq1 : I64 q1) :
    Calls Try.prog 8 #[.slice A s.length c, .int .i64 m0, .agg #[.int .i64 q0, .int .i64 q1]] w fun e w' => e = .returned (.bool true) ∧ Below w.heap.size w w' := by
  have HS := Lib.hid hs
  have HI := Lib.hid hi
  obtain ⟨x, hx⟩ : ∃ x, q0.tmod 1001 = x := ⟨_, rfl⟩
  obtain ⟨y, hy⟩ : ∃ y, q1.tmod 1001 = y := ⟨_, rfl⟩
  have HX := Lib.hid hx
  have HY := Lib.hid hy
  have HXB := Lib.hid (show -1000 ≤ x ∧ x ≤ 1000 by have h1 := Int.tmod_lt_of_pos q0 (show (0 : Int) < 1001 by decide); have h2 := Int.lt_tmod_of_pos q0 (show (0 : Int) < 1001 by decide); omega)
  have HYB := Lib.hid (show -1000 ≤ y ∧ y ≤ 1000 by have h1 := Int.tmod_lt_of_pos q1 (show (0 : Int) < 1001 by decide); have h2 := Int.lt_tmod_of_pos q1 (show (0 : Int) < 1001 by decide); omega)
  clear hs hi hx hy hq0 hq1
  go_enter Try.func8, Try.ntmps8
  go_wp2_with fail
  obtain ⟨W0, hW0⟩ : ∃ W0, w.alloc (.cells #[.int .i64 q0, .int .i64 q1] 61) = W0 := ⟨_, rfl⟩
  have hQ : Blk W0 w.heap.size 61 #[.int .i64 q0, .int .i64 q1] := by rw [← hW0]; exact Blk.new _ _ _
  have hG0 : Grow w W0 := by rw [← hW0]; exact (Fr.refl _ _).alloc _
  rw [hW0]
  clear hW0
  refine (awake_any _).mono ?_
  rintro e w1 ⟨rfl, hg1⟩
  have HG1 := Lib.hid (hG0.trans hg1)
  have hQ1 := hg1.blk hQ fun x => x
  clear hg1 hQ hG0
  go_wp2_with fail
  refine (made_any s false A c w.heap.size w1 (HS.out.keep fun p hp => HG1.out.cell hp fun x => x) HI.out HG1.out.size).mono ?_
  rintro e w2 ⟨gA, gc, rfl, hf1, hg2⟩
  obtain ⟨gl, hgl⟩ : ∃ gl, M4.made s false = gl := ⟨_, rfl⟩
  have hlen := M4.made_len s false
  have hnum := M4.num_in s
  rw [hgl] at hf1 hlen ⊢
  obtain ⟨n, hn⟩ : ∃ n, n = gl.length := ⟨_, rfl⟩
  rw [← hn] at hlen ⊢
  have hn8 : 1 ≤ n ∧ n ≤ 8 := by omega
  have HGL := Lib.hid hgl
  have HG2 := Lib.hid (HG1.out.trans hg2)
  have hQ2 := hg2.blk hQ1 fun x => x
  have HF1 := Lib.hid hf1
  have HN := Lib.hid hn
  have x0 := hQ2.cell 0
  have x1 := hQ2.cell 1
  have xl := hQ2.lt
  simp only [List.getElem?_toArray, List.getElem?_cons_zero, List.getElem?_cons_succ] at x0 x1
  clear hgl hlen hnum hf1 hg2 HS HI hn HG1 hQ1 hQ2
  go_wp2_with fail
  refine (lrest4_any m0 n _ (by omega) (by omega)).mono ?_
  rintro e w' ⟨rfl, rfl⟩
  obtain ⟨g, hg⟩ : ∃ g : Nat, (g : Int) = m0 % n := ⟨(m0 % n).toNat, by have := Int.emod_nonneg m0 (show (n : Int) ≠ 0 by omega); omega⟩
  have hgn : g < n := by have := Int.emod_lt_of_pos m0 (show (0 : Int) < n by omega); omega
  rw [← hg]
  clear hg
  go_wp2_with fail
  rw [HX.out, HY.out]
  obtain ⟨W3, hW3⟩ : ∃ W3, w2.alloc (.cells (Fv.cs (fvC gA n gc)) 32) = W3 := ⟨_, rfl⟩
  have hG3 : Grow w2 W3 := by rw [← hW3]; exact (Fr.refl _ _).alloc _
  have hX3 : Blk W3 w2.heap.size 32 (Fv.cs (fvC gA n gc)) := by rw [← hW3]; exact Blk.new _ _ _
  have hs3 : W3.heap.size = w2.heap.size + 1 := by rw [← hW3]; simp
  rw [hW3]
  have HG3 := Lib.hid hG3
  clear hW3 hG3 x0 x1 xl
  refine (deep_any (fvC gA n gc) gl g W3 HN.out (((HF1.out.keep fun p hp => HG3.out.cell hp fun x => x).more HG3.out.size).fat) (by have := HN.out; omega) (by unfold I64; omega) (fvC_one _ _ _)).mono ?_
  rintro e w3 ⟨rfl, hb3⟩
  obtain ⟨D, hD⟩ : ∃ D, Dp.down gl g = D := ⟨_, rfl⟩
  rw [hD]
  have HD := Lib.hid hD
  have hX3' := hX3.below hb3 (by omega)
  have hs3' := hb3.size
  have HB3 := Lib.hid ((Grow.below HG3.out (Nat.le_refl _)).trans (hb3.mono HG3.out.size))
  have HX3 := Lib.hid hX3'
  have y0 := hX3'.cell 0
  have y1 := hX3'.cell 1
  have y2 := hX3'.cell 2
  have y3 := hX3'.cell 3
  have y4 := hX3'.cell 4
  have y5 := hX3'.cell 5
  have y6 := hX3'.cell 6
  have y7 := hX3'.cell 7
  have y8 := hX3'.cell 8
  have yl := hX3'.lt
  simp only [List.getElem?_toArray, List.getElem?_cons_zero, List.getElem?_cons_succ] at y0 y1 y2 y3 y4 y5 y6 y7 y8
  clear hX3 hX3' hb3 hD
  go_wp2_with fail
  clear y0 y1 y2 y3 y4 y5 y6 y7 y8 yl
  refine (flat_any (fvC gA n gc) gl g w3 HN.out (((HF1.out.keep fun p hp => HB3.out.cell hp).more HB3.out.size).fat) (by have := HN.out; omega) (by unfold I64; omega) (fvC_one _ _ _) (by rw [← HGL.out]; exact Dp.made_bd s false g)).mono ?_
  rintro e w4 ⟨pv, ev, rfl, hol, hb4⟩
  obtain ⟨R, hR⟩ : ∃ R, Dp.flat gl g = R := ⟨_, rfl⟩
  rw [hR] at hol ⊢
  obtain ⟨pA, pc, rfl, _⟩ := owns_form hol.pts
  obtain ⟨eA, ec, rfl, _⟩ := owns_form hol.ends
  have hX4 := HX3.out.below hb4 HX3.out.lt
  have hs4 := hb4.size
  have HOL := Lib.hid hol
  have HB4 := Lib.hid (HB3.out.trans (hb4.mono HB3.out.size))
  have HR := Lib.hid hR
  have HX4 := Lib.hid hX4
  clear hol hb4 hR hX4 HX3
  obtain ⟨⟨⟨rp, re⟩, er⟩, hRe⟩ : ∃ r, r = R := ⟨_, rfl⟩
  subst hRe
  go_upto_region 8 with fail
  obtain ⟨W7, hW7⟩ : ∃ W7, w4.alloc (.cells #[.slice pA rp.length pc, .slice eA re.length ec] 39) = W7 := ⟨_, rfl⟩
  have hG7 : Grow w4 W7 := by rw [← hW7]; exact (Fr.refl _ _).alloc _
  have hs7 : W7.heap.size = w4.heap.size + 1 := by rw [← hW7]; simp
  have hQ7 : Blk W7 w4.heap.size 39 #[.slice pA rp.length pc, .slice eA re.length ec] := by rw [← hW7]; exact Blk.new _ _ _
  rw [hW7]
  have hX7 := hG7.blk HX4.out fun x => x
  have u1 := hX7.cell 1
  have ul := hX7.lt
  simp only [List.getElem?_toArray, List.getElem?_cons_zero, List.getElem?_cons_succ] at u1
  obtain ⟨W8, hW8⟩ : ∃ W8, W7.alloc (.cells #[] 45) = W8 := ⟨_, rfl⟩
  have hG8 : Grow w4 W8 := by rw [← hW8]; exact hG7.alloc _
  have hs8 : W8.heap.size = W7.heap.size + 1 := by rw [← hW8]; simp
  have hE8 : W8.ownsRow w4.heap.size 45 9 (.slice (some ⟨W7.heap.size, 0, none⟩) 0 0) 0 [] := by
    rw [← hW8]
    exact owns_empty (Blk.new _ _ _) (by omega)
  have hX8 : Blk W8 w2.heap.size 32 (Fv.cs (fvC gA n gc)) := by rw [← hW8]; exact hX7.alloc _
  have hQ8 : Blk W8 w4.heap.size 39 #[.slice pA rp.length pc, .slice eA re.length ec] := by rw [← hW8]; exact hQ7.alloc _
  obtain ⟨css, c1, c2, c3, c4⟩ := HF1.out.is
  rw [← HN.out] at c3
  have hb8 : Below w2.heap.size w2 W8 := HB4.out.trans (Grow.below hG8 HB4.out.size)
  have HR8 := Lib.hid (c3.keep fun p hp => hb8.cell hp)
  have HC1 := Lib.hid c1
  have HC2 := Lib.hid c2
  have HC4 := Lib.hid (fun u hu => by obtain ⟨cs, h1, h2⟩ := List.mem_flatten.1 hu; exact c4 cs h1 u h2 : ∀ u ∈ css.flatten, u.oneCell' = true)
  have HG8 := Lib.hid hG8
  have HE8 := Lib.hid hE8
  have HX8 := Lib.hid hX8
  have HQ8 := Lib.hid hQ8
  have HB8 := Lib.hid hb8
  have HW8 := Lib.hid hW8
  have HS8 := Lib.hid hs8
  have HS7 := Lib.hid hs7
  obtain ⟨i1, hi0, hi1, hi2, hi3⟩ := info_m info_glyph
  clear c1 c2 c3 c4 hG7 hX7 hQ7 hG8 hE8 hX8 hQ8 hb8 hW8 hs8 hs7 hW7
  go_upto_region 9 with (at_builtin; first
    | (rw [HW8.out]; refine wpList_append_any _ rfl (.tmp 45) (.tmp 47) _ rfl w4.heap.size 45 i1 _ 9 176 Try.underlying24 hi0 hi1 hi2 hi3 rfl (show 0 < 9 by decide) (.slice (some ⟨W7.heap.size, 0, none⟩) 0 0) 0 [] rfl HE8.out _ gA n gc css.flatten rfl HR8.out HC4.out (by unfold maxLen; omega) (by omega) (by have := HS8.out; have := HS7.out; omega) ?_; intro v' w9 hrow hg hnew; rw [Nat.zero_add, List.nil_append] at hrow; have hk9 := grown_others HE8.out hg; obtain ⟨gb, c9, hve, hc9, hgb, hgl, hcell⟩ := owns_at hrow (by omega); subst hve; clear hcell; have HX9 := Lib.hid (hk9 _ _ _ HX8.out (by decide)); have HQ9 := Lib.hid (hk9 _ _ _ HQ8.out (by decide)); have HK9 := Lib.hid hk9; have HROW := Lib.hid hrow; have HGR := Lib.hid hg; clear hrow hg hnew hk9)
    | (go_loud (obtain ⟨W10, hW10⟩ : ∃ W10, (w9.alloc (.cells #[.int .i64 (g : Int), .int .i64 x, .int .i64 y] 48)).alloc (.cells #[.string ⟨#[]⟩, .int .i64 0, .bool false, .slice none 0 0, .slice none 0 0, .slice (some ⟨w9.heap.size, 0, none⟩) 1 1, .slice none 0 0, .slice none 0 0, .slice none 0 0] 45) = W10 := ⟨_, rfl⟩); go_loud (have hP10 : Blk W10 w9.heap.size 48 #[.int .i64 (g : Int), .int .i64 x, .int .i64 y] := by rw [← hW10]; exact (Blk.new _ _ _).alloc _); go_loud (have hR10 : Reads W10 W10.heap.size 9 (some ⟨w9.heap.size + 1, 0, none⟩) 1 [.string ⟨#[]⟩, .int .i64 0, .bool false, .slice none 0 0, .slice none 0 0, .slice (some ⟨w9.heap.size, 0, none⟩) 1 1, .slice none 0 0, .slice none 0 0, .slice none 0 0] := by rw [← hW10]; exact Reads.blk (cs := [.string ⟨#[]⟩, .int .i64 0, .bool false, .slice none 0 0, .slice none 0 0, .slice (some ⟨w9.heap.size, 0, none⟩) 1 1, .slice none 0 0, .slice none 0 0, .slice none 0 0]) (Blk.new_at _ _ _ (by simp only [World.size_alloc])) 9 1 rfl); go_loud (have hG10 : Grow w9 W10 := by rw [← hW10]; exact ((Fr.refl _ _).alloc _).alloc _); go_loud (have ho10 := owns_grow HROW.out hG10); go_loud (rw [hW10]); go_loud (refine wpList_append_any _ rfl (.tmp 48) (.tmp 55) _ rfl w4.heap.size 45 i1 _ 9 176 Try.underlying24 hi0 hi1 hi2 hi3 rfl (show 0 < 9 by decide) (.slice (some ⟨gb, 0, none⟩) n c9) n css.flatten rfl ho10 _ (some ⟨w9.heap.size + 1, 0, none⟩) 1 1 [.string ⟨#[]⟩, .int .i64 0, .bool false, .slice none 0 0, .slice none 0 0, .slice (some ⟨w9.heap.size, 0, none⟩) 1 1, .slice none 0 0, .slice none 0 0, .slice none 0 0] rfl hR10 (by intro u hu; simp only [List.mem_cons, List.not_mem_nil, or_false] at hu; rcases hu with rfl | rfl | rfl | rfl | rfl | rfl | rfl | rfl | rfl <;> rfl) (by unfold maxLen; omega) (by omega) (by have := HGR.out.size; have := hG10.size; have := HS8.out; have := HS7.out; omega) ?_); go_loud (intro v2 w11 hrow hg hnew); go_loud (have hk11 := grown_others ho10 hg); go_loud (obtain ⟨gb2, c11, hve, hc11, hgb2, hgl2, hcell⟩ := owns_at hrow (by omega)); go_loud (subst hve; clear hcell); go_loud (have HX11 := Lib.hid (hk11 _ _ _ (hG10.blk HX9.out fun x => x) (by decide)); have HQ11 := Lib.hid (hk11 _ _ _ (hG10.blk HQ9.out fun x => x) (by decide)); have HP11 := Lib.hid (hk11 _ _ _ hP10 (by decide)); have HK11 := Lib.hid hk11; have HG10 := Lib.hid hG10; have HROW2 := Lib.hid hrow; have HGR2 := Lib.hid hg; have t1 := HX11.out.cell 1; have tf := HX11.out.frozen 1; have tl := HX11.out.lt; simp only [List.getElem?_toArray, List.getElem?_cons_zero, List.getElem?_cons_succ] at t1; clear hrow hg hnew hk11 hP10 hR10 hG10 ho10 hW10)))
  obtain ⟨V, hV⟩ : ∃ V, w11.setCell ⟨w2.heap.size, 1, none⟩ (.slice (some ⟨gb2, 0, none⟩) (n + 1) c11) = V := ⟨_, rfl⟩
  have hXV : Blk V w2.heap.size 32 (Fv.cs (fvC (some ⟨gb2, 0, none⟩) (n + 1) c11)) := by
    rw [← hV]
    have := HX11.out.set_ 1 (.slice (some ⟨gb2, 0, none⟩) (n + 1) c11)
    simpa using this
  have hQV : Blk V w4.heap.size 39 #[.slice pA rp.length pc, .slice eA re.length ec] := by rw [← hV]; exact HQ11.out.far (p := ⟨w2.heap.size, 1, none⟩) (by simp only; omega) _
  have hPV : Blk V w9.heap.size 48 #[.int .i64 (g : Int), .int .i64 x, .int .i64 y] := by rw [← hV]; exact HP11.out.far (p := ⟨w2.heap.size, 1, none⟩) (HP11.out.ne_ HX11.out (by decide)) _
  have hRV : V.ownsRow w4.heap.size 45 9 (.slice (some ⟨gb2, 0, none⟩) (n + 1) c11) (n + 1) (css.flatten ++ [.string ⟨#[]⟩, .int .i64 0, .bool false, .slice none 0 0, .slice none 0 0, .slice (some ⟨w9.heap.size, 0, none⟩) 1 1, .slice none 0 0, .slice none 0 0, .slice none 0 0]) := by rw [← hV]; exact owns_set HROW2.out HX11.out (by decide) 1 _
  have hw24 := HB4.out.size
  have hb9 : Below w2.heap.size w2 w9 := HB8.out.grown HGR.out HB8.out.size (fun b e => by have := HS7.out; injection e with e; simp only at e; omega)
  have hb11 : Below w2.heap.size w2 w11 := (hb9.trans (Grow.below HG10.out hb9.size)).grown HGR2.out (Nat.le_trans hb9.size HG10.out.size) (fun b e => by have := (owns_block HROW.out e).1; omega)
  have hbv : Below w2.heap.size w2 V := by rw [← hV]; exact hb11.setCell (p := ⟨w2.heap.size, 1, none⟩) (Nat.le_refl _) _
  have ko : ∀ {n base size : Nat} {t : TypeId} {v : Value} {xs : List Value}, w4.ownsRow base t size v n xs → t ≠ 45 → t ≠ 32 → V.ownsRow base t size v n xs := fun ho h1 h2 => by
    have o8 := owns_grow ho HG8.out
    have o9 := owns_keep (w' := w9) o8 fun b e => by
      obtain ⟨_, _, cs', hb'⟩ := owns_block o8 e
      rw [show w9.heap[b]? = _ from HK9.out b _ _ hb' h1]; exact hb'.symm
    have o10 := owns_grow o9 HG10.out
    have o11 := owns_keep (w' := w11) o10 fun b e => by
      obtain ⟨_, _, cs', hb'⟩ := owns_block o10 e
      rw [show w11.heap[b]? = _ from HK11.out b _ _ hb' h1]; exact hb'.symm
    rw [← hV]; exact owns_set o11 HX11.out (Ne.symm h2) 1 _
  have HLV := Lib.hid (show OlOwn V w3.heap.size (.slice pA rp.length pc) (.slice eA re.length ec) (rp, re) from ⟨ko HOL.out.pts (by decide) (by decide), ko HOL.out.ends (by decide) (by decide)⟩)
  have hFV : FAt V V.heap.size (some ⟨gb2, 0, none⟩) (Dp.movG gl g x y) :=
    FAt.movG (B := w2.heap.size) (css := css) (n := n) (c := c11) (pb := w9.heap.size) HC1.out (fun i g' cs' a b => (HC2.out i g' cs' a b).keep fun p hp => hbv.cell hp) (by have := HN.out; omega) HN.out (owns_mono hRV hw24) hPV ⟨by unfold I64; omega, by have := HXB.out; unfold I64; omega, by have := HYB.out; unfold I64; omega⟩ hbv.size
  have hmv := M4.moves s (g := g) x y (by rw [HGL.out, ← HN.out]; exact hgn)
  rw [HGL.out, HR.out, HD.out, ← HN.out] at hmv
  have HMV := Lib.hid hmv
  have HBD := Lib.hid (M4.mov_bd s (g := g) x y (by rw [HGL.out, ← HN.out]; exact hgn) n)
  have HFR := Lib.hid (M4.flat_few s (g := g))
  rw [HGL.out] at HBD HFR
  rw [HR.out] at HFR
  have HFV := Lib.hid hFV
  have HQV := Lib.hid hQV
  have HBV := Lib.hid hbv
  rw [hV]
  have y0 := hXV.cell 0
  have y1 := hXV.cell 1
  have y2 := hXV.cell 2
  have y3 := hXV.cell 3
  have y4 := hXV.cell 4
  have y5 := hXV.cell 5
  have y6 := hXV.cell 6
  have y7 := hXV.cell 7
  have y8 := hXV.cell 8
  have yl := hXV.lt
  simp only [List.getElem?_toArray, List.getElem?_cons_zero, List.getElem?_cons_succ] at y0 y1 y2 y3 y4 y5 y6 y7 y8
  clear hXV hQV hPV hRV hw24 hb9 hb11 hbv hFV hmv hV t1 tf tl u1 ul hi0 hi1 hi2 hi3 hc9 hgb hgl hc11 hgb2 hgl2 ko
  go_wp2_with fail
  refine (flat_any (fvC (some ⟨gb2, 0, none⟩) (n + 1) c11) (Dp.movG gl g x y) n V (by show n + 1 = _; rw [Dp.movG_len, HN.out]) HFV.out (by rw [Dp.movG_len, ← HN.out]; omega) (by unfold I64; omega) (fvC_one _ _ _) HBD.out).mono ?_
  rintro e w5 ⟨pv, ev, rfl, hol5, hb5⟩
  have hs5 : w4.heap.size < w5.heap.size := by have := HQV.out.lt; have := hb5.size; omega
  have HQ5 := Lib.hid (HQV.out.below hb5 HQV.out.lt)
  have HL5 := Lib.hid (HLV.out.grow (Fr.of_below hb5 fun k hk _ => hk))
  have HB5 := Lib.hid (HBV.out.trans (hb5.mono HBV.out.size))
  obtain ⟨R5, hR5⟩ : ∃ R5, Dp.flat (Dp.movG gl g x y) n = R5 := ⟨_, rfl⟩
  have hmv := HMV.out
  rw [hR5] at hol5 hmv ⊢
  have HO5 := Lib.hid hol5
  obtain ⟨pA5, pc5, rfl, _⟩ := owns_form hol5.pts
  obtain ⟨eA5, ec5, rfl, _⟩ := owns_form hol5.ends
  obtain ⟨dl, dd, de⟩ := D
  obtain ⟨r5, k5⟩ := R5
  simp only at hmv hol5
  clear hol5 hb5 hR5 HMV HBD HFV HQV HLV HBV y0 y1 y2 y3 y4 y5 y6 y7 y8 yl
  have hend : ∀ W', Below w5.heap.size w5 W' → Below w.heap.size w W' := fun W' hb => (Grow.below HG2.out (Nat.le_refl _)).trans ((HB5.out.trans (hb.mono HB5.out.size)).mono HG2.out.size)
  have HEND := Lib.hid hend
  have hba : ∀ o, Below w5.heap.size w5 (w5.alloc o) := fun o => Grow.below ((Fr.refl _ _).alloc _) (Nat.le_refl _)
  have HBA := Lib.hid hba
  clear hend hba
  by_cases he0 : er = 0
  · subst he0
    by_cases hd4 : dd = 4
    · subst hd4
      have hk5 : ¬ k5 = 0 := hmv.1 (.inr rfl)
      have hk6 : (k5 == 0) = false := by simpa using hk5
      clear hmv
      go_wp2_with fail
      go_ret
      exact ⟨by first | rfl | trivial | simp [hk5], HEND.out _ (HBA.out _)⟩
    · have hd5 : (dd == 4) = false := by simpa using hd4
      have e5 := hmv.2 rfl hd4
      injection e5 with e5 e6
      subst e5
      subst e6
      clear hmv
      skip
      obtain ⟨pl, hpl⟩ : ∃ pl, pl = rp.length := ⟨_, rfl⟩
      obtain ⟨el, hel⟩ : ∃ el, el = re.length := ⟨_, rfl⟩
      have hfr := HFR.out rfl
      try simp only at hfr
      have ha0 := HQ5.out.cell 0
      have ha1 := HQ5.out.cell 1
      have hb0 := HO5.out.pts
      have hb1 := HO5.out.ends
      have ho0 := HL5.out.pts
      have ho1 := HL5.out.ends
      simp only [List.getElem?_toArray, List.getElem?_cons_zero, List.getElem?_cons_succ, List.length_map] at ha0 ha1 hb0 hb1 ho0 ho1
      simp only [List.length_map]
      rw [← hpl] at ha0 ho0 hb0 hfr ⊢
      rw [← hel] at ha1 ho1 hb1 hfr ⊢
      have HPL := Lib.hid hpl
      have HEL := Lib.hid hel
      have HO0 := Lib.hid ho0
      have HO1 := Lib.hid ho1
      have HB0 := Lib.hid hb0
      have HB1 := Lib.hid hb1
      clear hpl hel ho0 ho1 hb0 hb1 HQ5 HL5 HO5
      go_upto_region 12 with fail
      obtain ⟨W6, hW6⟩ : ∃ W6, w5.alloc (.cells #[.slice pA5 pl pc5, .slice eA5 el ec5] 39) = W6 := ⟨_, rfl⟩
      have hG6 : Grow w5 W6 := by rw [← hW6]; exact (Fr.refl _ _).alloc _
      have hQ6 : Blk W6 w5.heap.size 39 #[.slice pA5 pl pc5, .slice eA5 el ec5] := by rw [← hW6]; exact Blk.new _ _ _
      have a0 := (hG6.cell (p := ⟨w4.heap.size, 0, none⟩) hs5 fun x => x).trans ha0
      have a1 := (hG6.cell (p := ⟨w4.heap.size, 1, none⟩) hs5 fun x => x).trans ha1
      have b0 := hQ6.cell 0
      have b1 := hQ6.cell 1
      have bl := hQ6.lt
      have al : w4.heap.size < W6.heap.size := by omega
      simp only [List.getElem?_toArray, List.getElem?_cons_zero, List.getElem?_cons_succ] at b0 b1
      have HO06 := Lib.hid (owns_grow HO0.out hG6)
      have HO16 := Lib.hid (owns_grow HO1.out hG6)
      have HB06 := Lib.hid (owns_grow HB0.out hG6)
      have HB16 := Lib.hid (owns_grow HB1.out hG6)
      have HEND6 := Lib.hid (fun W' (hb : Below W6.heap.size W6 W') => HEND.out W' ((Grow.below hG6 (Nat.le_refl _)).trans (hb.mono hG6.size)))
      rw [hW6]
      clear hW6 hG6 hQ6 ha0 ha1 HO0 HO1 HB0 HB1 HEND hs5
      go_wp2_with fail
      go_loopw [18] (fun i wr => ∃ k : Nat, k ≤ pl ∧ i = .int .i64 k ∧ ∃ j, wr = W6.drewN j) (fun i _ => pl - (intOf i).toNat)
      case atStart => exact ⟨0, Nat.zero_le _, rfl, 0, rfl⟩
      case round =>
        obtain ⟨k, hk, rfl, j, rfl⟩ := hrel
        by_cases hkl : k < pl
        · obtain ⟨⟨p1, p2, p3⟩, hpk⟩ : ∃ p, rp[k]? = some p := ⟨_, List.getElem?_eq_getElem (by have := HPL.out; omega)⟩
          obtain ⟨e1, e2, e3⟩ := opts_at hpk
          have hpk2 : (rp.map (mvP x y))[k]? = some (wrap64 (p1 + x), wrap64 (p2 + y), p3) := by rw [List.getElem?_map, hpk]; rfl
          obtain ⟨f1, f2, f3⟩ := opts_at hpk2
          obtain ⟨ga, ca, hv, _, _, hgal, hcell⟩ := owns_at HO06.out (by omega)
          injection hv with hv1 hv2 hv3
          subst hv1
          clear hv2 hv3
          obtain ⟨gb, cb, hv, _, _, hgbl, hcell2⟩ := owns_at HB06.out (by omega)
          injection hv with hv1 hv2 hv3
          subst hv1
          clear hv2 hv3
          have z0 := hcell _ _ e1
          have z1 := hcell _ _ e2
          have z2 := hcell _ _ e3
          have y0 := hcell2 _ _ f1
          have y1 := hcell2 _ _ f2
          have y2 := hcell2 _ _ f3
          obtain ⟨xx, hxx⟩ : ∃ xx, wrap64 (p1 + x) = xx := ⟨_, rfl⟩
          obtain ⟨yy, hyy⟩ : ∃ yy, wrap64 (p2 + y) = yy := ⟨_, rfl⟩
          simp only at z0 z1 z2 y0 y1 y2
          rw [hxx] at y0
          rw [hyy] at y1
          have hxx2 : IntKind.i64.wrap (p1 + x) = xx := (IntWalk.i64_left _).trans hxx
          have hyy2 : IntKind.i64.wrap (p2 + y) = yy := (IntWalk.i64_left _).trans hyy
          clear hcell hcell2 e1 e2 e3 f1 f2 f3 hpk hpk2
          go_wp2_with fail
          go_quiet (fail)
          go_wp2_with fail
          go_roundw
          case rel => exact ⟨k + 1, by omega, by go_num, _, rfl⟩
          case measure => simp [intOf]; omega
        · obtain ⟨W9, hW9⟩ : ∃ W9, W6.drewN j = W9 := ⟨_, rfl⟩
          have a1' : W9.cell? ⟨w4.heap.size, 1, none⟩ = some (.slice eA el ec) := by rw [← hW9]; exact a1
          have b1' : W9.cell? ⟨w5.heap.size, 1, none⟩ = some (.slice eA5 el ec5) := by rw [← hW9]; exact b1
          have a0' : W9.cell? ⟨w4.heap.size, 0, none⟩ = some (.slice pA pl pc) := by rw [← hW9]; exact a0
          have al' : w4.heap.size < W9.heap.size := by rw [← hW9]; exact al
          have bl' : w5.heap.size < W9.heap.size := by rw [← hW9]; exact bl
          have ho9 : W9.ownsRow w3.heap.size 3 1 (.slice eA el ec) el (ints re) := by rw [← hW9]; exact owns_keep HO16.out fun _ _ => rfl
          have hq9 : W9.ownsRow V.heap.size 3 1 (.slice eA5 el ec5) el (ints re) := by rw [← hW9]; exact owns_keep HB16.out fun _ _ => rfl
          have HO9 := Lib.hid ho9
          have HQ9' := Lib.hid hq9
          have HB9 := Lib.hid (show Below W6.heap.size W6 W9 by rw [← hW9]; exact below_drewN (Below.refl _ _) _)
          rw [hW9]
          clear hW9 a0 a1 b0 b1 al bl ho9 hq9
          go_wp2_with fail
          obtain rfl := HEL.out
          refine (nums4_any eA eA5 ec ec5 W9.heap.size W9.heap.size re re W9 (Reads.of_own HO9.out) (Reads.of_own HQ9'.out) (by omega) (by omega)).mono ?_
          rintro e w10 ⟨rfl, hg10⟩
          rw [show decide (re = re) = true from decide_eq_true rfl]
          have HG10 := Lib.hid hg10
          clear hg10
          go_wp2_with fail
          go_ret
          exact ⟨by first | rfl | trivial, HEND6.out _ (HB9.out.trans (Grow.below HG10.out HB9.out.size))⟩
  · have he1 : (er == 0) = false := by simpa using he0
    have hk5 : ¬ k5 = 0 := hmv.1 (.inl he0)
    have hk6 : (k5 == 0) = false := by simpa using hk5
    clear hmv
    go_wp2_with fail
    go_ret
    exact ⟨by first | rfl | trivial | simp [hk5], HEND.out _ (HBA.out _)⟩
end Go.Proofs.Ytoklllbaihccnaa

/- BoundFonts' walk. -/
import Derived.Test.YtgklchhgpnoliaaFontA
namespace Go.Proofs.Ytgklchhgpnoliaa
open Go.RowKit
attribute [local go_sem] i64_mask16

/-- the font's box: glyphs, functions; the other cells are rows -/
structure FBox (w : World) (fb : Nat) (gl : List GlyD) (fl : List (List (Int × Int))) (n2 : Int) (gA : Option Addr) (gc : Nat) (A4 A5 A6 A7 A8 : Option Addr) (m4 k4 m5 k5 m6 k6 m7 k7 m8 k8 : Nat) (fA : Option Addr) (fc : Nat) (cA : Option Addr) (cn cc : Nat) (wx : World) : Prop where
  box : Blk wx fb 64 #[.int .i64 n2, .slice gA gl.length gc, .slice A4 m4 k4, .slice A5 m5 k5, .slice A6 m6 k6, .slice A7 m7 k7, .slice A8 m8 k8, .slice fA fl.length fc, .slice cA cn cc]
  g : RowAt (glyphR w.heap.size) 73 wx wx.heap.size gA gl
  f : RowAt (codeR w.heap.size) 22 wx wx.heap.size fA fl
  gl1 : 2 ≤ gl.length
  gl2 : gl.length ≤ 10
  gb : ∀ g ∈ gl, g.hint.length ≤ 1000
  f1 : fl.length ≤ 3
  fbd : ∀ f ∈ fl, f.length ≤ 1000
  bl : Below w.heap.size w wx
  hfb : w.heap.size ≤ fb
def FSome (w : World) (fb : Nat) (wx : World) : Prop := ∃ gl fl n2 gA gc A4 A5 A6 A7 A8 m4 k4 m5 k5 m6 k6 m7 k7 m8 k8 fA fc cA cn cc, FBox w fb gl fl n2 gA gc A4 A5 A6 A7 A8 m4 k4 m5 k5 m6 k6 m7 k7 m8 k8 fA fc cA cn cc wx

set_option maxHeartbeats 4000000 in
set_option maxRecDepth 100000 in
theorem boundFonts_walk (A A2 A3 : Option Addr) (c c2 c3 : Nat) (xs : List Int) (l l3 : List (Int × Int)) (og : Int) (more : Bool) (w : World) (h1 : xs.length ≤ c) (h2 : c ≤ maxLen) (hr : RowAt (Repr.int (N0 := w.heap.size)) 3 w w.heap.size A xs)
    (k1 : l.length ≤ c2) (k2 : c2 ≤ maxLen) (kr : RowAt (insR w.heap.size) 25 w w.heap.size A2 l) (_hog : I64 og) (j1 : l3.length ≤ c3) (j2 : c3 ≤ maxLen) (jr : RowAt (insR w.heap.size) 25 w w.heap.size A3 l3) :
    Calls Try.prog 8 #[.slice A xs.length c, .slice A2 l.length c2, .agg #[.int .i64 og, .bool more, .slice A3 l3.length c3]] w fun e w' => e = .returned (.bool true) ∧ Below w.heap.size w w' := by
  obtain ⟨i4, pi, pz0, pz1, pz2⟩ := info_parts coderow_info
  obtain ⟨i5, qi, qz0, qz1, qz2⟩ := info_parts glyph_info
  have hrd : Reads w w.heap.size 1 A xs.length (xs.map (Value.int .i64)) := by
    have := hr.reads (fun x => [.int .i64 x]) fun a cs h => h.1
    rw [List.map_eq_flatMap]
    exact this
  have hxi : ∀ x ∈ xs, I64 x := by
    intro x hx
    obtain ⟨i, hi⟩ := List.getElem?_of_mem hx
    obtain ⟨_, _, _, _, _, hrel, _⟩ := hr.get hi
    exact hrel.2
  obtain ⟨m, hm⟩ : ∃ m, m = min xs.length 100 := ⟨_, rfl⟩
  have hml : m ≤ xs.length ∧ m ≤ 100 := by omega
  have hmi : (if (100 : Int) < (xs.length : Int) then (100 : Int) else (xs.length : Int)) = (m : Int) := by split <;> omega
  have hr2 := hrd.take hml.1
  rw [Nat.mul_one, ← List.map_take] at hr2
  have hxi2 : ∀ x ∈ xs.take m, I64 x := fun x hx => hxi x (List.mem_of_mem_take hx)
  have HR := Lib.hid hr2
  have HX := Lib.hid hxi2
  have HF1 := Lib.hid (fun W hr => few_any w.heap.size A2 c2 l W k1 k2 hr)
  have HF2 := Lib.hid (fun W hr => few_any w.heap.size A3 c3 l3 W j1 j2 hr)
  have KR := Lib.hid kr
  have JR := Lib.hid jr
  unfold maxLen at h2
  have h2i : (c : Int) ≤ 9223372036854775807 := by omega
  have hlt1 : (l.take 60).length ≤ 60 := List.length_take_le _ _
  have hlt3 : (l3.take 60).length ≤ 60 := List.length_take_le _ _
  clear hr hrd hm hr2 hxi hxi2 h2 kr jr k1 k2 j1 j2
  generalize l.take 60 = l' at *
  generalize l3.take 60 = l3' at *
  generalize xs.length = n at *
  generalize xs.take m = ys at *
  unfold I64 at _hog
  obtain ⟨w0, hw0⟩ : ∃ w0, w0 = w.alloc (.cells #[.int .i64 og, .bool more, .slice A3 l3.length c3] 56) := ⟨_, rfl⟩
  have hob0 : Blk w0 w.heap.size 56 #[.int .i64 og, .bool more, .slice A3 l3.length c3] := by rw [hw0]; exact Blk.new _ _ _
  have hb0 : Below w.heap.size w w0 := by rw [hw0]; exact (Below.refl _ _).alloc (Nat.le_refl _) _
  have hz0 : w0.heap.size = w.heap.size + 1 := by rw [hw0]; simp
  have HOB := Lib.hid hob0
  have HW0 := Lib.hid hw0
  clear hob0 hw0
  go_enter Try.func8, Try.ntmps8
  go_wp2_with fail
  rw [← HW0.out]
  refine (shown_any _).mono ?_
  rintro e w1 ⟨rfl, hb1⟩
  have hb1w := hb0.trans (hb1.mono hb0.size)
  go_wp2_with fail
  refine (made_any w.heap.size w1 A m _ ys hb1w.size ((HR.out.below hb1w (Nat.le_refl _)).more hb1w.size) HX.out (by omega)).mono ?_
  rintro e w2 ⟨n2, v3, v4, v5, v6, v7, v8, v9, v10, gl, fl, cl, rfl, hn2, hgl, hfl, hcl, ⟨A4, m4, k4, rfl, -⟩, ⟨A5, m5, k5, rfl, -⟩, ⟨A6, m6, k6, rfl, -⟩, ⟨A7, m7, k7, rfl, -⟩, ⟨A8, m8, k8, rfl, -⟩, hg0, hg1, hgb, hf1, hfb, hc1, hbl⟩
  obtain ⟨gA, gc, e3, hgc1, hgc2, hglr⟩ := hgl
  obtain ⟨fA, fc, e9, hfc1, hfc2, hflr⟩ := hfl
  obtain ⟨cA, cc, e10, hcc1, hcc2, hclr⟩ := hcl
  obtain rfl : v3 = .slice gA gl.length gc := by injection e3
  obtain rfl : v9 = .slice fA fl.length fc := by injection e9
  obtain rfl : v10 = .slice cA cl.length cc := by injection e10
  clear e3 e9 e10
  obtain ⟨X, hX⟩ : ∃ X, X = w2.alloc (.cells #[.int .i64 n2, .slice gA gl.length gc, .slice A4 m4 k4, .slice A5 m5 k5, .slice A6 m6 k6, .slice A7 m7 k7, .slice A8 m8 k8, .slice fA fl.length fc, .slice cA cl.length cc] 64) := ⟨_, rfl⟩
  have hXb : Below w2.heap.size w2 X := by rw [hX]; exact (Below.refl _ _).alloc (Nat.le_refl _) _
  have hXz : X.heap.size = w2.heap.size + 1 := by rw [hX]; simp
  have hbw2 : Below w.heap.size w w2 := hb1w.trans (hbl.mono hb1w.size)
  have hbwX := hbw2.trans (hXb.mono hbw2.size)
  have hF0 : FBox w w2.heap.size gl fl n2 gA gc A4 A5 A6 A7 A8 m4 k4 m5 k5 m6 k6 m7 k7 m8 k8 fA fc cA cl.length cc X := ⟨by rw [hX]; exact Blk.new _ _ _, (hglr.below hXb (Nat.le_refl _)).more hXb.size, (hflr.below hXb (Nat.le_refl _)).more hXb.size, hg0, hg1, fun g hg => by have := (hgb g hg).2; omega, by omega, fun f hf => by have := hfb f hf; omega, hbwX, hbw2.size⟩
  have hobl : w.heap.size + 1 ≤ X.heap.size := by have := hb1.size; have := hbl.size; omega
  have hobX := (HOB.out.below hb1 (by omega)).below (hbl.trans (hXb.mono hbl.size)) (by have := hb1.size; omega)
  have HF0 := Lib.hid hF0
  have HOX := Lib.hid hobX
  have hfbl := hF0.box.lt
  have y1 := hF0.box.cell 1
  simp only [List.getElem?_toArray, List.getElem?_cons_zero, List.getElem?_cons_succ] at y1
  have hgne : ((gl.length : Int) == 0) = false := beq_eq_false_iff_ne.2 (by omega)
  have HX2 := Lib.hid hX
  rw [hX] at y1 hfbl
  clear hF0 hobX hglr hflr hclr hgb hfb hX hbl hXb hbw2 HOB HW0
  go_upto_region 5 with (fail)
  rw [← HX2.out] at y1 hfbl ⊢
  obtain ⟨fb, hfbe⟩ : ∃ fb, fb = w2.heap.size := ⟨_, rfl⟩
  rw [← hfbe] at HF0 y1 hfbl ⊢
  clear hfbe HX2 hXz hz0
  have hemp : OwnAt (glyphR w.heap.size) 73 X.heap.size (X.alloc (.cells #[] 73)) (.slice (some ⟨X.heap.size, 0, none⟩) 0 0) [] := OwnAt.empty _ (Blk.new _ _ _) (Nat.le_refl _)
  have hXa : Below X.heap.size X (X.alloc (.cells #[] 73)) := (Below.refl _ _).alloc (Nat.le_refl _) _
  have HEMP := Lib.hid hemp
  clear hemp
  go_cut [9] (fun v wx => ∃ A' c', v = .slice A' gl.length c' ∧ OwnAt (glyphR w.heap.size) 73 X.heap.size wx (.slice A' gl.length c') gl ∧ Below X.heap.size X wx)
  case first =>
    go_wp2_with (at_builtin; refine wpList_pushAll _ rfl (.tmp 27) (.tmp 29) _ rfl (glyphR w.heap.size) X.heap.size 73 i5 _ 176 Try.underlying57 qi qz0 qz1 qz2 rfl (show 0 < 9 by decide) (glyphR_self _) hbwX.size (.slice (some ⟨X.heap.size, 0, none⟩) 0 0) [] rfl HEMP.out gA gl.length gc gl rfl rfl 73 ((HF0.out.g.below hXa (Nat.le_refl _)).more hXa.size) (by unfold maxLen; simp; omega) (by simp; omega) hXa.size ?_; intro A3' c3' w3 hown3 hg3)
    simp only [List.length_nil, Nat.zero_add, List.nil_append] at hown3
    go_meet
    exact ⟨A3', c3', rfl, hown3, below_own HEMP.out hXa hg3 hXa.size (Nat.le_refl _)⟩
  case rest =>
    obtain ⟨A9, c9, rfl, hown, hbl3⟩ := hcut
    have HOWN := Lib.hid hown
    have hsz3 := hbl3.size
    have o0 := (HOX.out.below hbl3 (by omega)).cell 0
    have o1 := (HOX.out.below hbl3 (by omega)).lt
    simp only [List.getElem?_toArray, List.getElem?_cons_zero] at o0
    have hm0 : 0 ≤ og % 65536 := by omega
    have hm1 : og % 65536 < 65536 := by omega
    have hk0 : 0 ≤ (og % 65536) % (gl.length : Int) := Int.emod_nonneg _ (by omega)
    have hk1 : (og % 65536) % (gl.length : Int) < gl.length := Int.emod_lt_of_pos _ (by omega)
    have htm : (og % 65536).tmod (gl.length : Int) = (og % 65536) % (gl.length : Int) := Int.tmod_eq_emod_of_nonneg hm0
    have HTM := Lib.hid htm
    clear hown y1 HEMP htm
    have hbw3 : Below w.heap.size w wc := hbwX.trans (hbl3.mono hbwX.size)
    go_wp2_with fail
    obtain ⟨kn, hkn⟩ : ∃ kn : Nat, (og % 65536) % (gl.length : Int) = kn := ⟨_, (Int.toNat_of_nonneg hk0).symm⟩
    rw [hkn] at hk1 ⊢
    refine (HF1.out wc ((KR.out.below hbw3 (Nat.le_refl _)).more hbw3.size)).mono ?_
    rintro e w5 ⟨A5', c5', rfl, hc51, hc52, hrow5, hb5⟩
    obtain ⟨g, hgk⟩ : ∃ g, gl[kn]? = some g := ⟨_, List.getElem?_eq_getElem (by omega)⟩
    have hown5 := HOWN.out.below hb5 (Nat.le_refl _)
    obtain ⟨gg, cap, xs', cs', hv, hge, hgl', hgb', hrel', hcell', hfz'⟩ := hown5.elem hgk
    have hA9 : A9 = some ⟨gg, 0, none⟩ := by injection hv
    subst hA9
    obtain ⟨Ap, np, kp, Ae, ne, ke, Aa, na, ka, An, nn, kn', Ad, nd, kd, A', c', rfl, _, _, _⟩ := glyphR_cells hrel'
    have b0 := hcell' 8 _ rfl
    simp only [show (glyphR w.heap.size).size = 9 from rfl] at b0
    have b1 := hfz' (kn * 9 + 8)
    have hupd := hown5.upd (j := 8) (a' := {g with hint := l'}) hgk (show 8 < 9 by decide) (.slice A5' l'.length c5') (glyphR_self _) hbwX.size (fun cs h => glyphR_hint h hc51 hc52 hrow5) rfl
    have hbX5 : Below X.heap.size X w5 := hbl3.trans (hb5.mono hsz3)
    have hbox5 := HF0.out.box.below hbX5 hfbl
    have hgne2 : fb ≠ gg := by
      rintro rfl
      have h1 := hbox5
      unfold Blk at h1 hgb'
      rw [hgb'] at h1
      injection h1 with h1
      injection h1 with _ h2
      exact absurd h2 (by decide)
    have hbox6 := hbox5.far (p := ⟨gg, kn * 9 + 8, none⟩) hgne2 (.slice A5' l'.length c5')
    have hown7 := hupd.setCell hbox6 (by show 64 ∉ [73, 148, 3, 126, 129, 131, 25]; decide) HF0.out.hfb 1 (.slice (some ⟨gg, 0, none⟩) gl.length c9)
    have b2 : gg < w5.heap.size := by
      rcases Nat.lt_or_ge gg w5.heap.size with h | h
      · exact h
      · unfold Blk at hgb'; rw [Array.getElem?_eq_none h] at hgb'; cases hgb'
    have hobox := HOX.out.below hbX5 hobl
    have hobne : w.heap.size ≠ fb := HOX.out.ne_ HF0.out.box (by decide)
    have hobne2 : w.heap.size ≠ gg := by omega
    have hobx6 := hobox.far (p := ⟨gg, kn * 9 + 8, none⟩) hobne2 (.slice A5' l'.length c5')
    have hobx7 := hobx6.far (p := ⟨fb, 1, none⟩) hobne (.slice (some ⟨gg, 0, none⟩) gl.length c9)
    have hf5 := (HF0.out.f.below hbX5 (Nat.le_refl _)).more hbX5.size
    have hf7 := (hf5.setCell hgb' (by show 73 ∉ [22, 25]; decide) (by omega) (kn * 9 + 8) (.slice A5' l'.length c5')).setCell hbox6 (by show 64 ∉ [22, 25]; decide) HF0.out.hfb 1 (.slice (some ⟨gg, 0, none⟩) gl.length c9)
    have hbl7 : Below w.heap.size w ((w5.setCell ⟨gg, kn * 9 + 8, none⟩ (.slice A5' l'.length c5')).setCell ⟨fb, 1, none⟩ (.slice (some ⟨gg, 0, none⟩) gl.length c9)) := ((hbw3.trans (hb5.mono hbw3.size)).setCell (p := ⟨gg, kn * 9 + 8, none⟩) (by simp; omega) _).setCell (p := ⟨fb, 1, none⟩) HF0.out.hfb _
    have hbox7 := hbox6.set_ 1 (.slice (some ⟨gg, 0, none⟩) gl.length c9)
    obtain ⟨Ag, cg, eg, hcg1, hcg2, hg7⟩ := hown7.form
    rw [List.length_set] at eg
    have hAg : Ag = some ⟨gg, 0, none⟩ ∧ cg = c9 := by injection eg with h1 h2 h3; exact ⟨h1.symm, h3.symm⟩
    obtain ⟨rfl, rfl⟩ := hAg
    simp only [size_setCell] at hg7
    have hF7 : FBox w fb (gl.set kn {g with hint := l'}) fl n2 (some ⟨gg, 0, none⟩) cg A4 A5 A6 A7 A8 m4 k4 m5 k5 m6 k6 m7 k7 m8 k8 fA fc cA cl.length cc ((w5.setCell ⟨gg, kn * 9 + 8, none⟩ (.slice A5' l'.length c5')).setCell ⟨fb, 1, none⟩ (.slice (some ⟨gg, 0, none⟩) gl.length cg)) :=
      ⟨by rw [List.length_set]; exact hbox7, by simp only [size_setCell]; exact hg7, by simp only [size_setCell]; exact hf7, by rw [List.length_set]; omega, by rw [List.length_set]; omega, fun g' hg' => by
        rcases List.mem_or_eq_of_mem_set hg' with h | rfl
        · exact HF0.out.gb g' h
        · show l'.length ≤ 1000; omega, HF0.out.f1, HF0.out.fbd, hbl7, HF0.out.hfb⟩
    have HF7 := Lib.hid hF7
    have HOBX := Lib.hid hobx7
    have x0 := hbox6.cell
    have x1 := hbox6.frozen
    have x2 := hbox6.lt
    clear hF7 hobx7 hobx6 hobox hf5 hf7 hbl7 hbox7 hg7 hupd hown7 hbox5 hbox6 hown5 hcell' hfz' hgb' hrel' hgk HOWN hv
    go_upto_region 8 with (fail)
    obtain ⟨w6, hw6⟩ : ∃ w6, w6 = w5.setCell ⟨gg, kn * 9 + 8, none⟩ (.slice A5' l'.length c5') := ⟨_, rfl⟩
    rw [← hw6] at HF7 HOBX x0 x1 x2 ⊢
    clear hw6 b0 b1 b2
    go_upto_region 9 with (fail)
    obtain ⟨w7, hw7⟩ : ∃ w7, w7 = w6.setCell ⟨fb, 1, none⟩ (.slice (some ⟨gg, 0, none⟩) gl.length cg) := ⟨_, rfl⟩
    rw [← hw7] at HF7 HOBX ⊢
    clear hw7 x0 x1 x2
    have o1 := HOBX.out.cell 1
    have o2 := HOBX.out.lt
    simp only [List.getElem?_toArray, List.getElem?_cons_zero, List.getElem?_cons_succ] at o1
    clear HF0 o0
    go_upto_if 46 with (fail)
    go_cut [6] (fun v wx => v = .bool false ∧ FSome w fb wx)
    case first =>
      cases more
      · go_wp2_with fail
        go_meet
        exact ⟨rfl, _, _, _, _, _, _, _, _, _, _, _, _, _, _, _, _, _, _, _, _, _, _, _, _, _, HF7.out⟩
      · clear o1
        have hbx7 := HF7.out.box
        have hS : (fun w' : World => w'.cell? ⟨fb, 7, none⟩ = some (.slice fA fl.length fc) ∧ w'.cell? ⟨w.heap.size, 2, none⟩ = some (.slice A3 l3.length c3)) w7.drew := ⟨by show w7.cell? _ = _; rw [hbx7.cell]; rfl, by show w7.cell? _ = _; rw [HOBX.out.cell]; rfl⟩
        have HBX := Lib.hid hbx7
        have hbwd : Below w.heap.size w w7.drew := HF7.out.bl.drew
        have HFR := Lib.hid HF7.out.f
        have HGR := Lib.hid HF7.out.g
        have hfbN := HF7.out.hfb
        clear hbx7
        generalize hgl8 : gl.set kn {g with hint := l'} = gl8 at *
        go_wp2_with fail
        refine wp_region_seq (fun i => !([0, 3, 6, 7, 8, 10] : List Nat).contains i) (fun i => ([2, 5] : List Nat).contains i) (fun i => ([0, 3, 6, 7, 8] : List Nat).contains i) [1, 2, 4, 5, 0, 3, 6, 7, 8, 9, 10] (fun w' : World => w'.cell? ⟨fb, 7, none⟩ = some (.slice fA fl.length fc) ∧ w'.cell? ⟨w.heap.size, 2, none⟩ = some (.slice A3 l3.length c3)) (by kernel_rfl) (by kernel_rfl) (by kernel_rfl) (by kernel_rfl) ?_
        refine wpSeq_pure (v := _) rfl rfl rfl (by kernel_rfl) (fun _ _ _ h => h) (fun wq => by first | (go_simp; done) | (go_simp; rfl)) ?_
        refine wpSeq_load (v := _) rfl rfl (by kernel_rfl) (fun _ _ _ h => h) hS rfl (fun wq hq => by obtain ⟨hq1, hq2⟩ := hq; first | (go_simp; done) | (go_simp; rfl)) ?_
        refine wpSeq_pure (v := _) rfl rfl rfl (by kernel_rfl) (fun _ _ _ h => h) (fun wq => by first | (go_simp; done) | (go_simp; rfl)) ?_
        refine wpSeq_load (v := _) rfl rfl (by kernel_rfl) (fun _ _ _ h => h) hS rfl (fun wq hq => by obtain ⟨hq1, hq2⟩ := hq; first | (go_simp; done) | (go_simp; rfl)) ?_
        have hS8 : (w7.drew.alloc (.cells #[] 22)).cell? ⟨fb, 7, none⟩ = some (.slice fA fl.length fc) ∧ (w7.drew.alloc (.cells #[] 22)).cell? ⟨w.heap.size, 2, none⟩ = some (.slice A3 l3.length c3) := ⟨by rw [(HBX.out.drew.alloc _).cell]; rfl, by rw [(HOBX.out.drew.alloc _).cell]; rfl⟩
        refine wpSeq_heavy rfl rfl (fun K hK => ?_); go_simp
        refine hK _ _ (fun _ => hS8) ?_; clear hK K
        have hemp : OwnAt (codeR w.heap.size) 22 w7.drew.heap.size (w7.drew.alloc (.cells #[] 22)) (.slice (some ⟨w7.drew.heap.size, 0, none⟩) 0 0) [] := OwnAt.empty _ (Blk.new _ _ _) (Nat.le_refl _)
        have h8a : Below w7.drew.heap.size w7.drew (w7.drew.alloc (.cells #[] 22)) := (Below.refl _ _).alloc (Nat.le_refl _) _
        have hf7d : RowAt (codeR w.heap.size) 22 w7.drew w7.drew.heap.size fA fl := HFR.out
        refine wpSeq_heavy rfl rfl (fun K hK => ?_)
        refine step_pushAll _ rfl (.tmp 47) (.tmp 49) _ rfl (codeR w.heap.size) w7.drew.heap.size 22 i4 _ 24 Try.underlying34 pi pz0 pz1 pz2 rfl (show 0 < 1 by decide) (by show 22 ∉ [25]; decide) hbwd.size _ [] rfl hemp fA fl.length fc fl rfl rfl 22 ((hf7d.below h8a (Nat.le_refl _)).more h8a.size) (by unfold maxLen; simp; omega) (by simp; omega) h8a.size ?_
        intro A8' c8' w8 hown8 hg8
        simp only [List.length_nil, Nat.zero_add, List.nil_append] at hown8 ⊢
        have hbx8 := (HBX.out.drew.alloc (.cells #[] 22)).grownOwn hemp hg8 (by decide)
        have hob8 := (HOBX.out.drew.alloc (.cells #[] 22)).grownOwn hemp hg8 (by decide)
        have hb8 : Below w7.drew.heap.size w7.drew w8 := below_own hemp h8a hg8 h8a.size (Nat.le_refl _)
        have hb8w := hbwd.trans (hb8.mono hbwd.size)
        have hS9 : w8.cell? ⟨fb, 7, none⟩ = some (.slice fA fl.length fc) ∧ w8.cell? ⟨w.heap.size, 2, none⟩ = some (.slice A3 l3.length c3) := ⟨by rw [hbx8.cell]; rfl, by rw [hob8.cell]; rfl⟩
        refine hK _ _ (fun _ => hS9) ?_; clear hK K
        refine wpSeq_heavy rfl rfl (fun K hK => ?_); go_simp
        refine (HF2.out w8 ((JR.out.below hb8w (Nat.le_refl _)).more hb8w.size)).mono ?_
        rintro e w9 ⟨A9', c9', rfl, hc91, hc92, hrow9, hb9⟩
        have hbx9 := hbx8.below hb9 hbx8.lt
        have hob9 := hob8.below hb9 hob8.lt
        have hown9 := hown8.below hb9 (Nat.le_refl _)
        have hS10 : w9.cell? ⟨fb, 7, none⟩ = some (.slice fA fl.length fc) ∧ w9.cell? ⟨w.heap.size, 2, none⟩ = some (.slice A3 l3.length c3) := ⟨by rw [hbx9.cell]; rfl, by rw [hob9.cell]; rfl⟩
        dsimp only
        refine hK _ _ (fun _ => hS10) ?_; clear hK K
        have hS11 : (w9.alloc (.cells #[.slice A9' l3'.length c9'] 22)).cell? ⟨fb, 7, none⟩ = some (.slice fA fl.length fc) ∧ (w9.alloc (.cells #[.slice A9' l3'.length c9'] 22)).cell? ⟨w.heap.size, 2, none⟩ = some (.slice A3 l3.length c3) := ⟨by rw [(hbx9.alloc _).cell]; rfl, by rw [(hob9.alloc _).cell]; rfl⟩
        refine wpSeq_heavy rfl rfl (fun K hK => ?_); go_simp
        refine hK _ _ (fun _ => hS11) ?_; clear hK K
        have h9a : Below w9.heap.size w9 (w9.alloc (.cells #[.slice A9' l3'.length c9'] 22)) := (Below.refl _ _).alloc (Nat.le_refl _) _
        have hown9a := hown9.below h9a (Nat.le_refl _)
        have hrow9a := (hrow9.below h9a (Nat.le_refl _)).more h9a.size
        have hb79 : Below w7.drew.heap.size w7.drew (w9.alloc (.cells #[.slice A9' l3'.length c9'] 22)) := (hb8.trans (hb9.mono hb8.size)).trans (h9a.mono (Nat.le_trans hb8.size hb9.size))
        refine wpSeq_heavy rfl rfl (fun K hK => ?_)
        refine step_push _ rfl (.tmp 50) (.tmp 54) _ rfl (codeR w.heap.size) w7.drew.heap.size 22 i4 _ 24 Try.underlying34 pi pz0 pz1 pz2 rfl (show 0 < 1 by decide) (by show 22 ∉ [25]; decide) hbwd.size _ fl rfl hown9a w9.heap.size [_] l3' rfl (Blk.new _ _ _) ⟨A9', c9', rfl, hc91, hc92, hrow9a⟩ (by unfold maxLen; omega) (by omega) hb79.size ?_
        intro A10 c10 w10 hown10 hg10
        have hbx10 := (hbx9.alloc (.cells #[.slice A9' l3'.length c9'] 22)).grownOwn hown9a hg10 (by decide)
        have hob10 := (hob9.alloc (.cells #[.slice A9' l3'.length c9'] 22)).grownOwn hown9a hg10 (by decide)
        have hS12 : w10.cell? ⟨fb, 7, none⟩ = some (.slice fA fl.length fc) ∧ w10.cell? ⟨w.heap.size, 2, none⟩ = some (.slice A3 l3.length c3) := ⟨by rw [hbx10.cell]; rfl, by rw [hob10.cell]; rfl⟩
        have hb10 : Below w7.drew.heap.size w7.drew w10 := below_own hown9a hb79 hg10 hb79.size (Nat.le_refl _)
        have hgd : RowAt (glyphR w.heap.size) 73 w7.drew w7.drew.heap.size (some ⟨gg, 0, none⟩) gl8 := HGR.out
        have hg10' := (hgd.below hb10 (Nat.le_refl _)).more hb10.size
        obtain ⟨A11, c11, e11, hc111, hc112, hf10⟩ := hown10.form
        have he11 : A11 = A10 ∧ c11 = c10 := by injection e11 with h1 h2 h3; exact ⟨h1.symm, h3.symm⟩
        obtain ⟨rfl, rfl⟩ := he11
        have hgf := hg10'.setCell hbx10 (by show 64 ∉ [73, 148, 3, 126, 129, 131, 25]; decide) hfbN 7 (.slice A11 (fl.length + 1) c11)
        have hff := hf10.setCell hbx10 (by show 64 ∉ [22, 25]; decide) hfbN 7 (.slice A11 (fl.length + 1) c11)
        have hbF := hbx10.set_ 7 (.slice A11 (fl.length + 1) c11)
        have hblF : Below w.heap.size w (w10.setCell ⟨fb, 7, none⟩ (.slice A11 (fl.length + 1) c11)) := (hbwd.trans (hb10.mono hbwd.size)).setCell (p := ⟨fb, 7, none⟩) hfbN _
        have hFF : FSome w fb (w10.setCell ⟨fb, 7, none⟩ (.slice A11 (fl.length + 1) c11)) := by
          refine ⟨gl8, fl ++ [l3'], n2, some ⟨gg, 0, none⟩, cg, A4, A5, A6, A7, A8, m4, k4, m5, k5, m6, k6, m7, k7, m8, k8, A11, c11, cA, cl.length, cc, ⟨?_, by rw [size_setCell]; exact hgf, by rw [size_setCell]; exact hff, HF7.out.gl1, HF7.out.gl2, HF7.out.gb, by simp; omega, ?_, hblF, hfbN⟩⟩
          · rw [List.length_append, List.length_singleton]; exact hbF
          · intro f hf
            rcases List.mem_append.1 hf with h | h
            · exact HF7.out.fbd f h
            · rw [List.mem_singleton.1 h]; omega
        have HFF := Lib.hid hFF
        have y0 := hbx10.cell 7
        have y1 := hbx10.frozen 7
        have y2 := hbx10.lt
        simp only [List.getElem?_toArray, List.getElem?_cons_zero, List.getElem?_cons_succ] at y0
        clear hFF hgf hff hbF hblF hf10 hg10' hgd hbx10 hbx9 hbx8 hob8 hob9 hown10 hown9a hown9 hown8 hemp hob10 e11
        refine hK _ _ (fun _ => hS12) ?_; clear hK K
        refine wpSeq_pure (v := _) rfl rfl rfl (by kernel_rfl) (fun _ _ _ h => h) (fun wq => by first | (go_simp; done) | (go_simp; rfl)) ?_
        refine wpSeq_heavy rfl rfl (fun K hK => ?_); go_simp
        refine hK _ _ (fun h => by cases h) ?_; clear hK K
        refine wpSeq_end ?_
        go_wp2_with fail
        go_meet
        exact ⟨rfl, HFF.out⟩
    case rest =>
      obtain ⟨rfl, gl8, fl8, n8, gA8, gc8, B4, B5, B6, B7, B8, p4, q4, p5, q5, p6, q6, p7, q7, p8, q8, fA8, fc8, cA8, cn8, cc8, hF8⟩ := hcut
      have y := hF8.box.cell
      have y9 := hF8.box.lt
      have y0 := y 0
      have y1 := y 1
      have y2 := y 2
      have y3 := y 3
      have y4 := y 4
      have y5 := y 5
      have y6 := y 6
      have y7 := y 7
      have y8 := y 8
      simp only [List.getElem?_toArray, List.getElem?_cons_zero, List.getElem?_cons_succ] at y0 y1 y2 y3 y4 y5 y6 y7 y8
      have HF8 := Lib.hid hF8
      have g1 := hF8.gl2
      clear hF8 y HF7 HOBX HOX HF1 HF2 KR JR HR HX
      generalize hr : Bd.font fl8 (gl8.map (·.hint)) = r at *
      have HR := Lib.hid hr
      clear hr
      go_wp2_with fail
      refine (font_any w.heap.size _ n8 gA8 gc8 gl8 B4 B5 B6 B7 B8 p4 q4 p5 q5 p6 q6 p7 q7 p8 q8 fA8 fc8 fl8 cA8 cn8 cc8 HF8.out.g (by omega) HF8.out.gb HF8.out.f HF8.out.fbd).mono ?_
      rw [HR.out]
      rintro e w9 ⟨rfl, hb9⟩
      have hF9b := HF8.out.box.below hb9 y9
      have hgr9 := (HF8.out.g.below hb9 (Nat.le_refl _)).more hb9.size
      have hfr9 := (HF8.out.f.below hb9 (Nat.le_refl _)).more hb9.size
      have x := hF9b.cell
      have x9 := hF9b.lt
      have x0 := x 0
      have x1 := x 1
      have x2 := x 2
      have x3 := x 3
      have x4 := x 4
      have x5 := x 5
      have x6 := x 6
      have x7 := x 7
      have x8 := x 8
      simp only [List.getElem?_toArray, List.getElem?_cons_zero, List.getElem?_cons_succ] at x0 x1 x2 x3 x4 x5 x6 x7 x8
      have HG9 := Lib.hid hgr9
      have HFR9 := Lib.hid hfr9
      clear hF9b hgr9 hfr9 x y0 y1 y2 y3 y4 y5 y6 y7 y8
      go_wp2_with fail
      refine (rfont_any w.heap.size _ n8 gA8 gc8 gl8 B4 B5 B6 B7 B8 p4 q4 p5 q5 p6 q6 p7 q7 p8 q8 fA8 fc8 fl8 cA8 cn8 cc8 HG9.out (by omega) HF8.out.gb HFR9.out HF8.out.fbd).mono ?_
      rw [HR.out]
      rintro e w10 ⟨rfl, hb10⟩
      have hfin : Below w.heap.size w w10 := (HF8.out.bl.trans (hb9.mono HF8.out.bl.size)).trans (hb10.mono (Nat.le_trans HF8.out.bl.size hb9.size))
      clear x0 x1 x2 x3 x4 x5 x6 x7 x8
      obtain ⟨r1, r2⟩ := r
      go_wp2_with fail
      go_ret
      exact ⟨rfl, hfin⟩
end Go.Proofs.Ytgklchhgpnoliaa

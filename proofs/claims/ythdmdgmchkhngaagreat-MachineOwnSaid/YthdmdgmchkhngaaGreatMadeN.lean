/- fleuronref18.Made, its contract. -/
import Derived.Test.YthdmdgmchkhngaaGreatMadeM
import Derived.Test.YthdmdgmchkhngaaGreatSpoilB
namespace Go.Proofs.YthdmdgmchkhngaaGreat
open Go.RowKit

theorem glyphR_cells {N0 : Nat} {w : World} {B : Nat} {g : GlyD} {cs : List Value} (h : (glyphR N0).rel w B g cs) :
    ∃ Ap np kp Ae ne ke Aa na ka An nn kn Ad nd kd A c, cs = [.string g.name, .int .i64 g.adv, .bool g.mark, .slice Ap np kp, .slice Ae ne ke, .slice Aa na ka, .slice An nn kn, .slice Ad nd kd, .slice A g.hint.length c] ∧ g.hint.length ≤ c ∧ c ≤ maxLen ∧ RowAt (insR N0) 61 w B A g.hint := by
  obtain ⟨_, _, rfl, rfl, _, _, rfl, ⟨rfl, _⟩, _, _, rfl, rfl, _, _, rfl, ⟨_, _, rfl, ⟨A1, k1, rfl, _⟩, ⟨A2, k2, rfl, _⟩⟩, _, _, rfl, ⟨A3, k3, rfl, _⟩, _, _, rfl, ⟨A4, k4, rfl, _⟩, _, _, rfl, ⟨A5, k5, rfl, _⟩, ⟨A, c, rfl, h1, h2, h3⟩⟩ := h
  exact ⟨_, _, _, _, _, _, _, _, _, _, _, _, _, _, _, A, c, rfl, h1, h2, h3⟩
abbrev GrowN (w w' : World) : Prop := Fr (fun _ => False) w w'
theorem RowAt.grow {N0 : Nat} {α : Type} {R : Repr N0 α} {t : TypeId} {w w' : World} {B : Nat} {A : Option Addr} {l : List α} (h : RowAt R t w B A l) (hg : GrowN w w') : RowAt R t w' B A l :=
  h.keep fun g _ _ _ _ _ hh => by rw [hg.block g (Array.getElem?_eq_some_iff.1 hh).1 (fun x => x)]; exact hh
theorem GrowN.below {w w' : World} {B : Nat} (h : GrowN w w') (hB : B ≤ w.heap.size) : Below B w w' := Fr.below h hB fun _ _ x => x
/-- what holds of the values by which a glyph is chosen -/
def ChV (N0 fb : Nat) (n : Int) (gA : Option Addr) (gn gc : Nat) (gb go : Nat) (X : World) (i : Nat) (v : Value) (w : World) : Prop :=
  match i with
  | 0 => v = .pointer (some ⟨fb, 1, none⟩)
  | 1 => v = .slice gA gn gc
  | 2 => v = .int .i64 n
  | 3 => v = .pointer (some ⟨fb, 1, none⟩)
  | 4 => v = .slice gA gn gc
  | 5 => v = .int .i64 gn
  | 6 => ∃ r : Nat, v = .int .i64 r ∧ r < gn
  | 7 => ∃ r : Nat, v = .pointer (some ⟨gb, go + r * 9, none⟩) ∧ r < gn
  | 8 => ∃ (s : ByteArray) (a : Int) (b : Bool) (Ap : Option Addr) (np kp : Nat) (Ae : Option Addr) (ne ke : Nat) (Aa : Option Addr) (na ka : Nat) (An : Option Addr) (nn kn : Nat) (Ad : Option Addr) (nd kd : Nat) (A : Option Addr) (c : Nat) (l : List (Int × Int)), v = .agg #[.string s, .int .i64 a, .bool b, .slice Ap np kp, .slice Ae ne ke, .slice Aa na ka, .slice An nn kn, .slice Ad nd kd, .slice A l.length c] ∧ l.length ≤ c ∧ c ≤ maxLen ∧ RowAt (insR N0) 61 w X.heap.size A l ∧ HintOk l
  | _ => ∃ b : Nat, v = .pointer (some ⟨b, 0, none⟩) ∧ Blk w b 78 #[.string ByteArray.empty, .int .i64 0, .bool false, .slice none 0 0, .slice none 0 0, .slice none 0 0, .slice none 0 0, .slice none 0 0, .slice none 0 0] ∧ X.heap.size ≤ b

/-- what fleuronref18.Made hands back, with what its code weighs -/
def ProgPostW (N0 : Nat) (w : World) (e : Ending) (w' : World) : Prop :=
  ∃ A0 A1 A2 c0 c1 c2 fl ml cl size, e = .returned (.agg #[.slice A0 (List.length fl) c0, .slice A1 (List.length ml) c1, .slice A2 (List.length cl) c2, .int .i64 size]) ∧ ProgAt N0 w'.heap.size w' A0 A1 A2 c0 c1 c2 fl ml cl size ∧ fl.length ≤ 2 ∧ FnsOk fl ∧ HintOk ml ∧ Below w.heap.size w w'
theorem ProgPostW.weak {N0 : Nat} {w : World} {e : Ending} {w' : World} (h : ProgPostW N0 w e w') : ProgPost N0 w e w' := by
  obtain ⟨A0, A1, A2, c0, c1, c2, fl, ml, cl, size, h0, h1, h2, h3, h4, h5⟩ := h
  exact ⟨A0, A1, A2, c0, c1, c2, fl, ml, cl, size, h0, h1, by omega, fun f hf => by have := h3.1 f hf; omega, by have := h4.1; omega, h5⟩
set_option maxHeartbeats 4000000 in
set_option maxRecDepth 100000 in
theorem made18_anyW (N0 : Nat) (w : World) (sA : Option Addr) (sn sc : Nat) (xs : List Int) (hN : N0 ≤ w.heap.size) (hr : Reads w w.heap.size 1 sA sn (xs.map (Value.int .i64))) (hx : ∀ x ∈ xs, I64 x) (hsn : sn ≤ 1000000000000) :
    Calls Tryz.prog 10 #[.slice sA sn sc] w (ProgPostW N0 w) := by
  have hr1 := (hr.alloc (Nat.le_refl _) (.cells #[.slice none 0 0, .slice none 0 0, .slice none 0 0, .int .i64 0] 28)).more (Nat.le_of_lt (Nat.lt_of_lt_of_eq (Nat.lt_succ_self _) (by simp)) : w.heap.size ≤ (w.alloc (.cells #[.slice none 0 0, .slice none 0 0, .slice none 0 0, .int .i64 0] 28)).heap.size)
  have hmade := made_anyW N0 (w.alloc (.cells #[.slice none 0 0, .slice none 0 0, .slice none 0 0, .int .i64 0] 28)) sA sn sc xs (by simp; omega) hr1 hx hsn
  have HMADE := Lib.hid hmade
  have HR := Lib.hid hr
  have HX := Lib.hid hx
  clear hr hr1 hx hmade
  go_enter Tryz.func10, Tryz.ntmps10
  go_wp2_with fail
  refine HMADE.out.mono ?_
  rintro e w2 ⟨n2, v3, v4, v5, v6, v7, v8, v9, v10, gl, fl, cl, rfl, hn2, hgl, hfl, hcl, ⟨A4, m4, k4, rfl, -⟩, ⟨A5, m5, k5, rfl, -⟩, ⟨A6, m6, k6, rfl, -⟩, ⟨A7, m7, k7, rfl, -⟩, ⟨A8, m8, k8, rfl, -⟩, hg0, hg1, hgb, hf1, hfb, hc1, hbl⟩
  obtain ⟨gA, gc, e3, -, -, hglr⟩ := hgl
  obtain ⟨fA, fc, e9, hfc1, hfc2, hflr⟩ := hfl
  obtain ⟨cA, cc, e10, hcc1, hcc2, hclr⟩ := hcl
  obtain rfl : v3 = .slice gA gl.length gc := by injection e3
  obtain rfl : v9 = .slice fA fl.length fc := by injection e9
  obtain rfl : v10 = .slice cA cl.length cc := by injection e10
  clear e3 e9 e10
  obtain ⟨X, hX⟩ : ∃ X, X = w2.alloc (.cells #[.int .i64 n2, .slice gA gl.length gc, .slice A4 m4 k4, .slice A5 m5 k5, .slice A6 m6 k6, .slice A7 m7 k7, .slice A8 m8 k8, .slice fA fl.length fc, .slice cA cl.length cc] 69) := ⟨_, rfl⟩
  have _hXz : X.heap.size = w2.heap.size + 1 := by rw [hX]; simp
  have hXb : Below w2.heap.size w2 X := by rw [hX]; exact (Below.refl _ _).alloc (Nat.le_refl _) _
  have hfb0 : Blk X w2.heap.size 69 #[.int .i64 n2, .slice gA gl.length gc, .slice A4 m4 k4, .slice A5 m5 k5, .slice A6 m6 k6, .slice A7 m7 k7, .slice A8 m8 k8, .slice fA fl.length fc, .slice cA cl.length cc] := by rw [hX]; exact Blk.new _ _ _
  have hbz := hbl.size
  simp at hbz
  have hblX : Below w.heap.size w X := (((Below.refl w.heap.size w).alloc (Nat.le_refl _) _).trans (hbl.mono (by simp))).trans (hXb.mono (by omega))
  have hrb0 : Blk X w.heap.size 28 #[.slice none 0 0, .slice none 0 0, .slice none 0 0, .int .i64 0] := ((Blk.new _ _ _).below hbl (by simp)).below hXb (by omega)
  have hglX := (hglr.below hXb (Nat.le_refl _)).more (show w2.heap.size ≤ X.heap.size by omega)
  have hflX := (hflr.below hXb (Nat.le_refl _)).more (show w2.heap.size ≤ X.heap.size by omega)
  have hclX := (hclr.below hXb (Nat.le_refl _)).more (show w2.heap.size ≤ X.heap.size by omega)
  have HG := Lib.hid hglX
  have HFL := Lib.hid hflX
  have HCL := Lib.hid hclX
  have HGB := Lib.hid hgb
  have HFB := Lib.hid hfb
  have HFB0 := Lib.hid hfb0
  have HRB0 := Lib.hid hrb0
  have HBX := Lib.hid hblX
  have HXX := Lib.hid hX
  have HRX := Lib.hid ((HR.out.below hblX (Nat.le_refl _)))
  clear hglr hflr hclr hglX hflX hclX hgb hfb hfb0 hrb0 hblX hX hXb hbl HMADE HR
  go_upto_if 10 with (fail)
  rw [← HXX.out]
  go_cut [4] (fun v wx => ∃ n, v = .int .i64 n ∧ I64 n ∧ wx = X)
  case first =>
    by_cases h0 : (0 : Int) < sn
    · obtain ⟨b, off, rfl, hbB, hcells⟩ := HRX.out.2 (by omega)
      have hxl : xs.length = sn := by have := HRX.out.1; simpa using this
      obtain ⟨x, hxa⟩ : ∃ x, xs[0]? = some x := ⟨_, List.getElem?_eq_getElem (by omega)⟩
      have d0 := hcells 0 (.int .i64 x) (by rw [List.getElem?_map, hxa]; rfl)
      have hxi := HX.out x (List.mem_of_getElem? hxa)
      have _hbl : b < X.heap.size := by omega
      simp only [Nat.add_zero] at d0
      clear hcells hxa hxl
      go_wp2_with fail
      go_meet
      exact ⟨x, rfl, hxi, rfl⟩
    · go_wp2_with fail
      go_meet
      exact ⟨0, rfl, by unfold I64; omega, rfl⟩
  case rest =>
    obtain ⟨n, rfl, hn, hwc⟩ := hcut
    subst hwc
    obtain ⟨g0, hg00⟩ : ∃ g0, gl[0]? = some g0 := ⟨_, List.getElem?_eq_getElem (by omega)⟩
    obtain ⟨gb, go, _, hgA, hgbl, _, _⟩ := HG.out.get hg00
    subst hgA
    have HN := Lib.hid hn
    clear hg00 hn HXX
    go_upto_region 5 with (fail)
    go_cut [5] (fun v wx => ∃ (b : Nat) (A : Option Addr) (c : Nat) (l : List (Int × Int)), v = .pointer (some ⟨b, 0, none⟩) ∧ wc.heap.size ≤ b ∧ b < wx.heap.size ∧ wx.cell? ⟨b, 8, none⟩ = some (.slice A l.length c) ∧ l.length ≤ c ∧ c ≤ maxLen ∧ RowAt (insR N0) 61 wx wc.heap.size A l ∧ HintOk l ∧ Below wc.heap.size wc wx)
    case first =>
      go_wp2_with fail
      refine wp_region_conc (ChV N0 w2.heap.size n (some ⟨gb, go, none⟩) gl.length gc gb go wc) (fun W => GrowN wc W) GrowN (by as_aux_lemma => kernel_rfl) (by as_aux_lemma => kernel_rfl) 10 rfl ?_ ?_ ?_ ?_
      · intro i v W W' hv hr
        match i with
        | 0 | 1 | 2 | 3 | 4 | 5 | 6 | 7 => exact hv
        | 8 => obtain ⟨s, a, b, Ap, np, kp, Ae, ne, ke, Aa, na, ka, An, nn, kn, Ad, nd, kd, A, c, l, e, h1, h2, h3, h4⟩ := hv; exact ⟨s, a, b, Ap, np, kp, Ae, ne, ke, Aa, na, ka, An, nn, kn, Ad, nd, kd, A, c, l, e, h1, h2, h3.grow hr, h4⟩
        | i + 9 => obtain ⟨g, e, hb, hg⟩ := hv; exact ⟨g, e, hr.blk hb (fun x => x), hg⟩
      · exact (Fr.refl _ _).drew
      · intro j ev val W hj hG hev hd
        have _e4 : ev (.tmp 4) = .int .i64 n := hev.other 4 (by kernel_rfl)
        have _e3 : ev (.tmp 3) = .pointer (some ⟨w2.heap.size, 0, none⟩) := hev.other 3 (by kernel_rfl)
        have _ec := hev.const
        have _ef := hev.func
        have hc1 := (hG.blk HFB0.out (fun x => x)).cell 1
        have _hcl := (hG.blk HFB0.out (fun x => x)).lt
        simp only [List.getElem?_toArray, List.getElem?_cons_zero, List.getElem?_cons_succ] at hc1
        have HGG := Lib.hid hG
        clear hG
        match j, hj with
        | 0, _ =>
          refine ⟨_, rfl, rfl, ?_⟩; unfold yields; go_simp
          exact ⟨rfl, HGG.out, Fr.refl _ _⟩
        | 1, _ =>
          have d0 := hd 0 (by kernel_rfl); have x0 := hev.dep 0 14 (by kernel_rfl) (by kernel_rfl); simp only [ChV] at d0
          rw [d0] at x0
          refine ⟨_, rfl, rfl, ?_⟩; unfold yields; go_simp
          exact ⟨rfl, HGG.out, Fr.refl _ _⟩
        | 2, _ =>
          refine ⟨_, rfl, rfl, ?_⟩; unfold yields; go_simp
          exact ⟨rfl, HGG.out, Fr.refl _ _⟩
        | 3, _ =>
          refine ⟨_, rfl, rfl, ?_⟩; unfold yields; go_simp
          exact ⟨rfl, HGG.out, Fr.refl _ _⟩
        | 4, _ =>
          have d3 := hd 3 (by kernel_rfl); have x3 := hev.dep 3 17 (by kernel_rfl) (by kernel_rfl); simp only [ChV] at d3
          rw [d3] at x3
          refine ⟨_, rfl, rfl, ?_⟩; unfold yields; go_simp
          exact ⟨rfl, HGG.out, Fr.refl _ _⟩
        | 5, _ =>
          have d4 := hd 4 (by kernel_rfl); have x4 := hev.dep 4 18 (by kernel_rfl) (by kernel_rfl); simp only [ChV] at d4
          rw [d4] at x4
          refine ⟨_, rfl, rfl, ?_⟩; unfold yields; go_simp
          exact ⟨rfl, HGG.out, Fr.refl _ _⟩
        | 6, _ =>
          have d2 := hd 2 (by kernel_rfl); have x2 := hev.dep 2 16 (by kernel_rfl) (by kernel_rfl); simp only [ChV] at d2
          have d5 := hd 5 (by kernel_rfl); have x5 := hev.dep 5 19 (by kernel_rfl) (by kernel_rfl); simp only [ChV] at d5
          rw [d2] at x2
          rw [d5] at x5
          refine ⟨_, rfl, rfl, ?_⟩; unfold yields; go_simp
          refine (rest_any _ n _ HN.out (by omega) (by omega)).mono ?_
          rintro e w5 ⟨r, hr0, hr1, rfl, rfl⟩
          obtain ⟨rn, rfl⟩ := Int.eq_ofNat_of_zero_le hr0
          exact ⟨_, rfl, ⟨rn, rfl, by omega⟩, HGG.out, Fr.refl _ _⟩
        | 7, _ =>
          have d1 := hd 1 (by kernel_rfl); have x1 := hev.dep 1 15 (by kernel_rfl) (by kernel_rfl); simp only [ChV] at d1
          have d6 := hd 6 (by kernel_rfl); have x6 := hev.dep 6 20 (by kernel_rfl) (by kernel_rfl); simp only [ChV] at d6
          rw [d1] at x1
          obtain ⟨r, hv, hr⟩ := d6
          rw [hv] at x6
          have _hri : (r : Int) < (gl.length : Int) := by omega
          refine ⟨_, rfl, rfl, ?_⟩; unfold yields; go_simp
          exact ⟨⟨r, rfl, hr⟩, HGG.out, Fr.refl _ _⟩
        | 8, _ =>
          have d7 := hd 7 (by kernel_rfl); have x7 := hev.dep 7 21 (by kernel_rfl) (by kernel_rfl); simp only [ChV] at d7
          obtain ⟨r, hv, hr⟩ := d7
          rw [hv] at x7
          obtain ⟨g, hgr⟩ : ∃ g, gl[r]? = some g := ⟨_, List.getElem?_eq_getElem hr⟩
          obtain ⟨b', o', cs, hA', hbl', hrel, hcells⟩ := (HG.out.grow HGG.out).get hgr
          have hbb : gb = b' ∧ go = o' := by injection hA' with h1; injection h1 with h1 h2; exact ⟨h1, h2⟩
          obtain ⟨rfl, rfl⟩ := hbb
          obtain ⟨Ap, np, kp, Ae, ne, ke, Aa, na, ka, An, nn, kn, Ad, nd, kd, A, c, rfl, hl1, hl2, hrow⟩ := glyphR_cells hrel
          have hg54 := (HGB.out g (List.mem_of_getElem? hgr)).2
          have z0 := hcells 0 _ rfl
          have z1 := hcells 1 _ rfl
          have z2 := hcells 2 _ rfl
          have z3 := hcells 3 _ rfl
          have z4 := hcells 4 _ rfl
          have z5 := hcells 5 _ rfl
          have z6 := hcells 6 _ rfl
          have z7 := hcells 7 _ rfl
          have z8 := hcells 8 _ rfl
          simp only [show (glyphR N0).size = 9 from rfl, Nat.add_zero] at z0 z1 z2 z3 z4 z5 z6 z7 z8
          have _hgl8 : gb < W.heap.size := by have := HGG.out.size; omega
          have HROW := Lib.hid hrow
          clear hcells hrel hgr hA' hrow
          refine ⟨_, rfl, rfl, ?_⟩; unfold yields; go_simp
          exact ⟨⟨_, _, _, _, _, _, _, _, _, _, _, _, _, _, _, _, _, _, A, c, g.hint, rfl, hl1, hl2, HROW.out, hg54⟩, HGG.out, Fr.refl _ _⟩
        | 9, _ =>
          refine ⟨_, rfl, rfl, ?_⟩; unfold yields; go_simp
          exact ⟨⟨_, rfl, Blk.new _ _ _, HGG.out.size⟩, HGG.out.alloc _, (Fr.refl _ _).alloc _⟩
        | i + 10, hi => exact absurd hi (by simp)
      · intro val W hG hV
        have v8 := hV 8 (by simp)
        have v9 := hV 9 (by simp)
        simp only [ChV] at v8 v9
        obtain ⟨s, a, b, Ap, np, kp, Ae, ne, ke, Aa, na, ka, An, nn, kn, Ad, nd, kd, A, c, l, hv8, h1, h2, h3, h4⟩ := v8
        obtain ⟨bx, hv9, hbk, hbx⟩ := v9
        have hb9 := ((((((((hbk.set_ 0 (.string s)).set_ 1 (.int .i64 a)).set_ 2 (.bool b)).set_ 3 (.slice Ap np kp)).set_ 4 (.slice Ae ne ke)).set_ 5 (.slice Aa na ka)).set_ 6 (.slice An nn kn)).set_ 7 (.slice Ad nd kd)).set_ 8 (.slice A l.length c)
        have hbl9 : Below wc.heap.size wc (((((((((W.setCell ⟨bx, 0, none⟩ (.string s)).setCell ⟨bx, 1, none⟩ (.int .i64 a)).setCell ⟨bx, 2, none⟩ (.bool b)).setCell ⟨bx, 3, none⟩ (.slice Ap np kp)).setCell ⟨bx, 4, none⟩ (.slice Ae ne ke)).setCell ⟨bx, 5, none⟩ (.slice Aa na ka)).setCell ⟨bx, 6, none⟩ (.slice An nn kn)).setCell ⟨bx, 7, none⟩ (.slice Ad nd kd)).setCell ⟨bx, 8, none⟩ (.slice A l.length c)) :=
          (((((((((GrowN.below hG (Nat.le_refl _)).setCell (p := ⟨bx, 0, none⟩) hbx _).setCell (p := ⟨bx, 1, none⟩) hbx _).setCell (p := ⟨bx, 2, none⟩) hbx _).setCell (p := ⟨bx, 3, none⟩) hbx _).setCell (p := ⟨bx, 4, none⟩) hbx _).setCell (p := ⟨bx, 5, none⟩) hbx _).setCell (p := ⟨bx, 6, none⟩) hbx _).setCell (p := ⟨bx, 7, none⟩) hbx _).setCell (p := ⟨bx, 8, none⟩) hbx _
        have hrow9 : RowAt (insR N0) 61 (((((((((W.setCell ⟨bx, 0, none⟩ (.string s)).setCell ⟨bx, 1, none⟩ (.int .i64 a)).setCell ⟨bx, 2, none⟩ (.bool b)).setCell ⟨bx, 3, none⟩ (.slice Ap np kp)).setCell ⟨bx, 4, none⟩ (.slice Ae ne ke)).setCell ⟨bx, 5, none⟩ (.slice Aa na ka)).setCell ⟨bx, 6, none⟩ (.slice An nn kn)).setCell ⟨bx, 7, none⟩ (.slice Ad nd kd)).setCell ⟨bx, 8, none⟩ (.slice A l.length c)) wc.heap.size A l := by
          have hb0 : Below wc.heap.size W _ := (((((((((Below.refl wc.heap.size W).setCell (p := ⟨bx, 0, none⟩) hbx (.string s)).setCell (p := ⟨bx, 1, none⟩) hbx (.int .i64 a)).setCell (p := ⟨bx, 2, none⟩) hbx (.bool b)).setCell (p := ⟨bx, 3, none⟩) hbx (.slice Ap np kp)).setCell (p := ⟨bx, 4, none⟩) hbx (.slice Ae ne ke)).setCell (p := ⟨bx, 5, none⟩) hbx (.slice Aa na ka)).setCell (p := ⟨bx, 6, none⟩) hbx (.slice An nn kn)).setCell (p := ⟨bx, 7, none⟩) hbx (.slice Ad nd kd)).setCell (p := ⟨bx, 8, none⟩) hbx (.slice A l.length c)
          exact h3.below hb0 (Nat.le_refl _)
        have hcell8 := hb9.cell 8
        have hlt8 := hb9.lt
        have b0 := hbk.cell
        have b1 := hbk.frozen
        have b2 := hbk.lt
        have HROW := Lib.hid hrow9
        have HBL := Lib.hid hbl9
        have HC8 := Lib.hid hcell8
        have HL8 := Lib.hid hlt8
        clear hV hG hbk h3 hb9 hbl9 hrow9 hcell8 hlt8
        unfold wpOp
        change (if _ then _ else _)
        rw [if_pos (by kernel_rfl)]
        refine .inl ?_
        simp only [fillA, dstOf, List.getElem?_toArray, List.getElem?_cons_zero, List.getElem?_cons_succ, Option.bind_some]
        go_simp
        obtain ⟨w9, hw9⟩ : ∃ w9, w9 = (((((((((W.setCell ⟨bx, 0, none⟩ (.string s)).setCell ⟨bx, 1, none⟩ (.int .i64 a)).setCell ⟨bx, 2, none⟩ (.bool b)).setCell ⟨bx, 3, none⟩ (.slice Ap np kp)).setCell ⟨bx, 4, none⟩ (.slice Ae ne ke)).setCell ⟨bx, 5, none⟩ (.slice Aa na ka)).setCell ⟨bx, 6, none⟩ (.slice An nn kn)).setCell ⟨bx, 7, none⟩ (.slice Ad nd kd)).setCell ⟨bx, 8, none⟩ (.slice A l.length c)) := ⟨_, rfl⟩
        rw [← hw9] at HROW HBL HC8 HL8 ⊢
        clear hw9 b0 b1 b2 hv8 hv9
        go_wp2_with fail
        go_meet
        exact ⟨bx, A, c, l, rfl, hbx, HL8.out, by rw [HC8.out]; simp, h1, h2, HROW.out, h4, HBL.out⟩
    case rest =>
      obtain ⟨bx, A, c, l, rfl, hbx, hbx2, hc8, hl1, hl2, hrow, hl54, hbl⟩ := hcut
      have _hl54n := hl54.1
      have hfb := HFB0.out.below hbl HFB0.out.lt
      have hrb := HRB0.out.below hbl HRB0.out.lt
      have hfl := (HFL.out.below hbl (Nat.le_refl _)).more hbl.size
      have hcl := (HCL.out.below hbl (Nat.le_refl _)).more hbl.size
      have hml := hrow.more hbl.size
      have hblw := HBX.out.trans (hbl.mono HBX.out.size)
      have hpr : ∀ sz : Int, I64 sz → ProgAt N0 wc.heap.size wc fA A cA fc c cc fl l cl sz := fun _ hsz => ⟨⟨hfc1, hfc2, hfl⟩, ⟨hl1, hl2, hml⟩, ⟨hcc1, hcc2, hcl⟩, hsz, by omega⟩
      have f7 := hfb.cell 7
      have f8 := hfb.cell 8
      simp only [List.getElem?_toArray, List.getElem?_cons_zero, List.getElem?_cons_succ] at f7 f8
      have _f9 := hfb.lt
      have q := hrb.cell
      have _z := hrb.frozen
      have _q2 := hrb.lt
      have hS : (fun w' : World => w'.cell? ⟨w2.heap.size, 7, none⟩ = some (.slice fA fl.length fc) ∧ w'.cell? ⟨bx, 8, none⟩ = some (.slice A l.length c) ∧ w'.cell? ⟨w2.heap.size, 8, none⟩ = some (.slice cA cl.length cc)) wc.drew := ⟨f7, hc8, f8⟩
      have HRB := Lib.hid hrb
      have HPR := Lib.hid hpr
      have HBLW := Lib.hid hblw
      have HFF := Lib.hid HFB.out
      have hN9 : N0 ≤ w.heap.size := hN
      clear hfb hrb hfl hcl hml hblw hpr hrow HFB0 HRB0 HFL HCL HBX HRX HG hbl HGB hc8 f7 f8
      go_wp2_with fail
      refine wp_region_seq (fun i => !([7, 10] : List Nat).contains i) (fun i => ([1, 3, 5] : List Nat).contains i) (fun i => ([7] : List Nat).contains i) [0, 1, 2, 3, 4, 5, 6, 7, 8, 9, 10] (fun w' : World => w'.cell? ⟨w2.heap.size, 7, none⟩ = some (.slice fA fl.length fc) ∧ w'.cell? ⟨bx, 8, none⟩ = some (.slice A l.length c) ∧ w'.cell? ⟨w2.heap.size, 8, none⟩ = some (.slice cA cl.length cc)) (by kernel_rfl) (by kernel_rfl) (by kernel_rfl) (by kernel_rfl) ?_
      refine wpSeq_pure (v := _) rfl rfl rfl (by kernel_rfl) (fun _ _ _ h => h) (fun wq => by first | (go_simp; done) | (go_simp; rfl)) ?_
      refine wpSeq_load (v := _) rfl rfl (by kernel_rfl) (fun _ _ _ h => h) hS rfl (fun wq hq => by obtain ⟨hq1, hq2, hq3⟩ := hq; first | (go_simp; done) | (go_simp; rfl)) ?_
      refine wpSeq_pure (v := _) rfl rfl rfl (by kernel_rfl) (fun _ _ _ h => h) (fun wq => by first | (go_simp; done) | (go_simp; rfl)) ?_
      refine wpSeq_load (v := _) rfl rfl (by kernel_rfl) (fun _ _ _ h => h) hS rfl (fun wq hq => by obtain ⟨hq1, hq2, hq3⟩ := hq; first | (go_simp; done) | (go_simp; rfl)) ?_
      refine wpSeq_pure (v := _) rfl rfl rfl (by kernel_rfl) (fun _ _ _ h => h) (fun wq => by first | (go_simp; done) | (go_simp; rfl)) ?_
      refine wpSeq_load (v := _) rfl rfl (by kernel_rfl) (fun _ _ _ h => h) hS rfl (fun wq hq => by obtain ⟨hq1, hq2, hq3⟩ := hq; first | (go_simp; done) | (go_simp; rfl)) ?_
      refine wpSeq_pure (v := _) rfl rfl rfl (by kernel_rfl) (fun _ _ _ h => h) (fun wq => by first | (go_simp; done) | (go_simp; rfl)) ?_
      refine wpSeq_heavy rfl rfl (fun K hK => ?_); go_simp
      refine (rest_any _ n _ HN.out (by omega) (by omega)).mono ?_
      rintro e w5 ⟨r, hr0, hr1, rfl, rfl⟩
      dsimp only
      refine hK _ _ (fun _ => hS) ?_; clear hK K
      refine wpSeq_pure (v := _) rfl rfl rfl (by kernel_rfl) (fun _ _ _ h => h) (fun wq => by first | (go_simp; done) | (go_simp; rfl)) ?_
      refine wpSeq_pure (v := _) rfl rfl rfl (by kernel_rfl) (fun _ _ _ h => h) (fun wq => by first | (go_simp; done) | (go_simp; rfl)) ?_
      have hfin : ProgPostW N0 w (.returned (.agg #[.slice fA fl.length fc, .slice A l.length c, .slice cA cl.length cc, .int .i64 (IntKind.i64.wrap (1 + r))])) ((((wc.drew.setCell ⟨w.heap.size, 0, none⟩ (.slice fA fl.length fc)).setCell ⟨w.heap.size, 1, none⟩ (.slice A l.length c)).setCell ⟨w.heap.size, 2, none⟩ (.slice cA cl.length cc)).setCell ⟨w.heap.size, 3, none⟩ (.int .i64 (IntKind.i64.wrap (1 + r)))) := by
        have hrbd : Blk wc.drew w.heap.size 28 _ := HRB.out
        have hprd : ProgAt N0 wc.heap.size wc.drew fA A cA fc c cc fl l cl (IntKind.i64.wrap (1 + r)) := (HPR.out _ (i64_wrap _)).below (Below.refl wc.heap.size wc).drew (Nat.le_refl _)
        refine ⟨fA, A, cA, fc, c, cc, fl, l, cl, _, rfl, ?_, by omega, HFF.out, hl54, ?_⟩
        · simp only [size_setCell]
          exact (((hprd.setCell hrbd hN9 0 _).setCell (hrbd.set_ 0 _) hN9 1 _).setCell ((hrbd.set_ 0 _).set_ 1 _) hN9 2 _).setCell (((hrbd.set_ 0 _).set_ 1 _).set_ 2 _) hN9 3 _
        · exact (((HBLW.out.drew.setCell (p := ⟨w.heap.size, 0, none⟩) (Nat.le_refl _) _).setCell (p := ⟨w.heap.size, 1, none⟩) (Nat.le_refl _) _).setCell (p := ⟨w.heap.size, 2, none⟩) (Nat.le_refl _) _).setCell (p := ⟨w.heap.size, 3, none⟩) (Nat.le_refl _) _
      have HF := Lib.hid hfin
      clear hfin
      refine wpSeq_heavy rfl rfl (fun K hK => ?_); go_simp
      refine hK _ _ (fun h => by cases h) ?_; clear hK K
      refine wpSeq_end ?_
      go_wp2
      refine bodyPost_ret (v := .agg #[.slice fA fl.length fc, .slice A l.length c, .slice cA cl.length cc, .int .i64 (IntKind.i64.wrap (1 + r))]) (by simp [results, Tryz.results10, go_sem, q]) rfl ?_
      exact HF.out
theorem made18_any (N0 : Nat) (w : World) (sA : Option Addr) (sn sc : Nat) (xs : List Int) (hN : N0 ≤ w.heap.size) (hr : Reads w w.heap.size 1 sA sn (xs.map (Value.int .i64))) (hx : ∀ x ∈ xs, I64 x) (hsn : sn ≤ 1000000000000) :
    Calls Tryz.prog 10 #[.slice sA sn sc] w (ProgPost N0 w) := (made18_anyW N0 w sA sn sc xs hN hr hx hsn).mono fun _ _ h => h.weak
end Go.Proofs.YthdmdgmchkhngaaGreat

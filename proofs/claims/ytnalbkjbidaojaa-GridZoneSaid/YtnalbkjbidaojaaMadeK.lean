/- fleuronref07's maker: a glyph, its contract. -/
import Derived.Test.YtnalbkjbidaojaaMadeI
import Derived.Test.YtnalbkjbidaojaaSeqs
import Derived.Laws.BytesArg
namespace Go.Proofs.Ytnalbkjbidaojaa
open Go.RowKit
/-- what holds of the values of a glyph's beginning -/
def GlyV (m : MkC) (w0 : World) (n : Int) (i : Nat) (v : Value) (w : World) : Prop :=
  match i with
  | 0 => v = .int .i64 n
  | 1 => v = .int .i64 (97 + n)
  | 2 => v = .int .u8 (97 + n)
  | 3 => ∃ g : Nat, v = .slice (some ⟨g, 0, none⟩) 1 1 ∧ Blk w g 5 #[.int .u8 (97 + n)] ∧ w0.heap.size ≤ g
  | 4 => ∃ s : ByteArray, v = .string s ∧ s.size ≤ 100
  | 5 => ∃ s, v = .string s
  | 6 => v = .pointer (some ⟨m.M, 0, none⟩)
  | 7 => ∃ r : Int, v = .int .i64 r ∧ 0 ≤ r ∧ r < 19
  | 8 => ∃ r : Int, v = .int .i64 r ∧ 0 ≤ r ∧ r ≤ 900
  | 9 => ∃ r : Int, v = .int .i64 r ∧ 0 ≤ r ∧ r ≤ 1000
  | 10 => v = .pointer (some ⟨m.M, 0, none⟩)
  | 11 => ∃ r : Int, v = .int .i64 r ∧ 0 ≤ r ∧ r < 4
  | 12 => ∃ b, v = .bool b
  | 13 => ∃ (s : ByteArray) (r : Int) (b : Bool), v = .agg #[.string s, .int .i64 r, .bool b, .slice none 0 0, .slice none 0 0, .slice none 0 0, .slice none 0 0, .slice none 0 0, .slice none 0 0] ∧ 0 ≤ r ∧ r ≤ 1000
  | _ => ∃ b : Nat, v = .pointer (some ⟨b, 0, none⟩) ∧ Blk w b 74 #[.string ByteArray.empty, .int .i64 0, .bool false, .slice none 0 0, .slice none 0 0, .slice none 0 0, .slice none 0 0, .slice none 0 0, .slice none 0 0] ∧ w0.heap.size ≤ b

theorem glyph_info : (Try.prog.info? 74).map (fun i => (i.zero, i.size, i.bytes)) = some (some (.agg #[.string ByteArray.empty, .int .i64 0, .bool false, .slice none 0 0, .slice none 0 0, .slice none 0 0, .slice none 0 0, .slice none 0 0, .slice none 0 0]), 9, 176) := by kernel_rfl

theorem outlineR_forms {N0 : Nat} {w : World} {B : Nat} {l : List (Int × Int × Bool)} {es : List Int} {vp ve : Value} (h : (outlineR N0).rel w B (l, es) [vp, ve]) : ∃ A c A' c', vp = .slice A l.length c ∧ ve = .slice A' es.length c' := by
  obtain ⟨_, _, e1, ⟨A1, c1, rfl, _⟩, ⟨A2, c2, rfl, _⟩⟩ := h
  simp only [List.cons_append, List.nil_append, List.cons.injEq, and_true] at e1
  obtain ⟨rfl, rfl⟩ := e1
  exact ⟨_, _, _, _, rfl, rfl⟩
theorem glyphR_self (N0 : Nat) : 74 ∉ (glyphR N0).tys := by show 74 ∉ [61, 3, 126, 130, 132, 68]; decide
theorem glyphR_maker (N0 : Nat) : 96 ∉ 74 :: (glyphR N0).tys := by show 96 ∉ [74, 61, 3, 126, 130, 132, 68]; decide
theorem Mk.set3 {w : World} {m : MkC} (h : Mk w m) (v : Value) : Mk (w.setCell ⟨m.M, 3, none⟩ v) {m with c3 := v} := by
  obtain ⟨at_, ha, hs, hBM, hb, xs, hr, hx⟩ := h
  exact ⟨at_, ha, hs, hBM, by simpa using hb.set_ 3 v, xs, hr.setCell hBM _, hx⟩
theorem Fr.grownS {S : Nat → Prop} {w0 wx wy : World} {row : Option Nat} (h : Fr S w0 wx) (hg : wx.grownBy wy row) (hr : ∀ g, row = some g → S g) : Fr S w0 wy :=
  ⟨hg.os.trans h.os, hg.tape.trans h.tape, hg.output.trans h.output, Nat.le_trans h.size hg.size, fun k hk hs => (hg.block k (Nat.lt_of_lt_of_le hk h.size) fun e => hs (hr k e.symm)).trans (h.block k hk hs)⟩
/-- bounds of what a glyph has -/
def GlyS (N0 : Nat) (m : MkC) (w : World) (gb : Nat) (vp : Value) (pn : Nat) (q a b : Nat) (wx : World) : Prop :=
  ∃ ve va vn vd vh g, GlyI N0 m w gb wx vp ve va vn vd vh g ∧ g.pts.length = pn ∧ g.parts.length ≤ q ∧ g.anchors.length ≤ a ∧ g.deltas.length ≤ b ∧ g.hint = []
def GlyL (N0 : Nat) (m : MkC) (w : World) (gb kb : Nat) (x : Int) (vp : Value) (pn k : Nat) (wr : World) : Prop :=
  Blk wr kb 127 #[.int .i64 1, .int .i64 0, .int .i64 1, .int .i64 1, .int .i64 3, .int .i64 0, .int .i64 4, .int .i64 0, .int .i64 2, .int .i64 x] ∧ w.heap.size ≤ kb ∧ GlyS N0 m w gb vp pn 1 k 0 wr
theorem kinds_cells {wr : World} {kb : Nat} {t : TypeId} {x : Int} (_hb : Blk wr kb t #[.int .i64 1, .int .i64 0, .int .i64 1, .int .i64 1, .int .i64 3, .int .i64 0, .int .i64 4, .int .i64 0, .int .i64 2, .int .i64 x]) (hx : 0 ≤ x ∧ x ≤ 1) {k : Nat} (hk : k < 5) :
    ∃ kk cc : Int, 1 ≤ kk ∧ kk ≤ 4 ∧ 0 ≤ cc ∧ cc ≤ 1 ∧ ∀ W, Blk W kb t #[.int .i64 1, .int .i64 0, .int .i64 1, .int .i64 1, .int .i64 3, .int .i64 0, .int .i64 4, .int .i64 0, .int .i64 2, .int .i64 x] → W.cell? ⟨kb, k * 2, none⟩ = some (.int .i64 kk) ∧ W.cell? ⟨kb, k * 2 + 1, none⟩ = some (.int .i64 cc) := by
  have : k = 0 ∨ k = 1 ∨ k = 2 ∨ k = 3 ∨ k = 4 := by omega
  rcases this with rfl | rfl | rfl | rfl | rfl
  · exact ⟨1, 0, by omega, by omega, by omega, by omega, fun _ h => ⟨by rw [h.cell]; rfl, by rw [h.cell]; rfl⟩⟩
  · exact ⟨1, 1, by omega, by omega, by omega, by omega, fun _ h => ⟨by rw [h.cell]; rfl, by rw [h.cell]; rfl⟩⟩
  · exact ⟨3, 0, by omega, by omega, by omega, by omega, fun _ h => ⟨by rw [h.cell]; rfl, by rw [h.cell]; rfl⟩⟩
  · exact ⟨4, 0, by omega, by omega, by omega, by omega, fun _ h => ⟨by rw [h.cell]; rfl, by rw [h.cell]; rfl⟩⟩
  · exact ⟨2, x, by omega, by omega, by omega, by omega, fun _ h => ⟨by rw [h.cell]; rfl, by rw [h.cell]; rfl⟩⟩
def GlyPost (N0 : Nat) (m : MkC) (base : Nat) (gl : List GlyD) (w : World) (e : Ending) (w' : World) : Prop :=
  ∃ (u : Value) (A : Option Addr) (c : Nat) (g : GlyD) (lo : Int), e = .returned u ∧ OwnAt (glyphR N0) 74 base w' (.slice A (gl.length + 1) c) (gl ++ [g]) ∧ Mk w' {m with c3 := .slice A (gl.length + 1) c, c11 := .int .i64 lo} ∧ 0 ≤ lo ∧ lo ≤ 2 ∧ g.pts.length ≤ 10 ∧ HintOk g.hint ∧ Fr (fun k => k = m.M ∨ base ≤ k) w w'

set_option maxHeartbeats 4000000 in
set_option maxRecDepth 100000 in
theorem glyph_any (N0 : Nat) (m : MkC) (w : World) (n : Int) (base : Nat) (gl : List GlyD) (gA : Option Addr) (gc : Nat) (rA : Option Addr) (rn rc : Nat) (fA : Option Addr) (fn fc : Nat) (h : Mk w m) (hN : N0 ≤ m.M) (hn0 : 0 ≤ n) (hn1 : n ≤ 100)
    (h3 : m.c3 = .slice gA gl.length gc) (hgl : gl.length ≤ 100) (hown : OwnAt (glyphR N0) 74 base w (.slice gA gl.length gc) gl) (hb0 : m.M < base) (hb1 : base ≤ w.heap.size)
    (h8 : m.c8 = .slice rA rn rc) (hrn : rn ≤ 3) (h9 : m.c9 = .slice fA fn fc) (hfn : fn ≤ 3) :
    Calls Try.prog 38 #[.pointer (some ⟨m.M, 0, none⟩), .int .i64 n] w (GlyPost N0 m base gl w) := by
  obtain ⟨i1, ji, jz0, jz1, jz2⟩ := info_parts part_info
  obtain ⟨i2, li, lz0, lz1, lz2⟩ := info_parts anchor_info
  obtain ⟨i3, ki, kz0, kz1, kz2⟩ := info_parts delta_info
  obtain ⟨i4, pi, pz0, pz1, pz2⟩ := info_parts glyph_info
  have hMl := h.lt
  have HMK := Lib.hid h
  have HMK0 := Lib.hid h
  have H3 := Lib.hid h3
  have H8 := Lib.hid h8
  have H9 := Lib.hid h9
  have HOWN := Lib.hid hown
  clear h h3 h8 h9 hown
  go_enter Try.func38, Try.ntmps38
  go_upto_region 0 with (fail)
  go_cut [4] (fun v wx => ∃ gb : Nat, v = .pointer (some ⟨gb, 0, none⟩) ∧ ∃ s r b, GlyI N0 m w gb wx (.slice none 0 0) (.slice none 0 0) (.slice none 0 0) (.slice none 0 0) (.slice none 0 0) (.slice none 0 0) ⟨s, r, b, [], [], [], [], [], []⟩)
  case first =>
    go_wp2_with fail
    refine wp_region_conc (GlyV m w n) (fun W => Mk W m ∧ FrM m.M w W) (FrM m.M) (by kernel_rfl) (by kernel_rfl) 15 rfl ?_ ?_ ?_ ?_
    · intro i v W W' hv hr
      match i with
      | 0 | 1 | 2 | 4 | 5 | 6 | 7 | 8 | 9 | 10 | 11 | 12 | 13 => exact hv
      | 3 => obtain ⟨g, e, hb, hg⟩ := hv; exact ⟨g, e, hr.blk hb (by omega), hg⟩
      | i + 14 => obtain ⟨g, e, hb, hg⟩ := hv; exact ⟨g, e, hr.blk hb (by omega), hg⟩
    · exact ⟨HMK.out, (Fr.refl _ _).drew⟩
    · intro i ev val W hi hG hev hd
      obtain ⟨hmkW, hfrW⟩ := hG
      have _e1 : ev (.tmp 1) = .int .i64 n := hev.other 1 (by kernel_rfl)
      have _e0 : ev (.tmp 0) = .pointer (some ⟨m.M, 0, none⟩) := hev.other 0 (by kernel_rfl)
      have _ec := hev.const
      have _ef := hev.func
      have hsz := hfrW.size
      have HK := Lib.hid hmkW
      have HF := Lib.hid hfrW
      clear hmkW hfrW
      match i, hi with
      | 0, _ =>
        refine ⟨_, rfl, rfl, ?_⟩; unfold yields; go_simp
        exact ⟨rfl, ⟨HK.out, HF.out⟩, Fr.refl _ _⟩
      | 1, _ =>
        have d0 := hd 0 (by kernel_rfl); have x0 := hev.dep 0 10 (by kernel_rfl) (by kernel_rfl); simp only [GlyV] at d0
        rw [d0] at x0
        refine ⟨_, rfl, rfl, ?_⟩; unfold yields; go_simp
        exact ⟨by rw [IntKind.wrap_i64]; show Value.int .i64 _ = Value.int .i64 _; congr 1; omega, ⟨HK.out, HF.out⟩, Fr.refl _ _⟩
      | 2, _ =>
        have d1 := hd 1 (by kernel_rfl); have x1 := hev.dep 1 11 (by kernel_rfl) (by kernel_rfl); simp only [GlyV] at d1
        rw [d1] at x1
        refine ⟨_, rfl, rfl, ?_⟩; unfold yields; go_simp
        exact ⟨by rw [IntKind.wrap_u8]; show Value.int .u8 _ = Value.int .u8 _; congr 1; omega, ⟨HK.out, HF.out⟩, Fr.refl _ _⟩
      | 3, _ =>
        have d2 := hd 2 (by kernel_rfl); have x2 := hev.dep 2 12 (by kernel_rfl) (by kernel_rfl); simp only [GlyV] at d2
        rw [d2] at x2
        refine ⟨_, rfl, rfl, ?_⟩; unfold yields; go_simp
        exact ⟨⟨_, rfl, Blk.new _ _ _, hsz⟩, ⟨HK.out.alloc _, HF.out.alloc _⟩, (Fr.refl _ _).alloc _⟩
      | 4, _ =>
        have d3 := hd 3 (by kernel_rfl); have x3 := hev.dep 3 13 (by kernel_rfl) (by kernel_rfl); simp only [GlyV] at d3
        obtain ⟨g, hv, hb, hg⟩ := d3
        rw [hv] at x3
        have c0 := hb.cell 0
        have _cl := hb.lt
        simp only [List.getElem?_toArray, List.getElem?_cons_zero] at c0
        have _hconv := run_convert_bytes_arg (P := Try.prog) W 98 5 Try.underlying98 Try.underlying5 g 0 1 1 [97 + n] rfl (fun i hi => match i, hi with | 0, _ => c0) 9 Try.underlying9
        refine ⟨_, rfl, rfl, ?_⟩; unfold yields; go_simp
        exact ⟨⟨_, rfl, by simp [strOfNums_size]⟩, ⟨HK.out, HF.out⟩, Fr.refl _ _⟩
      | 5, _ =>
        have d4 := hd 4 (by kernel_rfl); have x4 := hev.dep 4 14 (by kernel_rfl) (by kernel_rfl); simp only [GlyV] at d4
        obtain ⟨s, hv, hs⟩ := d4
        rw [hv] at x4
        refine ⟨_, rfl, rfl, ?_⟩; unfold yields; go_simp
        rw [if_neg (by omega)]
        exact ⟨⟨_, rfl⟩, ⟨HK.out, HF.out⟩, Fr.refl _ _⟩
      | 6, _ =>
        refine ⟨_, rfl, rfl, ?_⟩; unfold yields; go_simp
        exact ⟨rfl, ⟨HK.out, HF.out⟩, Fr.refl _ _⟩
      | 7, _ =>
        have d6 := hd 6 (by kernel_rfl); have x6 := hev.dep 6 16 (by kernel_rfl) (by kernel_rfl); simp only [GlyV] at d6
        rw [d6] at x6
        refine ⟨_, rfl, rfl, ?_⟩; unfold yields; go_simp
        refine (mkNext_any _ m _ HK.out (by omega) (by omega)).mono ?_
        rintro e w2 ⟨r, hr0, hr1, rfl, hmk2, hfr2, -⟩
        exact ⟨_, rfl, ⟨r, rfl, hr0, hr1⟩, ⟨hmk2, HF.out.trans hfr2⟩, hfr2⟩
      | 8, _ =>
        have d7 := hd 7 (by kernel_rfl); have x7 := hev.dep 7 17 (by kernel_rfl) (by kernel_rfl); simp only [GlyV] at d7
        obtain ⟨r, hv, r0, r1⟩ := d7
        rw [hv] at x7
        refine ⟨_, rfl, rfl, ?_⟩; unfold yields; go_simp
        exact ⟨⟨r * 50, by rw [IntKind.wrap_i64]; congr 1; omega, by omega, by omega⟩, ⟨HK.out, HF.out⟩, Fr.refl _ _⟩
      | 9, _ =>
        have d8 := hd 8 (by kernel_rfl); have x8 := hev.dep 8 18 (by kernel_rfl) (by kernel_rfl); simp only [GlyV] at d8
        obtain ⟨r, hv, r0, r1⟩ := d8
        rw [hv] at x8
        refine ⟨_, rfl, rfl, ?_⟩; unfold yields; go_simp
        exact ⟨⟨100 + r, by rw [IntKind.wrap_i64]; congr 1; omega, by omega, by omega⟩, ⟨HK.out, HF.out⟩, Fr.refl _ _⟩
      | 10, _ =>
        refine ⟨_, rfl, rfl, ?_⟩; unfold yields; go_simp
        exact ⟨rfl, ⟨HK.out, HF.out⟩, Fr.refl _ _⟩
      | 11, _ =>
        have d10 := hd 10 (by kernel_rfl); have x10 := hev.dep 10 20 (by kernel_rfl) (by kernel_rfl); simp only [GlyV] at d10
        rw [d10] at x10
        refine ⟨_, rfl, rfl, ?_⟩; unfold yields; go_simp
        refine (mkNext_any _ m _ HK.out (by omega) (by omega)).mono ?_
        rintro e w2 ⟨r, hr0, hr1, rfl, hmk2, hfr2, -⟩
        exact ⟨_, rfl, ⟨r, rfl, hr0, hr1⟩, ⟨hmk2, HF.out.trans hfr2⟩, hfr2⟩
      | 12, _ =>
        have d11 := hd 11 (by kernel_rfl); have x11 := hev.dep 11 21 (by kernel_rfl) (by kernel_rfl); simp only [GlyV] at d11
        obtain ⟨r, hv, r0, r1⟩ := d11
        rw [hv] at x11
        refine ⟨_, rfl, rfl, ?_⟩; unfold yields; go_simp
        exact ⟨⟨_, rfl⟩, ⟨HK.out, HF.out⟩, Fr.refl _ _⟩
      | 13, _ =>
        have d5 := hd 5 (by kernel_rfl); have x5 := hev.dep 5 15 (by kernel_rfl) (by kernel_rfl); simp only [GlyV] at d5
        have d9 := hd 9 (by kernel_rfl); have x9 := hev.dep 9 19 (by kernel_rfl) (by kernel_rfl); simp only [GlyV] at d9
        have d12 := hd 12 (by kernel_rfl); have x12 := hev.dep 12 22 (by kernel_rfl) (by kernel_rfl); simp only [GlyV] at d12
        obtain ⟨s, hv⟩ := d5
        rw [hv] at x5
        obtain ⟨r, hv, r0, r1⟩ := d9
        rw [hv] at x9
        obtain ⟨b, hv⟩ := d12
        rw [hv] at x12
        refine ⟨_, rfl, rfl, ?_⟩; unfold yields; go_simp
        exact ⟨⟨s, r, b, rfl, r0, r1⟩, ⟨HK.out, HF.out⟩, Fr.refl _ _⟩
      | 14, _ =>
        refine ⟨_, rfl, rfl, ?_⟩; unfold yields; go_simp
        exact ⟨⟨_, rfl, Blk.new _ _ _, hsz⟩, ⟨HK.out.alloc _, HF.out.alloc _⟩, (Fr.refl _ _).alloc _⟩
      | i + 15, hi => exact absurd hi (by simp)
    · intro val W hG hV
      have v13 := hV 13 (by simp)
      have v14 := hV 14 (by simp)
      simp only [GlyV] at v13 v14
      obtain ⟨s, r, b, hv13, r0, r1⟩ := v13
      obtain ⟨gb, hv14, hbk, hgb⟩ := v14
      clear hV
      unfold wpOp
      change (if _ then _ else _)
      rw [if_pos (by kernel_rfl)]
      refine .inl ?_
      simp only [fillA, dstOf, List.getElem?_toArray, List.getElem?_cons_zero, List.getElem?_cons_succ, Option.bind_some]
      have _hgM : gb ≠ m.M := by omega
      have hI0 : GlyI N0 m w gb (((((((((W.setCell ⟨gb, 0, none⟩ (.string s)).setCell ⟨gb, 1, none⟩ (.int .i64 r)).setCell ⟨gb, 2, none⟩ (.bool b)).setCell ⟨gb, 3, none⟩ (.slice none 0 0)).setCell ⟨gb, 4, none⟩ (.slice none 0 0)).setCell ⟨gb, 5, none⟩ (.slice none 0 0)).setCell ⟨gb, 6, none⟩ (.slice none 0 0)).setCell ⟨gb, 7, none⟩ (.slice none 0 0)).setCell ⟨gb, 8, none⟩ (.slice none 0 0)) (.slice none 0 0) (.slice none 0 0) (.slice none 0 0) (.slice none 0 0) (.slice none 0 0) (.slice none 0 0) ⟨s, r, b, [], [], [], [], [], []⟩ := by
        have hb9 := ((((((((hbk.set_ 0 (.string s)).set_ 1 (.int .i64 r)).set_ 2 (.bool b)).set_ 3 (.slice none 0 0)).set_ 4 (.slice none 0 0)).set_ 5 (.slice none 0 0)).set_ 6 (.slice none 0 0)).set_ 7 (.slice none 0 0)).set_ 8 (.slice none 0 0)
        have hm9 := ((((((((hG.1.setCell (p := ⟨gb, 0, none⟩) (by simp; omega) (.string s)).setCell (p := ⟨gb, 1, none⟩) (by simp; omega) (.int .i64 r)).setCell (p := ⟨gb, 2, none⟩) (by simp; omega) (.bool b)).setCell (p := ⟨gb, 3, none⟩) (by simp; omega) (.slice none 0 0)).setCell (p := ⟨gb, 4, none⟩) (by simp; omega) (.slice none 0 0)).setCell (p := ⟨gb, 5, none⟩) (by simp; omega) (.slice none 0 0)).setCell (p := ⟨gb, 6, none⟩) (by simp; omega) (.slice none 0 0)).setCell (p := ⟨gb, 7, none⟩) (by simp; omega) (.slice none 0 0)).setCell (p := ⟨gb, 8, none⟩) (by simp; omega) (.slice none 0 0)
        have hf9 := ((((((((hG.2.setCell (p := ⟨gb, 0, none⟩) (.inr hgb) (.string s)).setCell (p := ⟨gb, 1, none⟩) (.inr hgb) (.int .i64 r)).setCell (p := ⟨gb, 2, none⟩) (.inr hgb) (.bool b)).setCell (p := ⟨gb, 3, none⟩) (.inr hgb) (.slice none 0 0)).setCell (p := ⟨gb, 4, none⟩) (.inr hgb) (.slice none 0 0)).setCell (p := ⟨gb, 5, none⟩) (.inr hgb) (.slice none 0 0)).setCell (p := ⟨gb, 6, none⟩) (.inr hgb) (.slice none 0 0)).setCell (p := ⟨gb, 7, none⟩) (.inr hgb) (.slice none 0 0)).setCell (p := ⟨gb, 8, none⟩) (.inr hgb) (.slice none 0 0)
        exact ⟨by simpa using hb9, ⟨[_], [_], rfl, ⟨_, _, rfl, Nat.le_refl _, Nat.zero_le _, RowAt.nil _ _ _ _ _⟩, ⟨_, _, rfl, Nat.le_refl _, Nat.zero_le _, RowAt.nil _ _ _ _ _⟩⟩, OwnAt.nil _ _ _ _, OwnAt.nil _ _ _ _, OwnAt.nil _ _ _ _, ⟨_, _, rfl, Nat.le_refl _, Nat.zero_le _, RowAt.nil _ _ _ _ _⟩, (by unfold I64; simp only; omega), hm9, hf9, hgb, hN, hMl⟩
      have HI0 := Lib.hid hI0
      have b0 := hbk.cell
      have b1 := hbk.frozen
      have b2 := hbk.lt
      clear hI0 hG hbk
      go_simp
      obtain ⟨w1, hw1⟩ : ∃ w1, w1 = (((((((((W.setCell ⟨gb, 0, none⟩ (.string s)).setCell ⟨gb, 1, none⟩ (.int .i64 r)).setCell ⟨gb, 2, none⟩ (.bool b)).setCell ⟨gb, 3, none⟩ (.slice none 0 0)).setCell ⟨gb, 4, none⟩ (.slice none 0 0)).setCell ⟨gb, 5, none⟩ (.slice none 0 0)).setCell ⟨gb, 6, none⟩ (.slice none 0 0)).setCell ⟨gb, 7, none⟩ (.slice none 0 0)).setCell ⟨gb, 8, none⟩ (.slice none 0 0)) := ⟨_, rfl⟩
      rw [← hw1] at HI0 ⊢
      clear hw1 b0 b1 b2 hv13 hv14
      go_wp2_with fail
      go_meet
      exact ⟨gb, rfl, s, r, b, HI0.out⟩
  case rest =>
    obtain ⟨gb, rfl, s, r, b, hI⟩ := hcut
    have HI := Lib.hid hI
    clear hI HMK
    go_upto_if 25 with (fail)
    go_cut [] (fun wx => ∃ s r b, GlyI N0 m w gb wx (.slice none 0 0) (.slice none 0 0) (.slice none 0 0) (.slice none 0 0) (.slice none 0 0) (.slice none 0 0) ⟨s, r, b, [], [], [], [], [], []⟩)
    case first =>
      by_cases hn : n = 0
      · subst hn
        have _y := HI.out.box.cell
        have _y2 := HI.out.box.frozen
        have _y3 := HI.out.box.lt
        have hI1 := HI.out.set 0 (.string ⟨#[46, 110, 111, 116, 100, 101, 102]⟩) (g' := ⟨⟨#[46, 110, 111, 116, 100, 101, 102]⟩, r, b, [], [], [], [], [], []⟩) rfl HI.out.outl HI.out.parts HI.out.anchors HI.out.deltas HI.out.hint HI.out.adv
        have hI2 := hI1.set 2 (.bool false) (g' := ⟨⟨#[46, 110, 111, 116, 100, 101, 102]⟩, r, false, [], [], [], [], [], []⟩) rfl hI1.outl hI1.parts hI1.anchors hI1.deltas hI1.hint hI1.adv
        have HI2 := Lib.hid hI2
        clear hI1 hI2
        go_wp2_with fail
        go_meet
        exact ⟨_, _, _, HI2.out⟩
      · have _hnb : (n == 0) = false := by simpa using hn
        go_wp2_with fail
        go_meet
        exact ⟨_, _, _, HI.out⟩
    case rest =>
      clear HI
      obtain ⟨s, r, b, hI⟩ := hcut
      have HI := Lib.hid hI
      clear hI
      go_wp2_with fail
      refine (outline_any N0 m _ HI.out.hmk hN).mono ?_
      rintro e w2 ⟨vp, ve, pl, el, rfl, hout, hpl, hel, hmk2, hfr2⟩
      obtain ⟨pA, pc, eA, ec, rfl, rfl⟩ := outlineR_forms hout
      have hI2 := HI.out.next hmk2 hfr2
      have y := hI2.box.cell
      have y2 := hI2.box.frozen
      have y3 := hI2.box.lt
      have hI3 : GlyI N0 m w gb ((w2.setCell ⟨gb, 3, none⟩ (.slice pA pl.length pc)).setCell ⟨gb, 4, none⟩ (.slice eA el.length ec)) (.slice pA pl.length pc) (.slice eA el.length ec) (.slice none 0 0) (.slice none 0 0) (.slice none 0 0) (.slice none 0 0) ⟨s, r, b, pl, el, [], [], [], []⟩ := by
        have hb := (hI2.box.set_ 3 (.slice pA pl.length pc)).set_ 4 (.slice eA el.length ec)
        have hM := hI2.hM
        have hob := hI2.hob
        have ho := (outlineR N0).setCell ((outlineR N0).setCell hout hI2.box (by rw [outlineR_tys]; simp) (by omega) 3 (.slice pA pl.length pc)) (hI2.box.set_ 3 (.slice pA pl.length pc)) (by rw [outlineR_tys]; simp) (by omega) 4 (.slice eA el.length ec)
        exact ⟨by simpa using hb, by rw [size_setCell, size_setCell]; exact ho, OwnAt.nil _ _ _ _, OwnAt.nil _ _ _ _, OwnAt.nil _ _ _ _, ⟨_, _, rfl, Nat.le_refl _, Nat.zero_le _, RowAt.nil _ _ _ _ _⟩, hI2.adv, (hI2.hmk.setCell (by simp; omega) _).setCell (by simp; omega) _, (hI2.fr.setCell (.inr hob) _).setCell (.inr hob) _, hob, hM⟩
      have h0 : GlyS N0 m w gb (.slice pA pl.length pc) pl.length 0 0 0 ((w2.setCell ⟨gb, 3, none⟩ (.slice pA pl.length pc)).setCell ⟨gb, 4, none⟩ (.slice eA el.length ec)) := ⟨_, _, _, _, _, _, hI3, rfl, by simp, by simp, by simp, rfl⟩
      have H0 := Lib.hid h0
      clear hI2 hI3 h0 hmk2 hfr2 hout HI
      go_upto_region 5 with (fail)
      obtain ⟨w3, hw3⟩ : ∃ w3, w3 = ((w2.setCell ⟨gb, 3, none⟩ (.slice pA pl.length pc)).setCell ⟨gb, 4, none⟩ (.slice eA el.length ec)) := ⟨_, rfl⟩
      rw [← hw3] at H0 ⊢
      clear hw3 y y2 y3
      go_cut [37] (fun v wx => ∃ bb, v = .bool bb ∧ GlyS N0 m w gb (.slice pA pl.length pc) pl.length 0 0 0 wx)
      case first =>
        obtain ⟨ve, va, vn, vd, vh, g, hI, e1, e2, e3, e4, e5⟩ := H0.out
        have HI := Lib.hid hI
        have E := Lib.hid (And.intro e1 (And.intro e2 (And.intro e3 (And.intro e4 e5))))
        clear hI e1 e2 e3 e4 e5
        by_cases hn : 1 < n
        · go_wp2_with fail
          refine (mkNext_any _ m _ HI.out.hmk (by omega) (by omega)).mono ?_
          rintro e w4 ⟨x, hx0, hx1, rfl, hmk4, hfr4, -⟩
          have hI4 := HI.out.next hmk4 hfr4
          have HI4 := Lib.hid hI4
          clear hI4 hmk4 hfr4
          go_wp2_with fail
          go_meet
          exact ⟨_, rfl, _, _, _, _, _, _, HI4.out, E.out⟩
        · go_wp2_with fail
          go_meet
          exact ⟨_, rfl, _, _, _, _, _, _, HI.out, E.out⟩
      case rest =>
        clear H0
        obtain ⟨bb, rfl, H0⟩ := hcut
        have HG := Lib.hid H0
        clear H0
        go_upto_if 37 with (fail)
        go_cut [] (fun wx => GlyS N0 m w gb (.slice pA pl.length pc) pl.length 1 0 0 wx)
        case first =>
          obtain ⟨ve, va, vn, vd, vh, g, hI, e1, e2, e3, e4, e5⟩ := HG.out
          have HI := Lib.hid hI
          have E1 := Lib.hid e1
          have E5 := Lib.hid e5
          clear hI e1 e5 HG
          cases bb with
          | false =>
            go_wp2_with fail
            go_meet
            exact ⟨_, _, _, _, _, _, HI.out, E1.out, by omega, e3, e4, E5.out⟩
          | true =>
            obtain ⟨Aa, ca, rfl, -⟩ := HI.out.parts.form
            have hId := HI.out.drew
            have hS : wc.drew.cell? ⟨gb, 5, none⟩ = some (.slice Aa g.parts.length ca) := by rw [hId.box.cell]; rfl
            go_wp2_with fail
            refine wp_region_seq (fun i => !([3, 7, 10, 11, 13] : List Nat).contains i) (fun i => ([1] : List Nat).contains i) (fun i => ([3, 7, 10] : List Nat).contains i) [0, 1, 2, 6, 3, 4, 5, 7, 8, 9, 10, 11, 12, 13] (fun w' => w'.cell? ⟨gb, 5, none⟩ = some (.slice Aa g.parts.length ca)) (by kernel_rfl) (by kernel_rfl) (by kernel_rfl) (by kernel_rfl) ?_
            refine wpSeq_pure (v := _) rfl rfl rfl (by kernel_rfl) (fun _ _ _ h => h) (fun wq => by first | (go_simp; done) | (go_simp; rfl)) ?_
            refine wpSeq_load (v := _) rfl rfl (by kernel_rfl) (fun _ _ _ h => h) hS rfl (fun wq hq => by (try dsimp only at hq); first | (go_simp; done) | (go_simp; rfl)) ?_
            refine wpSeq_pure (v := _) rfl rfl rfl (by kernel_rfl) (fun _ _ _ h => h) (fun wq => by first | (go_simp; done) | (go_simp; rfl)) ?_
            refine wpSeq_pure (v := _) rfl rfl rfl (by kernel_rfl) (fun _ _ _ h => h) (fun wq => by first | (go_simp; done) | (go_simp; rfl)) ?_
            refine wpSeq_heavy rfl rfl (fun K hK => ?_); go_simp
            refine (mkNext_any _ m _ hId.hmk (by omega) (by omega)).mono ?_
            rintro e w4 ⟨x, hx0, hx1, rfl, hmk4, hfr4, -⟩
            have hI4 := hId.next hmk4 hfr4
            dsimp only
            refine hK _ _ (fun _ => by rw [hI4.box.cell]; rfl) ?_; clear hK K
            refine wpSeq_pure (v := _) rfl rfl rfl (by kernel_rfl) (fun _ _ _ h => h) (fun wq => by first | (go_simp; done) | (go_simp; rfl)) ?_
            refine wpSeq_pure (v := _) rfl rfl rfl (by kernel_rfl) (fun _ _ _ h => h) (fun wq => by first | (go_simp; done) | (go_simp; rfl)) ?_
            refine wpSeq_heavy rfl rfl (fun K hK => ?_); go_simp
            refine (mkNext_any _ m _ hI4.hmk (by omega) (by omega)).mono ?_
            rintro e w5 ⟨y, hy0, hy1, rfl, hmk5, hfr5, -⟩
            have hI5 := hI4.next hmk5 hfr5
            dsimp only
            refine hK _ _ (fun _ => by rw [hI5.box.cell]; rfl) ?_; clear hK K
            refine wpSeq_pure (v := _) rfl rfl rfl (by kernel_rfl) (fun _ _ _ h => h) (fun wq => by first | (go_simp; done) | (go_simp; rfl)) ?_
            refine wpSeq_pure (v := _) rfl rfl rfl (by kernel_rfl) (fun _ _ _ h => h) (fun wq => by first | (go_simp; done) | (go_simp; rfl)) ?_
            refine wpSeq_heavy rfl rfl (fun K hK => ?_); go_simp
            have hI5a := hI5.alloc (.cells #[.int .i64 1, .int .i64 (IntKind.i64.wrap (IntKind.i64.wrap (x * 50) - 200)), .int .i64 (IntKind.i64.wrap (y * 50))] 126)
            refine hK _ _ (fun _ => by rw [hI5a.box.cell]; rfl) ?_; clear hK K
            refine wpSeq_heavy rfl rfl (fun K hK => ?_)
            refine step_push _ rfl (.tmp 39) (.tmp 48) _ rfl (partR N0) w.heap.size 126 i1 _ 24 Try.underlying70 ji jz0 jz1 jz2 rfl (show 0 < 3 by decide) (by rw [partR_tys]; simp) (by omega) (.slice Aa g.parts.length ca) g.parts rfl hI5a.parts w5.heap.size [_, _, _] (1, IntKind.i64.wrap (IntKind.i64.wrap (x * 50) - 200), IntKind.i64.wrap (y * 50)) rfl (Blk.new _ _ _) (partR_mk _ _ _ _ _ _ (by unfold I64; omega) (i64_wrap _) (i64_wrap _)) (by unfold maxLen; omega) (by omega) (by have := hI5a.fr.size; omega) ?_
            intro A6 c6 w6 hown6 hg6
            obtain ⟨hb6, hI6⟩ := hI5a.pushParts hown6 hg6
            have b0 := hb6.cell 5
            have _b1 := hb6.frozen 5
            have _b2 := hb6.lt
            simp only [List.getElem?_toArray, List.getElem?_cons_succ, List.getElem?_cons_zero] at b0
            refine hK _ _ (fun h => by cases h) ?_; clear hK K
            refine wpSeq_pure (v := _) rfl rfl rfl (by kernel_rfl) (fun _ _ _ h => h) (fun wq => by first | (go_simp; done) | (go_simp; rfl)) ?_
            refine wpSeq_heavy rfl rfl (fun K hK => ?_); go_simp
            refine hK _ _ (fun h => by cases h) ?_; clear hK K
            refine wpSeq_end ?_
            go_wp2_with fail
            go_meet
            exact ⟨_, _, _, _, _, _, hI6, E1.out, (by simp only [List.length_append, List.length_cons, List.length_nil]; omega), e3, e4, E5.out⟩
        case rest =>
          clear HG
          obtain ⟨ve, va, vn, vd, vh, g, hI, e1, e2, e3, e4, e5⟩ := hcut
          have HI := Lib.hid hI
          have E := Lib.hid (And.intro e1 (And.intro e2 (And.intro e3 (And.intro e4 e5))))
          clear hI e1 e2 e3 e4 e5
          go_wp2_with fail
          refine (mkNext_any _ m _ HI.out.hmk (by omega) (by omega)).mono ?_
          rintro e w4 ⟨x, hx0, hx1, rfl, hmk4, hfr4, -⟩
          have hI4 := HI.out.next hmk4 hfr4
          have hL0 : GlyL N0 m w gb w4.heap.size x (.slice pA pl.length pc) pl.length 0 (w4.alloc (.cells #[.int .i64 1, .int .i64 0, .int .i64 1, .int .i64 1, .int .i64 3, .int .i64 0, .int .i64 4, .int .i64 0, .int .i64 2, .int .i64 x] 127)) := ⟨Blk.new _ _ _, hI4.fr.size, _, _, _, _, _, _, hI4.alloc _, E.out⟩
          have HL0 := Lib.hid hL0
          clear hL0 hI4 hmk4 hfr4 HI E
          go_wp2_with fail
          go_loopw [6] (fun i wr => ∃ k : Nat, k ≤ 5 ∧ i = .int .i64 k ∧ GlyL N0 m w gb w4.heap.size x (.slice pA pl.length pc) pl.length k wr) (fun i _ => 5 - (intOf i).toNat)
          case atStart => exact ⟨0, by omega, rfl, HL0.out⟩
          case round =>
            clear HL0
            obtain ⟨k, hk, rfl, hL⟩ := hrel
            have HL := Lib.hid hL
            clear hL
            by_cases hlt : (k : Int) < 5
            · have hblk := HL.out.1
              have hkb := HL.out.2.1
              obtain ⟨kk, cc, kk0, kk1, cc0, cc1, hcell⟩ := kinds_cells hblk ⟨hx0, by omega⟩ (k := k) (by omega)
              have HCELL := Lib.hid hcell
              clear hcell hblk
              go_upto_block 1 with (fail)
              go_cut [] (fun wx => GlyL N0 m w gb w4.heap.size x (.slice pA pl.length pc) pl.length (k + 1) wx)
              case first =>
                go_upto_region 11 with (fail)
                go_cut [77] (fun v wx => ∃ bb, v = .bool bb ∧ GlyL N0 m w gb w4.heap.size x (.slice pA pl.length pc) pl.length k wx)
                case first =>
                  obtain ⟨hblk, _, ve, va, vn, vd, vh, g, hI, hE⟩ := HL.out
                  have HI := Lib.hid hI
                  have HB := Lib.hid hblk
                  have E := Lib.hid hE
                  clear hI hblk hE HL
                  go_wp2_with fail
                  refine (mkNext_any _ m _ HI.out.hmk (by omega) (by omega)).mono ?_
                  rintro e w5 ⟨z, hz0, hz1, rfl, hmk5, hfr5, -⟩
                  have hI5 := HI.out.next hmk5 hfr5
                  have hB5 := hfr5.blk HB.out (by omega)
                  have _hc5 := (HCELL.out w5 hB5).1
                  have _hl5 := hB5.lt
                  have y := hI5.box.cell 2
                  have _y2 := hI5.box.lt
                  simp only [List.getElem?_toArray, List.getElem?_cons_succ, List.getElem?_cons_zero] at y
                  have hL5 : GlyL N0 m w gb w4.heap.size x (.slice pA pl.length pc) pl.length k w5 := ⟨hB5, hkb, _, _, _, _, _, _, hI5, E.out⟩
                  have HL5 := Lib.hid hL5
                  clear hI5 hB5 hmk5 hfr5 hL5 HI HB E
                  by_cases hz : z = 0
                  · subst hz
                    by_cases hk2 : kk = 2
                    · subst hk2
                      go_wp2_with fail
                      go_meet
                      exact ⟨_, rfl, HL5.out⟩
                    · have _hkb2 : (kk != 2) = true := by simpa using hk2
                      go_wp2_with fail
                      go_meet
                      exact ⟨_, rfl, HL5.out⟩
                  · have _hzb : (z == 0) = false := by simpa using hz
                    go_wp2_with fail
                    go_meet
                    exact ⟨_, rfl, HL5.out⟩
                case rest =>
                  clear HL
                  obtain ⟨bb, rfl, hL⟩ := hcut
                  have HL := Lib.hid hL
                  clear hL
                  obtain ⟨hblk, _, ve, va, vn, vd, vh, g, hI, e1, e2, e3, e4, e5⟩ := HL.out
                  have HI := Lib.hid hI
                  have HB := Lib.hid hblk
                  have E1 := Lib.hid e1
                  have E5 := Lib.hid e5
                  clear hI hblk e1 e5 HL
                  cases bb with
                  | false =>
                    go_wp2_with fail
                    go_meet
                    exact ⟨HB.out, hkb, _, _, _, _, _, _, HI.out, E1.out, e2, by omega, e4, E5.out⟩
                  | true =>
                    obtain ⟨An, cn, rfl, -⟩ := HI.out.anchors.form
                    have hId := HI.out.drew
                    have hBd : Blk wc.drew _ _ _ := HB.out
                    have hS : (fun w' : World => w'.cell? ⟨gb, 6, none⟩ = some (.slice An g.anchors.length cn) ∧ w'.cell? ⟨w4.heap.size, k * 2, none⟩ = some (.int .i64 kk) ∧ w'.cell? ⟨w4.heap.size, k * 2 + 1, none⟩ = some (.int .i64 cc)) wc.drew := ⟨by rw [hId.box.cell]; rfl, HCELL.out _ hBd⟩
                    go_wp2_with fail
                    refine wp_region_seq (fun i => !([13, 16, 20, 21, 23] : List Nat).contains i) (fun i => ([1, 6, 11] : List Nat).contains i) (fun i => ([13, 16, 20, 21] : List Nat).contains i) [0, 1, 2, 3, 4, 5, 6, 7, 8, 9, 10, 11, 12, 15, 13, 14, 16, 17, 18, 19, 20, 21, 22, 23] (fun w' : World => w'.cell? ⟨gb, 6, none⟩ = some (.slice An g.anchors.length cn) ∧ w'.cell? ⟨w4.heap.size, k * 2, none⟩ = some (.int .i64 kk) ∧ w'.cell? ⟨w4.heap.size, k * 2 + 1, none⟩ = some (.int .i64 cc)) (by kernel_rfl) (by kernel_rfl) (by kernel_rfl) (by kernel_rfl) ?_
                    refine wpSeq_pure (v := _) rfl rfl rfl (by kernel_rfl) (fun _ _ _ h => h) (fun wq => by first | (go_simp; done) | (go_simp; rfl)) ?_
                    refine wpSeq_load (v := _) rfl rfl (by kernel_rfl) (fun _ _ _ h => h) hS rfl (fun wq hq => by obtain ⟨hq1, hq2, hq3⟩ := hq; first | (go_simp; done) | (go_simp; rfl)) ?_
                    refine wpSeq_pure (v := _) rfl rfl rfl (by kernel_rfl) (fun _ _ _ h => h) (fun wq => by first | (go_simp; done) | (go_simp; rfl)) ?_
                    refine wpSeq_pure (v := _) rfl rfl rfl (by kernel_rfl) (fun _ _ _ h => h) (fun wq => by first | (go_simp; done) | (go_simp; rfl)) ?_
                    refine wpSeq_pure (v := _) rfl rfl rfl (by kernel_rfl) (fun _ _ _ h => h) (fun wq => by first | (go_simp; done) | (go_simp; rfl)) ?_
                    refine wpSeq_pure (v := _) rfl rfl rfl (by kernel_rfl) (fun _ _ _ h => h) (fun wq => by first | (go_simp; done) | (go_simp; rfl)) ?_
                    refine wpSeq_load (v := _) rfl rfl (by kernel_rfl) (fun _ _ _ h => h) hS rfl (fun wq hq => by obtain ⟨hq1, hq2, hq3⟩ := hq; first | (go_simp; done) | (go_simp; rfl)) ?_
                    refine wpSeq_pure (v := _) rfl rfl rfl (by kernel_rfl) (fun _ _ _ h => h) (fun wq => by first | (go_simp; done) | (go_simp; rfl)) ?_
                    refine wpSeq_pure (v := _) rfl rfl rfl (by kernel_rfl) (fun _ _ _ h => h) (fun wq => by first | (go_simp; done) | (go_simp; rfl)) ?_
                    refine wpSeq_pure (v := _) rfl rfl rfl (by kernel_rfl) (fun _ _ _ h => h) (fun wq => by first | (go_simp; done) | (go_simp; rfl)) ?_
                    refine wpSeq_pure (v := _) rfl rfl rfl (by kernel_rfl) (fun _ _ _ h => h) (fun wq => by first | (go_simp; done) | (go_simp; rfl)) ?_
                    refine wpSeq_load (v := _) rfl rfl (by kernel_rfl) (fun _ _ _ h => h) hS rfl (fun wq hq => by obtain ⟨hq1, hq2, hq3⟩ := hq; first | (go_simp; done) | (go_simp; rfl)) ?_
                    refine wpSeq_pure (v := _) rfl rfl rfl (by kernel_rfl) (fun _ _ _ h => h) (fun wq => by first | (go_simp; done) | (go_simp; rfl)) ?_
                    refine wpSeq_pure (v := _) rfl rfl rfl (by kernel_rfl) (fun _ _ _ h => h) (fun wq => by first | (go_simp; done) | (go_simp; rfl)) ?_
                    refine wpSeq_heavy rfl rfl (fun K hK => ?_); go_simp
                    refine (mkNext_any _ m _ hId.hmk (by omega) (by omega)).mono ?_
                    rintro e w5 ⟨y, hy0, hy1, rfl, hmk5, hfr5, -⟩
                    have hI5 := hId.next hmk5 hfr5
                    have hB5 := hfr5.blk hBd (by omega)
                    dsimp only
                    refine hK _ _ (fun _ => ⟨by rw [hI5.box.cell]; rfl, HCELL.out _ hB5⟩) ?_; clear hK K
                    refine wpSeq_pure (v := _) rfl rfl rfl (by kernel_rfl) (fun _ _ _ h => h) (fun wq => by first | (go_simp; done) | (go_simp; rfl)) ?_
                    refine wpSeq_heavy rfl rfl (fun K hK => ?_); go_simp
                    refine (mkNext_any _ m _ hI5.hmk (by omega) (by omega)).mono ?_
                    rintro e w6 ⟨z, hz0, hz1, rfl, hmk6, hfr6, -⟩
                    have hI6 := hI5.next hmk6 hfr6
                    have hB6 := hfr6.blk hB5 (by omega)
                    dsimp only
                    refine hK _ _ (fun _ => ⟨by rw [hI6.box.cell]; rfl, HCELL.out _ hB6⟩) ?_; clear hK K
                    refine wpSeq_pure (v := _) rfl rfl rfl (by kernel_rfl) (fun _ _ _ h => h) (fun wq => by first | (go_simp; done) | (go_simp; rfl)) ?_
                    refine wpSeq_pure (v := _) rfl rfl rfl (by kernel_rfl) (fun _ _ _ h => h) (fun wq => by first | (go_simp; done) | (go_simp; rfl)) ?_
                    refine wpSeq_pure (v := _) rfl rfl rfl (by kernel_rfl) (fun _ _ _ h => h) (fun wq => by first | (go_simp; done) | (go_simp; rfl)) ?_
                    refine wpSeq_heavy rfl rfl (fun K hK => ?_); go_simp
                    have hI6a := hI6.alloc (.cells #[.int .i64 kk, .int .i64 cc, .int .i64 (IntKind.i64.wrap (y * 50)), .int .i64 (IntKind.i64.wrap (IntKind.i64.wrap (z * 50) - 200))] 130)
                    have hB6a := hB6.alloc (.cells #[.int .i64 kk, .int .i64 cc, .int .i64 (IntKind.i64.wrap (y * 50)), .int .i64 (IntKind.i64.wrap (IntKind.i64.wrap (z * 50) - 200))] 130)
                    refine hK _ _ (fun _ => ⟨by rw [hI6a.box.cell]; rfl, HCELL.out _ hB6a⟩) ?_; clear hK K
                    refine wpSeq_heavy rfl rfl (fun K hK => ?_)
                    refine step_push _ rfl (.tmp 79) (.tmp 98) _ rfl (fourR N0) w.heap.size 130 i2 _ 32 Try.underlying71 li lz0 lz1 lz2 rfl (show 0 < 4 by decide) (by rw [fourR_tys]; simp) (by omega) (.slice An g.anchors.length cn) g.anchors rfl hI6a.anchors w6.heap.size [_, _, _, _] (kk, cc, IntKind.i64.wrap (y * 50), IntKind.i64.wrap (IntKind.i64.wrap (z * 50) - 200)) rfl (Blk.new _ _ _) (fourR_mk _ _ _ _ _ _ _ (by unfold I64; omega) (by unfold I64; omega) (i64_wrap _) (i64_wrap _)) (by unfold maxLen; omega) (by omega) (by have := hI6a.fr.size; omega) ?_
                    intro A7 c7 w7 hown7 hg7
                    obtain ⟨hb7, hI7⟩ := hI6a.pushAnchors hown7 hg7
                    have hB7 := hB6a.grownOwn hI6a.anchors hg7 (by decide)
                    have b0 := hb7.cell 6
                    have _b1 := hb7.frozen 6
                    have _b2 := hb7.lt
                    simp only [List.getElem?_toArray, List.getElem?_cons_succ, List.getElem?_cons_zero] at b0
                    have _hgk : gb ≠ w4.heap.size := by
                      rintro e
                      have h1 := hb7
                      rw [e] at h1
                      unfold Blk at h1 hB7
                      rw [hB7] at h1
                      injection h1 with h1
                      injection h1 with _ h2
                      exact absurd h2 (by decide)
                    refine hK _ _ (fun _ => ⟨b0, HCELL.out _ hB7⟩) ?_; clear hK K
                    refine wpSeq_pure (v := _) rfl rfl rfl (by kernel_rfl) (fun _ _ _ h => h) (fun wq => by first | (go_simp; done) | (go_simp; rfl)) ?_
                    refine wpSeq_heavy rfl rfl (fun K hK => ?_); go_simp
                    refine hK _ _ (fun h => by cases h) ?_; clear hK K
                    refine wpSeq_end ?_
                    go_wp2_with fail
                    go_meet
                    exact ⟨hB7.far (by simp; omega) _, hkb, _, _, _, _, _, _, hI7, E1.out, e2, (by simp only [List.length_append, List.length_cons, List.length_nil]; omega), e4, E5.out⟩
              case rest =>
                have HCUT := Lib.hid hcut
                clear hcut HL HCELL
                go_wp2_with fail
                go_roundw
                case rel => exact ⟨k + 1, by omega, by go_num, HCUT.out⟩
                case measure => simp [intOf]; omega
            · have hG0 : GlyS N0 m w gb (.slice pA pl.length pc) pl.length 1 5 (11 * 0) wr := by
                obtain ⟨_, _, ve, va, vn, vd, vh, g, hI, e1, e2, e3, e4, e5⟩ := HL.out
                exact ⟨ve, va, vn, vd, vh, g, hI, e1, e2, by omega, by omega, e5⟩
              have HG0 := Lib.hid hG0
              clear hG0 HL
              go_wp2_with fail
              go_loopw [7] (fun i wr => ∃ k : Nat, k ≤ rn ∧ i = .int .i64 k ∧ GlyS N0 m w gb (.slice pA pl.length pc) pl.length 1 5 (11 * k) wr) (fun i _ => rn - (intOf i).toNat)
              case atStart => exact ⟨0, by omega, rfl, HG0.out⟩
              case round =>
                clear HG0
                obtain ⟨k2, hk2, rfl, hG⟩ := hrel
                have HG := Lib.hid hG
                clear hG
                obtain ⟨ve, va, vn, vd, vh, g, hI, hE⟩ := HG.out
                have q0 := hI.hmk.cells.1 8 (by omega)
                have q1 := hI.hmk.lt
                simp only [Nat.reduceSub, List.getElem?_toArray, List.getElem?_cons_succ, List.getElem?_cons_zero] at q0
                rw [H8.out] at q0
                clear hI hE
                by_cases hlt2 : (k2 : Int) < (rn : Int)
                · go_wp2_with fail
                  clear q0 q1
                  go_loopw [8] (fun i wr => ∃ p : Nat, p ≤ pl.length + 1 ∧ i = .int .i64 ((p : Int) - 1) ∧ GlyS N0 m w gb (.slice pA pl.length pc) pl.length 1 5 (11 * k2 + p) wr) (fun i _ => (pl.length + 1) - (intOf i + 1).toNat)
                  case atStart => exact ⟨0, by omega, rfl, HG.out⟩
                  case round =>
                    clear HG
                    obtain ⟨p, hp, rfl, hG⟩ := hrel
                    have HG := Lib.hid hG
                    clear hG
                    obtain ⟨ve, va, vn, vd, vh, g, hI, hE⟩ := HG.out
                    have q0 := hI.box.cell 3
                    have q1 := hI.box.lt
                    simp only [List.getElem?_toArray, List.getElem?_cons_succ, List.getElem?_cons_zero] at q0
                    clear hI hE
                    by_cases hlt3 : (p : Int) - 1 < (pl.length : Int)
                    · go_upto_block 5 with (fail)
                      go_cut [] (fun wx => GlyS N0 m w gb (.slice pA pl.length pc) pl.length 1 5 (11 * k2 + p + 1) wx)
                      case first =>
                        clear q0 q1
                        obtain ⟨ve, va, vn, vd, vh, g, hI, e1, e2, e3, e4, e5⟩ := HG.out
                        have HI := Lib.hid hI
                        have E1 := Lib.hid e1
                        have E5 := Lib.hid e5
                        clear hI e1 e5 HG
                        go_wp2_with fail
                        refine (mkNext_any _ m _ HI.out.hmk (by omega) (by omega)).mono ?_
                        rintro e w5 ⟨z, hz0, hz1, rfl, hmk5, hfr5, -⟩
                        have hI5 := HI.out.next hmk5 hfr5
                        have HI5 := Lib.hid hI5
                        clear hI5 hmk5 hfr5 HI
                        by_cases hz : z = 0
                        · subst hz
                          go_wp2_with fail
                          refine (mkNext_any _ m _ HI5.out.hmk (by omega) (by omega)).mono ?_
                          rintro e w6 ⟨x6, hx60, hx61, rfl, hmk6, hfr6, -⟩
                          have hI6 := HI5.out.next hmk6 hfr6
                          have hI6a := hI6.alloc (.cells #[.int .i64 k2, .int .i64 ((p : Int) - 1), .int .i64 (x6 - 20), .int .i64 0] 132)
                          have _hsz6 := hI6.fr.size
                          have hdl : ∀ k', vd.ownBlock = some k' → k' < w6.heap.size := fun _ e => (hI6.deltas.block e).2.1
                          have HDL := Lib.hid hdl
                          clear hdl
                          have h6 : ∃ y : Int, I64 y ∧ Blk (w6.alloc (.cells #[.int .i64 k2, .int .i64 ((p : Int) - 1), .int .i64 (x6 - 20), .int .i64 0] 132)) w6.heap.size 132 #[.int .i64 k2, .int .i64 ((p : Int) - 1), .int .i64 (x6 - 20), .int .i64 y] ∧ GlyI N0 m w gb (w6.alloc (.cells #[.int .i64 k2, .int .i64 ((p : Int) - 1), .int .i64 (x6 - 20), .int .i64 0] 132)) (.slice pA pl.length pc) ve va vn vd vh g := ⟨0, by unfold I64; omega, Blk.new _ _ _, hI6a⟩
                          have H6 := Lib.hid h6
                          clear hI6 hI6a h6 hmk6 hfr6 HI5
                          go_upto_if 129 with (fail)
                          obtain ⟨w7, hw7⟩ : ∃ w7, w7 = w6.alloc (.cells #[.int .i64 k2, .int .i64 ((p : Int) - 1), .int .i64 (x6 - 20), .int .i64 0] 132) := ⟨_, rfl⟩
                          rw [← hw7] at H6 ⊢
                          clear hw7
                          go_cut [] (fun wx => ∃ y : Int, I64 y ∧ Blk wx w6.heap.size 132 #[.int .i64 k2, .int .i64 ((p : Int) - 1), .int .i64 (x6 - 20), .int .i64 y] ∧ GlyI N0 m w gb wx (.slice pA pl.length pc) ve va vn vd vh g)
                          case first =>
                            by_cases hp0 : (0 : Int) ≤ (p : Int) - 1
                            · obtain ⟨y, hy, hbd, hI⟩ := H6.out
                              have HI := Lib.hid hI
                              have HB := Lib.hid hbd
                              clear hI hbd H6
                              go_wp2_with fail
                              refine (mkNext_any _ m _ HI.out.hmk (by omega) (by omega)).mono ?_
                              rintro e w8 ⟨x8, hx80, hx81, rfl, hmk8, hfr8, -⟩
                              have hI8 := HI.out.next hmk8 hfr8
                              have hB8 := hfr8.blk HB.out (by omega)
                              have b0 := hB8.cell 3
                              have _b1 := hB8.frozen 3
                              have _b2 := hB8.lt
                              simp only [List.getElem?_toArray, List.getElem?_cons_succ, List.getElem?_cons_zero] at b0
                              have hB9 := hB8.set_ 3 (.int .i64 (x8 - 20))
                              have hI9 := hI8.other hB8 (by decide) (by decide) (by rw [outlineR_tys]; simp) (by rw [partR_tys]; simp) (by rw [codeR_tys]; simp) (by omega) (fun k' e => by have := HDL.out k' e; omega) 3 (.int .i64 (x8 - 20))
                              have HI9 := Lib.hid hI9
                              have HB9 := Lib.hid hB9
                              clear hI8 hB8 hmk8 hfr8 hB9 hI9 HI HB
                              go_wp2_with fail
                              go_meet
                              exact ⟨x8 - 20, by unfold I64; omega, by simpa using HB9.out, HI9.out⟩
                            · go_wp2_with fail
                              go_meet
                              exact H6.out
                          case rest =>
                            clear H6
                            obtain ⟨y, hy, hbd, hI⟩ := hcut
                            obtain ⟨Ad, cd, rfl, -⟩ := hI.deltas.form
                            have _b0 := hbd.cell
                            have _b2 := hbd.lt
                            have d0 := hI.box.cell 7
                            have _d1 := hI.box.frozen 7
                            have _d2 := hI.box.lt
                            have _hszc := hI.fr.size
                            have _hgne : gb ≠ w6.heap.size := by
                              rintro e
                              have h1 := hI.box
                              rw [e] at h1
                              unfold Blk at h1 hbd
                              rw [hbd] at h1
                              injection h1 with h1
                              injection h1 with _ h2
                              exact absurd h2 (by decide)
                            simp only [List.getElem?_toArray, List.getElem?_cons_succ, List.getElem?_cons_zero] at d0
                            have HI := Lib.hid hI
                            have _HB := Lib.hid hbd
                            clear hI hbd
                            go_wp2_with (at_builtin; refine wpList_push _ rfl (.tmp 135) (.tmp 137) _ rfl (fourR N0) w.heap.size 132 i3 _ 32 Try.underlying72 ki kz0 kz1 kz2 rfl (show 0 < 4 by decide) (by rw [fourR_tys]; simp) (by omega) (.slice Ad g.deltas.length cd) g.deltas rfl (HI.out.alloc _).deltas wc.heap.size [_, _, _, _] ((k2 : Int), (p : Int) - 1, x6 - 20, y) rfl (Blk.new _ _ _) (fourR_mk _ _ _ _ _ _ _ (by unfold I64; omega) (by unfold I64; omega) (by unfold I64; omega) hy) (by unfold maxLen; omega) (by omega) (by simp; omega) ?_; intro A9 c9 w9 hown9 hg9; obtain ⟨hb9, hI9⟩ := (HI.out.alloc _).pushDeltas hown9 hg9; have a0 := hb9.cell 7; have _a1 := hb9.frozen 7; have a2 := hb9.lt; simp only [List.getElem?_toArray, List.getElem?_cons_succ, List.getElem?_cons_zero] at a0; have HI9 := Lib.hid hI9; clear hI9 hb9 hown9 hg9)
                            go_meet
                            exact ⟨_, _, _, _, _, _, HI9.out, E1.out, e2, e3, (by simp only [List.length_append, List.length_cons, List.length_nil]; omega), E5.out⟩
                        · have _hzb : (z == 0) = false := by simpa using hz
                          go_wp2_with fail
                          go_meet
                          exact ⟨_, _, _, _, _, _, HI5.out, E1.out, e2, e3, by omega, E5.out⟩
                      case rest =>
                        have HCUT := Lib.hid hcut
                        clear hcut HG q0 q1
                        go_wp2_with fail
                        go_roundw
                        case rel => exact ⟨p + 1, by omega, by go_num, HCUT.out⟩
                        case measure => simp [intOf]; omega
                    · have hG1 : GlyS N0 m w gb (.slice pA pl.length pc) pl.length 1 5 (11 * (k2 + 1)) wr := by
                        obtain ⟨ve, va, vn, vd, vh, g, hI, e1, e2, e3, e4, e5⟩ := HG.out
                        exact ⟨ve, va, vn, vd, vh, g, hI, e1, e2, e3, by omega, e5⟩
                      have HG1 := Lib.hid hG1
                      clear hG1
                      go_wp2_with fail
                      go_roundw
                      case rel => exact ⟨k2 + 1, by omega, by go_num, HG1.out⟩
                      case measure => simp [intOf]; omega
                · obtain ⟨ve, va, vn, vd, vh, g, hI, e1, e2, e3, e4, e5⟩ := HG.out
                  obtain ⟨Ae, ce, Ao, co, hvp, rfl⟩ := outlineR_forms hI.outl
                  obtain ⟨Aa, ca, rfl, -⟩ := hI.parts.form
                  obtain ⟨An, cn, rfl, -⟩ := hI.anchors.form
                  obtain ⟨Ad, cd, rfl, -⟩ := hI.deltas.form
                  have y0 := hI.hmk.cells.1 11 (by omega)
                  have y1 := hI.hmk.cells.2 11
                  have y2 := hI.hmk.lt
                  have hf1 : FrM m.M wr (wr.setCell ⟨m.M, 11, none⟩ (.int .i64 2)) := Fr.setCell (S := fun k => k = m.M) (p := ⟨m.M, 11, none⟩) (Fr.refl _ wr) (.inl rfl) _
                  have hI1 := hI.next (hI.hmk.setLoops 2) hf1
                  have HI1 := Lib.hid hI1
                  have E1 := Lib.hid e1
                  clear hI hI1 HG hvp e1 hf1 e5
                  go_upto_region 25 with (fail)
                  obtain ⟨w5, hw5⟩ : ∃ w5, w5 = wr.setCell ⟨m.M, 11, none⟩ (.int .i64 2) := ⟨_, rfl⟩
                  rw [← hw5] at HI1 ⊢
                  clear hw5 y0 y1 y2 q0 q1
                  go_cut [] (fun wx => ∃ (A : Option Addr) (c : Nat) (lo : Int) (l : List (Int × Int)), HintOk l ∧ 0 ≤ lo ∧ lo ≤ 2 ∧ GlyI N0 {m with c11 := .int .i64 lo} w gb wx (.slice pA pl.length pc) (.slice Ao g.ends.length co) (.slice Aa g.parts.length ca) (.slice An g.anchors.length cn) (.slice Ad g.deltas.length cd) (.slice A l.length c) {g with hint := l})
                  case first =>
                    have hId := HI1.out.drew
                    have c9 := hId.hmk.cells.1 9 (by omega)
                    simp only [Nat.reduceSub, List.getElem?_toArray, List.getElem?_cons_succ, List.getElem?_cons_zero] at c9
                    rw [H9.out] at c9
                    have hS : (fun w' : World => w'.cell? ⟨gb, 3, none⟩ = some (.slice pA pl.length pc) ∧ w'.cell? ⟨m.M, 9, none⟩ = some (.slice fA fn fc)) w5.drew := ⟨by rw [hId.box.cell]; rfl, c9⟩
                    go_wp2_with fail
                    refine wp_region_seq (fun i => !([11, 13] : List Nat).contains i) (fun i => ([3, 9] : List Nat).contains i) (fun i => ([11] : List Nat).contains i) [0, 1, 2, 3, 4, 5, 6, 7, 8, 9, 10, 11, 12, 13] (fun w' : World => w'.cell? ⟨gb, 3, none⟩ = some (.slice pA pl.length pc) ∧ w'.cell? ⟨m.M, 9, none⟩ = some (.slice fA fn fc)) (by kernel_rfl) (by kernel_rfl) (by kernel_rfl) (by kernel_rfl) ?_
                    refine wpSeq_pure (v := _) rfl rfl rfl (by kernel_rfl) (fun _ _ _ h => h) (fun wq => by first | (go_simp; done) | (go_simp; rfl)) ?_
                    refine wpSeq_pure (v := _) rfl rfl rfl (by kernel_rfl) (fun _ _ _ h => h) (fun wq => by first | (go_simp; done) | (go_simp; rfl)) ?_
                    refine wpSeq_pure (v := _) rfl rfl rfl (by kernel_rfl) (fun _ _ _ h => h) (fun wq => by first | (go_simp; done) | (go_simp; rfl)) ?_
                    refine wpSeq_load (v := _) rfl rfl (by kernel_rfl) (fun _ _ _ h => h) hS rfl (fun wq hq => by obtain ⟨hq1, hq2⟩ := hq; first | (go_simp; done) | (go_simp; rfl)) ?_
                    refine wpSeq_pure (v := _) rfl rfl rfl (by kernel_rfl) (fun _ _ _ h => h) (fun wq => by first | (go_simp; done) | (go_simp; rfl)) ?_
                    refine wpSeq_pure (v := _) rfl rfl rfl (by kernel_rfl) (fun _ _ _ h => h) (fun wq => by first | (go_simp; done) | (go_simp; rfl)) ?_
                    refine wpSeq_pure (v := _) rfl rfl rfl (by kernel_rfl) (fun _ _ _ h => h) (fun wq => by first | (go_simp; done) | (go_simp; rfl)) ?_
                    refine wpSeq_pure (v := _) rfl rfl rfl (by kernel_rfl) (fun _ _ _ h => h) (fun wq => by first | (go_simp; done) | (go_simp; rfl)) ?_
                    refine wpSeq_pure (v := _) rfl rfl rfl (by kernel_rfl) (fun _ _ _ h => h) (fun wq => by first | (go_simp; done) | (go_simp; rfl)) ?_
                    refine wpSeq_load (v := _) rfl rfl (by kernel_rfl) (fun _ _ _ h => h) hS rfl (fun wq hq => by obtain ⟨hq1, hq2⟩ := hq; first | (go_simp; done) | (go_simp; rfl)) ?_
                    refine wpSeq_pure (v := _) rfl rfl rfl (by kernel_rfl) (fun _ _ _ h => h) (fun wq => by first | (go_simp; done) | (go_simp; rfl)) ?_
                    refine wpSeq_heavy rfl rfl (fun K hK => ?_); go_simp
                    refine (hint_any N0 {m with c11 := .int .i64 2} _ (pl.length : Int) (fn : Int) 6 2 hId.hmk hN (by omega) (by omega) (by omega) (by omega) (by omega) (by omega) rfl ⟨by omega, by omega⟩).mono ?_
                    rintro e w6 ⟨l6, A6, c6, lo6, rfl, f1, f2, hrow6, hl6, hmk6, g0, g1, hfr6, hw6⟩
                    have HW6 := Lib.hid (hintOk_of hw6 g0 (by omega))
                    clear hw6
                    have hI6 := hId.next hmk6 hfr6
                    have c9' := hI6.hmk.cells.1 9 (by omega)
                    simp only [Nat.reduceSub, List.getElem?_toArray, List.getElem?_cons_succ, List.getElem?_cons_zero] at c9'
                    rw [H9.out] at c9'
                    have b0 := hI6.box.cell 8
                    have _b1 := hI6.box.frozen 8
                    have _b2 := hI6.box.lt
                    simp only [List.getElem?_toArray, List.getElem?_cons_succ, List.getElem?_cons_zero] at b0
                    have hI7 := hI6.set 8 (.slice A6 l6.length c6) (g' := {g with hint := l6}) rfl hI6.outl hI6.parts hI6.anchors hI6.deltas ⟨_, _, rfl, f1, f2, hrow6⟩ hI6.adv
                    dsimp only
                    refine hK _ _ (fun _ => ⟨by rw [hI6.box.cell]; rfl, c9'⟩) ?_; clear hK K
                    refine wpSeq_pure (v := _) rfl rfl rfl (by kernel_rfl) (fun _ _ _ h => h) (fun wq => by first | (go_simp; done) | (go_simp; rfl)) ?_
                    refine wpSeq_heavy rfl rfl (fun K hK => ?_); go_simp
                    refine hK _ _ (fun h => by cases h) ?_; clear hK K
                    refine wpSeq_end ?_
                    go_wp2_with fail
                    go_meet
                    exact ⟨A6, c6, lo6, l6, HW6.out, g0, g1, hI7⟩
                  case rest =>
                    clear HI1
                    obtain ⟨A6, c6, lo6, l6, hl6, g0, g1, hI⟩ := hcut
                    have hfr := hI.fr
                    obtain ⟨xM, hbM⟩ := HMK0.out.blk
                    have hown := HOWN.out.fr hfr hbM (glyphR_maker N0) hN
                    have hId := hI.drew
                    have hownd : OwnAt (glyphR N0) 74 base wc.drew (.slice gA gl.length gc) gl := hown.below (Below.refl _ _).drew (Nat.le_refl _)
                    have c3 := hId.hmk.cells.1 3 (by omega)
                    simp only [Nat.reduceSub, List.getElem?_toArray, List.getElem?_cons_succ, List.getElem?_cons_zero] at c3
                    rw [H3.out] at c3
                    have hS : (fun w' : World => w'.cell? ⟨m.M, 3, none⟩ = some (.slice gA gl.length gc) ∧ ∀ i, w'.cell? ⟨gb, i, none⟩ = (#[.string g.name, .int .i64 g.adv, .bool g.mark, .slice pA pl.length pc, .slice Ao g.ends.length co, .slice Aa g.parts.length ca, .slice An g.anchors.length cn, .slice Ad g.deltas.length cd, .slice A6 l6.length c6] : Array Value)[i]?) wc.drew := ⟨c3, hId.box.cell⟩
                    have _hszc := hfr.size
                    go_wp2_with fail
                    refine wp_region_seq (fun i => !([7, 8, 12] : List Nat).contains i) (fun i => ([5, 6] : List Nat).contains i) (fun i => ([7, 8] : List Nat).contains i) [0, 1, 2, 3, 4, 5, 6, 7, 8, 9, 10, 11, 12] (fun w' : World => w'.cell? ⟨m.M, 3, none⟩ = some (.slice gA gl.length gc) ∧ ∀ i, w'.cell? ⟨gb, i, none⟩ = (#[.string g.name, .int .i64 g.adv, .bool g.mark, .slice pA pl.length pc, .slice Ao g.ends.length co, .slice Aa g.parts.length ca, .slice An g.anchors.length cn, .slice Ad g.deltas.length cd, .slice A6 l6.length c6] : Array Value)[i]?) (by kernel_rfl) (by kernel_rfl) (by kernel_rfl) (by kernel_rfl) ?_
                    refine wpSeq_pure (v := _) rfl rfl rfl (by kernel_rfl) (fun _ _ _ h => h) (fun wq => by first | (go_simp; done) | (go_simp; rfl)) ?_
                    refine wpSeq_pure (v := _) rfl rfl rfl (by kernel_rfl) (fun _ _ _ h => h) (fun wq => by first | (go_simp; done) | (go_simp; rfl)) ?_
                    refine wpSeq_pure (v := _) rfl rfl rfl (by kernel_rfl) (fun _ _ _ h => h) (fun wq => by first | (go_simp; done) | (go_simp; rfl)) ?_
                    refine wpSeq_pure (v := _) rfl rfl rfl (by kernel_rfl) (fun _ _ _ h => h) (fun wq => by first | (go_simp; done) | (go_simp; rfl)) ?_
                    refine wpSeq_pure (v := _) rfl rfl rfl (by kernel_rfl) (fun _ _ _ h => h) (fun wq => by first | (go_simp; done) | (go_simp; rfl)) ?_
                    refine wpSeq_load (v := _) rfl rfl (by kernel_rfl) (fun _ _ _ h => h) hS rfl (fun wq hq => by obtain ⟨hq1, hq2⟩ := hq; first | (go_simp; done) | (go_simp; rfl)) ?_
                    refine wpSeq_load (v := _) rfl rfl (by kernel_rfl) (fun _ _ _ h => h) hS rfl (fun wq hq => by obtain ⟨hq1, hq2⟩ := hq; first | (go_simp; done) | (go_simp; rfl)) ?_
                    refine wpSeq_heavy rfl rfl (fun K hK => ?_); go_simp
                    have hIa := hId.alloc (.cells #[.string g.name, .int .i64 g.adv, .bool g.mark, .slice pA pl.length pc, .slice Ao g.ends.length co, .slice Aa g.parts.length ca, .slice An g.anchors.length cn, .slice Ad g.deltas.length cd, .slice A6 l6.length c6] 74)
                    have hca := hIa.hmk.cells.1 3 (by omega)
                    simp only [Nat.reduceSub, List.getElem?_toArray, List.getElem?_cons_succ, List.getElem?_cons_zero] at hca
                    rw [H3.out] at hca
                    refine hK _ _ (fun _ => ⟨hca, hIa.box.cell⟩) ?_; clear hK K
                    refine wpSeq_heavy rfl rfl (fun K hK => ?_)
                    have howna : OwnAt (glyphR N0) 74 base _ (.slice gA gl.length gc) gl := hownd.below ((Below.refl _ _).alloc (Nat.le_refl _) (.cells #[.string g.name, .int .i64 g.adv, .bool g.mark, .slice pA pl.length pc, .slice Ao g.ends.length co, .slice Aa g.parts.length ca, .slice An g.anchors.length cn, .slice Ad g.deltas.length cd, .slice A6 l6.length c6] 74)) (Nat.le_refl _)
                    refine step_push _ rfl (.tmp 161) (.tmp 163) _ rfl (glyphR N0) base 74 i4 _ 176 Try.underlying34 pi pz0 pz1 pz2 rfl (show 0 < 9 by decide) (glyphR_self N0) (by omega) (.slice gA gl.length gc) gl rfl howna wc.heap.size [_, _, _, _, _, _, _, _, _] {g with hint := l6} rfl (Blk.new _ _ _) hIa.rel (by unfold maxLen; omega) (by omega) (by simp; omega) ?_
                    intro A7 c7 w7 hown7 hg7
                    have hmk7 := hIa.hmk.grown howna hg7 (by decide) hb0
                    have hbox7 := hIa.box.grown hg7 (fun e => by have _h1 := (HOWN.out.block e.symm).2.1; have h2 := hIa.hob; omega)
                    have hc7 := hmk7.cells.1 3 (by omega)
                    have hz7 := hmk7.cells.2 3
                    have hl7 := hmk7.lt
                    simp only [Nat.reduceSub, List.getElem?_toArray, List.getElem?_cons_succ, List.getElem?_cons_zero] at hc7 hl7
                    rw [H3.out] at hc7
                    have hfr7 : Fr (fun k => k = m.M ∨ base ≤ k) w w7 := (((hfr.mono (S' := fun k => k = m.M ∨ base ≤ k) (fun _ _ e => .inl e)).drew).alloc _).grownS hg7 (fun _ e => .inr (howna.block e).1)
                    refine hK _ _ (fun _ => ⟨hc7, hbox7.cell⟩) ?_; clear hK K
                    refine wpSeq_pure (v := _) rfl rfl rfl (by kernel_rfl) (fun _ _ _ h => h) (fun wq => by first | (go_simp; done) | (go_simp; rfl)) ?_
                    refine wpSeq_pure (v := _) rfl rfl rfl (by kernel_rfl) (fun _ _ _ h => h) (fun wq => by first | (go_simp; done) | (go_simp; rfl)) ?_
                    refine wpSeq_pure (v := _) rfl rfl rfl (by kernel_rfl) (fun _ _ _ h => h) (fun wq => by first | (go_simp; done) | (go_simp; rfl)) ?_
                    refine wpSeq_heavy rfl rfl (fun K hK => ?_); go_simp
                    refine hK _ _ (fun h => by cases h) ?_; clear hK K
                    refine wpSeq_end ?_
                    obtain ⟨xM7, hbM7⟩ := hmk7.blk
                    have hfin : GlyPost N0 m base gl w (.returned (.tuple #[])) (w7.setCell ⟨m.M, 3, none⟩ (.slice A7 (gl.length + 1) c7)) := ⟨_, A7, c7, _, lo6, rfl, hown7.setCell hbM7 (glyphR_maker N0) hN _ _, hmk7.set3 _, g0, g1, by have := E1.out; simp only; omega, hl6, hfr7.setCell (.inl (.inl rfl)) _⟩
                    have HF := Lib.hid hfin
                    obtain ⟨w8, hw8⟩ : ∃ w8, w8 = w7.setCell ⟨m.M, 3, none⟩ (.slice A7 (gl.length + 1) c7) := ⟨_, rfl⟩
                    rw [← hw8] at HF ⊢
                    clear hw8 hfin hfr7 hc7 hz7 hl7 hbM7 hbox7 hmk7 hown7 hg7 howna hIa hca hS hownd hId hown hfr hI
                    go_wp2
                    refine bodyPost_end (v := .tuple #[]) (by simp [results, Try.results38, go_sem]) rfl ?_
                    exact HF.out
end Go.Proofs.Ytnalbkjbidaojaa

/- The law ComposeOwn: its walk. Expanded from XCwO.src by expand.py. -/
import Derived.Test.YtoklllbaihccnaaCwV
set_option linter.unusedVariables false
set_option linter.unusedSimpArgs false
namespace Go.Proofs.Ytoklllbaihccnaa
open Go.RowKit Go.Shelf
/-- while what was told is written over: the font's block, the outline's, the four rows, each with its base; the older blocks are as they were -/
structure OwI (W3 : World) (fb ob b5 b6 : Nat) (fc oc : Array Value) (pA eA lA uA : Option Addr) (np pc ne ec nl lc nu uc : Nat) (W : World) : Prop where
  font : Blk W fb 32 fc
  out : Blk W ob 39 oc
  below : Below W3.heap.size W3 W
  fbl : fb < W3.heap.size
  b35 : W3.heap.size ≤ b5
  b56 : b5 ≤ b6
  pts : ∃ xs, W.ownsRow W3.heap.size 59 3 (.slice pA np pc) np xs ∧ xs.length = np * 3
  ends : ∃ xs, W.ownsRow W3.heap.size 3 1 (.slice eA ne ec) ne xs ∧ ∀ b, (Value.slice eA ne ec).ownBlock = some b → b < b5
  l : ∃ xs, W.ownsRow b5 3 1 (.slice lA nl lc) nl xs ∧ ∀ b, (Value.slice lA nl lc).ownBlock = some b → b < b6
  all : ∃ xs, W.ownsRow b6 3 1 (.slice uA nu uc) nu xs
section
variable {W3 W : World} {fb ob b5 b6 : Nat} {fc oc : Array Value} {pA eA lA uA : Option Addr} {np pc ne ec nl lc nu uc : Nat}
theorem blk_set {W : World} {b g : Nat} {t : TypeId} {cs : Array Value} (h : Blk W b t cs) (hne : b ≠ g) (j : Nat) (u : Value) : Blk (W.setCell ⟨g, j, none⟩ u) b t cs := (Below.heap_setCell W ⟨g, j, none⟩ u b hne).trans h
theorem own_set {W : World} {base size n g : Nat} {t : TypeId} {v : Value} {xs : List Value} (h : W.ownsRow base t size v n xs) (hne : ∀ b, v.ownBlock = some b → b ≠ g) (j : Nat) (u : Value) : (W.setCell ⟨g, j, none⟩ u).ownsRow base t size v n xs :=
  owns_keep h fun b hb => Below.heap_setCell W ⟨g, j, none⟩ u b (hne b hb)
theorem OwI.setP {g : Nat} (h : OwI W3 fb ob b5 b6 fc oc (some ⟨g, 0, none⟩) eA lA uA np pc ne ec nl lc nu uc W) (j : Nat) (u : Value) : OwI W3 fb ob b5 b6 fc oc (some ⟨g, 0, none⟩) eA lA uA np pc ne ec nl lc nu uc (W.setCell ⟨g, j, none⟩ u) := by
  obtain ⟨xs, hx, hxl⟩ := h.pts
  obtain ⟨hg, hgl, cs, hb⟩ := owns_block hx rfl
  obtain ⟨ys, hy, hyb⟩ := h.ends
  obtain ⟨zs, hz, hzb⟩ := h.l
  obtain ⟨vs, hv⟩ := h.all
  exact ⟨blk_set h.font (fun e => Nat.lt_irrefl _ (Nat.lt_of_lt_of_le (e ▸ h.fbl) hg)) j u, blk_set h.out (fun e => by subst e; have := hb.symm.trans h.out; simp at this) j u, h.below.setCell (p := ⟨g, j, none⟩) hg u, h.fbl, h.b35, h.b56,
    ⟨_, owns_setRow hx j u, by rw [List.length_set]; exact hxl⟩, ⟨_, owns_set hy hb (by decide) j u, hyb⟩, ⟨_, owns_set hz hb (by decide) j u, hzb⟩, ⟨_, owns_set hv hb (by decide) j u⟩⟩
theorem OwI.setE {g : Nat} (h : OwI W3 fb ob b5 b6 fc oc pA (some ⟨g, 0, none⟩) lA uA np pc ne ec nl lc nu uc W) (j : Nat) (u : Value) : OwI W3 fb ob b5 b6 fc oc pA (some ⟨g, 0, none⟩) lA uA np pc ne ec nl lc nu uc (W.setCell ⟨g, j, none⟩ u) := by
  obtain ⟨xs, hx, hxl⟩ := h.pts
  obtain ⟨ys, hy, hyb⟩ := h.ends
  obtain ⟨hg, hgl, cs, hb⟩ := owns_block hy rfl
  have hg5 := hyb g rfl
  obtain ⟨zs, hz, hzb⟩ := h.l
  obtain ⟨vs, hv⟩ := h.all
  have h56 := h.b56
  exact ⟨blk_set h.font (fun e => Nat.lt_irrefl _ (Nat.lt_of_lt_of_le (e ▸ h.fbl) hg)) j u, blk_set h.out (fun e => by subst e; have := hb.symm.trans h.out; simp at this) j u, h.below.setCell (p := ⟨g, j, none⟩) hg u, h.fbl, h.b35, h.b56,
    ⟨_, owns_set hx hb (by decide) j u, hxl⟩, ⟨_, owns_setRow hy j u, hyb⟩, ⟨_, own_set hz (fun b e => by have := (owns_block hz e).1; exact Nat.ne_of_gt (Nat.lt_of_lt_of_le hg5 this)) j u, hzb⟩, ⟨_, own_set hv (fun b e => by have := (owns_block hv e).1; exact Nat.ne_of_gt (Nat.lt_of_lt_of_le hg5 (Nat.le_trans h56 this))) j u⟩⟩
theorem OwI.setL {g : Nat} (h : OwI W3 fb ob b5 b6 fc oc pA eA (some ⟨g, 0, none⟩) uA np pc ne ec nl lc nu uc W) (j : Nat) (u : Value) : OwI W3 fb ob b5 b6 fc oc pA eA (some ⟨g, 0, none⟩) uA np pc ne ec nl lc nu uc (W.setCell ⟨g, j, none⟩ u) := by
  obtain ⟨xs, hx, hxl⟩ := h.pts
  obtain ⟨ys, hy, hyb⟩ := h.ends
  obtain ⟨zs, hz, hzb⟩ := h.l
  obtain ⟨hg, hgl, cs, hb⟩ := owns_block hz rfl
  have hg6 := hzb g rfl
  obtain ⟨vs, hv⟩ := h.all
  have hg3 := Nat.le_trans h.b35 hg
  exact ⟨blk_set h.font (fun e => Nat.lt_irrefl _ (Nat.lt_of_lt_of_le (e ▸ h.fbl) hg3)) j u, blk_set h.out (fun e => by subst e; have := hb.symm.trans h.out; simp at this) j u, h.below.setCell (p := ⟨g, j, none⟩) hg3 u, h.fbl, h.b35, h.b56,
    ⟨_, owns_set hx hb (by decide) j u, hxl⟩, ⟨_, own_set hy (fun b e => Nat.ne_of_lt (Nat.lt_of_lt_of_le (hyb b e) hg)) j u, hyb⟩, ⟨_, owns_setRow hz j u, hzb⟩, ⟨_, own_set hv (fun b e => by have := (owns_block hv e).1; exact Nat.ne_of_gt (Nat.lt_of_lt_of_le hg6 this)) j u⟩⟩
theorem OwI.setA {g : Nat} (h : OwI W3 fb ob b5 b6 fc oc pA eA lA (some ⟨g, 0, none⟩) np pc ne ec nl lc nu uc W) (j : Nat) (u : Value) : OwI W3 fb ob b5 b6 fc oc pA eA lA (some ⟨g, 0, none⟩) np pc ne ec nl lc nu uc (W.setCell ⟨g, j, none⟩ u) := by
  obtain ⟨xs, hx, hxl⟩ := h.pts
  obtain ⟨ys, hy, hyb⟩ := h.ends
  obtain ⟨zs, hz, hzb⟩ := h.l
  obtain ⟨vs, hv⟩ := h.all
  obtain ⟨hg, hgl, cs, hb⟩ := owns_block hv rfl
  have hg5 := Nat.le_trans h.b56 hg
  have hg3 := Nat.le_trans h.b35 hg5
  exact ⟨blk_set h.font (fun e => Nat.lt_irrefl _ (Nat.lt_of_lt_of_le (e ▸ h.fbl) hg3)) j u, blk_set h.out (fun e => by subst e; have := hb.symm.trans h.out; simp at this) j u, h.below.setCell (p := ⟨g, j, none⟩) hg3 u, h.fbl, h.b35, h.b56,
    ⟨_, owns_set hx hb (by decide) j u, hxl⟩, ⟨_, own_set hy (fun b e => Nat.ne_of_lt (Nat.lt_of_lt_of_le (hyb b e) hg5)) j u, hyb⟩, ⟨_, own_set hz (fun b e => Nat.ne_of_lt (Nat.lt_of_lt_of_le (hzb b e) hg)) j u, hzb⟩, ⟨_, owns_setRow hv j u⟩⟩
end
set_option maxRecDepth 100000 in
set_option maxHeartbeats 4000000 in
theorem own4_walk (s : List Int) (A : Option Addr) (c : Nat) (m0 : Int) (w : World) (hs : Reads w w.heap.size 1 A s.length (ints s)) (hi : ∀ x ∈ s, I64 x) :
    Calls Try.prog 9 #[.slice A s.length c, .int .i64 m0] w fun e w' => e = .returned (.bool true) ∧ Below w.heap.size w w' := by
  have HS := Lib.hid hs
  have HI := Lib.hid hi
  clear hs hi
  go_enter Try.func9, Try.ntmps9
  go_wp2_with fail
  refine (awake_any _).mono ?_
  rintro e w1 ⟨rfl, hg1⟩
  have HG1 := Lib.hid (hg1.below (Nat.le_refl _))
  clear hg1
  go_wp2_with fail
  refine (made_any s false A c w.heap.size w1 (HS.out.keep fun p hp => HG1.out.cell hp) HI.out HG1.out.size).mono ?_
  rintro e w2 ⟨gA, gc, rfl, hf1, hg2⟩
  have hB2 := HG1.out.trans (hg2.below HG1.out.size)
  have HTL := Lib.hid (M4.made_tlF s false)
  obtain ⟨gl, hgl⟩ : ∃ gl, M4.made s false = gl := ⟨_, rfl⟩
  have hlen := M4.made_len s false
  have hnum := M4.num_in s
  rw [hgl] at hf1 hlen HTL ⊢
  obtain ⟨n, hn⟩ : ∃ n, n = gl.length := ⟨_, rfl⟩
  rw [← hn] at hlen ⊢
  have hn12 : 1 ≤ n ∧ n ≤ 12 := by omega
  have HGL := Lib.hid hgl
  have HN := Lib.hid hn
  have HF1 := Lib.hid hf1
  clear hg2 hf1 hgl hn hlen hnum
  go_upto_region 3 with fail
  obtain ⟨W3, hW3⟩ : ∃ W3, w2.alloc (.cells (Fv.cs (fvC gA n gc)) 32) = W3 := ⟨_, rfl⟩
  have hX3 : Blk W3 w2.heap.size 32 (Fv.cs (fvC gA n gc)) := by rw [← hW3]; exact Blk.new _ _ _
  have hB23 : Below w2.heap.size w2 W3 := by rw [← hW3]; exact (Below.refl _ _).alloc (Nat.le_refl _) _
  have HB3 := Lib.hid (hB2.trans (hB23.mono hB2.size))
  have HF3 := Lib.hid ((HF1.out.keep fun p hp => hB23.cell hp).more hB23.size)
  have HX3 := Lib.hid hX3
  have hs3 : W3.heap.size = w2.heap.size + 1 := by rw [← hW3]; simp
  have HS3 := Lib.hid hs3
  rw [show w2.alloc (.cells #[.int .i64 0, .slice gA n gc, .slice none 0 0, .slice none 0 0, .slice none 0 0, .slice none 0 0, .slice none 0 0, .slice none 0 0, .slice none 0 0] 32) = W3 from hW3]
  have y0 := hX3.cell 0
  have y1 := hX3.cell 1
  have y2 := hX3.cell 2
  have y3 := hX3.cell 3
  have y4 := hX3.cell 4
  have y5 := hX3.cell 5
  have y6 := hX3.cell 6
  have y7 := hX3.cell 7
  have y8 := hX3.cell 8
  have yl := hX3.lt
  simp only [List.getElem?_toArray, List.getElem?_cons_zero, List.getElem?_cons_succ] at y0 y1 y2 y3 y4 y5 y6 y7 y8
  clear hW3 hX3 hB2 hB23 hs3
  go_wp2_with fail
  refine (lrest4_any m0 n _ (by omega) (by omega)).mono ?_
  rintro e w' ⟨rfl, rfl⟩
  obtain ⟨g, hg⟩ : ∃ g : Nat, (g : Int) = m0 % n := ⟨(m0 % n).toNat, by have := Int.emod_nonneg m0 (show (n : Int) ≠ 0 by omega); omega⟩
  have hgn : g < n := by have := Int.emod_lt_of_pos m0 (show (0 : Int) < n by omega); omega
  rw [← hg]
  clear hg
  go_wp2_with fail
  refine (flat_any (fvC gA n gc) gl g W3 HN.out HF3.out.fat (by have := HN.out; omega) (by unfold I64; omega) (fvC_one _ _ _) (Dp.flat_bdG HTL.out g)).mono ?_
  rintro e w4 ⟨pv, ev, rfl, hol, hb4⟩
  obtain ⟨o, ho⟩ : ∃ o, (Dp.flat gl g).1 = o := ⟨_, rfl⟩
  obtain ⟨fE, hfE⟩ : ∃ fE, (Dp.flat gl g).2 = fE := ⟨_, rfl⟩
  have hfw := Dp.flat_fewG HTL.out g
  have hbad : fE ≠ 0 → o = ([], []) := fun h => by rw [← ho]; exact Dp.flat_bad (by rw [hfE]; exact h)
  rw [ho] at hol hfw
  rw [hfE]
  obtain ⟨pA, pc, eA, ec, rfl, rfl, _⟩ := hol.ne
  have HBAD := Lib.hid hbad
  have HFW := Lib.hid hfw
  have HX4 := Lib.hid (HX3.out.on hb4)
  have HB4 := Lib.hid hb4
  have HOL := Lib.hid hol
  clear ho hfE hfw hbad hol hb4 y0 y1 y2 y3 y4 y5 y6 y7 y8 yl
  go_upto_region 5 with fail
  obtain ⟨W5, hW5⟩ : ∃ W5, w4.alloc (.cells #[.slice pA o.1.length pc, .slice eA o.2.length ec] 39) = W5 := ⟨_, rfl⟩
  have hO5 : Blk W5 w4.heap.size 39 #[.slice pA o.1.length pc, .slice eA o.2.length ec] := by rw [← hW5]; exact Blk.new _ _ _
  have hX5 : Blk W5 w2.heap.size 32 (fvC gA n gc).cs := by rw [← hW5]; exact HX4.out.alloc _
  have hB5 : Below W3.heap.size W3 W5 := by rw [← hW5]; exact HB4.out.alloc HB4.out.size _
  have hL5 : OlOwn W5 W3.heap.size (.slice pA o.1.length pc) (.slice eA o.2.length ec) o := by rw [← hW5]; exact HOL.out.grow ((Fr.refl _ _).alloc _)
  rw [hW5]
  clear hW5
  have HO5 := Lib.hid hO5
  have HX5 := Lib.hid hX5
  have HB5 := Lib.hid hB5
  have HL5 := Lib.hid hL5
  have y0 := hX5.cell 0
  have y1 := hX5.cell 1
  have y2 := hX5.cell 2
  have y3 := hX5.cell 3
  have y4 := hX5.cell 4
  have y5 := hX5.cell 5
  have y6 := hX5.cell 6
  have y7 := hX5.cell 7
  have y8 := hX5.cell 8
  have yl := hX5.lt
  simp only [List.getElem?_toArray, List.getElem?_cons_zero, List.getElem?_cons_succ] at y0 y1 y2 y3 y4 y5 y6 y7 y8
  clear hO5 hX5 hB5 hL5
  go_wp2_with fail
  refine (order_any (fvC gA n gc) gl W5 HN.out ((HF3.out.fat.below HB5.out (Nat.le_refl _)).more HB5.out.size) (by have := HN.out; omega) (fvC_one _ _ _)).mono ?_
  rintro e w6 ⟨tv, rfl, hrow, hb6⟩
  obtain ⟨oL, oN, oE, ho⟩ : ∃ a b d, Fo.order gl = (a, b, d) := ⟨_, _, _, rfl⟩
  rw [ho] at hrow ⊢
  simp only at hrow
  obtain ⟨lA, lc, rfl, hlc, hlm⟩ := owns_form hrow
  have HLM := Lib.hid (show oL.length ≤ maxLen by omega)
  have HO6 := Lib.hid (HO5.out.on hb6)
  have HS65 := Lib.hid hb6.size
  have HX6 := Lib.hid (HX5.out.on hb6)
  have HB6 := Lib.hid (HB5.out.trans (hb6.mono HB5.out.size))
  have HL6 := Lib.hid (HL5.out.grow (Fr.of_below hb6 fun k hk _ => hk))
  have HR6 := Lib.hid hrow
  clear hb6 hrow hlc hlm ho y0 y1 y2 y3 y4 y5 y6 y7 y8 yl
  have y0 := HX6.out.cell 0
  have y1 := HX6.out.cell 1
  have y2 := HX6.out.cell 2
  have y3 := HX6.out.cell 3
  have y4 := HX6.out.cell 4
  have y5 := HX6.out.cell 5
  have y6 := HX6.out.cell 6
  have y7 := HX6.out.cell 7
  have y8 := HX6.out.cell 8
  have yl := HX6.out.lt
  simp only [List.getElem?_toArray, List.getElem?_cons_zero, List.getElem?_cons_succ] at y0 y1 y2 y3 y4 y5 y6 y7 y8
  go_wp2_with fail
  refine (all_any (fvC gA n gc) gl g w6 HN.out ((HF3.out.fat.below HB6.out (Nat.le_refl _)).more HB6.out.size) (by have := HN.out; omega) (by unfold I64; omega) (fvC_one _ _ _)).mono ?_
  rintro e w7 ⟨uv, rfl, hown, hb7⟩
  obtain ⟨aL, haL⟩ : ∃ aL, Wk.all gl g = aL := ⟨_, rfl⟩
  rw [haL] at hown
  obtain ⟨uA, uc, rfl, huc, hum⟩ := owns_form hown
  have HUM := Lib.hid (show aL.length ≤ maxLen by omega)
  have HO7 := Lib.hid (HO6.out.on hb7)
  have HX7 := Lib.hid (HX6.out.on hb7)
  have HB7 := Lib.hid (HB6.out.trans (hb7.mono HB6.out.size))
  have HL7 := Lib.hid (HL6.out.grow (Fr.of_below hb7 fun k hk _ => hk))
  have HR7 := Lib.hid (owns_grow HR6.out (Fr.of_below hb7 fun k hk _ => hk))
  have HU7 := Lib.hid hown
  clear hb7 hown huc hum haL y0 y1 y2 y3 y4 y5 y6 y7 y8 yl
  go_wp2_with fail
  have hOw : OwI W3 w2.heap.size w4.heap.size W5.heap.size w6.heap.size (fvC gA n gc).cs #[.slice pA o.1.length pc, .slice eA o.2.length ec] pA eA lA uA o.1.length pc o.2.length ec oL.length lc aL.length uc w7 :=
    ⟨HX7.out, HO7.out, HB7.out, by have := HS3.out; omega, HB5.out.size, HS65.out, ⟨_, HL7.out.pts, HL7.out.pts.1⟩, ⟨_, HL7.out.ends, fun b hb => (owns_block HL5.out.ends hb).2.1⟩, ⟨_, HR7.out, fun b hb => (owns_block HR6.out hb).2.1⟩, ⟨_, HU7.out⟩⟩
  go_loopw [14] (fun i wr => ∃ k : Nat, k ≤ o.1.length ∧ i = .int .i64 k ∧ OwI W3 w2.heap.size w4.heap.size W5.heap.size w6.heap.size (fvC gA n gc).cs #[.slice pA o.1.length pc, .slice eA o.2.length ec] pA eA lA uA o.1.length pc o.2.length ec oL.length lc aL.length uc wr) (fun i _ => o.1.length - (intOf i).toNat)
  case atStart => exact ⟨0, Nat.zero_le _, rfl, hOw⟩
  case round =>
    obtain ⟨k, hk, rfl, hI⟩ := hrel
    have HIW := Lib.hid hI
    have z0 := hI.out.cell 0
    have z1 := hI.out.cell 1
    have zl := hI.out.lt
    simp only [List.getElem?_toArray, List.getElem?_cons_zero, List.getElem?_cons_succ] at z0 z1
    by_cases hkn : k < o.1.length
    · obtain ⟨xs, hx, hxl⟩ := hI.pts
      obtain ⟨pb, pc', hv, _, _, pl, hcell⟩ := owns_at hx (by omega)
      injection hv with hv1 hv2 hv3
      subst hv1
      clear hv2 hv3
      obtain ⟨_, _, cs, hbk⟩ := owns_block hx rfl
      obtain ⟨x, hxk⟩ : ∃ x, xs[k * 3]? = some x := ⟨_, List.getElem?_eq_getElem (by rw [hxl]; omega)⟩
      have p0 := hcell _ _ hxk
      have pf := hbk.frozen (k * 3)
      have hd1 : decide (k < o.1.length) = true := decide_eq_true hkn
      have hlen := HFW.out.1
      clear hI hx hxl hcell hbk hxk hOw
      go_wp2_with fail
      exact ⟨⟨k + 1, by omega, by simp, HIW.out.setP _ _⟩, by simp only [intOf]; omega⟩
    · have hd1 : decide (k < o.1.length) = false := decide_eq_false hkn
      clear hI hOw
      go_wp2_with fail
      have hlen2 := HFW.out.2
      have HIO := HIW
      clear HIW
      go_loopw [15] (fun i wr => ∃ k : Nat, k ≤ o.2.length ∧ i = .int .i64 k ∧ OwI W3 w2.heap.size w4.heap.size W5.heap.size w6.heap.size (fvC gA n gc).cs #[.slice pA o.1.length pc, .slice eA o.2.length ec] pA eA lA uA o.1.length pc o.2.length ec oL.length lc aL.length uc wr) (fun i _ => o.2.length - (intOf i).toNat)
      case atStart => exact ⟨0, Nat.zero_le _, rfl, HIO.out⟩
      case round =>
        obtain ⟨k, hk, rfl, hI⟩ := hrel
        have HIW := Lib.hid hI
        have z0 := hI.out.cell 0
        have z1 := hI.out.cell 1
        have zl := hI.out.lt
        simp only [List.getElem?_toArray, List.getElem?_cons_zero, List.getElem?_cons_succ] at z0 z1
        by_cases hkn : k < o.2.length
        · obtain ⟨xs, hx, _⟩ := hI.ends
          obtain ⟨pb, pc', hv, _, _, pl, hcell⟩ := owns_at hx (by omega)
          injection hv with hv1 hv2 hv3
          subst hv1
          clear hv2 hv3
          obtain ⟨_, _, cs, hbk⟩ := owns_block hx rfl
          obtain ⟨x, hxk⟩ : ∃ x, xs[k]? = some x := ⟨_, List.getElem?_eq_getElem (by have := hx.1; omega)⟩
          have p0 := hcell _ _ hxk
          have pf := hbk.frozen k
          have hd1 : decide (k < o.2.length) = true := decide_eq_true hkn
          clear hI hx hcell hbk hxk
          go_wp2_with fail
          exact ⟨⟨k + 1, by omega, by simp, HIW.out.setE _ _⟩, by simp only [intOf]; omega⟩
        · have hd1 : decide (k < o.2.length) = false := decide_eq_false hkn
          clear hI
          go_wp2_with fail
          have hlen3 := HLM.out
          unfold maxLen at hlen3
          have HIO := HIW
          clear HIW
          go_loopw [16] (fun i wr => ∃ k : Nat, k ≤ oL.length ∧ i = .int .i64 k ∧ OwI W3 w2.heap.size w4.heap.size W5.heap.size w6.heap.size (fvC gA n gc).cs #[.slice pA o.1.length pc, .slice eA o.2.length ec] pA eA lA uA o.1.length pc o.2.length ec oL.length lc aL.length uc wr) (fun i _ => oL.length - (intOf i).toNat)
          case atStart => exact ⟨0, Nat.zero_le _, rfl, HIO.out⟩
          case round =>
            obtain ⟨k, hk, rfl, hI⟩ := hrel
            have HIW := Lib.hid hI
            have z0 := hI.out.cell 0
            have z1 := hI.out.cell 1
            have zl := hI.out.lt
            simp only [List.getElem?_toArray, List.getElem?_cons_zero, List.getElem?_cons_succ] at z0 z1
            by_cases hkn : k < oL.length
            · obtain ⟨xs, hx, _⟩ := hI.l
              obtain ⟨pb, pc', hv, _, _, pl, hcell⟩ := owns_at hx (by omega)
              injection hv with hv1 hv2 hv3
              subst hv1
              clear hv2 hv3
              obtain ⟨_, _, cs, hbk⟩ := owns_block hx rfl
              obtain ⟨x, hxk⟩ : ∃ x, xs[k]? = some x := ⟨_, List.getElem?_eq_getElem (by have := hx.1; omega)⟩
              have p0 := hcell _ _ hxk
              have pf := hbk.frozen k
              have hd1 : decide (k < oL.length) = true := decide_eq_true hkn
              clear hI hx hcell hbk hxk
              go_wp2_with fail
              exact ⟨⟨k + 1, by omega, by simp, HIW.out.setL _ _⟩, by simp only [intOf]; omega⟩
            · have hd1 : decide (k < oL.length) = false := decide_eq_false hkn
              clear hI
              go_wp2_with fail
              have hlen4 := HUM.out
              unfold maxLen at hlen4
              have HIO := HIW
              clear HIW
              go_loopw [17] (fun i wr => ∃ k : Nat, k ≤ aL.length ∧ i = .int .i64 k ∧ OwI W3 w2.heap.size w4.heap.size W5.heap.size w6.heap.size (fvC gA n gc).cs #[.slice pA o.1.length pc, .slice eA o.2.length ec] pA eA lA uA o.1.length pc o.2.length ec oL.length lc aL.length uc wr) (fun i _ => aL.length - (intOf i).toNat)
              case atStart => exact ⟨0, Nat.zero_le _, rfl, HIO.out⟩
              case round =>
                obtain ⟨k, hk, rfl, hI⟩ := hrel
                have HIW := Lib.hid hI
                have z0 := hI.out.cell 0
                have z1 := hI.out.cell 1
                have zl := hI.out.lt
                simp only [List.getElem?_toArray, List.getElem?_cons_zero, List.getElem?_cons_succ] at z0 z1
                by_cases hkn : k < aL.length
                · obtain ⟨xs, hx⟩ := hI.all
                  obtain ⟨pb, pc', hv, _, _, pl, hcell⟩ := owns_at hx (by omega)
                  injection hv with hv1 hv2 hv3
                  subst hv1
                  clear hv2 hv3
                  obtain ⟨_, _, cs, hbk⟩ := owns_block hx rfl
                  obtain ⟨x, hxk⟩ : ∃ x, xs[k]? = some x := ⟨_, List.getElem?_eq_getElem (by have := hx.1; omega)⟩
                  have p0 := hcell _ _ hxk
                  have pf := hbk.frozen k
                  have hd1 : decide (k < aL.length) = true := decide_eq_true hkn
                  clear hI hx hcell hbk hxk
                  go_wp2_with fail
                  exact ⟨⟨k + 1, by omega, by simp, HIW.out.setA _ _⟩, by simp only [intOf]; omega⟩
                · have hd1 : decide (k < aL.length) = false := decide_eq_false hkn
                  clear hI
                  go_wp2_with fail
                  have hBr := HB3.out.trans (HIW.out.below.mono HB3.out.size)
                  refine (made_any s false A c w.heap.size wr (HS.out.keep fun p hp => hBr.cell hp) HI.out hBr.size).mono ?_
                  rintro e w8 ⟨gA8, gc8, rfl, hf8, hg8⟩
                  rw [HGL.out] at hf8 ⊢
                  rw [← HN.out]
                  have HF8 := Lib.hid hf8
                  have hg8b := hg8.below (Nat.le_refl _)
                  have HX8 := Lib.hid (HIW.out.font.on hg8b)
                  have HO8 := Lib.hid (HIW.out.out.on hg8b)
                  have HB8 := Lib.hid (HIW.out.below.trans (hg8b.mono HIW.out.below.size))
                  clear hf8 hg8 hg8b hBr z0 z1 zl
                  go_upto_region 24 with fail
                  obtain ⟨W9, hW9⟩ : ∃ W9, w8.alloc (.cells (Fv.cs (fvC gA8 n gc8)) 32) = W9 := ⟨_, rfl⟩
                  have hV9 : Blk W9 w8.heap.size 32 (Fv.cs (fvC gA8 n gc8)) := by rw [← hW9]; exact Blk.new _ _ _
                  have hB89 : Below w8.heap.size w8 W9 := by rw [← hW9]; exact (Below.refl _ _).alloc (Nat.le_refl _) _
                  have HV9 := Lib.hid hV9
                  have HX9 := Lib.hid (HX8.out.on hB89)
                  have HO9 := Lib.hid (HO8.out.on hB89)
                  have HB9 := Lib.hid (HB8.out.trans (hB89.mono HB8.out.size))
                  have HF9 := Lib.hid ((HF8.out.keep fun p hp => hB89.cell hp).more hB89.size)
                  rw [show w8.alloc (.cells #[.int .i64 0, .slice gA8 n gc8, .slice none 0 0, .slice none 0 0, .slice none 0 0, .slice none 0 0, .slice none 0 0, .slice none 0 0, .slice none 0 0] 32) = W9 from hW9]
                  clear hW9 hV9 hB89
                  go_wp2_with fail
                  go_loopw [19] (fun i wr => ∃ k : Nat, k ≤ n ∧ i = .int .i64 k ∧ Blk wr w8.heap.size 32 (Fv.cs (fvC gA8 n gc8)) ∧ Blk wr w2.heap.size 32 (fvC gA n gc).cs ∧ Below W9.heap.size W9 wr) (fun i _ => n - (intOf i).toNat)
                  case atStart => exact ⟨0, Nat.zero_le _, rfl, HV9.out, HX9.out, Below.refl _ _⟩
                  case round =>
                    obtain ⟨k, hk, rfl, hv, hx, hb⟩ := hrel
                    have HV := Lib.hid hv
                    have HX := Lib.hid hx
                    have HB := Lib.hid hb
                    have z1 := hx.cell 1
                    have x1 := hv.cell 1
                    have hx1 := hx
                    simp only [List.getElem?_toArray, List.getElem?_cons_zero, List.getElem?_cons_succ] at z1 x1
                    by_cases hkn : k < n
                    · obtain ⟨q, hq⟩ : ∃ q, gl[k]? = some q := ⟨_, List.getElem?_eq_getElem (by have := HN.out; omega)⟩
                      have hF0 := ((HF3.out.fat.below HB9.out (Nat.le_refl _)).below HB.out HB9.out.size)
                      have hF1 := (HF9.out.fat.below HB.out (Nat.le_refl _))
                      have hn0 : W3.heap.size ≤ wr.heap.size := Nat.le_trans HB9.out.size HB.out.size
                      obtain ⟨b, off, pA1, pc1, eA1, ec1, e1, _, c3, c4, l3, l4, r3, r4, ⟨l5, _⟩, l6, _⟩ := hF0.outline hq
                      obtain ⟨b', off', pA2, pc2, eA2, ec2, e2, _, c3', c4', m3, m4, s3, s4, _⟩ := hF1.outline hq
                      subst e1 e2
                      have hd1 : decide (k < n) = true := decide_eq_true hkn
                      clear hv hx hb hF0 hF1 hx1
                      go_upto_region 27 with fail
                      have hS : wr.drew.cell? ⟨w2.heap.size, 1, none⟩ = some (.slice (some ⟨b, off, none⟩) n gc) ∧ wr.drew.cell? ⟨b, off + k * 9 + 3, none⟩ = some (.slice pA1 q.pts.length pc1) ∧ wr.drew.cell? ⟨b, off + k * 9 + 4, none⟩ = some (.slice eA1 q.ends.length ec1) ∧ wr.drew.cell? ⟨w8.heap.size, 1, none⟩ = some (.slice (some ⟨b', off', none⟩) n gc8) ∧ wr.drew.cell? ⟨b', off' + k * 9 + 3, none⟩ = some (.slice pA2 q.pts.length pc2) ∧ wr.drew.cell? ⟨b', off' + k * 9 + 4, none⟩ = some (.slice eA2 q.ends.length ec2) := ⟨z1, c3, c4, x1, c3', c4'⟩
                      refine wp_region_seqT (fun i => !([12] : List Nat).contains i) (fun i => ([1, 5, 7, 11] : List Nat).contains i) (fun i => ([] : List Nat).contains i) [0, 1, 2, 3, 4, 5, 6, 7, 8, 9, 10, 11, 12, 13] (fun wq : World => wq.cell? ⟨w2.heap.size, 1, none⟩ = some (.slice (some ⟨b, off, none⟩) n gc) ∧ wq.cell? ⟨b, off + k * 9 + 3, none⟩ = some (.slice pA1 q.pts.length pc1) ∧ wq.cell? ⟨b, off + k * 9 + 4, none⟩ = some (.slice eA1 q.ends.length ec1) ∧ wq.cell? ⟨w8.heap.size, 1, none⟩ = some (.slice (some ⟨b', off', none⟩) n gc8) ∧ wq.cell? ⟨b', off' + k * 9 + 3, none⟩ = some (.slice pA2 q.pts.length pc2) ∧ wq.cell? ⟨b', off' + k * 9 + 4, none⟩ = some (.slice eA2 q.ends.length ec2)) (by kernel_rfl) (by kernel_rfl) (by kernel_rfl) (by kernel_rfl) ?_
                      iterate 12 (first | refine wpSeq_pureA (v := _) rfl rfl rfl ?_ | refine wpSeq_loadA (v := _) rfl rfl hS rfl ?_)
                      refine wpSeq_heavy rfl rfl (fun K hK => ?_); go_simp
                      refine (same4_any pA1 eA1 pA2 eA2 pc1 ec1 pc2 ec2 wr.heap.size (q.pts, q.ends) (q.pts, q.ends) wr.drew (r3.more hn0) (r4.more hn0) (s3.more HB.out.size) (s4.more HB.out.size) (Nat.le_refl _) l5 l6 l6 l5).mono ?_
                      rintro e w10 ⟨rfl, hg10⟩
                      rw [show decide (((q.pts, q.ends) : Ol) = (q.pts, q.ends)) = true from decide_eq_true rfl]
                      have hb10 := hg10.below (Nat.le_refl _)
                      have HV10 := Lib.hid ((Blk.drew HV.out).on hb10)
                      have HX10 := Lib.hid ((Blk.drew HX.out).on hb10)
                      have HB10 := Lib.hid (HB.out.drew.trans (hb10.mono HB.out.drew.size))
                      clear hg10 hb10
                      refine hK _ _ (fun h => by cases h) ?_; clear hK K
                      iterate 1 (first | refine wpSeq_pureA (v := _) rfl rfl rfl ?_ | refine wpSeq_loadA (v := _) rfl rfl hS rfl ?_)
                      refine wpSeq_end ?_
                      go_wp2_with fail
                      exact ⟨⟨k + 1, by omega, by simp, HV10.out, HX10.out, HB10.out⟩, by simp only [intOf]; omega⟩
                    · have hd1 : decide (k < n) = false := decide_eq_false hkn
                      have HOr := Lib.hid (HO9.out.on HB.out)
                      have v0 := HOr.out.cell 0
                      simp only [List.getElem?_toArray, List.getElem?_cons_zero, List.getElem?_cons_succ] at v0
                      clear hv hx hb hx1
                      have y0 := HX.out.cell 0
                      have y1 := HX.out.cell 1
                      have y2 := HX.out.cell 2
                      have y3 := HX.out.cell 3
                      have y4 := HX.out.cell 4
                      have y5 := HX.out.cell 5
                      have y6 := HX.out.cell 6
                      have y7 := HX.out.cell 7
                      have y8 := HX.out.cell 8
                      have yl := HX.out.lt
                      simp only [List.getElem?_toArray, List.getElem?_cons_zero, List.getElem?_cons_succ] at y0 y1 y2 y3 y4 y5 y6 y7 y8
                      have hF0 := ((HF3.out.fat.below HB9.out (Nat.le_refl _)).below HB.out HB9.out.size)
                      have HFr := Lib.hid (hF0.more (Nat.le_trans HB9.out.size HB.out.size))
                      clear hF0
                      by_cases hE : fE = 0
                      · have hE1 : (fE == 0) = true := by simpa using hE
                        have HE := Lib.hid hE
                        clear hE
                        go_wp2_with fail
                        refine (tells_any gA n gc gl wr HN.out HFr.out hn12.2 HTL.out).mono ?_
                        rintro e w10 ⟨rfl, hb10⟩
                        have hO10 := HOr.out.on hb10
                        have v0 := hO10.cell 0
                        simp only [List.getElem?_toArray, List.getElem?_cons_zero, List.getElem?_cons_succ] at v0
                        have HB10 := Lib.hid (HB.out.trans (hb10.mono HB.out.size))
                        clear hb10 hO10
                        go_wp2_with fail
                        go_ret
                        exact ⟨by first | rfl | trivial | simp [hE1], HB3.out.trans ((HB9.out.trans (HB10.out.mono HB9.out.size)).mono HB3.out.size)⟩
                      · have hE1 : (fE == 0) = false := by simpa using hE
                        have hE2 : o.1.length = 0 := by rw [HBAD.out hE]; rfl
                        clear hE
                        go_wp2_with fail
                        refine (tells_any gA n gc gl wr HN.out HFr.out hn12.2 HTL.out).mono ?_
                        rintro e w10 ⟨rfl, hb10⟩
                        have hO10 := HOr.out.on hb10
                        have v0 := hO10.cell 0
                        simp only [List.getElem?_toArray, List.getElem?_cons_zero, List.getElem?_cons_succ] at v0
                        have HB10 := Lib.hid (HB.out.trans (hb10.mono HB.out.size))
                        clear hb10 hO10
                        go_wp2_with fail
                        go_ret
                        exact ⟨by first | rfl | trivial | simp [hE1], HB3.out.trans ((HB9.out.trans (HB10.out.mono HB9.out.size)).mono HB3.out.size)⟩
end Go.Proofs.Ytoklllbaihccnaa

/- The reference's flat: its contract. Expanded from XCrH.src by expand.py. -/
import Derived.Test.YtoklllbaihccnaaCrA
import Derived.Deep.CutBlock
set_option linter.unusedVariables false
set_option linter.unusedSimpArgs false
namespace Go.Proofs.Ytoklllbaihccnaa
open Go.RowKit Go.Shelf
/-- what lies within flat: the font, the result's cells, the outline that is made -/
structure FlI (w : World) (A : Option Addr) (n c : Nat) (o : Ol) (pv ev : Value) (W : World) : Prop where
  font : Blk W w.heap.size 32 (fvC A n c).cs
  res : Blk W (w.heap.size + 1) 39 #[.slice none 0 0, .slice none 0 0]
  box : Blk W (w.heap.size + 1 + 1) 39 #[pv, ev]
  own : OlOwn W w.heap.size pv ev o
  below : Below w.heap.size w W
section
variable {w W W1 : World} {A : Option Addr} {n c : Nat} {o : Ol} {pv ev v' : Value}
theorem FlI.grow (h : FlI w A n c o pv ev W) (hg : Grow W W1) : FlI w A n c o pv ev W1 :=
  ⟨hg.blk h.font fun x => x, hg.blk h.res fun x => x, hg.blk h.box fun x => x, h.own.grow hg, h.below.trans (Grow.below hg h.below.size)⟩
theorem FlI.drew (h : FlI w A n c o pv ev W) : FlI w A n c o pv ev W.drew :=
  ⟨h.font.drew, h.res.drew, h.box.drew, ⟨owns_keep h.own.pts fun _ _ => rfl, owns_keep h.own.ends fun _ _ => rfl⟩, h.below.drew⟩
theorem opts_app (l l' : List P3) : opts (l ++ l') = opts l ++ opts l' := by simp [opts]
theorem FlI.pushP (h : FlI w A n c o pv ev W) {l : List P3} (ho : W1.ownsRow w.heap.size 59 3 v' (o.1.length + l.length) (opts o.1 ++ opts l)) (hg : W.grownBy W1 pv.ownBlock) :
    Blk W1 (w.heap.size + 1 + 1) 39 #[pv, ev] ∧ FlI w A n c (o.1 ++ l, o.2) v' ev (W1.setCell ⟨w.heap.size + 1 + 1, 0, none⟩ v') := by
  have hk := grown_others h.own.pts hg
  have hb := hk _ _ _ h.box (by decide)
  refine ⟨hb, (hk _ _ _ h.font (by decide)).far (p := ⟨w.heap.size + 1 + 1, 0, none⟩) (by simp only; omega) _, (hk _ _ _ h.res (by decide)).far (p := ⟨w.heap.size + 1 + 1, 0, none⟩) (by simp only; omega) _, by have := hb.set_ 0 v'; simpa using this, ⟨?_, ?_⟩, ?_⟩
  · show World.ownsRow _ _ _ _ _ (o.1 ++ l).length (opts (o.1 ++ l))
    rw [opts_app, List.length_append]
    exact owns_set ho hb (by decide) 0 v'
  · refine owns_set (owns_keep h.own.ends fun b e => ?_) hb (by decide) 0 v'
    obtain ⟨_, _, cs', hb'⟩ := owns_block h.own.ends e
    rw [show W1.heap[b]? = _ from hk b _ _ hb' (by decide)]; exact hb'.symm
  · exact (h.below.grown hg h.below.size fun b e => (owns_block h.own.pts e).1).setCell (p := ⟨w.heap.size + 1 + 1, 0, none⟩) (by simp only; omega) _
theorem FlI.pushE (h : FlI w A n c o pv ev W) {l : List Int} (ho : W1.ownsRow w.heap.size 3 1 v' (o.2.length + l.length) (ints o.2 ++ ints l)) (hg : W.grownBy W1 ev.ownBlock) :
    Blk W1 (w.heap.size + 1 + 1) 39 #[pv, ev] ∧ FlI w A n c (o.1, o.2 ++ l) pv v' (W1.setCell ⟨w.heap.size + 1 + 1, 1, none⟩ v') := by
  have hk := grown_others h.own.ends hg
  have hb := hk _ _ _ h.box (by decide)
  refine ⟨hb, (hk _ _ _ h.font (by decide)).far (p := ⟨w.heap.size + 1 + 1, 1, none⟩) (by simp only; omega) _, (hk _ _ _ h.res (by decide)).far (p := ⟨w.heap.size + 1 + 1, 1, none⟩) (by simp only; omega) _, by have := hb.set_ 1 v'; simpa using this, ⟨?_, ?_⟩, ?_⟩
  · refine owns_set (owns_keep h.own.pts fun b e => ?_) hb (by decide) 1 v'
    obtain ⟨_, _, cs', hb'⟩ := owns_block h.own.pts e
    rw [show W1.heap[b]? = _ from hk b _ _ hb' (by decide)]; exact hb'.symm
  · show World.ownsRow _ _ _ _ _ (o.2 ++ l).length (ints (o.2 ++ l))
    rw [show ints (o.2 ++ l) = ints o.2 ++ ints l by simp [ints], List.length_append]
    exact owns_set ho hb (by decide) 1 v'
  · exact (h.below.grown hg h.below.size fun b e => (owns_block h.own.ends e).1).setCell (p := ⟨w.heap.size + 1 + 1, 1, none⟩) (by simp only; omega) _
end
/-- .. and within the round of a part: the parts, the part's outline -/
structure FxI (w : World) (A : Option Addr) (n c : Nat) (o : Ol) (pv ev : Value) (P : List Prt) (qv : Value) (xb : Nat) (X : Ol) (xp xe : Value) (W : World) : Prop where
  fl : FlI w A n c o pv ev W
  parts : W.ownsRow w.heap.size 48 3 qv P.length (prts P)
  xbx : Blk W xb 39 #[xp, xe]
  xow : OlOwn W w.heap.size xp xe X
  ap1 : Apart pv xp
  ap2 : Apart ev xe
  ne : xb ≠ w.heap.size + 1 + 1
section
variable {w W W1 : World} {A : Option Addr} {n c xb : Nat} {o X : Ol} {pv ev v' qv xp xe : Value} {P : List Prt}
theorem FxI.grow (h : FxI w A n c o pv ev P qv xb X xp xe W) (hg : Grow W W1) : FxI w A n c o pv ev P qv xb X xp xe W1 :=
  ⟨h.fl.grow hg, owns_grow h.parts hg, hg.blk h.xbx fun x => x, h.xow.grow hg, h.ap1, h.ap2, h.ne⟩
theorem FxI.drew (h : FxI w A n c o pv ev P qv xb X xp xe W) : FxI w A n c o pv ev P qv xb X xp xe W.drew :=
  ⟨h.fl.drew, owns_keep h.parts fun _ _ => rfl, h.xbx.drew, ⟨owns_keep h.xow.pts fun _ _ => rfl, owns_keep h.xow.ends fun _ _ => rfl⟩, h.ap1, h.ap2, h.ne⟩
theorem FxI.intro (h : FlI w A n c o pv ev W) (hp : W.ownsRow w.heap.size 48 3 qv P.length (prts P)) (hb : Below W.heap.size W W1) (hx : Blk W1 xb 39 #[xp, xe]) (hxb : W.heap.size ≤ xb) (how : OlOwn W1 W.heap.size xp xe X) : FxI w A n c o pv ev P qv xb X xp xe W1 := by
  have hg : Grow W W1 := Fr.of_below hb fun k hk _ => hk
  refine ⟨h.grow hg, owns_grow hp hg, hx, how.mono h.below.size, fun g h1 h2 => ?_, fun g h1 h2 => ?_, ?_⟩
  · have := (owns_block h.own.pts h1).2.1
    have := (owns_block how.pts h2).1
    omega
  · have := (owns_block h.own.ends h1).2.1
    have := (owns_block how.ends h2).1
    omega
  · have := h.box.lt
    omega
theorem FxI.pushP (h : FxI w A n c o pv ev P qv xb X xp xe W) {l : List P3} (ho : W1.ownsRow w.heap.size 59 3 v' (o.1.length + l.length) (opts o.1 ++ opts l)) (hg : W.grownBy W1 pv.ownBlock) (hn : v'.ownBlock = pv.ownBlock ∨ v'.ownBlock = some W.heap.size) :
    Blk W1 (w.heap.size + 1 + 1) 39 #[pv, ev] ∧ FxI w A n c (o.1 ++ l, o.2) v' ev P qv xb X xp xe (W1.setCell ⟨w.heap.size + 1 + 1, 0, none⟩ v') := by
  obtain ⟨hb, hf⟩ := h.fl.pushP ho hg
  have hk := grown_others h.fl.own.pts hg
  have kp : ∀ {base size m : Nat} {t : TypeId} {u : Value} {xs : List Value}, W.ownsRow base t size u m xs → t ≠ 59 → W1.ownsRow base t size u m xs := fun hu ht => owns_keep hu fun b e => by
    obtain ⟨_, _, cs', hb'⟩ := owns_block hu e
    rw [show W1.heap[b]? = _ from hk b _ _ hb' ht]; exact hb'.symm
  exact ⟨hb, hf, owns_set (kp h.parts (by decide)) hb (by decide) 0 v', (hk _ _ _ h.xbx (by decide)).far (p := ⟨w.heap.size + 1 + 1, 0, none⟩) h.ne _, ⟨owns_set (owns_grownBy h.xow.pts hg h.ap1.symm) hb (by decide) 0 v', owns_set (kp h.xow.ends (by decide)) hb (by decide) 0 v'⟩, apart_pushed h.xow.pts h.ap1 hn, h.ap2, h.ne⟩
theorem FxI.pushE (h : FxI w A n c o pv ev P qv xb X xp xe W) {l : List Int} (ho : W1.ownsRow w.heap.size 3 1 v' (o.2.length + l.length) (ints o.2 ++ ints l)) (hg : W.grownBy W1 ev.ownBlock) (hn : v'.ownBlock = ev.ownBlock ∨ v'.ownBlock = some W.heap.size) :
    Blk W1 (w.heap.size + 1 + 1) 39 #[pv, ev] ∧ FxI w A n c (o.1, o.2 ++ l) pv v' P qv xb X xp xe (W1.setCell ⟨w.heap.size + 1 + 1, 1, none⟩ v') := by
  obtain ⟨hb, hf⟩ := h.fl.pushE ho hg
  have hk := grown_others h.fl.own.ends hg
  have kp : ∀ {base size m : Nat} {t : TypeId} {u : Value} {xs : List Value}, W.ownsRow base t size u m xs → t ≠ 3 → W1.ownsRow base t size u m xs := fun hu ht => owns_keep hu fun b e => by
    obtain ⟨_, _, cs', hb'⟩ := owns_block hu e
    rw [show W1.heap[b]? = _ from hk b _ _ hb' ht]; exact hb'.symm
  exact ⟨hb, hf, owns_set (kp h.parts (by decide)) hb (by decide) 1 v', (hk _ _ _ h.xbx (by decide)).far (p := ⟨w.heap.size + 1 + 1, 1, none⟩) h.ne _, ⟨owns_set (kp h.xow.pts (by decide)) hb (by decide) 1 v', owns_set (owns_grownBy h.xow.ends hg h.ap2.symm) hb (by decide) 1 v'⟩, h.ap1, apart_pushed h.xow.ends h.ap2 hn, h.ne⟩
end
theorem own_eq {w : World} {B : Nat} {A : Option Addr} {gl : List Gl} (hf : FAt w B A gl) {g : Nat} {gg : Gl} (hg : gl[g]? = some gg) : Dp.ownO gl (g : Int) = (gg.pts, gg.ends) := by
  obtain ⟨_, _, _, _, _, _, _, _, _, _, _, _, _, _, ⟨_, h⟩, _⟩ := hf.outline hg
  unfold Dp.ownO
  rw [Int.toNat_natCast, hg]
  exact Prod.ext (Dp.mv_id h) rfl
set_option maxRecDepth 100000 in
set_option maxHeartbeats 4000000 in
theorem rflat_any (A : Option Addr) (n c : Nat) (gl : List Gl) (hn : n = gl.length) (h12 : n ≤ 12) (G t : List Int) (hT : Ln.Told gl G t) (hbd : ∀ y ∈ t, (Dp.lrn ([], []) (Dp.flatF gl) t y).1.length ≤ 90000 ∧ (Dp.lrn ([], []) (Dp.flatF gl) t y).2.length ≤ 90000) :
    ∀ (r g : Nat) (w : World), t.idxOf (g : Int) < r → (g : Int) ∈ t → g < n → FAt w w.heap.size A gl →
    Calls Try.prog 51 #[.agg (fvC A n c).cs, .int .i64 g] w fun e w' => ∃ pv ev, e = .returned (.agg #[pv, ev]) ∧ OlOwn w' w.heap.size pv ev (Dp.lrn ([], []) (Dp.flatF gl) t g) ∧ Below w.heap.size w w' := by
  intro r
  induction r with
  | zero => intro g w h; omega
  | succ r ih =>
    intro g w hr hgt hg hf
    obtain ⟨gg, hgg⟩ : ∃ gg, gl[g]? = some gg := ⟨_, List.getElem?_eq_getElem (by omega)⟩
    obtain ⟨b, off, oA, oc, uA, uc, rfl, hb, hc3, hc4, hoc, huc, hop, hue, ⟨hol1, _⟩, hel1, _⟩ := hf.outline hgg
    have hown := own_eq hf hgg
    have hlr : Dp.lrn ([], []) (Dp.flatF gl) t g = Dp.flatOf (Dp.lrn ([], []) (Dp.flatF gl) t) (gg.pts, gg.ends) (partsOf gl g) := by
      rw [Dp.lrn_told (Dp.loc_flat gl) hT hgt]
      unfold Dp.flatF
      rw [hown, Int.toNat_natCast]
    obtain ⟨K, hK⟩ : ∃ K, Dp.lrn ([], []) (Dp.flatF gl) t = K := ⟨_, rfl⟩
    rw [hK] at hlr
    have hfb : (K g).1.length ≤ 90000 ∧ (K g).2.length ≤ 90000 := by rw [← hK]; exact hbd g hgt
    rw [hlr] at hfb
    rw [hK, hlr]
    obtain ⟨ol, holn⟩ : ∃ ol, ol = gg.pts.length := ⟨_, rfl⟩
    obtain ⟨el, heln⟩ : ∃ el, el = gg.ends.length := ⟨_, rfl⟩
    rw [← holn] at hc3 hop hoc hol1
    rw [← heln] at hc4 hue huc hel1
    have HF := Lib.hid hf
    have HN := Lib.hid hn
    have HR := Lib.hid hr
    have HGT := Lib.hid hgt
    have HFB := Lib.hid hfb
    have HK := Lib.hid hK
    have HOP := Lib.hid hop
    have HUE := Lib.hid hue
    have HC3 := Lib.hid hc3
    have HC4 := Lib.hid hc4
    have HOLN := Lib.hid holn
    have HELN := Lib.hid heln
    have HIH := Lib.hid ih
    obtain ⟨i1, hi0, hi1, hi2, hi3⟩ := info_m info_point
    obtain ⟨j1, hj0, hj1, hj2, hj3⟩ := info_m info_int
    clear hf hn hr hgt hfb hK hop hue hc3 hc4 holn heln ih hown hlr hgg
    go_enter Try.func51, Try.ntmps51
    go_wp2_with fail
    obtain ⟨W1, hW1⟩ : ∃ W1, ((w.alloc (.cells (fvC (some ⟨b, off, none⟩) n c).cs 32)).alloc (.cells #[.slice none 0 0, .slice none 0 0] 39)).alloc (.cells #[.slice none 0 0, .slice none 0 0] 39) = W1 := ⟨_, rfl⟩
    have hI1 : FlI w (some ⟨b, off, none⟩) n c ([], []) (.slice none 0 0) (.slice none 0 0) W1 := by
      rw [← hW1]
      exact ⟨((Blk.new _ _ _).alloc _).alloc _, (Blk.new_at _ _ _ (by simp)).alloc _, Blk.new_at _ _ _ (by simp), ⟨owns_nil _ _ _ _, owns_nil _ _ _ _⟩, (((Below.refl _ _).alloc (Nat.le_refl _) _).alloc (by simp) _).alloc (by simp; omega) _⟩
    rw [hW1]
    have HI1 := Lib.hid hI1
    clear hW1 hI1
    have a0 := HI1.out.box.cell 0
    have y1 := HI1.out.font.cell 1
    simp only [List.getElem?_toArray, List.getElem?_cons_zero, List.getElem?_cons_succ] at a0 y1
    have c3 := (HI1.out.below.cell (p := ⟨b, off + g * 9 + 3, none⟩) hb).trans HC3.out
    have hxb : w.heap.size < W1.heap.size := HI1.out.font.lt
    have hRP := Lib.hid (HOP.out.keep fun p hp => HI1.out.below.cell hp)
    go_still_tail 9, (by kernel_rfl)
    change wpList _ _ _ _ _ W1.drew
    go_upto_region 3 with (at_builtin; go_loud (refine wpList_append_any _ rfl (.tmp 14) (.tmp 21) _ rfl w.heap.size 59 i1 _ 3 24 Try.underlying37 hi0 hi1 hi2 hi3 rfl (by decide) (.slice none 0 0) 0 [] rfl (owns_nil _ _ _ _) w.heap.size oA ol oc (opts gg.pts) rfl hRP.out (opts_one _) (by unfold maxLen; omega) (by omega) (Nat.le_of_lt hxb) ?_); intro v' w6 hrow hg hnew; rw [Nat.zero_add, List.nil_append] at hrow; go_loud (have hP := HI1.out.drew.pushP (l := gg.pts) (show World.ownsRow _ _ _ _ _ (0 + gg.pts.length) ([] ++ opts gg.pts) by rw [Nat.zero_add, List.nil_append, ← HOLN.out]; exact hrow) hg); obtain ⟨pA, pc, hve, _⟩ := owns_form hrow; subst hve; have t0 := hP.1.cell 0; have tf := hP.1.frozen 0; have tl := hP.1.lt; simp only [List.getElem?_toArray, List.getElem?_cons_zero, List.getElem?_cons_succ] at t0; have HP := Lib.hid hP.2; clear hrow hg hnew hP a0 y1 c3)
    obtain ⟨V, hV⟩ : ∃ V, w6.setCell ⟨w.heap.size + 1 + 1, 0, none⟩ (.slice pA ol pc) = V := ⟨_, rfl⟩
    rw [hV]
    have hI2 : FlI w (some ⟨b, off, none⟩) n c (gg.pts, []) (.slice pA ol pc) (.slice none 0 0) V := by rw [← hV]; exact HP.out
    have HI2 := Lib.hid hI2
    clear hV hI2 HP t0 tf tl HI1 hRP hxb
    have a1 := HI2.out.box.cell 1
    have y1 := HI2.out.font.cell 1
    simp only [List.getElem?_toArray, List.getElem?_cons_zero, List.getElem?_cons_succ] at a1 y1
    have c4 := (HI2.out.below.cell (p := ⟨b, off + g * 9 + 4, none⟩) hb).trans HC4.out
    have c4' : V.cell? ⟨b, off + g * 9 + 3 + 1, none⟩ = some (.slice uA el uc) := c4
    have hxb : w.heap.size < V.heap.size := HI2.out.font.lt
    have hRE := Lib.hid (HUE.out.keep fun p hp => HI2.out.below.cell hp)
    go_still_tail 9, (by kernel_rfl)
    change wpList _ _ _ _ _ V.drew
    go_upto_region 4 with (at_builtin; go_loud (refine wpList_append_any _ rfl (.tmp 25) (.tmp 32) _ rfl w.heap.size 3 j1 _ 1 8 Try.underlying22 hj0 hj1 hj2 hj3 rfl (by decide) (.slice none 0 0) 0 [] rfl (owns_nil _ _ _ _) w.heap.size uA el uc (ints gg.ends) rfl hRE.out (ints_one _) (by unfold maxLen; omega) (by omega) (Nat.le_of_lt hxb) ?_); intro v' w7 hrow hg hnew; rw [Nat.zero_add, List.nil_append] at hrow; go_loud (have hP := HI2.out.drew.pushE (l := gg.ends) (show World.ownsRow _ _ _ _ _ (0 + gg.ends.length) ([] ++ ints gg.ends) by rw [Nat.zero_add, List.nil_append, ← HELN.out]; exact hrow) hg); obtain ⟨eA, ec, hve, _⟩ := owns_form hrow; subst hve; have t0 := hP.1.cell 1; have tf := hP.1.frozen 1; have tl := hP.1.lt; simp only [List.getElem?_toArray, List.getElem?_cons_zero, List.getElem?_cons_succ] at t0; have HP := Lib.hid hP.2; clear hrow hg hnew hP a1 y1 c4 c4')
    obtain ⟨V2, hV⟩ : ∃ V2, w7.setCell ⟨w.heap.size + 1 + 1, 1, none⟩ (.slice eA el ec) = V2 := ⟨_, rfl⟩
    rw [hV]
    have hI3 : FlI w (some ⟨b, off, none⟩) n c (gg.pts, gg.ends) (.slice pA ol pc) (.slice eA el ec) V2 := by rw [← hV]; exact HP.out
    have HI3 := Lib.hid hI3
    have y0 := hI3.font.cell 0
    have y1 := hI3.font.cell 1
    have y2 := hI3.font.cell 2
    have y3 := hI3.font.cell 3
    have y4 := hI3.font.cell 4
    have y5 := hI3.font.cell 5
    have y6 := hI3.font.cell 6
    have y7 := hI3.font.cell 7
    have y8 := hI3.font.cell 8
    have yl := hI3.font.lt
    simp only [List.getElem?_toArray, List.getElem?_cons_zero, List.getElem?_cons_succ] at y0 y1 y2 y3 y4 y5 y6 y7 y8
    clear hV hI3 HP t0 tf tl HI2 hRE hxb
    go_wp2_with fail
    refine (rparts_any (some ⟨b, off, none⟩) n c g gl V2 HN.out ((HF.out.below HI3.out.below (Nat.le_refl _)).more HI3.out.below.size) h12 hg).mono ?_
    rintro e w5 ⟨qv, rfl, hrp, hb5⟩
    obtain ⟨P, hP⟩ : ∃ P, partsOf gl g = P := ⟨_, rfl⟩
    rw [hP] at hrp
    obtain ⟨m, hm⟩ : ∃ m, m = P.length := ⟨_, rfl⟩
    rw [← hm] at hrp
    obtain ⟨qA, qc, rfl, hqc, _⟩ := owns_form hrp
    have hm1000 : m ≤ 1000 := by rw [hm, ← hP]; exact parts_few HF.out g
    have HI5 := Lib.hid (HI3.out.grow (Fr.of_below hb5 fun k hk _ => hk))
    have HRP := Lib.hid (owns_mono hrp HI3.out.below.size)
    have HP := Lib.hid hP
    have HM := Lib.hid hm
    clear hrp hb5 hP hm y0 y1 y2 y3 y4 y5 y6 y7 y8 yl HI3
    go_wp2_with fail
    go_loopw [7] (fun i wr => ∃ k : Nat, k ≤ m ∧ i = .int .i64 k ∧ (∃ pv ev, FlI w (some ⟨b, off, none⟩) n c (Dp.flatOf K (gg.pts, gg.ends) (P.take k)) pv ev wr) ∧ wr.ownsRow w.heap.size 48 3 (.slice qA m qc) m (prts P)) (fun i _ => m - (intOf i).toNat)
    case atStart => exact ⟨0, Nat.zero_le _, rfl, ⟨_, _, HI5.out⟩, HRP.out⟩
    case round =>
      obtain ⟨k, hk, rfl, ⟨pv, ev, hI⟩, hro⟩ := hrel
      by_cases hkm : k < m
      · obtain ⟨⟨pg, px, py⟩, hpk⟩ : ∃ p, P[k]? = some p := ⟨_, List.getElem?_eq_getElem (by have := HM.out; omega)⟩
        obtain ⟨c1, c2, c3⟩ := prts_at hpk
        have hpm : (pg, px, py) ∈ partsOf gl ((g : Nat) : Int).toNat := by rw [Int.toNat_natCast, HP.out]; exact List.mem_of_getElem? hpk
        have hrk := hT.rank HGT.out hpm
        have hpin := (mem_psOf hpm).2
        simp only at hpin hrk
        obtain ⟨q, rfl⟩ := Int.eq_ofNat_of_zero_le hpin.1
        have hqn : q < n := by have := HN.out; omega
        have hcall := HIH.out q
        obtain ⟨X, hX⟩ : ∃ X, Dp.lrn ([], []) (Dp.flatF gl) t (q : Int) = X := ⟨_, rfl⟩
        rw [hX] at hcall
        have hKX : K (q : Int) = X := by rw [← HK.out]; exact hX
        obtain ⟨o, ho⟩ : ∃ o, Dp.flatOf K (gg.pts, gg.ends) (P.take k) = o := ⟨_, rfl⟩
        rw [ho] at hI
        have htk : Dp.flatOf K (gg.pts, gg.ends) (P.take (k + 1)) = behindO o X ((q : Int), px, py) := by rw [List.take_add_one, hpk]; show Dp.flatOf K _ (P.take k ++ [_]) = _; rw [Dp.flatOf_snoc, ho, hKX]
        have hlen : o.1.length + X.1.length ≤ 90000 ∧ o.2.length + X.2.length ≤ 90000 := by
          have h1 := HFB.out
          rw [HP.out] at h1
          conv at h1 => rw [← List.take_append_drop (k + 1) P]
          rw [Dp.flatOf_app, htk] at h1
          have h2 := Dp.flatOf_le K (P.drop (k + 1)) (behindO o X ((q : Int), px, py))
          have h3 := Dp.behindO_len o X ((q : Int), px, py)
          omega
        obtain ⟨vb, vcc, hv, _, _, hvl, hcell⟩ := owns_at hro (by omega)
        injection hv with hv1 hv2 hv3
        subst hv1
        clear hv2 hv3
        have p0 := hcell _ _ c1
        have HCALL := Lib.hid (fun W (hb : Below w.heap.size w W) => hcall W (by have := HR.out; omega) hrk.1 hqn ((HF.out.below hb (Nat.le_refl _)).more hb.size))
        have HTK := Lib.hid htk
        have HPK := Lib.hid hpk
        have HI6 := Lib.hid hI
        have HRO := Lib.hid hro
        obtain ⟨fA, fc, rfl, _⟩ := owns_form hI.own.pts
        obtain ⟨gA, gc, rfl, _⟩ := owns_form hI.own.ends
        have y0 := hI.font.cell 0
        have y1 := hI.font.cell 1
        have y2 := hI.font.cell 2
        have y3 := hI.font.cell 3
        have y4 := hI.font.cell 4
        have y5 := hI.font.cell 5
        have y6 := hI.font.cell 6
        have y7 := hI.font.cell 7
        have y8 := hI.font.cell 8
        have yl := hI.font.lt
        simp only [List.getElem?_toArray, List.getElem?_cons_zero, List.getElem?_cons_succ] at y0 y1 y2 y3 y4 y5 y6 y7 y8
        have hS : (fun wq : World => wq.cell? ⟨w.heap.size, 0, none⟩ = some (.int .i64 0) ∧ wq.cell? ⟨w.heap.size, 1, none⟩ = some (.slice (some ⟨b, off, none⟩) n c) ∧ wq.cell? ⟨w.heap.size, 2, none⟩ = some (.slice none 0 0) ∧ wq.cell? ⟨w.heap.size, 3, none⟩ = some (.slice none 0 0) ∧ wq.cell? ⟨w.heap.size, 4, none⟩ = some (.slice none 0 0) ∧ wq.cell? ⟨w.heap.size, 5, none⟩ = some (.slice none 0 0) ∧ wq.cell? ⟨w.heap.size, 6, none⟩ = some (.slice none 0 0) ∧ wq.cell? ⟨w.heap.size, 7, none⟩ = some (.slice none 0 0) ∧ wq.cell? ⟨w.heap.size, 8, none⟩ = some (.slice none 0 0) ∧ wq.cell? ⟨vb, k * 3, none⟩ = some (.int .i64 (q : Int))) wr.drew := ⟨y0, y1, y2, y3, y4, y5, y6, y7, y8, p0⟩
        clear hpk c1 c2 c3 hpm hrk hpin hcall hX hKX ho htk hcell hI hro y0 y1 y2 y3 y4 y5 y6 y7 y8 p0
        go_wp2_with fail
        refine wp_region_ord (fun i => !([6, 7, 8] : List Nat).contains i) (fun i => ([0, 5] : List Nat).contains i) (fun i => ([7] : List Nat).contains i) (.one 0 (.one 1 (.one 2 (.one 3 (.one 4 (.one 5 (.two 6 (Ord.of [7, 8] .nil) 7 (Ord.of [6, 8] .nil)))))))) (fun wq : World => wq.cell? ⟨w.heap.size, 0, none⟩ = some (.int .i64 0) ∧ wq.cell? ⟨w.heap.size, 1, none⟩ = some (.slice (some ⟨b, off, none⟩) n c) ∧ wq.cell? ⟨w.heap.size, 2, none⟩ = some (.slice none 0 0) ∧ wq.cell? ⟨w.heap.size, 3, none⟩ = some (.slice none 0 0) ∧ wq.cell? ⟨w.heap.size, 4, none⟩ = some (.slice none 0 0) ∧ wq.cell? ⟨w.heap.size, 5, none⟩ = some (.slice none 0 0) ∧ wq.cell? ⟨w.heap.size, 6, none⟩ = some (.slice none 0 0) ∧ wq.cell? ⟨w.heap.size, 7, none⟩ = some (.slice none 0 0) ∧ wq.cell? ⟨w.heap.size, 8, none⟩ = some (.slice none 0 0) ∧ wq.cell? ⟨vb, k * 3, none⟩ = some (.int .i64 (q : Int))) (by kernel_rfl) (by kernel_rfl) (by kernel_rfl) (by kernel_rfl) ?_
        refine wpOrd_load (v := _) rfl rfl (by kernel_rfl) (fun _ _ _ h => h) hS rfl (fun wq hq => by obtain ⟨hq0, hq1, hq2, hq3, hq4, hq5, hq6, hq7, hq8, hq9⟩ := hq; first | (go_simp; done) | (go_simp; rfl)) ?_
        refine wpOrd_pure (v := _) rfl rfl rfl (by kernel_rfl) (fun _ _ _ h => h) (fun wq => by first | (go_simp; done) | (go_simp; rfl)) ?_
        refine wpOrd_pure (v := _) rfl rfl rfl (by kernel_rfl) (fun _ _ _ h => h) (fun wq => by first | (go_simp; done) | (go_simp; rfl)) ?_
        refine wpOrd_pure (v := _) rfl rfl rfl (by kernel_rfl) (fun _ _ _ h => h) (fun wq => by first | (go_simp; done) | (go_simp; rfl)) ?_
        refine wpOrd_pure (v := _) rfl rfl rfl (by kernel_rfl) (fun _ _ _ h => h) (fun wq => by first | (go_simp; done) | (go_simp; rfl)) ?_
        refine wpOrd_load (v := _) rfl rfl (by kernel_rfl) (fun _ _ _ h => h) hS rfl (fun wq hq => by obtain ⟨hq0, hq1, hq2, hq3, hq4, hq5, hq6, hq7, hq8, hq9⟩ := hq; first | (go_simp; done) | (go_simp; rfl)) ?_
        refine wpOrd_two ?_ ?_ rfl rfl
        · refine wpSeq_heavy rfl rfl (fun K hK => ?_); go_simp
          refine (HCALL.out wr.drew HI6.out.below.drew).mono ?_
          rintro e w8 ⟨xp, xe, rfl, how, hb8⟩
          dsimp only
          have hbl : ∀ p v, wr.drew.cell? p = some v → p.block < wr.heap.size → (w8.alloc (.cells #[.slice none 0 0, .slice none 0 0] 39)).cell? p = some v := fun p v h hl => (World.cell?_alloc_lt _ _ _ (Nat.lt_of_lt_of_le hl hb8.size)).trans ((hb8.cell hl).trans h)
          have hwl := HI6.out.font.lt
          refine hK _ _ (fun h => by cases h) ?_; clear hK K
          refine wpSeq_heavy rfl rfl (fun K hK => ?_); go_simp
          refine hK _ _ (fun _ => ⟨hbl _ _ hS.1 hwl, hbl _ _ hS.2.1 hwl, hbl _ _ hS.2.2.1 hwl, hbl _ _ hS.2.2.2.1 hwl, hbl _ _ hS.2.2.2.2.1 hwl, hbl _ _ hS.2.2.2.2.2.1 hwl, hbl _ _ hS.2.2.2.2.2.2.1 hwl, hbl _ _ hS.2.2.2.2.2.2.2.1 hwl, hbl _ _ hS.2.2.2.2.2.2.2.2.1 hwl, hbl _ _ hS.2.2.2.2.2.2.2.2.2 hvl⟩) ?_
          clear hK K
          obtain ⟨xA, xc, rfl, hxc, _⟩ := owns_form how.pts
          obtain ⟨yA, yc, rfl, hyc, _⟩ := owns_form how.ends
          refine wpSeq_heavy rfl rfl (fun K hK => ?_); go_simp
          refine hK _ _ (fun h => by cases h) ?_; clear hK K
          refine wpSeq_end ?_
          have hx1 : FxI w (some ⟨b, off, none⟩) n c o (.slice fA o.1.length fc) (.slice gA o.2.length gc) P (.slice (some ⟨vb, 0, none⟩) m qc) w8.heap.size X (.slice xA X.1.length xc) (.slice yA X.2.length yc) (w8.alloc (.cells #[.slice xA X.1.length xc, .slice yA X.2.length yc] 39)) :=
            FxI.intro HI6.out (by rw [← HM.out]; exact HRO.out) ((show Below wr.heap.size wr w8 from (Below.refl _ _).drew.trans hb8).alloc hb8.size _) (Blk.new _ _ _) hb8.size (OlOwn.grow (show OlOwn w8 wr.heap.size _ _ _ from how) ((Fr.refl _ _).alloc _))
          have HX1 := Lib.hid hx1
          clear hx1 hbl hwl how hb8 hS
          generalize w8.alloc (.cells #[.slice xA X.1.length xc, .slice yA X.2.length yc] 39) = V3 at HX1 ⊢
          generalize w8.heap.size = xb at HX1 ⊢
          have a0 := HX1.out.fl.box.cell 0
          have x0 := HX1.out.xbx.cell 0
          have xl := HX1.out.xbx.lt
          have al := HX1.out.fl.box.lt
          simp only [List.getElem?_toArray, List.getElem?_cons_zero, List.getElem?_cons_succ] at a0 x0
          clear HCALL
          go_wp2_with fail
          clear a0 x0 xl al
          go_loopw [10] (fun i wq => ∃ j : Nat, j ≤ X.1.length ∧ i = .int .i64 j ∧ ∃ v, FxI w (some ⟨b, off, none⟩) n c (o.1 ++ (X.1.take j).map (mvP px py), o.2) v (.slice gA o.2.length gc) P (.slice (some ⟨vb, 0, none⟩) m qc) xb X (.slice xA X.1.length xc) (.slice yA X.2.length yc) wq) (fun i _ => X.1.length - (intOf i).toNat)
          case atStart => exact ⟨0, Nat.zero_le _, rfl, _, by simpa using HX1.out⟩
          case round =>
            obtain ⟨j, hj, rfl, v, hx⟩ := hrel
            obtain ⟨o1, ho1⟩ : ∃ o1, o.1 ++ (X.1.take j).map (mvP px py) = o1 := ⟨_, rfl⟩
            rw [ho1] at hx
            have hol : o1.length = o.1.length + j := by rw [← ho1, List.length_append, List.length_map, List.length_take]; omega
            obtain ⟨vA, vc, rfl, _⟩ := owns_form hx.fl.own.pts
            simp only at hx
            obtain ⟨pl2, hpl2⟩ : ∃ pl2, pl2 = o1.length := ⟨_, rfl⟩
            rw [← hpl2] at hx hol
            have HPL2 := Lib.hid hpl2
            have HO1 := Lib.hid ho1
            have HOL := Lib.hid hol
            have x0 := hx.xbx.cell 0
            have x1 := hx.xbx.cell 1
            have xl := hx.xbx.lt
            have HX2 := Lib.hid hx
            simp only [List.getElem?_toArray, List.getElem?_cons_zero, List.getElem?_cons_succ] at x0 x1
            clear hx ho1 hpl2 hol
            by_cases hjx : j < X.1.length
            · obtain ⟨⟨p1, p2, p3⟩, hpj⟩ : ∃ p, X.1[j]? = some p := ⟨_, List.getElem?_eq_getElem hjx⟩
              obtain ⟨e1, e2, e3⟩ := opts_at hpj
              obtain ⟨xr, xcc, hv, _, _, hxrl, hcell⟩ := owns_at HX2.out.xow.pts (by omega)
              injection hv with hv1 hv2 hv3
              have z0 := hcell _ _ e1
              have z1 := hcell _ _ e2
              have z2 := hcell _ _ e3
              subst hv1
              have htj : o.1 ++ (X.1.take (j + 1)).map (mvP px py) = o1 ++ [(wrap64 (p1 + px), wrap64 (p2 + py), p3)] := by rw [List.take_add_one, hpj, List.map_append, ← List.append_assoc, HO1.out]; rfl
              obtain ⟨xx, hxx⟩ : ∃ xx, wrap64 (p1 + px) = xx := ⟨_, rfl⟩
              obtain ⟨yy, hyy⟩ : ∃ yy, wrap64 (p2 + py) = yy := ⟨_, rfl⟩
              rw [hxx, hyy] at htj
              have HTJ := Lib.hid htj
              have HXX := Lib.hid hxx
              have HYY := Lib.hid hyy
              clear hv2 hv3 hcell e1 e2 e3 hpj htj hxx hyy
              go_upto_region 14 with fail
              obtain ⟨W4, hW4⟩ : ∃ W4, wr.alloc (.cells #[.int .i64 p1, .int .i64 p2, .bool p3] 59) = W4 := ⟨_, rfl⟩
              have hpb : Blk W4 wr.heap.size 59 #[.int .i64 p1, .int .i64 p2, .bool p3] := by rw [← hW4]; exact Blk.new _ _ _
              have hx4 := HX2.out.grow (show Grow wr W4 by rw [← hW4]; exact (Fr.refl _ _).alloc _)
              rw [hW4]
              obtain ⟨pb, hpbe⟩ : ∃ pb, wr.heap.size = pb := ⟨_, rfl⟩
              rw [hpbe] at hpb ⊢
              have s0 := hpb.cell 0
              have s1 := hpb.cell 1
              have s2 := hpb.cell 2
              have sl := hpb.lt
              have a0 := hx4.fl.box.cell 0
              obtain ⟨_, k1, k2⟩ := prts_at HPK.out
              have hpr := hx4.parts
              rw [← HM.out] at hpr
              have q1 := owns_cell hpr k1
              have q2 := owns_cell hpr k2
              simp only [List.getElem?_toArray, List.getElem?_cons_zero, List.getElem?_cons_succ] at s0 s1 s2 a0
              have HX4 := Lib.hid hx4
              have hxx2 : IntKind.i64.wrap (p1 + px) = xx := (IntWalk.i64_left _).trans HXX.out
              have hyy2 : IntKind.i64.wrap (p2 + py) = yy := (IntWalk.i64_left _).trans HYY.out
              have hxx3 := HXX.out
              have hyy3 := HYY.out
              have HLB := Lib.hid (show (o1.length + 1) ≤ 100000 by have := HPL2.out; have := HOL.out; omega)
              clear hpr hW4 hpb hx4 hpbe x0 x1 xl z0 z1 z2 k1 k2 HX2
              have HX5 := Lib.hid (HX4.out.drew.grow ((Fr.refl _ _).alloc (.cells #[.int .i64 xx, .int .i64 yy, .bool p3] 59)))
              have hS : (fun wq : World => wq.cell? ⟨w.heap.size + 1 + 1, 0, none⟩ = some (.slice vA pl2 vc) ∧ wq.cell? ⟨pb, 0, none⟩ = some (.int .i64 p1) ∧ wq.cell? ⟨pb, 1, none⟩ = some (.int .i64 p2) ∧ wq.cell? ⟨pb, 2, none⟩ = some (.bool p3) ∧ wq.cell? ⟨vb, k * 3 + 1, none⟩ = some (.int .i64 px) ∧ wq.cell? ⟨vb, k * 3 + 2, none⟩ = some (.int .i64 py)) W4.drew := ⟨a0, s0, s1, s2, q1, q2⟩
              simp only at q1 q2
              have qll : vb < W4.heap.size := (owns_block (show W4.ownsRow _ _ _ (.slice (some ⟨vb, 0, none⟩) m qc) _ _ from by have h := HX4.out.parts; rw [← HM.out] at h; exact h) rfl).2.1
              have all_ := HX4.out.fl.box.lt
              refine wp_region_seqT (fun i => !([21, 22, 24] : List Nat).contains i) (fun i => ([1, 3, 8, 11, 16, 19] : List Nat).contains i) (fun i => ([21] : List Nat).contains i) [0, 1, 2, 3, 4, 5, 6, 7, 8, 9, 10, 11, 12, 13, 14, 15, 16, 17, 18, 19, 20, 21, 22, 23, 24] (fun wq : World => wq.cell? ⟨w.heap.size + 1 + 1, 0, none⟩ = some (.slice vA pl2 vc) ∧ wq.cell? ⟨pb, 0, none⟩ = some (.int .i64 p1) ∧ wq.cell? ⟨pb, 1, none⟩ = some (.int .i64 p2) ∧ wq.cell? ⟨pb, 2, none⟩ = some (.bool p3) ∧ wq.cell? ⟨vb, k * 3 + 1, none⟩ = some (.int .i64 px) ∧ wq.cell? ⟨vb, k * 3 + 2, none⟩ = some (.int .i64 py)) (by kernel_rfl) (by kernel_rfl) (by kernel_rfl) (by kernel_rfl) ?_
              refine wpSeq_pure (v := _) rfl rfl rfl (by kernel_rfl) (fun _ _ _ h => h) (fun wq => by first | (go_simp; done) | (go_simp; rfl)) ?_
              refine wpSeq_load (v := _) rfl rfl (by kernel_rfl) (fun _ _ _ h => h) hS rfl (fun wq hq => by (try have hq1 := hq.1); (try have hq2 := hq.2.1); (try have hq3 := hq.2.2.1); (try have hq4 := hq.2.2.2.1); (try have hq5 := hq.2.2.2.2.1); (try have hq6 := hq.2.2.2.2.2.1); (try have hq7 := hq.2.2.2.2.2.2); (try have hr2 := hq.2); (try have hr3 := hq.2.2); (try have hr4 := hq.2.2.2); (try have hr5 := hq.2.2.2.2); first | (go_simp; done) | (go_simp; rfl)) ?_
              refine wpSeq_pure (v := _) rfl rfl rfl (by kernel_rfl) (fun _ _ _ h => h) (fun wq => by first | (go_simp; done) | (go_simp; rfl)) ?_
              refine wpSeq_load (v := _) rfl rfl (by kernel_rfl) (fun _ _ _ h => h) hS rfl (fun wq hq => by (try have hq1 := hq.1); (try have hq2 := hq.2.1); (try have hq3 := hq.2.2.1); (try have hq4 := hq.2.2.2.1); (try have hq5 := hq.2.2.2.2.1); (try have hq6 := hq.2.2.2.2.2.1); (try have hq7 := hq.2.2.2.2.2.2); (try have hr2 := hq.2); (try have hr3 := hq.2.2); (try have hr4 := hq.2.2.2); (try have hr5 := hq.2.2.2.2); first | (go_simp; done) | (go_simp; rfl)) ?_
              refine wpSeq_pure (v := _) rfl rfl rfl (by kernel_rfl) (fun _ _ _ h => h) (fun wq => by first | (go_simp; done) | (go_simp; rfl)) ?_
              refine wpSeq_pure (v := _) rfl rfl rfl (by kernel_rfl) (fun _ _ _ h => h) (fun wq => by first | (go_simp; done) | (go_simp; rfl)) ?_
              refine wpSeq_pure (v := _) rfl rfl rfl (by kernel_rfl) (fun _ _ _ h => h) (fun wq => by first | (go_simp; done) | (go_simp; rfl)) ?_
              refine wpSeq_pure (v := _) rfl rfl rfl (by kernel_rfl) (fun _ _ _ h => h) (fun wq => by first | (go_simp; done) | (go_simp; rfl)) ?_
              refine wpSeq_load (v := _) rfl rfl (by kernel_rfl) (fun _ _ _ h => h) hS rfl (fun wq hq => by (try have hq1 := hq.1); (try have hq2 := hq.2.1); (try have hq3 := hq.2.2.1); (try have hq4 := hq.2.2.2.1); (try have hq5 := hq.2.2.2.2.1); (try have hq6 := hq.2.2.2.2.2.1); (try have hq7 := hq.2.2.2.2.2.2); (try have hr2 := hq.2); (try have hr3 := hq.2.2); (try have hr4 := hq.2.2.2); (try have hr5 := hq.2.2.2.2); first | (go_simp; done) | (go_simp; rfl)) ?_
              refine wpSeq_pure (v := _) rfl rfl rfl (by kernel_rfl) (fun _ _ _ h => h) (fun wq => by first | (go_simp; done) | (go_simp; rfl)) ?_
              refine wpSeq_pure (v := _) rfl rfl rfl (by kernel_rfl) (fun _ _ _ h => h) (fun wq => by first | (go_simp; done) | (go_simp; rfl)) ?_
              refine wpSeq_load (v := _) rfl rfl (by kernel_rfl) (fun _ _ _ h => h) hS rfl (fun wq hq => by (try have hq1 := hq.1); (try have hq2 := hq.2.1); (try have hq3 := hq.2.2.1); (try have hq4 := hq.2.2.2.1); (try have hq5 := hq.2.2.2.2.1); (try have hq6 := hq.2.2.2.2.2.1); (try have hq7 := hq.2.2.2.2.2.2); (try have hr2 := hq.2); (try have hr3 := hq.2.2); (try have hr4 := hq.2.2.2); (try have hr5 := hq.2.2.2.2); first | (go_simp; done) | (go_simp; rfl)) ?_
              refine wpSeq_pure (v := _) rfl rfl rfl (by kernel_rfl) (fun _ _ _ h => h) (fun wq => by first | (go_simp; done) | (go_simp; rfl)) ?_
              refine wpSeq_pure (v := _) rfl rfl rfl (by kernel_rfl) (fun _ _ _ h => h) (fun wq => by first | (go_simp; done) | (go_simp; rfl)) ?_
              refine wpSeq_pure (v := _) rfl rfl rfl (by kernel_rfl) (fun _ _ _ h => h) (fun wq => by first | (go_simp; done) | (go_simp; rfl)) ?_
              refine wpSeq_pure (v := _) rfl rfl rfl (by kernel_rfl) (fun _ _ _ h => h) (fun wq => by first | (go_simp; done) | (go_simp; rfl)) ?_
              refine wpSeq_load (v := _) rfl rfl (by kernel_rfl) (fun _ _ _ h => h) hS rfl (fun wq hq => by (try have hq1 := hq.1); (try have hq2 := hq.2.1); (try have hq3 := hq.2.2.1); (try have hq4 := hq.2.2.2.1); (try have hq5 := hq.2.2.2.2.1); (try have hq6 := hq.2.2.2.2.2.1); (try have hq7 := hq.2.2.2.2.2.2); (try have hr2 := hq.2); (try have hr3 := hq.2.2); (try have hr4 := hq.2.2.2); (try have hr5 := hq.2.2.2.2); first | (go_simp; done) | (go_simp; rfl)) ?_
              refine wpSeq_pure (v := _) rfl rfl rfl (by kernel_rfl) (fun _ _ _ h => h) (fun wq => by first | (go_simp; done) | (go_simp; rfl)) ?_
              refine wpSeq_pure (v := _) rfl rfl rfl (by kernel_rfl) (fun _ _ _ h => h) (fun wq => by first | (go_simp; done) | (go_simp; rfl)) ?_
              refine wpSeq_load (v := _) rfl rfl (by kernel_rfl) (fun _ _ _ h => h) hS rfl (fun wq hq => by (try have hq1 := hq.1); (try have hq2 := hq.2.1); (try have hq3 := hq.2.2.1); (try have hq4 := hq.2.2.2.1); (try have hq5 := hq.2.2.2.2.1); (try have hq6 := hq.2.2.2.2.2.1); (try have hq7 := hq.2.2.2.2.2.2); (try have hr2 := hq.2); (try have hr3 := hq.2.2); (try have hr4 := hq.2.2.2); (try have hr5 := hq.2.2.2.2); first | (go_simp; done) | (go_simp; rfl)) ?_
              refine wpSeq_pure (v := _) rfl rfl rfl (by kernel_rfl) (fun _ _ _ h => h) (fun wq => by first | (go_simp; done) | (go_simp; rfl)) ?_
              refine wpSeq_heavy rfl rfl (fun K hK => ?_); go_simp
              refine hK _ _ (fun _ => ⟨(World.cell?_alloc_lt _ _ _ all_).trans a0, (World.cell?_alloc_lt _ _ _ sl).trans s0, (World.cell?_alloc_lt _ _ _ sl).trans s1, (World.cell?_alloc_lt _ _ _ sl).trans s2, (World.cell?_alloc_lt _ _ _ qll).trans q1, (World.cell?_alloc_lt _ _ _ qll).trans q2⟩) ?_
              clear hK K
              refine wpSeq_heavy rfl rfl (fun K hK => ?_)
              refine step_own _ rfl (.tmp 67) (.tmp 87) _ rfl w.heap.size 59 i1 _ 3 24 Try.underlying37 hi0 hi1 hi2 hi3 rfl (by decide) (.slice vA pl2 vc) pl2 (opts o1) rfl (by have h := HX5.out.fl.own.pts; simp only at h; rw [← HPL2.out] at h; exact h) _ _ 1 1 [.int .i64 xx, .int .i64 yy, .bool p3] rfl (Reads.blk (cs := [.int .i64 xx, .int .i64 yy, .bool p3]) (Blk.new _ _ _) 3 1 rfl) (by simp [Value.oneCell']) (by have := HLB.out; have := HPL2.out; unfold maxLen; omega) (by have := HLB.out; have := HPL2.out; omega) HX5.out.fl.below.size ?_
              intro v' w6 hrow hg hnew
              have hP := HX5.out.pushP (l := [(xx, yy, p3)]) (show World.ownsRow _ _ _ _ _ (o1.length + 1) (opts o1 ++ [.int .i64 xx, .int .i64 yy, .bool p3]) by rw [← HPL2.out]; exact hrow) hg hnew
              obtain ⟨nA, nc, hve, _⟩ := owns_form hrow
              subst hve
              have t0 := hP.1.cell 0
              have tf := hP.1.frozen 0
              have tl := hP.1.lt
              simp only [List.getElem?_toArray, List.getElem?_cons_zero, List.getElem?_cons_succ] at t0
              have HP2 := Lib.hid hP.2
              clear hrow hg hnew hP
              refine hK _ _ (fun h => by cases h) ?_; clear hK K
              refine wpSeq_pure (v := _) rfl rfl rfl (by kernel_rfl) (fun _ _ _ h => h) (fun wq => by first | (go_simp; done) | (go_simp; rfl)) ?_
              refine wpSeq_heavy rfl rfl (fun K hK => ?_); go_simp
              refine hK _ _ (fun h => by cases h) ?_; clear hK K
              refine wpSeq_end ?_
              go_wp2_with fail
              go_roundw
              case rel => exact ⟨j + 1, by omega, by go_num, _, by rw [HTJ.out]; exact HP2.out⟩
              case measure => simp [intOf]; omega
            · obtain rfl : j = X.1.length := by omega
              have hfin : o1 = o.1 ++ X.1.map (mvP px py) := by have h := HO1.out; rw [List.take_length] at h; exact h.symm
              have HFIN1 := Lib.hid hfin
              clear hfin
              obtain ⟨pvv, hpvv⟩ : ∃ pvv, Value.slice vA pl2 vc = pvv := ⟨_, rfl⟩
              have HX3 := Lib.hid (show FxI w (some ⟨b, off, none⟩) n c (o.1 ++ X.1.map (mvP px py), o.2) pvv (.slice gA o.2.length gc) P (.slice (some ⟨vb, 0, none⟩) m qc) xb X (.slice xA X.1.length xc) (.slice yA X.2.length yc) wr by rw [← hpvv, ← HFIN1.out]; exact HX2.out)
              clear hpvv
              go_wp2_with fail
              clear x0 x1 xl HX2
              go_loopw [12] (fun i wq => ∃ j : Nat, j ≤ X.2.length ∧ i = .int .i64 j ∧ ∃ v, FxI w (some ⟨b, off, none⟩) n c (o.1 ++ X.1.map (mvP px py), o.2 ++ (X.2.take j).map (fun e => wrap64 (e + o.1.length))) pvv v P (.slice (some ⟨vb, 0, none⟩) m qc) xb X (.slice xA X.1.length xc) (.slice yA X.2.length yc) wq) (fun i _ => X.2.length - (intOf i).toNat)
              case atStart => exact ⟨0, Nat.zero_le _, rfl, _, by simpa using HX3.out⟩
              case round =>
                obtain ⟨j, hj, rfl, v, hx⟩ := hrel
                obtain ⟨o1, ho1⟩ : ∃ o1, o.2 ++ (X.2.take j).map (fun e => wrap64 (e + o.1.length)) = o1 := ⟨_, rfl⟩
                rw [ho1] at hx
                have hol : o1.length = o.2.length + j := by rw [← ho1, List.length_append, List.length_map, List.length_take]; omega
                obtain ⟨vA, vc, rfl, _⟩ := owns_form hx.fl.own.ends
                simp only at hx
                obtain ⟨pl2, hpl2⟩ : ∃ pl2, pl2 = o1.length := ⟨_, rfl⟩
                rw [← hpl2] at hx hol
                have HPL2 := Lib.hid hpl2
                have HO1 := Lib.hid ho1
                have HOL := Lib.hid hol
                have x1 := hx.xbx.cell 1
                have xl := hx.xbx.lt
                have a1 := hx.fl.box.cell 1
                have al := hx.fl.box.lt
                have HX2 := Lib.hid hx
                simp only [List.getElem?_toArray, List.getElem?_cons_zero, List.getElem?_cons_succ] at x1 a1
                clear hx ho1 hpl2 hol
                by_cases hjx : j < X.2.length
                · obtain ⟨e1, hej⟩ : ∃ e1, X.2[j]? = some e1 := ⟨_, List.getElem?_eq_getElem hjx⟩
                  obtain ⟨xr, xcc, hv, _, _, hxrl, hcell⟩ := owns_at HX2.out.xow.ends (by omega)
                  injection hv with hv1 hv2 hv3
                  have z0 := hcell _ _ (ints_at _ _ _ hej)
                  subst hv1
                  obtain ⟨ee, hee⟩ : ∃ ee, wrap64 (e1 + o.1.length) = ee := ⟨_, rfl⟩
                  have htj : o.2 ++ (X.2.take (j + 1)).map (fun e => wrap64 (e + o.1.length)) = o1 ++ [ee] := by rw [List.take_add_one, hej, List.map_append, ← List.append_assoc, HO1.out, ← hee]; rfl
                  have hee2 : IntKind.i64.wrap (e1 + (o.1.length : Int)) = ee := (IntWalk.i64_left _).trans hee
                  have HTJ := Lib.hid htj
                  have HLB := Lib.hid (show (o1.length + 1) ≤ 100000 by have := HPL2.out; have := HOL.out; omega)
                  have HX5 := Lib.hid (HX2.out.drew.grow ((Fr.refl _ _).alloc (.cells #[.int .i64 ee] 3)))
                  clear hv2 hv3 hcell hej htj HX2
                  go_wp2_with fail
                  have hS : (fun wq : World => wq.cell? ⟨w.heap.size + 1 + 1, 1, none⟩ = some (.slice vA pl2 vc) ∧ wq.cell? ⟨xb, 1, none⟩ = some (.slice (some ⟨xr, 0, none⟩) X.2.length yc) ∧ wq.cell? ⟨xr, j, none⟩ = some (.int .i64 e1)) wr.drew := ⟨a1, x1, z0⟩
                  refine wp_region_seqT (fun i => !([9, 10, 12] : List Nat).contains i) (fun i => ([1, 3, 6] : List Nat).contains i) (fun i => ([9] : List Nat).contains i) [0, 1, 2, 3, 4, 5, 6, 7, 8, 9, 10, 11, 12] (fun wq : World => wq.cell? ⟨w.heap.size + 1 + 1, 1, none⟩ = some (.slice vA pl2 vc) ∧ wq.cell? ⟨xb, 1, none⟩ = some (.slice (some ⟨xr, 0, none⟩) X.2.length yc) ∧ wq.cell? ⟨xr, j, none⟩ = some (.int .i64 e1)) (by kernel_rfl) (by kernel_rfl) (by kernel_rfl) (by kernel_rfl) ?_
                  refine wpSeq_pure (v := _) rfl rfl rfl (by kernel_rfl) (fun _ _ _ h => h) (fun wq => by first | (go_simp; done) | (go_simp; rfl)) ?_
                  refine wpSeq_load (v := _) rfl rfl (by kernel_rfl) (fun _ _ _ h => h) hS rfl (fun wq hq => by (try have hq1 := hq.1); (try have hq2 := hq.2.1); (try have hq3 := hq.2.2.1); (try have hq4 := hq.2.2.2.1); (try have hq5 := hq.2.2.2.2.1); (try have hq6 := hq.2.2.2.2.2.1); (try have hq7 := hq.2.2.2.2.2.2); (try have hr2 := hq.2); (try have hr3 := hq.2.2); (try have hr4 := hq.2.2.2); (try have hr5 := hq.2.2.2.2); first | (go_simp; done) | (go_simp; rfl)) ?_
                  refine wpSeq_pure (v := _) rfl rfl rfl (by kernel_rfl) (fun _ _ _ h => h) (fun wq => by first | (go_simp; done) | (go_simp; rfl)) ?_
                  refine wpSeq_load (v := _) rfl rfl (by kernel_rfl) (fun _ _ _ h => h) hS rfl (fun wq hq => by (try have hq1 := hq.1); (try have hq2 := hq.2.1); (try have hq3 := hq.2.2.1); (try have hq4 := hq.2.2.2.1); (try have hq5 := hq.2.2.2.2.1); (try have hq6 := hq.2.2.2.2.2.1); (try have hq7 := hq.2.2.2.2.2.2); (try have hr2 := hq.2); (try have hr3 := hq.2.2); (try have hr4 := hq.2.2.2); (try have hr5 := hq.2.2.2.2); first | (go_simp; done) | (go_simp; rfl)) ?_
                  refine wpSeq_pure (v := _) rfl rfl rfl (by kernel_rfl) (fun _ _ _ h => h) (fun wq => by first | (go_simp; done) | (go_simp; rfl)) ?_
                  refine wpSeq_pure (v := _) rfl rfl rfl (by kernel_rfl) (fun _ _ _ h => h) (fun wq => by first | (go_simp; done) | (go_simp; rfl)) ?_
                  refine wpSeq_load (v := _) rfl rfl (by kernel_rfl) (fun _ _ _ h => h) hS rfl (fun wq hq => by (try have hq1 := hq.1); (try have hq2 := hq.2.1); (try have hq3 := hq.2.2.1); (try have hq4 := hq.2.2.2.1); (try have hq5 := hq.2.2.2.2.1); (try have hq6 := hq.2.2.2.2.2.1); (try have hq7 := hq.2.2.2.2.2.2); (try have hr2 := hq.2); (try have hr3 := hq.2.2); (try have hr4 := hq.2.2.2); (try have hr5 := hq.2.2.2.2); first | (go_simp; done) | (go_simp; rfl)) ?_
                  refine wpSeq_pure (v := _) rfl rfl rfl (by kernel_rfl) (fun _ _ _ h => h) (fun wq => by first | (go_simp; done) | (go_simp; rfl)) ?_
                  refine wpSeq_pure (v := _) rfl rfl rfl (by kernel_rfl) (fun _ _ _ h => h) (fun wq => by first | (go_simp; done) | (go_simp; rfl)) ?_
                  refine wpSeq_heavy rfl rfl (fun K hK => ?_); go_simp
                  refine hK _ _ (fun _ => ⟨(World.cell?_alloc_lt _ _ _ al).trans hS.1, (World.cell?_alloc_lt _ _ _ xl).trans hS.2.1, (World.cell?_alloc_lt _ _ _ hxrl).trans hS.2.2⟩) ?_
                  clear hK K
                  refine wpSeq_heavy rfl rfl (fun K hK => ?_)
                  refine step_own _ rfl (.tmp 98) (.tmp 106) _ rfl w.heap.size 3 j1 _ 1 8 Try.underlying22 hj0 hj1 hj2 hj3 rfl (by decide) (.slice vA pl2 vc) pl2 (ints o1) rfl (by have h := HX5.out.fl.own.ends; simp only at h; rw [← HPL2.out] at h; exact h) _ _ 1 1 [.int .i64 ee] rfl (Reads.blk (cs := [.int .i64 ee]) (Blk.new _ _ _) 1 1 rfl) (by simp [Value.oneCell']) (by have := HLB.out; have := HPL2.out; unfold maxLen; omega) (by have := HLB.out; have := HPL2.out; omega) HX5.out.fl.below.size ?_
                  intro v' w6 hrow hg hnew
                  have hP := HX5.out.pushE (l := [ee]) (show World.ownsRow _ _ _ _ _ (o1.length + 1) (ints o1 ++ [.int .i64 ee]) by rw [← HPL2.out]; exact hrow) hg hnew
                  obtain ⟨nA, nc, hve, _⟩ := owns_form hrow
                  subst hve
                  have t0 := hP.1.cell 1
                  have tf := hP.1.frozen 1
                  have tl := hP.1.lt
                  simp only [List.getElem?_toArray, List.getElem?_cons_zero, List.getElem?_cons_succ] at t0
                  have HP2 := Lib.hid hP.2
                  clear hrow hg hnew hP
                  refine hK _ _ (fun h => by cases h) ?_; clear hK K
                  refine wpSeq_pure (v := _) rfl rfl rfl (by kernel_rfl) (fun _ _ _ h => h) (fun wq => by first | (go_simp; done) | (go_simp; rfl)) ?_
                  refine wpSeq_heavy rfl rfl (fun K hK => ?_); go_simp
                  refine hK _ _ (fun h => by cases h) ?_; clear hK K
                  refine wpSeq_end ?_
                  go_wp2_with fail
                  go_roundw
                  case rel => exact ⟨j + 1, by omega, by go_num, _, by rw [HTJ.out]; exact HP2.out⟩
                  case measure => simp [intOf]; omega
                · obtain rfl : j = X.2.length := by omega
                  have HFX := Lib.hid (show FlI w (some ⟨b, off, none⟩) n c (behindO o X ((q : Int), px, py)) pvv (.slice vA pl2 vc) wr ∧ wr.ownsRow w.heap.size 48 3 (.slice (some ⟨vb, 0, none⟩) m qc) m (prts P) by
                    have h := HO1.out
                    rw [List.take_length] at h
                    have e : behindO o X ((q : Int), px, py) = (o.1 ++ X.1.map (mvP px py), o1) := by rw [← h]; rfl
                    refine ⟨by rw [e]; exact HX2.out.fl, ?_⟩
                    have h2 := HX2.out.parts
                    rw [← HM.out] at h2
                    exact h2)
                  clear HX2
                  go_wp2_with fail
                  go_roundw
                  case rel => exact ⟨k + 1, by omega, by go_num, ⟨_, _, by rw [HTK.out]; exact HFX.out.1⟩, HFX.out.2⟩
                  case measure => simp [intOf]; omega
        · refine wpSeq_heavy rfl rfl (fun K hK => ?_); go_simp
          obtain ⟨W2, hW2⟩ : ∃ W2, (wr.alloc (.cells #[.slice none 0 0, .slice none 0 0] 39)).drew = W2 := ⟨_, rfl⟩
          have hb2 : Below wr.heap.size wr W2 := by rw [← hW2]; exact ((Below.refl _ _).alloc (Nat.le_refl _) _).drew
          have hz2 : Blk W2 wr.heap.size 39 #[.slice none 0 0, .slice none 0 0] := by rw [← hW2]; exact (Blk.new _ _ _).drew
          have hwl := HI6.out.font.lt
          have hbl : ∀ p v, wr.drew.cell? p = some v → p.block < wr.heap.size → W2.cell? p = some v := fun p v h hl => (hb2.cell hl).trans h
          rw [hW2]
          refine hK _ _ (fun _ => ⟨hbl _ _ hS.1 hwl, hbl _ _ hS.2.1 hwl, hbl _ _ hS.2.2.1 hwl, hbl _ _ hS.2.2.2.1 hwl, hbl _ _ hS.2.2.2.2.1 hwl, hbl _ _ hS.2.2.2.2.2.1 hwl, hbl _ _ hS.2.2.2.2.2.2.1 hwl, hbl _ _ hS.2.2.2.2.2.2.2.1 hwl, hbl _ _ hS.2.2.2.2.2.2.2.2.1 hwl, hbl _ _ hS.2.2.2.2.2.2.2.2.2 hvl⟩) ?_
          clear hK K hW2
          refine wpSeq_heavy rfl rfl (fun K hK => ?_); go_simp
          refine (HCALL.out W2 (HI6.out.below.trans (hb2.mono HI6.out.below.size))).mono ?_
          rintro e w8 ⟨xp, xe, rfl, how, hb8⟩
          dsimp only
          obtain ⟨xA, xc, rfl, hxc, _⟩ := owns_form how.pts
          obtain ⟨yA, yc, rfl, hyc, _⟩ := owns_form how.ends
          have hz8 := hz2.below hb8 hz2.lt
          have s0 := hz8.cell 0
          have s1 := hz8.cell 1
          have sf0 := hz8.frozen 0
          have sf1 := hz8.frozen 1
          have sl := hz8.lt
          simp only [List.getElem?_toArray, List.getElem?_cons_zero, List.getElem?_cons_succ] at s0 s1
          refine hK _ _ (fun h => by cases h) ?_; clear hK K
          refine wpSeq_heavy rfl rfl (fun K hK => ?_); go_simp
          refine hK _ _ (fun h => by cases h) ?_; clear hK K
          refine wpSeq_end ?_
          have hx1 : FxI w (some ⟨b, off, none⟩) n c o (.slice fA o.1.length fc) (.slice gA o.2.length gc) P (.slice (some ⟨vb, 0, none⟩) m qc) wr.heap.size X (.slice xA X.1.length xc) (.slice yA X.2.length yc) ((w8.setCell ⟨wr.heap.size, 0, none⟩ (.slice xA X.1.length xc)).setCell ⟨wr.heap.size, 1, none⟩ (.slice yA X.2.length yc)) := by
            refine FxI.intro HI6.out (by rw [← HM.out]; exact HRO.out) (((hb2.trans (hb8.mono hb2.size)).setCell (p := ⟨wr.heap.size, 0, none⟩) (Nat.le_refl _) _).setCell (p := ⟨wr.heap.size, 1, none⟩) (Nat.le_refl _) _) (by have := (hz8.set_ 0 (.slice xA X.1.length xc)).set_ 1 (.slice yA X.2.length yc); simpa using this) (Nat.le_refl _) ⟨?_, ?_⟩
            · exact owns_mono (owns_set (owns_set how.pts hz8 (by decide) 0 _) (hz8.set_ 0 _) (by decide) 1 _) hb2.size
            · exact owns_mono (owns_set (owns_set how.ends hz8 (by decide) 0 _) (hz8.set_ 0 _) (by decide) 1 _) hb2.size
          have HX1 := Lib.hid hx1
          clear hx1 hbl hwl how hb8 hS s0 s1 sf0 sf1 sl hz8 hz2 hb2
          generalize (w8.setCell ⟨wr.heap.size, 0, none⟩ (.slice xA X.1.length xc)).setCell ⟨wr.heap.size, 1, none⟩ (.slice yA X.2.length yc) = V3 at HX1 ⊢
          generalize wr.heap.size = xb at HX1 ⊢
          have a0 := HX1.out.fl.box.cell 0
          have x0 := HX1.out.xbx.cell 0
          have xl := HX1.out.xbx.lt
          have al := HX1.out.fl.box.lt
          simp only [List.getElem?_toArray, List.getElem?_cons_zero, List.getElem?_cons_succ] at a0 x0
          clear HCALL
          go_wp2_with fail
          clear a0 x0 xl al
          go_loopw [10] (fun i wq => ∃ j : Nat, j ≤ X.1.length ∧ i = .int .i64 j ∧ ∃ v, FxI w (some ⟨b, off, none⟩) n c (o.1 ++ (X.1.take j).map (mvP px py), o.2) v (.slice gA o.2.length gc) P (.slice (some ⟨vb, 0, none⟩) m qc) xb X (.slice xA X.1.length xc) (.slice yA X.2.length yc) wq) (fun i _ => X.1.length - (intOf i).toNat)
          case atStart => exact ⟨0, Nat.zero_le _, rfl, _, by simpa using HX1.out⟩
          case round =>
            obtain ⟨j, hj, rfl, v, hx⟩ := hrel
            obtain ⟨o1, ho1⟩ : ∃ o1, o.1 ++ (X.1.take j).map (mvP px py) = o1 := ⟨_, rfl⟩
            rw [ho1] at hx
            have hol : o1.length = o.1.length + j := by rw [← ho1, List.length_append, List.length_map, List.length_take]; omega
            obtain ⟨vA, vc, rfl, _⟩ := owns_form hx.fl.own.pts
            simp only at hx
            obtain ⟨pl2, hpl2⟩ : ∃ pl2, pl2 = o1.length := ⟨_, rfl⟩
            rw [← hpl2] at hx hol
            have HPL2 := Lib.hid hpl2
            have HO1 := Lib.hid ho1
            have HOL := Lib.hid hol
            have x0 := hx.xbx.cell 0
            have x1 := hx.xbx.cell 1
            have xl := hx.xbx.lt
            have HX2 := Lib.hid hx
            simp only [List.getElem?_toArray, List.getElem?_cons_zero, List.getElem?_cons_succ] at x0 x1
            clear hx ho1 hpl2 hol
            by_cases hjx : j < X.1.length
            · obtain ⟨⟨p1, p2, p3⟩, hpj⟩ : ∃ p, X.1[j]? = some p := ⟨_, List.getElem?_eq_getElem hjx⟩
              obtain ⟨e1, e2, e3⟩ := opts_at hpj
              obtain ⟨xr, xcc, hv, _, _, hxrl, hcell⟩ := owns_at HX2.out.xow.pts (by omega)
              injection hv with hv1 hv2 hv3
              have z0 := hcell _ _ e1
              have z1 := hcell _ _ e2
              have z2 := hcell _ _ e3
              subst hv1
              have htj : o.1 ++ (X.1.take (j + 1)).map (mvP px py) = o1 ++ [(wrap64 (p1 + px), wrap64 (p2 + py), p3)] := by rw [List.take_add_one, hpj, List.map_append, ← List.append_assoc, HO1.out]; rfl
              obtain ⟨xx, hxx⟩ : ∃ xx, wrap64 (p1 + px) = xx := ⟨_, rfl⟩
              obtain ⟨yy, hyy⟩ : ∃ yy, wrap64 (p2 + py) = yy := ⟨_, rfl⟩
              rw [hxx, hyy] at htj
              have HTJ := Lib.hid htj
              have HXX := Lib.hid hxx
              have HYY := Lib.hid hyy
              clear hv2 hv3 hcell e1 e2 e3 hpj htj hxx hyy
              go_upto_region 14 with fail
              obtain ⟨W4, hW4⟩ : ∃ W4, wr.alloc (.cells #[.int .i64 p1, .int .i64 p2, .bool p3] 59) = W4 := ⟨_, rfl⟩
              have hpb : Blk W4 wr.heap.size 59 #[.int .i64 p1, .int .i64 p2, .bool p3] := by rw [← hW4]; exact Blk.new _ _ _
              have hx4 := HX2.out.grow (show Grow wr W4 by rw [← hW4]; exact (Fr.refl _ _).alloc _)
              rw [hW4]
              obtain ⟨pb, hpbe⟩ : ∃ pb, wr.heap.size = pb := ⟨_, rfl⟩
              rw [hpbe] at hpb ⊢
              have s0 := hpb.cell 0
              have s1 := hpb.cell 1
              have s2 := hpb.cell 2
              have sl := hpb.lt
              have a0 := hx4.fl.box.cell 0
              obtain ⟨_, k1, k2⟩ := prts_at HPK.out
              have hpr := hx4.parts
              rw [← HM.out] at hpr
              have q1 := owns_cell hpr k1
              have q2 := owns_cell hpr k2
              simp only [List.getElem?_toArray, List.getElem?_cons_zero, List.getElem?_cons_succ] at s0 s1 s2 a0
              have HX4 := Lib.hid hx4
              have hxx2 : IntKind.i64.wrap (p1 + px) = xx := (IntWalk.i64_left _).trans HXX.out
              have hyy2 : IntKind.i64.wrap (p2 + py) = yy := (IntWalk.i64_left _).trans HYY.out
              have hxx3 := HXX.out
              have hyy3 := HYY.out
              have HLB := Lib.hid (show (o1.length + 1) ≤ 100000 by have := HPL2.out; have := HOL.out; omega)
              clear hpr hW4 hpb hx4 hpbe x0 x1 xl z0 z1 z2 k1 k2 HX2
              have HX5 := Lib.hid (HX4.out.drew.grow ((Fr.refl _ _).alloc (.cells #[.int .i64 xx, .int .i64 yy, .bool p3] 59)))
              have hS : (fun wq : World => wq.cell? ⟨w.heap.size + 1 + 1, 0, none⟩ = some (.slice vA pl2 vc) ∧ wq.cell? ⟨pb, 0, none⟩ = some (.int .i64 p1) ∧ wq.cell? ⟨pb, 1, none⟩ = some (.int .i64 p2) ∧ wq.cell? ⟨pb, 2, none⟩ = some (.bool p3) ∧ wq.cell? ⟨vb, k * 3 + 1, none⟩ = some (.int .i64 px) ∧ wq.cell? ⟨vb, k * 3 + 2, none⟩ = some (.int .i64 py)) W4.drew := ⟨a0, s0, s1, s2, q1, q2⟩
              simp only at q1 q2
              have qll : vb < W4.heap.size := (owns_block (show W4.ownsRow _ _ _ (.slice (some ⟨vb, 0, none⟩) m qc) _ _ from by have h := HX4.out.parts; rw [← HM.out] at h; exact h) rfl).2.1
              have all_ := HX4.out.fl.box.lt
              refine wp_region_seqT (fun i => !([21, 22, 24] : List Nat).contains i) (fun i => ([1, 3, 8, 11, 16, 19] : List Nat).contains i) (fun i => ([21] : List Nat).contains i) [0, 1, 2, 3, 4, 5, 6, 7, 8, 9, 10, 11, 12, 13, 14, 15, 16, 17, 18, 19, 20, 21, 22, 23, 24] (fun wq : World => wq.cell? ⟨w.heap.size + 1 + 1, 0, none⟩ = some (.slice vA pl2 vc) ∧ wq.cell? ⟨pb, 0, none⟩ = some (.int .i64 p1) ∧ wq.cell? ⟨pb, 1, none⟩ = some (.int .i64 p2) ∧ wq.cell? ⟨pb, 2, none⟩ = some (.bool p3) ∧ wq.cell? ⟨vb, k * 3 + 1, none⟩ = some (.int .i64 px) ∧ wq.cell? ⟨vb, k * 3 + 2, none⟩ = some (.int .i64 py)) (by kernel_rfl) (by kernel_rfl) (by kernel_rfl) (by kernel_rfl) ?_
              refine wpSeq_pure (v := _) rfl rfl rfl (by kernel_rfl) (fun _ _ _ h => h) (fun wq => by first | (go_simp; done) | (go_simp; rfl)) ?_
              refine wpSeq_load (v := _) rfl rfl (by kernel_rfl) (fun _ _ _ h => h) hS rfl (fun wq hq => by (try have hq1 := hq.1); (try have hq2 := hq.2.1); (try have hq3 := hq.2.2.1); (try have hq4 := hq.2.2.2.1); (try have hq5 := hq.2.2.2.2.1); (try have hq6 := hq.2.2.2.2.2.1); (try have hq7 := hq.2.2.2.2.2.2); (try have hr2 := hq.2); (try have hr3 := hq.2.2); (try have hr4 := hq.2.2.2); (try have hr5 := hq.2.2.2.2); first | (go_simp; done) | (go_simp; rfl)) ?_
              refine wpSeq_pure (v := _) rfl rfl rfl (by kernel_rfl) (fun _ _ _ h => h) (fun wq => by first | (go_simp; done) | (go_simp; rfl)) ?_
              refine wpSeq_load (v := _) rfl rfl (by kernel_rfl) (fun _ _ _ h => h) hS rfl (fun wq hq => by (try have hq1 := hq.1); (try have hq2 := hq.2.1); (try have hq3 := hq.2.2.1); (try have hq4 := hq.2.2.2.1); (try have hq5 := hq.2.2.2.2.1); (try have hq6 := hq.2.2.2.2.2.1); (try have hq7 := hq.2.2.2.2.2.2); (try have hr2 := hq.2); (try have hr3 := hq.2.2); (try have hr4 := hq.2.2.2); (try have hr5 := hq.2.2.2.2); first | (go_simp; done) | (go_simp; rfl)) ?_
              refine wpSeq_pure (v := _) rfl rfl rfl (by kernel_rfl) (fun _ _ _ h => h) (fun wq => by first | (go_simp; done) | (go_simp; rfl)) ?_
              refine wpSeq_pure (v := _) rfl rfl rfl (by kernel_rfl) (fun _ _ _ h => h) (fun wq => by first | (go_simp; done) | (go_simp; rfl)) ?_
              refine wpSeq_pure (v := _) rfl rfl rfl (by kernel_rfl) (fun _ _ _ h => h) (fun wq => by first | (go_simp; done) | (go_simp; rfl)) ?_
              refine wpSeq_pure (v := _) rfl rfl rfl (by kernel_rfl) (fun _ _ _ h => h) (fun wq => by first | (go_simp; done) | (go_simp; rfl)) ?_
              refine wpSeq_load (v := _) rfl rfl (by kernel_rfl) (fun _ _ _ h => h) hS rfl (fun wq hq => by (try have hq1 := hq.1); (try have hq2 := hq.2.1); (try have hq3 := hq.2.2.1); (try have hq4 := hq.2.2.2.1); (try have hq5 := hq.2.2.2.2.1); (try have hq6 := hq.2.2.2.2.2.1); (try have hq7 := hq.2.2.2.2.2.2); (try have hr2 := hq.2); (try have hr3 := hq.2.2); (try have hr4 := hq.2.2.2); (try have hr5 := hq.2.2.2.2); first | (go_simp; done) | (go_simp; rfl)) ?_
              refine wpSeq_pure (v := _) rfl rfl rfl (by kernel_rfl) (fun _ _ _ h => h) (fun wq => by first | (go_simp; done) | (go_simp; rfl)) ?_
              refine wpSeq_pure (v := _) rfl rfl rfl (by kernel_rfl) (fun _ _ _ h => h) (fun wq => by first | (go_simp; done) | (go_simp; rfl)) ?_
              refine wpSeq_load (v := _) rfl rfl (by kernel_rfl) (fun _ _ _ h => h) hS rfl (fun wq hq => by (try have hq1 := hq.1); (try have hq2 := hq.2.1); (try have hq3 := hq.2.2.1); (try have hq4 := hq.2.2.2.1); (try have hq5 := hq.2.2.2.2.1); (try have hq6 := hq.2.2.2.2.2.1); (try have hq7 := hq.2.2.2.2.2.2); (try have hr2 := hq.2); (try have hr3 := hq.2.2); (try have hr4 := hq.2.2.2); (try have hr5 := hq.2.2.2.2); first | (go_simp; done) | (go_simp; rfl)) ?_
              refine wpSeq_pure (v := _) rfl rfl rfl (by kernel_rfl) (fun _ _ _ h => h) (fun wq => by first | (go_simp; done) | (go_simp; rfl)) ?_
              refine wpSeq_pure (v := _) rfl rfl rfl (by kernel_rfl) (fun _ _ _ h => h) (fun wq => by first | (go_simp; done) | (go_simp; rfl)) ?_
              refine wpSeq_pure (v := _) rfl rfl rfl (by kernel_rfl) (fun _ _ _ h => h) (fun wq => by first | (go_simp; done) | (go_simp; rfl)) ?_
              refine wpSeq_pure (v := _) rfl rfl rfl (by kernel_rfl) (fun _ _ _ h => h) (fun wq => by first | (go_simp; done) | (go_simp; rfl)) ?_
              refine wpSeq_load (v := _) rfl rfl (by kernel_rfl) (fun _ _ _ h => h) hS rfl (fun wq hq => by (try have hq1 := hq.1); (try have hq2 := hq.2.1); (try have hq3 := hq.2.2.1); (try have hq4 := hq.2.2.2.1); (try have hq5 := hq.2.2.2.2.1); (try have hq6 := hq.2.2.2.2.2.1); (try have hq7 := hq.2.2.2.2.2.2); (try have hr2 := hq.2); (try have hr3 := hq.2.2); (try have hr4 := hq.2.2.2); (try have hr5 := hq.2.2.2.2); first | (go_simp; done) | (go_simp; rfl)) ?_
              refine wpSeq_pure (v := _) rfl rfl rfl (by kernel_rfl) (fun _ _ _ h => h) (fun wq => by first | (go_simp; done) | (go_simp; rfl)) ?_
              refine wpSeq_pure (v := _) rfl rfl rfl (by kernel_rfl) (fun _ _ _ h => h) (fun wq => by first | (go_simp; done) | (go_simp; rfl)) ?_
              refine wpSeq_load (v := _) rfl rfl (by kernel_rfl) (fun _ _ _ h => h) hS rfl (fun wq hq => by (try have hq1 := hq.1); (try have hq2 := hq.2.1); (try have hq3 := hq.2.2.1); (try have hq4 := hq.2.2.2.1); (try have hq5 := hq.2.2.2.2.1); (try have hq6 := hq.2.2.2.2.2.1); (try have hq7 := hq.2.2.2.2.2.2); (try have hr2 := hq.2); (try have hr3 := hq.2.2); (try have hr4 := hq.2.2.2); (try have hr5 := hq.2.2.2.2); first | (go_simp; done) | (go_simp; rfl)) ?_
              refine wpSeq_pure (v := _) rfl rfl rfl (by kernel_rfl) (fun _ _ _ h => h) (fun wq => by first | (go_simp; done) | (go_simp; rfl)) ?_
              refine wpSeq_heavy rfl rfl (fun K hK => ?_); go_simp
              refine hK _ _ (fun _ => ⟨(World.cell?_alloc_lt _ _ _ all_).trans a0, (World.cell?_alloc_lt _ _ _ sl).trans s0, (World.cell?_alloc_lt _ _ _ sl).trans s1, (World.cell?_alloc_lt _ _ _ sl).trans s2, (World.cell?_alloc_lt _ _ _ qll).trans q1, (World.cell?_alloc_lt _ _ _ qll).trans q2⟩) ?_
              clear hK K
              refine wpSeq_heavy rfl rfl (fun K hK => ?_)
              refine step_own _ rfl (.tmp 67) (.tmp 87) _ rfl w.heap.size 59 i1 _ 3 24 Try.underlying37 hi0 hi1 hi2 hi3 rfl (by decide) (.slice vA pl2 vc) pl2 (opts o1) rfl (by have h := HX5.out.fl.own.pts; simp only at h; rw [← HPL2.out] at h; exact h) _ _ 1 1 [.int .i64 xx, .int .i64 yy, .bool p3] rfl (Reads.blk (cs := [.int .i64 xx, .int .i64 yy, .bool p3]) (Blk.new _ _ _) 3 1 rfl) (by simp [Value.oneCell']) (by have := HLB.out; have := HPL2.out; unfold maxLen; omega) (by have := HLB.out; have := HPL2.out; omega) HX5.out.fl.below.size ?_
              intro v' w6 hrow hg hnew
              have hP := HX5.out.pushP (l := [(xx, yy, p3)]) (show World.ownsRow _ _ _ _ _ (o1.length + 1) (opts o1 ++ [.int .i64 xx, .int .i64 yy, .bool p3]) by rw [← HPL2.out]; exact hrow) hg hnew
              obtain ⟨nA, nc, hve, _⟩ := owns_form hrow
              subst hve
              have t0 := hP.1.cell 0
              have tf := hP.1.frozen 0
              have tl := hP.1.lt
              simp only [List.getElem?_toArray, List.getElem?_cons_zero, List.getElem?_cons_succ] at t0
              have HP2 := Lib.hid hP.2
              clear hrow hg hnew hP
              refine hK _ _ (fun h => by cases h) ?_; clear hK K
              refine wpSeq_pure (v := _) rfl rfl rfl (by kernel_rfl) (fun _ _ _ h => h) (fun wq => by first | (go_simp; done) | (go_simp; rfl)) ?_
              refine wpSeq_heavy rfl rfl (fun K hK => ?_); go_simp
              refine hK _ _ (fun h => by cases h) ?_; clear hK K
              refine wpSeq_end ?_
              go_wp2_with fail
              go_roundw
              case rel => exact ⟨j + 1, by omega, by go_num, _, by rw [HTJ.out]; exact HP2.out⟩
              case measure => simp [intOf]; omega
            · obtain rfl : j = X.1.length := by omega
              have hfin : o1 = o.1 ++ X.1.map (mvP px py) := by have h := HO1.out; rw [List.take_length] at h; exact h.symm
              have HFIN1 := Lib.hid hfin
              clear hfin
              obtain ⟨pvv, hpvv⟩ : ∃ pvv, Value.slice vA pl2 vc = pvv := ⟨_, rfl⟩
              have HX3 := Lib.hid (show FxI w (some ⟨b, off, none⟩) n c (o.1 ++ X.1.map (mvP px py), o.2) pvv (.slice gA o.2.length gc) P (.slice (some ⟨vb, 0, none⟩) m qc) xb X (.slice xA X.1.length xc) (.slice yA X.2.length yc) wr by rw [← hpvv, ← HFIN1.out]; exact HX2.out)
              clear hpvv
              go_wp2_with fail
              clear x0 x1 xl HX2
              go_loopw [12] (fun i wq => ∃ j : Nat, j ≤ X.2.length ∧ i = .int .i64 j ∧ ∃ v, FxI w (some ⟨b, off, none⟩) n c (o.1 ++ X.1.map (mvP px py), o.2 ++ (X.2.take j).map (fun e => wrap64 (e + o.1.length))) pvv v P (.slice (some ⟨vb, 0, none⟩) m qc) xb X (.slice xA X.1.length xc) (.slice yA X.2.length yc) wq) (fun i _ => X.2.length - (intOf i).toNat)
              case atStart => exact ⟨0, Nat.zero_le _, rfl, _, by simpa using HX3.out⟩
              case round =>
                obtain ⟨j, hj, rfl, v, hx⟩ := hrel
                obtain ⟨o1, ho1⟩ : ∃ o1, o.2 ++ (X.2.take j).map (fun e => wrap64 (e + o.1.length)) = o1 := ⟨_, rfl⟩
                rw [ho1] at hx
                have hol : o1.length = o.2.length + j := by rw [← ho1, List.length_append, List.length_map, List.length_take]; omega
                obtain ⟨vA, vc, rfl, _⟩ := owns_form hx.fl.own.ends
                simp only at hx
                obtain ⟨pl2, hpl2⟩ : ∃ pl2, pl2 = o1.length := ⟨_, rfl⟩
                rw [← hpl2] at hx hol
                have HPL2 := Lib.hid hpl2
                have HO1 := Lib.hid ho1
                have HOL := Lib.hid hol
                have x1 := hx.xbx.cell 1
                have xl := hx.xbx.lt
                have a1 := hx.fl.box.cell 1
                have al := hx.fl.box.lt
                have HX2 := Lib.hid hx
                simp only [List.getElem?_toArray, List.getElem?_cons_zero, List.getElem?_cons_succ] at x1 a1
                clear hx ho1 hpl2 hol
                by_cases hjx : j < X.2.length
                · obtain ⟨e1, hej⟩ : ∃ e1, X.2[j]? = some e1 := ⟨_, List.getElem?_eq_getElem hjx⟩
                  obtain ⟨xr, xcc, hv, _, _, hxrl, hcell⟩ := owns_at HX2.out.xow.ends (by omega)
                  injection hv with hv1 hv2 hv3
                  have z0 := hcell _ _ (ints_at _ _ _ hej)
                  subst hv1
                  obtain ⟨ee, hee⟩ : ∃ ee, wrap64 (e1 + o.1.length) = ee := ⟨_, rfl⟩
                  have htj : o.2 ++ (X.2.take (j + 1)).map (fun e => wrap64 (e + o.1.length)) = o1 ++ [ee] := by rw [List.take_add_one, hej, List.map_append, ← List.append_assoc, HO1.out, ← hee]; rfl
                  have hee2 : IntKind.i64.wrap (e1 + (o.1.length : Int)) = ee := (IntWalk.i64_left _).trans hee
                  have HTJ := Lib.hid htj
                  have HLB := Lib.hid (show (o1.length + 1) ≤ 100000 by have := HPL2.out; have := HOL.out; omega)
                  have HX5 := Lib.hid (HX2.out.drew.grow ((Fr.refl _ _).alloc (.cells #[.int .i64 ee] 3)))
                  clear hv2 hv3 hcell hej htj HX2
                  go_wp2_with fail
                  have hS : (fun wq : World => wq.cell? ⟨w.heap.size + 1 + 1, 1, none⟩ = some (.slice vA pl2 vc) ∧ wq.cell? ⟨xb, 1, none⟩ = some (.slice (some ⟨xr, 0, none⟩) X.2.length yc) ∧ wq.cell? ⟨xr, j, none⟩ = some (.int .i64 e1)) wr.drew := ⟨a1, x1, z0⟩
                  refine wp_region_seqT (fun i => !([9, 10, 12] : List Nat).contains i) (fun i => ([1, 3, 6] : List Nat).contains i) (fun i => ([9] : List Nat).contains i) [0, 1, 2, 3, 4, 5, 6, 7, 8, 9, 10, 11, 12] (fun wq : World => wq.cell? ⟨w.heap.size + 1 + 1, 1, none⟩ = some (.slice vA pl2 vc) ∧ wq.cell? ⟨xb, 1, none⟩ = some (.slice (some ⟨xr, 0, none⟩) X.2.length yc) ∧ wq.cell? ⟨xr, j, none⟩ = some (.int .i64 e1)) (by kernel_rfl) (by kernel_rfl) (by kernel_rfl) (by kernel_rfl) ?_
                  refine wpSeq_pure (v := _) rfl rfl rfl (by kernel_rfl) (fun _ _ _ h => h) (fun wq => by first | (go_simp; done) | (go_simp; rfl)) ?_
                  refine wpSeq_load (v := _) rfl rfl (by kernel_rfl) (fun _ _ _ h => h) hS rfl (fun wq hq => by (try have hq1 := hq.1); (try have hq2 := hq.2.1); (try have hq3 := hq.2.2.1); (try have hq4 := hq.2.2.2.1); (try have hq5 := hq.2.2.2.2.1); (try have hq6 := hq.2.2.2.2.2.1); (try have hq7 := hq.2.2.2.2.2.2); (try have hr2 := hq.2); (try have hr3 := hq.2.2); (try have hr4 := hq.2.2.2); (try have hr5 := hq.2.2.2.2); first | (go_simp; done) | (go_simp; rfl)) ?_
                  refine wpSeq_pure (v := _) rfl rfl rfl (by kernel_rfl) (fun _ _ _ h => h) (fun wq => by first | (go_simp; done) | (go_simp; rfl)) ?_
                  refine wpSeq_load (v := _) rfl rfl (by kernel_rfl) (fun _ _ _ h => h) hS rfl (fun wq hq => by (try have hq1 := hq.1); (try have hq2 := hq.2.1); (try have hq3 := hq.2.2.1); (try have hq4 := hq.2.2.2.1); (try have hq5 := hq.2.2.2.2.1); (try have hq6 := hq.2.2.2.2.2.1); (try have hq7 := hq.2.2.2.2.2.2); (try have hr2 := hq.2); (try have hr3 := hq.2.2); (try have hr4 := hq.2.2.2); (try have hr5 := hq.2.2.2.2); first | (go_simp; done) | (go_simp; rfl)) ?_
                  refine wpSeq_pure (v := _) rfl rfl rfl (by kernel_rfl) (fun _ _ _ h => h) (fun wq => by first | (go_simp; done) | (go_simp; rfl)) ?_
                  refine wpSeq_pure (v := _) rfl rfl rfl (by kernel_rfl) (fun _ _ _ h => h) (fun wq => by first | (go_simp; done) | (go_simp; rfl)) ?_
                  refine wpSeq_load (v := _) rfl rfl (by kernel_rfl) (fun _ _ _ h => h) hS rfl (fun wq hq => by (try have hq1 := hq.1); (try have hq2 := hq.2.1); (try have hq3 := hq.2.2.1); (try have hq4 := hq.2.2.2.1); (try have hq5 := hq.2.2.2.2.1); (try have hq6 := hq.2.2.2.2.2.1); (try have hq7 := hq.2.2.2.2.2.2); (try have hr2 := hq.2); (try have hr3 := hq.2.2); (try have hr4 := hq.2.2.2); (try have hr5 := hq.2.2.2.2); first | (go_simp; done) | (go_simp; rfl)) ?_
                  refine wpSeq_pure (v := _) rfl rfl rfl (by kernel_rfl) (fun _ _ _ h => h) (fun wq => by first | (go_simp; done) | (go_simp; rfl)) ?_
                  refine wpSeq_pure (v := _) rfl rfl rfl (by kernel_rfl) (fun _ _ _ h => h) (fun wq => by first | (go_simp; done) | (go_simp; rfl)) ?_
                  refine wpSeq_heavy rfl rfl (fun K hK => ?_); go_simp
                  refine hK _ _ (fun _ => ⟨(World.cell?_alloc_lt _ _ _ al).trans hS.1, (World.cell?_alloc_lt _ _ _ xl).trans hS.2.1, (World.cell?_alloc_lt _ _ _ hxrl).trans hS.2.2⟩) ?_
                  clear hK K
                  refine wpSeq_heavy rfl rfl (fun K hK => ?_)
                  refine step_own _ rfl (.tmp 98) (.tmp 106) _ rfl w.heap.size 3 j1 _ 1 8 Try.underlying22 hj0 hj1 hj2 hj3 rfl (by decide) (.slice vA pl2 vc) pl2 (ints o1) rfl (by have h := HX5.out.fl.own.ends; simp only at h; rw [← HPL2.out] at h; exact h) _ _ 1 1 [.int .i64 ee] rfl (Reads.blk (cs := [.int .i64 ee]) (Blk.new _ _ _) 1 1 rfl) (by simp [Value.oneCell']) (by have := HLB.out; have := HPL2.out; unfold maxLen; omega) (by have := HLB.out; have := HPL2.out; omega) HX5.out.fl.below.size ?_
                  intro v' w6 hrow hg hnew
                  have hP := HX5.out.pushE (l := [ee]) (show World.ownsRow _ _ _ _ _ (o1.length + 1) (ints o1 ++ [.int .i64 ee]) by rw [← HPL2.out]; exact hrow) hg hnew
                  obtain ⟨nA, nc, hve, _⟩ := owns_form hrow
                  subst hve
                  have t0 := hP.1.cell 1
                  have tf := hP.1.frozen 1
                  have tl := hP.1.lt
                  simp only [List.getElem?_toArray, List.getElem?_cons_zero, List.getElem?_cons_succ] at t0
                  have HP2 := Lib.hid hP.2
                  clear hrow hg hnew hP
                  refine hK _ _ (fun h => by cases h) ?_; clear hK K
                  refine wpSeq_pure (v := _) rfl rfl rfl (by kernel_rfl) (fun _ _ _ h => h) (fun wq => by first | (go_simp; done) | (go_simp; rfl)) ?_
                  refine wpSeq_heavy rfl rfl (fun K hK => ?_); go_simp
                  refine hK _ _ (fun h => by cases h) ?_; clear hK K
                  refine wpSeq_end ?_
                  go_wp2_with fail
                  go_roundw
                  case rel => exact ⟨j + 1, by omega, by go_num, _, by rw [HTJ.out]; exact HP2.out⟩
                  case measure => simp [intOf]; omega
                · obtain rfl : j = X.2.length := by omega
                  have HFX := Lib.hid (show FlI w (some ⟨b, off, none⟩) n c (behindO o X ((q : Int), px, py)) pvv (.slice vA pl2 vc) wr ∧ wr.ownsRow w.heap.size 48 3 (.slice (some ⟨vb, 0, none⟩) m qc) m (prts P) by
                    have h := HO1.out
                    rw [List.take_length] at h
                    have e : behindO o X ((q : Int), px, py) = (o.1 ++ X.1.map (mvP px py), o1) := by rw [← h]; rfl
                    refine ⟨by rw [e]; exact HX2.out.fl, ?_⟩
                    have h2 := HX2.out.parts
                    rw [← HM.out] at h2
                    exact h2)
                  clear HX2
                  go_wp2_with fail
                  go_roundw
                  case rel => exact ⟨k + 1, by omega, by go_num, ⟨_, _, by rw [HTK.out]; exact HFX.out.1⟩, HFX.out.2⟩
                  case measure => simp [intOf]; omega
      · obtain rfl : k = m := by omega
        obtain ⟨o, ho⟩ : ∃ o, Dp.flatOf K (gg.pts, gg.ends) (P.take k) = o := ⟨_, rfl⟩
        rw [ho] at hI
        have hfin : Dp.flatOf K (gg.pts, gg.ends) (partsOf gl g) = o := by
          rw [HM.out, List.take_length] at ho
          rw [HP.out]; exact ho
        obtain ⟨fA, fc, rfl, _⟩ := owns_form hI.own.pts
        obtain ⟨gA, gc, rfl, _⟩ := owns_form hI.own.ends
        have b0 := hI.box.cell 0
        have b1 := hI.box.cell 1
        have bl := hI.box.lt
        have r0 := hI.res.cell 0
        have r1 := hI.res.cell 1
        have f0 := hI.res.frozen 0
        have f1 := hI.res.frozen 1
        have rl := hI.res.lt
        simp only [List.getElem?_toArray, List.getElem?_cons_zero, List.getElem?_cons_succ] at b0 b1 r0 r1
        have HIF := Lib.hid hI
        have HFIN := Lib.hid hfin
        clear hI hro ho hfin
        go_wp2_with fail
        have hb7 := (HIF.out.res.set_ 0 (.slice fA o.1.length fc)).set_ 1 (.slice gA o.2.length gc)
        have k0 := hb7.cell 0
        have k1 := hb7.cell 1
        simp at k0 k1
        have hBf : Below w.heap.size w ((wr.setCell ⟨w.heap.size + 1, 0, none⟩ (.slice fA o.1.length fc)).setCell ⟨w.heap.size + 1, 1, none⟩ (.slice gA o.2.length gc)) := (HIF.out.below.setCell (p := ⟨w.heap.size + 1, 0, none⟩) (Nat.le_succ _) _).setCell (p := ⟨w.heap.size + 1, 1, none⟩) (Nat.le_succ _) _
        exact bodyPost_ret (v := .agg #[.slice fA o.1.length fc, .slice gA o.2.length gc]) (by simp [results, Try.results51, go_sem, k0, k1]) rfl ⟨_, _, rfl, by rw [HFIN.out]; exact ⟨owns_set (owns_set HIF.out.own.pts HIF.out.res (by decide) 0 _) (HIF.out.res.set_ 0 _) (by decide) 1 _, owns_set (owns_set HIF.out.own.ends HIF.out.res (by decide) 0 _) (HIF.out.res.set_ 0 _) (by decide) 1 _⟩, hBf⟩
end Go.Proofs.Ytoklllbaihccnaa

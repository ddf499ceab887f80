/- compose.Flat$2: a glyph's flat outline, by what is known of its parts. Expanded from XCoV.src by expand.py. -/
import Derived.Test.YtoklllbaihccnaaCoU
set_option linter.unusedVariables false
set_option linter.unusedSimpArgs false
namespace Go.Proofs.Ytoklllbaihccnaa
open Go.RowKit Go.Shelf
attribute [local go_sem] Oper.semAt_some
/-- within Flat$2 -/
structure FmJ (w : World) (M ab : Nat) (fv : Fv) (k : Int → Ol) (o : Ol) (pre : List Prt) (W : World) : Prop where
  kp : Kps w.heap.size w [(w.heap.size, 89, #[.map (some M)]), (w.heap.size + 1, 39, #[.slice none 0 0, .slice none 0 0]), (ab + 1, 32, fv.cs)] W
  acc : ∃ pv ev, Blk W ab 39 #[pv, ev] ∧ OlOwn W w.heap.size pv ev (Dp.flatOf k o pre)
theorem FmJ.grow {w W W' : World} {M ab : Nat} {fv : Fv} {k : Int → Ol} {o : Ol} {pre : List Prt} (h : FmJ w M ab fv k o pre W) (hg : Grow W W') : FmJ w M ab fv k o pre W' := by
  obtain ⟨pv, ev, h1, h2⟩ := h.acc
  exact ⟨h.kp.grow h.kp.below.size hg, pv, ev, hg.blk h1 (fun x => x), h2.grow hg⟩
theorem fr_own {W W' : World} {base : Nat} {pv ev : Value} {a : Ol} (ho : OlOwn W base pv ev a) (hF : Fr (olB pv ev) W W') (hb : base ≤ W.heap.size) :
    Below base W W' ∧ (∀ g t cs, Blk W g t cs → t ≠ 3 → t ≠ 59 → Blk W' g t cs) ∧ KeepsOthers W W' := by
  have h1 : ∀ g, olB pv ev g → base ≤ g ∧ ∃ t cs, Blk W g t cs ∧ (t = 3 ∨ t = 59) := fun g e => by
    rcases e with e | e
    · obtain ⟨a1, _, cs, a3⟩ := owns_block ho.pts e
      exact ⟨a1, _, cs, a3, .inr rfl⟩
    · obtain ⟨a1, _, cs, a3⟩ := owns_block ho.ends e
      exact ⟨a1, _, cs, a3, .inl rfl⟩
  refine ⟨hF.below hb (fun k hk e => by have := (h1 k e).1; omega), fun g t cs h a1 a2 => hF.blk h (fun e => ?_), ⟨hF.size, fun g o e hc => ?_⟩⟩
  · obtain ⟨_, t', cs', b1, rfl | rfl⟩ := h1 g e
    · exact h.ne_ b1 a1 rfl
    · exact h.ne_ b1 a2 rfl
  · refine (hF.block g (Array.getElem?_eq_some_iff.1 e).1 (fun e2 => ?_)).trans e
    obtain ⟨_, t', cs', b1, _⟩ := h1 g e2
    rw [show W.heap[g]? = _ from b1] at e; injection e with e; subst e; cases hc
theorem Dp.flatOf_len {k : Int → Ol} (hk : ∀ x, (k x).1.length ≤ 90000 ∧ (k x).2.length ≤ 90000) : ∀ (l : List Prt) (a : Ol), (flatOf k a l).1.length ≤ a.1.length + 90000 * l.length ∧ (flatOf k a l).2.length ≤ a.2.length + 90000 * l.length
  | [], a => ⟨Nat.le_refl _, Nat.le_refl _⟩
  | p :: l, a => by
    have h := flatOf_len hk l (behindO a (k p.1) p)
    have h2 := behindO_len a (k p.1) p
    have h3 := hk p.1
    have e : flatOf k a (p :: l) = flatOf k (behindO a (k p.1) p) l := rfl
    rw [e, List.length_cons]
    omega
theorem OlOwn.ne {w : World} {base : Nat} {pv ev : Value} {o : Ol} (h : OlOwn w base pv ev o) : ∃ A c B d, pv = .slice A o.1.length c ∧ ev = .slice B o.2.length d ∧ o.1.length ≤ c ∧ o.2.length ≤ d := by
  obtain ⟨A, c, h1, h2, _⟩ := owns_form h.pts
  obtain ⟨B, d, k1, k2, _⟩ := owns_form h.ends
  exact ⟨A, c, B, d, h1, k1, h2, k2⟩
theorem OlOwn.lo {w : World} {base : Nat} {pv ev : Value} {o : Ol} (h : OlOwn w base pv ev o) : ∀ g, olB pv ev g → base ≤ g ∧ g < w.heap.size := fun g e => by
  rcases e with e | e
  · exact ⟨(owns_block h.pts e).1, (owns_block h.pts e).2.1⟩
  · exact ⟨(owns_block h.ends e).1, (owns_block h.ends e).2.1⟩
set_option maxRecDepth 100000 in
set_option maxHeartbeats 4000000 in
theorem flat2_any (fv : Fv) (gl : List Gl) (g M X n0 : Nat) (k : Int → Ol) (w : World) (hv : fv.n = gl.length) (hX : Blk w X 32 fv.cs) (hf : FAt w n0 fv.A gl) (hn : n0 ≤ w.heap.size) (hg : g < gl.length) (base : Nat) (hM : OMap w base M k) (hbase : base ≤ w.heap.size)
    (hk : ∀ x, (k x).1.length ≤ 90000 ∧ (k x).2.length ≤ 90000) :
    Calls Try.prog 35 #[.int .i64 g, .map (some M), .pointer (some ⟨X, 0, none⟩)] w fun e w' => ∃ pv ev, e = .returned (.agg #[pv, ev]) ∧ OlOwn w' w.heap.size pv ev (Dp.flatF gl g k) ∧ Grow w w' := by
  have hfew := hf.few
  obtain ⟨fu, fA, fn, fc, d2, d3, d4, d5, d6, d7, d8⟩ := fv
  simp only at hf hv
  obtain ⟨gg, hgg⟩ : ∃ gg, gl[g]? = some gg := ⟨_, List.getElem?_eq_getElem hg⟩
  obtain ⟨b, off, pA, pc, eA, ec, hA, hb, hc3, hc4, hpc, hec, hpr, her, ⟨hp1, -⟩, hp2, -⟩ := hf.outline hgg
  subst hA
  have hb' : b < w.heap.size := by omega
  have hown : Dp.ownO gl g = (gg.pts.map (mvP 0 0), gg.ends) := by simp [Dp.ownO, hgg]
  obtain ⟨pl, hpl⟩ : ∃ pl, pl = gg.pts.length := ⟨_, rfl⟩
  obtain ⟨el, hel⟩ : ∃ el, el = gg.ends.length := ⟨_, rfl⟩
  rw [← hpl] at hc3 hpc hp1 hpr
  rw [← hel] at hc4 hec hp2 her
  have HF := Lib.hid hf
  have HV := Lib.hid hv
  have HX := Lib.hid hX
  have HM := Lib.hid hM
  have HPR := Lib.hid hpr
  have HER := Lib.hid her
  have HPL := Lib.hid hpl
  have HEL := Lib.hid hel
  have HK := Lib.hid hk
  have x0 := hX.cell 0
  have x1 := hX.cell 1
  have x2 := hX.cell 2
  have x3 := hX.cell 3
  have x4 := hX.cell 4
  have x5 := hX.cell 5
  have x6 := hX.cell 6
  have x7 := hX.cell 7
  have x8 := hX.cell 8
  have lx := hX.lt
  simp only [List.getElem?_toArray, List.getElem?_cons_zero, List.getElem?_cons_succ] at x0 x1 x2 x3 x4 x5 x6 x7 x8
  have hgn : g < fn := by omega
  have HOWN := Lib.hid hown
  clear hf hv hX hM hown hpl hel hgg hpr her hk
  refine calls_of_marks Try.func35 rfl ?_
  simp only [Try.ntmps35, List.size_toArray, List.length_cons, List.length_nil, Nat.reduceAdd, Nat.reduceSub, Array.replicate_succ, Array.replicate_zero, List.push_toArray, List.append_toArray, List.nil_append, List.cons_append]
  go_wp2_with fail
  obtain ⟨W0, hW0⟩ : ∃ W0, ((w.alloc (.cells #[.map (some M)] 89)).alloc (.cells #[.slice none 0 0, .slice none 0 0] 39)) = W0 := ⟨_, rfl⟩
  have hg0 : Grow w W0 := by rw [← hW0]; exact ((Fr.refl _ _).alloc _).alloc _
  have hs0 : W0.heap.size = w.heap.size + 2 := by rw [← hW0]; simp
  have hb4 : Blk W0 w.heap.size 89 #[.map (some M)] := by rw [← hW0]; exact (Blk.new _ _ _).alloc _
  have hb5 : Blk W0 (w.heap.size + 1) 39 #[.slice none 0 0, .slice none 0 0] := by rw [← hW0]; exact Blk.new_at _ _ _ (by simp)
  rw [hW0]
  refine (moved_any pA eA pl el pc ec n0 gg.pts gg.ends 0 0 W0 (HPR.out.keep fun p h => (hg0.below hn).cell h) (HER.out.keep fun p h => (hg0.below hn).cell h) (by omega) (by omega) HPL.out.symm HEL.out.symm (by omega)).mono ?_
  rintro e W1 ⟨mv, nv, rfl, hmo, hno, hg1⟩
  obtain ⟨mA, mc, rfl, _, _⟩ := owns_form hmo
  obtain ⟨nA, nc, rfl, _, _⟩ := owns_form hno
  have HMO := Lib.hid hmo
  have HNO := Lib.hid hno
  have HG1 := Lib.hid (hg0.trans hg1)
  have HB4 := Lib.hid (hg1.blk hb4 fun x => x)
  have HB5 := Lib.hid (hg1.blk hb5 fun x => x)
  have HS0 := Lib.hid hs0
  have hX := (hg0.trans hg1).blk HX.out fun x => x
  have hW1s := hg1.size
  have HW1S := Lib.hid hW1s
  clear x0 x1 x2 x3 x4 x5 x6 x7 x8 lx
  have x0 := hX.cell 0
  have x1 := hX.cell 1
  have x2 := hX.cell 2
  have x3 := hX.cell 3
  have x4 := hX.cell 4
  have x5 := hX.cell 5
  have x6 := hX.cell 6
  have x7 := hX.cell 7
  have x8 := hX.cell 8
  have lx := hX.lt
  simp only [List.getElem?_toArray, List.getElem?_cons_zero, List.getElem?_cons_succ] at x0 x1 x2 x3 x4 x5 x6 x7 x8
  clear hmo hno hg0 hg1 hb4 hb5 hs0 hW0 hX hW1s
  go_wp2_with fail
  refine (parts_any ⟨fu, some ⟨b, off, none⟩, fn, fc, d2, d3, d4, d5, d6, d7, d8⟩ g _).mono ?_
  rintro e w' ⟨rfl, rfl⟩
  go_wp2_with fail
  obtain ⟨fv, hfv⟩ : ∃ fv : Fv, (⟨fu, some ⟨b, off, none⟩, fn, fc, d2, d3, d4, d5, d6, d7, d8⟩ : Fv) = fv := ⟨_, rfl⟩
  rw [show Fv.cs ⟨fu, some ⟨b, off, none⟩, fn, fc, d2, d3, d4, d5, d6, d7, d8⟩ = fv.cs by rw [hfv]]
  obtain ⟨W3, hW3⟩ : ∃ W3, (((W1.alloc (.cells #[.slice mA pl mc, .slice nA el nc] 39)).alloc (.cells fv.cs 32)).alloc (.cells #[.int .i64 g] 3)) = W3 := ⟨_, rfl⟩
  have hs3 : W3.heap.size = W1.heap.size + 3 := by rw [← hW3]; simp
  have hg3 : Grow W1 W3 := by rw [← hW3]; exact (((Fr.refl _ _).alloc _).alloc _).alloc _
  have hgw : Grow w W3 := HG1.out.trans hg3
  have hX3 : Blk W3 (W1.heap.size + 1) 32 fv.cs := by rw [← hW3]; exact (Blk.new_at _ _ _ (by simp)).alloc _
  have hY3 : Blk W3 (W1.heap.size + 1 + 1) 3 #[.int .i64 g] := by rw [← hW3]; exact Blk.new_at _ _ _ (by simp)
  have hA3 : Blk W3 W1.heap.size 39 #[.slice mA pl mc, .slice nA el nc] := by rw [← hW3]; exact ((Blk.new _ _ _).alloc _).alloc _
  obtain ⟨o, ho⟩ : ∃ o, Dp.ownO gl g = o := ⟨_, rfl⟩
  have hoo : o = (gg.pts.map (mvP 0 0), gg.ends) := by rw [← ho, HOWN.out]
  have hol : o.1.length ≤ 1000000 ∧ o.2.length ≤ 1000000 := by rw [hoo]; simp only [List.length_map]; have := HPL.out; have := HEL.out; omega
  have hJ0 : FmJ w M W1.heap.size fv k o [] W3 := by
    refine ⟨⟨hgw.below (Nat.le_refl _), fun b hb => ?_⟩, _, _, hA3, ?_⟩
    · simp only [List.mem_cons, List.not_mem_nil, or_false] at hb
      rcases hb with rfl | rfl | rfl
      · exact hg3.blk HB4.out fun x => x
      · exact hg3.blk HB5.out fun x => x
      · exact hX3
    · show OlOwn _ _ _ _ o
      rw [hoo]
      refine ⟨?_, ?_⟩
      · have := owns_grow (owns_mono HMO.out (by have := HS0.out; omega : w.heap.size ≤ W0.heap.size)) hg3
        simp only [List.length_map]
        rw [← HPL.out]
        exact this
      · have := owns_grow (owns_mono HNO.out (by have := HS0.out; omega : w.heap.size ≤ W0.heap.size)) hg3
        simp only
        rw [← HEL.out]
        exact this
  rw [hW3]
  have HS3 := Lib.hid hs3
  have HFV := Lib.hid hfv
  have HO := Lib.hid ho
  have HOL := Lib.hid hol
  have hf0 : FAt w n0 fv.A gl := by rw [← hfv]; exact HF.out
  have hv0 : fv.n = gl.length := by rw [← hfv]; exact HV.out
  have HSW := Lib.hid (show w.heap.size + 2 ≤ W1.heap.size by have := HW1S.out; have := HS0.out; omega)
  refine parts_loop w.heap.size (W1.heap.size + 1) (W1.heap.size + 1 + 1) fv gl g rfl hX3 hY3 hv0 (((hf0.more hn).keep fun p hp => (hgw.below (Nat.le_refl _)).cell hp)) hgw.size hg (FmJ w M W1.heap.size fv k o)
    (fun pre W W' row h hg hr => by
      obtain ⟨pv, ev, h1, h2⟩ := h.acc
      exact ⟨h.kp.grown (by have := HSW.out; omega) h.kp.below.size hg hr, pv, ev, h1.keepC (grown_far hg hr).1, h2.keepC (grown_far hg hr).1⟩) hJ0
    (fun x pb => { tmps := #[.int .i64 g, .map (some M), .pointer (some ⟨X, 0, none⟩), undef, .pointer (some ⟨w.heap.size, 0, none⟩), .pointer (some ⟨w.heap.size + 1, 0, none⟩), .pointer (some ⟨W1.heap.size, 0, none⟩), .pointer (some ⟨pb, 0, none⟩), .pointer (some ⟨X, 1, none⟩), .slice (some ⟨b, off, none⟩) fn fc, .int .i64 g, .pointer (some ⟨b, off + g * 9, none⟩), .pointer (some ⟨b, off + g * 9 + 3, none⟩), .agg #[.slice pA pl pc, .slice eA el ec], .agg #[.slice mA pl mc, .slice nA el nc], .agg #[fu, .slice (some ⟨b, off, none⟩) fn fc, d2, d3, d4, d5, d6, d7, d8], .int .i64 g, .func (.func 53) #[] #[.pointer (some ⟨W1.heap.size + 1, 0, none⟩), .pointer (some ⟨W1.heap.size + 1 + 1, 0, none⟩)], pv x, undef, undef, undef, undef, undef, undef, undef, undef], defers := [] }) ?assign ?body (fun pre W h => h.kp.below.size) (fun pre W W' h hg => h.grow hg) ?done
  case assign =>
    intro l x W K hK
    have HKK := Lib.hid hK
    clear hK hX3 hY3 hA3 hJ0 hW3 hs3 hg3 hgw hfv ho hoo hol hf0 hv0
    obtain ⟨xg, xx, xy⟩ := x
    unfold pv
    gi_wp2
    exact HKK.out
  case body =>
    rintro l pre ⟨pg, px, py⟩ pb W hl _ hxm hlen hJ hpb hXb
    obtain ⟨pv, ev, hbx, how⟩ := hJ.acc
    obtain ⟨qv, rv, hq, hlk⟩ := HM.out.look pg (by have := mem_psOf hxm; unfold I64; simp only at this; omega)
    have hlk := hlk W (by rintro _ rfl; exact hJ.kp.below.block _ HM.out.lt)
    have hqW : OlOwn W base qv rv (k pg) := ⟨owns_keep hq.pts fun g e => hJ.kp.below.block g (owns_block hq.pts e).2.1, owns_keep hq.ends fun g e => hJ.kp.below.block g (owns_block hq.ends e).2.1⟩
    have hqr1 : Reads W w.heap.size 3 (match qv with | .slice A _ _ => A | _ => none) (k pg).1.length (opts (k pg).1) := by
      obtain ⟨A, c, _, _, rfl, _, _, _⟩ := hq.ne
      exact (Reads.of_own hq.pts).keep fun p hp => hJ.kp.below.cell hp
    have hqr2 : Reads W w.heap.size 1 (match rv with | .slice A _ _ => A | _ => none) (k pg).2.length (ints (k pg).2) := by
      obtain ⟨_, _, A, c, _, rfl, _, _⟩ := hq.ne
      exact (Reads.of_own hq.ends).keep fun p hp => hJ.kp.below.cell hp
    obtain ⟨qA, qc, rA, rc, rfl, rfl, hqc, hrc⟩ := hq.ne
    obtain ⟨vA, vc, uA, uc, rfl, rfl, hvc, huc⟩ := how.ne
    simp only at hqr1 hqr2
    obtain ⟨kp, hkp⟩ : ∃ kp, k pg = kp := ⟨_, rfl⟩
    obtain ⟨ac, hac⟩ : ∃ ac, Dp.flatOf k o pre = ac := ⟨_, rfl⟩
    have hlk1 := HK.out pg
    have hal := Dp.flatOf_len HK.out pre o
    have hpf := parts_few HF.out g
    rw [hkp] at hlk hqr1 hqr2 hqc hrc hlk1
    rw [hac] at hbx how hvc huc hal
    have hal1 : ac.1.length + kp.1.length ≤ 100000000 := by have := HOL.out; omega
    have hal2 : ac.2.length + kp.2.length ≤ 100000000 := by have := HOL.out; omega
    obtain ⟨kn, hkn⟩ : ∃ n, n = kp.1.length := ⟨_, rfl⟩
    obtain ⟨rn, hrn⟩ : ∃ n, n = kp.2.length := ⟨_, rfl⟩
    obtain ⟨an, han⟩ : ∃ n, n = ac.1.length := ⟨_, rfl⟩
    obtain ⟨en, hen⟩ : ∃ n, n = ac.2.length := ⟨_, rfl⟩
    rw [← hkn] at hqr1 hqc hal1
    rw [← hrn] at hqr2 hrc hal2
    rw [← hkn, ← hrn] at hlk
    have p0 := hpb.cell 0
    have p1 := hpb.cell 1
    have p2 := hpb.cell 2
    have a0 := hbx.cell 0
    have a1 := hbx.cell 1
    have m0 := (hJ.kp.blk _ List.mem_cons_self).cell 0
    have lp := hpb.lt
    have la := hbx.lt
    have lm := (hJ.kp.blk _ List.mem_cons_self).lt
    simp only [List.getElem?_toArray, List.getElem?_cons_zero, List.getElem?_cons_succ] at p0 p1 p2 a0 a1 m0
    rw [← han] at a0
    rw [← hen] at a1
    have HJ := Lib.hid hJ
    have HW := Lib.hid how
    have HBX := Lib.hid hbx
    have HQ1 := Lib.hid hqr1
    have HQ2 := Lib.hid hqr2
    have HKN := Lib.hid hkn
    have HRN := Lib.hid hrn
    have HAN := Lib.hid han
    have HEN := Lib.hid hen
    have HKP := Lib.hid hkp
    have HAC := Lib.hid hac
    have HAL1 := Lib.hid hal1
    have HAL2 := Lib.hid hal2
    clear hX3 hY3 hA3 hJ0 hW3 hs3 hg3 hgw hfv ho hoo hol hf0 hv0 hJ hpb hXb hbx how hq hqW hqr1 hqr2 hkp hac hlk1 hal hpf hkn hrn han hen hal1 hal2 hvc huc
    gi_wp2_with fail
    refine ⟨trivial, ?_⟩
    refine (CallsIn.inRound l (callsIn_wide.2 (behind_any w.heap.size w.heap.size (.slice vA an vc) (.slice uA en uc) ac kp qA rA qc rc kn rn (pg, px, py) W (by rw [HAN.out, HEN.out]; exact HW.out) HJ.out.kp.below.size HQ1.out HQ2.out HKN.out.symm HRN.out.symm HJ.out.kp.below.size (fun k e => (OlOwn.lo (by rw [HAN.out, HEN.out] at e; exact HW.out) k (by rw [HAN.out, HEN.out] at e; exact e)).1) HAL1.out HAL2.out))).mono ?_
    rintro e W' ⟨pv', ev', rfl, how', hF, hnew⟩
    obtain ⟨f1, f2, f3⟩ := fr_own (by rw [HAN.out, HEN.out]; exact HW.out) hF HJ.out.kp.below.size
    obtain ⟨vA2, vc2, uA2, uc2, rfl, rfl, _, _⟩ := how'.ne
    have hbx2 := f2 _ _ _ HBX.out (by decide) (by decide)
    have b0 := hbx2.cell 0
    have b1 := hbx2.cell 1
    have bf0 := hbx2.frozen 0
    have bf1 := hbx2.frozen 1
    have bl := hbx2.lt
    simp only [List.getElem?_toArray, List.getElem?_cons_zero, List.getElem?_cons_succ] at b0 b1
    have HF1 := Lib.hid f1
    have HF2 := Lib.hid f2
    have HF3 := Lib.hid f3
    have HOW := Lib.hid how'
    have HBX2 := Lib.hid hbx2
    clear how' hF hnew f1 f2 f3 hbx2
    gi_wp2_with fail
    have hks : ∀ t (cs : Array Value) g, Blk W g t cs → t ≠ 3 → t ≠ 59 → g ≠ W1.heap.size → ∀ u v : Value, Blk ((W'.setCell ⟨W1.heap.size, 0, none⟩ u).setCell ⟨W1.heap.size, 1, none⟩ v) g t cs := fun t cs g h h1 h2 h3 u v => ((HF2.out _ _ _ h h1 h2).far (p := ⟨W1.heap.size, 0, none⟩) h3 u).far (p := ⟨W1.heap.size, 1, none⟩) h3 v
    have hbl : ∀ u v : Value, Below w.heap.size W ((W'.setCell ⟨W1.heap.size, 0, none⟩ u).setCell ⟨W1.heap.size, 1, none⟩ v) := fun u v => HF1.out.trans ⟨rfl, rfl, rfl, by simp, fun j hj => (Below.heap_setCell _ _ _ _ (by have := HSW.out; simp only; omega)).trans (Below.heap_setCell _ _ _ _ (by have := HSW.out; simp only; omega))⟩
    have HBL := Lib.hid hbl
    have hbx0 := HBX2.out.set_ 0 (.slice vA2 (behindO ac kp (pg, px, py)).1.length vc2)
    refine ⟨((HF3.out.trans (KeepsOthers.setCell _ _ _)).trans (KeepsOthers.setCell _ _ _)).from _, ⟨HBL.out _ _, ?_⟩, ⟨⟨HJ.out.kp.below.trans (HBL.out _ _), fun b hb => ?_⟩, .slice vA2 (behindO ac kp (pg, px, py)).1.length vc2, .slice uA2 (behindO ac kp (pg, px, py)).2.length uc2, ?_, ?_⟩⟩
    · exact (hks 32 fv.cs (W1.heap.size + 1) (HJ.out.kp.blk (_, _, _) (by simp : (W1.heap.size + 1, 32, fv.cs) ∈ _)) (by decide) (by decide) (by omega) _ _).trans (HJ.out.kp.blk (_, _, _) (by simp : (W1.heap.size + 1, 32, fv.cs) ∈ _)).symm
    · have hb2 := HJ.out.kp.blk b hb
      simp only [List.mem_cons, List.not_mem_nil, or_false] at hb
      rcases hb with rfl | rfl | rfl
      · exact hks 89 _ w.heap.size hb2 (by decide) (by decide) (by have := HSW.out; omega) _ _
      · exact hks 39 _ (w.heap.size + 1) hb2 (by decide) (by decide) (by have := HSW.out; omega) _ _
      · exact hks 32 _ (W1.heap.size + 1) hb2 (by decide) (by decide) (by omega) _ _
    · have := hbx0.set_ 1 (.slice uA2 (behindO ac kp (pg, px, py)).2.length uc2)
      simpa using this
    · rw [Dp.flatOf_snoc, HAC.out]
      simp only
      rw [HKP.out]
      exact ⟨owns_set (owns_set HOW.out.pts HBX2.out (by decide) 0 _) hbx0 (by decide) 1 _, owns_set (owns_set HOW.out.ends HBX2.out (by decide) 0 _) hbx0 (by decide) 1 _⟩
  case done =>
    intro D W hD hJ hK3
    obtain ⟨pv, ev, hbx, how⟩ := hJ.acc
    obtain ⟨vA, vc, uA, uc, rfl, rfl, _, _⟩ := how.ne
    have hre : Blk W (w.heap.size + 1) 39 #[.slice none 0 0, .slice none 0 0] := hJ.kp.blk (_, _, _) (by simp)
    have a0 := hbx.cell 0
    have a1 := hbx.cell 1
    have la := hbx.lt
    have r0 := hre.cell 0
    have r1 := hre.cell 1
    have rf0 := hre.frozen 0
    have rf1 := hre.frozen 1
    have rl := hre.lt
    simp only [List.getElem?_toArray, List.getElem?_cons_zero, List.getElem?_cons_succ] at a0 a1 r0 r1
    have hfl : Dp.flatF gl g k = Dp.flatOf k o (partsOf gl g) := by
      unfold Dp.flatF
      rw [ho]
      rfl
    obtain ⟨R, hR⟩ : ∃ R, Dp.flatOf k o (partsOf gl g) = R := ⟨_, rfl⟩
    rw [hR] at how a0 a1 hfl
    have HFL := Lib.hid hfl
    have HJ := Lib.hid hJ
    have HK3 := Lib.hid hK3
    have HOW := Lib.hid how
    have HRE := Lib.hid hre
    clear hX3 hY3 hA3 hJ0 hW3 hs3 hg3 hgw hfv ho hoo hol hf0 hv0 hJ hK3 hbx how hre hfl hR
    go_wp2_with fail
    show LeavesInM Fence.wide 8 Try.prog _ _ _ ([D].map mark) .returning _
    have hbx0 := HRE.out.set_ 0 (.slice vA R.1.length vc)
    have hbx1 := hbx0.set_ 1 (.slice uA R.2.length uc)
    refine leaves_marks (B := D) [D] _ ⟨by simp, fun E hE => by simp only [List.mem_singleton] at hE; subst hE; exact ⟨Nat.le_refl _, (Below.heap_setCell _ _ _ _ (by have := HS3.out; have := HSW.out; simp only; omega)).trans ((Below.heap_setCell _ _ _ _ (by have := HS3.out; have := HSW.out; simp only; omega)).trans HK3.out)⟩⟩ fun W' hW' => ?_
    have hDl : D < W.heap.size := (Array.getElem?_eq_some_iff.1 HK3.out).1
    have hcl : ∀ (g : Nat) (o : Obj), ((W.setCell ⟨w.heap.size + 1, 0, none⟩ (.slice vA R.1.length vc)).setCell ⟨w.heap.size + 1, 1, none⟩ (.slice uA R.2.length uc)).heap[g]? = some o → o.isCells = true → W'.heap[g]? = some o := fun g o e hc => by
      refine (hW'.block g (Array.getElem?_eq_some_iff.1 e).1 (fun e2 => ?_)).trans e
      simp only [List.mem_singleton] at e2
      subst e2
      rw [(Below.heap_setCell _ _ _ _ (by have := HS3.out; have := HSW.out; simp only; omega)).trans ((Below.heap_setCell _ _ _ _ (by have := HS3.out; have := HSW.out; simp only; omega)).trans HK3.out)] at e
      injection e with e; subst e; cases hc
    have hfin := hbx1.keepC hcl
    have k0 := hfin.cell 0
    have k1 := hfin.cell 1
    simp at k0 k1
    have hBs : ∀ u v : Value, Below w.heap.size W ((W.setCell ⟨w.heap.size + 1, 0, none⟩ u).setCell ⟨w.heap.size + 1, 1, none⟩ v) := fun u v => ⟨rfl, rfl, rfl, by simp, fun j hj => (Below.heap_setCell _ _ _ _ (by simp only; omega)).trans (Below.heap_setCell _ _ _ _ (by simp only; omega))⟩
    have hBw := HJ.out.kp.below.trans (hBs (.slice vA R.1.length vc) (.slice uA R.2.length uc))
    have hB : Below w.heap.size w W' := hBw.trans (hW'.below hBw.size (fun k hk e => by simp only [List.mem_singleton] at e; have := HS3.out; have := HSW.out; omega))
    have hown2 : OlOwn ((W.setCell ⟨w.heap.size + 1, 0, none⟩ (.slice vA R.1.length vc)).setCell ⟨w.heap.size + 1, 1, none⟩ (.slice uA R.2.length uc)) w.heap.size (.slice vA R.1.length vc) (.slice uA R.2.length uc) R := ⟨owns_set (owns_set HOW.out.pts HRE.out (by decide) 0 _) hbx0 (by decide) 1 _, owns_set (owns_set HOW.out.ends HRE.out (by decide) 0 _) hbx0 (by decide) 1 _⟩
    exact ⟨.agg #[.slice vA R.1.length vc, .slice uA R.2.length uc], by simp [results, Try.results35, go_sem, k0, k1], _, _, rfl, by rw [HFL.out]; exact hown2.keepC hcl, hB.os, hB.tape, hB.output, hB.size, fun j hj _ => hB.block j hj⟩
end Go.Proofs.Ytoklllbaihccnaa

/- The reference's Flat: its contract. Expanded from XCrI.src by expand.py. · The law's tells: its walk. Expanded from XCwT.src by expand.py. · The law ComposeTells: its walk. Expanded from XCwU.src by expand.py. -/
import Derived.Test.YtoklllbaihccnaaCrJ
import Derived.Test.YtoklllbaihccnaaCrH
import Derived.Test.YtoklllbaihccnaaCqR
import Derived.Test.YtoklllbaihccnaaCpD
import Derived.Test.YtoklllbaihccnaaCpF
import Derived.Test.YtoklllbaihccnaaCpG
import Derived.Test.YtoklllbaihccnaaCwK
import Derived.Deep.CutBlock
import Derived.Test.YtoklllbaihccnaaCqF
set_option linter.unusedVariables false
set_option linter.unusedSimpArgs false
namespace Go.Proofs.Ytoklllbaihccnaa
open Go.RowKit Go.Shelf
/-- in Flat: the font's block, the answer's, the older blocks -/
structure FnI (w : World) (A : Option Addr) (n c : Nat) (W : World) : Prop where
  font : Blk W w.heap.size 32 (fvC A n c).cs
  res : Blk W (w.heap.size + 1) 80 #[.slice none 0 0, .slice none 0 0, .int .i64 0]
  below : Below w.heap.size w W
theorem FnI.below' {w W W' : World} {A : Option Addr} {n c : Nat} (h : FnI w A n c W) (hb : Below W.heap.size W W') : FnI w A n c W' :=
  ⟨(hb.block _ h.font.lt).trans h.font, (hb.block _ h.res.lt).trans h.res, h.below.trans (hb.mono h.below.size)⟩
theorem FnI.alloc {w W : World} {A : Option Addr} {n c : Nat} (h : FnI w A n c W) (o : Obj) : FnI w A n c (W.alloc o) := h.below' ((Below.refl _ _).alloc (Nat.le_refl _) _)
theorem OlOwn.setB {W : World} {base b : Nat} {pv ev : Value} {o : Ol} {cs : Array Value} (h : OlOwn W base pv ev o) (hb : Blk W b 80 cs) (i : Nat) (u : Value) : OlOwn (W.setCell ⟨b, i, none⟩ u) base pv ev o :=
  ⟨owns_set h.pts hb (by decide) i u, owns_set h.ends hb (by decide) i u⟩
set_option maxRecDepth 100000 in
set_option maxHeartbeats 4000000 in
theorem rflatT_any (A : Option Addr) (n c : Nat) (g : Int) (gl : List Gl) (w : World) (hn : n = gl.length) (hf : FAt w w.heap.size A gl) (h12 : n ≤ 12) (hg : I64 g)
    (hok : (Rf.deepR gl g).2 = 0 → 0 ≤ g ∧ g < n ∧ ((Rf.counts gl).getD g.toNat 0 ≤ 1000 → ∃ G t, Ln.Told gl G t ∧ g ∈ t ∧ (∀ y ∈ t, (Dp.lrn ([], []) (Dp.flatF gl) t y).1.length ≤ 90000 ∧ (Dp.lrn ([], []) (Dp.flatF gl) t y).2.length ≤ 90000) ∧ Dp.lrn ([], []) (Dp.flatF gl) t g = (Dp.flat gl g).1)) :
    Calls Try.prog 28 #[.agg (fvC A n c).cs, .int .i64 g] w fun e w' => ∃ (o : Ol) (E : Int) (pv ev : Value), e = .returned (.agg #[pv, ev, .int .i64 E]) ∧ OlOwn w' w.heap.size pv ev o ∧ Below w.heap.size w w' ∧
      ((E = (Rf.deepR gl g).2 ∧ E ≠ 0 ∧ o = ([], [])) ∨ ((Rf.deepR gl g).2 = 0 ∧ ((1000 < (Rf.counts gl).getD g.toNat 0 ∧ E = 2 ∧ o = ([], [])) ∨ ((Rf.counts gl).getD g.toNat 0 ≤ 1000 ∧ E = 0 ∧ o = (Dp.flat gl g).1)))) := by
  have HF := Lib.hid hf
  have HN := Lib.hid hn
  have HGI := Lib.hid hg
  have HOK := Lib.hid hok
  clear hf hn hg hok
  go_enter Try.func28, Try.ntmps28
  go_wp2_with fail
  obtain ⟨W1, hW1⟩ : ∃ W1, (w.alloc (.cells (fvC A n c).cs 32)).alloc (.cells #[.slice none 0 0, .slice none 0 0, .int .i64 0] 80) = W1 := ⟨_, rfl⟩
  have hX1 : Blk W1 w.heap.size 32 (fvC A n c).cs := by rw [← hW1]; exact (Blk.new _ _ _).alloc _
  have hR1 : Blk W1 (w.heap.size + 1) 80 #[.slice none 0 0, .slice none 0 0, .int .i64 0] := by rw [← hW1]; exact Blk.new_at _ _ _ (by simp)
  have hB1 : Below w.heap.size w W1 := by rw [← hW1]; exact ((Below.refl _ _).alloc (Nat.le_refl _) _).alloc (by simp) _
  rw [hW1]
  clear hW1
  refine (rdeep_any A n c g gl W1 HN.out ((HF.out.below hB1 (Nat.le_refl _)).more hB1.size) h12 HGI.out).mono ?_
  rintro e w2 ⟨rfl, hb2⟩
  obtain ⟨dN, hdN⟩ : ∃ dN, (Rf.deepR gl g).1 = dN := ⟨_, rfl⟩
  obtain ⟨dE, hdE⟩ : ∃ dE, (Rf.deepR gl g).2 = dE := ⟨_, rfl⟩
  have hok := HOK.out
  rw [hdE] at hok
  rw [hdN, hdE]
  go_upto_region 2 with fail
  obtain ⟨W3, hW3⟩ : ∃ W3, w2.alloc (.cells #[.slice none 0 0, .int .i64 dN, .int .i64 dE] 76) = W3 := ⟨_, rfl⟩
  have hG3 : Blk W3 w2.heap.size 76 #[.slice none 0 0, .int .i64 dN, .int .i64 dE] := by rw [← hW3]; exact Blk.new _ _ _
  have hI3 : FnI w A n c W3 := by rw [← hW3]; exact (FnI.below' ⟨hX1, hR1, hB1⟩ hb2).alloc _
  have hs2 := (FnI.below' ⟨hX1, hR1, hB1⟩ hb2).below.size
  have x2 := hG3.cell 2
  have xl := hG3.lt
  simp only [List.getElem?_toArray, List.getElem?_cons_zero, List.getElem?_cons_succ] at x2
  have HI3 := Lib.hid hI3
  have HG3 := Lib.hid hG3
  rw [hW3]
  clear hW3
  have r0 := HI3.out.res.cell 0
  have r1 := HI3.out.res.cell 1
  have r2 := HI3.out.res.cell 2
  have f0 := HI3.out.res.frozen 0
  have f1 := HI3.out.res.frozen 1
  have f2 := HI3.out.res.frozen 2
  have rl := HI3.out.res.lt
  simp only [List.getElem?_toArray, List.getElem?_cons_zero, List.getElem?_cons_succ] at r0 r1 r2
  by_cases hE : dE = 0
  · subst hE
    obtain ⟨hg0, hgn, hok'⟩ := hok rfl
    obtain ⟨q, rfl⟩ := Int.eq_ofNat_of_zero_le hg0
    have hqn : q < n := by omega
    have HOK2 := Lib.hid hok'
    have HDE := Lib.hid hdE
    clear hok'
    have y0 := hI3.font.cell 0
    have y1 := hI3.font.cell 1
    have y2 := hI3.font.cell 2
    have y3 := hI3.font.cell 3
    have y4 := hI3.font.cell 4
    have y5 := hI3.font.cell 5
    have y6 := hI3.font.cell 6
    have y7 := hI3.font.cell 7
    have y8 := hI3.font.cell 8
    have yl := hI3.font.lt
    simp only [List.getElem?_toArray, List.getElem?_cons_zero, List.getElem?_cons_succ] at y0 y1 y2 y3 y4 y5 y6 y7 y8
    have hn0 : 0 < n := by omega
    clear hok hX1 hR1 hB1 hb2 hdN hdE hI3 hG3 hgn hg0 HOK
    go_wp2_with fail
    refine (counts_any A n c gl W3 HN.out ((HF.out.below HI3.out.below (Nat.le_refl _)).more HI3.out.below.size) h12 hn0).mono ?_
    rintro e w4 ⟨ob, rfl, hrow, hb⟩
    obtain ⟨xs, hxs⟩ : ∃ xs, Rf.counts gl = xs := ⟨_, rfl⟩
    rw [hxs] at hrow
    have hxl : xs.length = n := by rw [← hxs, HN.out]; exact (Rf.CB.rounds rfl (own_few HF.out) 5).1
    have x0 := owns_cell hrow (ints_at _ q (xs.getD q 0) (by rw [List.getD_eq_getElem?_getD, List.getElem?_eq_getElem (by omega)]; rfl))
    have HI4 := Lib.hid (HI3.out.below' hb)
    have HXS := Lib.hid hxs
    have HROW := Lib.hid hrow
    have r0 := HI4.out.res.cell 0
    have r1 := HI4.out.res.cell 1
    have r2 := HI4.out.res.cell 2
    have f0 := HI4.out.res.frozen 0
    have f1 := HI4.out.res.frozen 1
    have f2 := HI4.out.res.frozen 2
    have rl := HI4.out.res.lt
    simp only [List.getElem?_toArray, List.getElem?_cons_zero, List.getElem?_cons_succ] at r0 r1 r2
    have y0 := HI4.out.font.cell 0
    have y1 := HI4.out.font.cell 1
    have y2 := HI4.out.font.cell 2
    have y3 := HI4.out.font.cell 3
    have y4 := HI4.out.font.cell 4
    have y5 := HI4.out.font.cell 5
    have y6 := HI4.out.font.cell 6
    have y7 := HI4.out.font.cell 7
    have y8 := HI4.out.font.cell 8
    have yl := HI4.out.font.lt
    simp only [List.getElem?_toArray, List.getElem?_cons_zero, List.getElem?_cons_succ] at y0 y1 y2 y3 y4 y5 y6 y7 y8
    obtain ⟨xv, hxv⟩ : ∃ xv, xs.getD q 0 = xv := ⟨_, rfl⟩
    rw [hxv] at x0
    have HXV := Lib.hid hxv
    clear hxs hrow hxl hxv
    by_cases hm : 1000 < xv
    · have hm1 : decide (1000 < xv) = true := decide_eq_true hm
      have HM := Lib.hid hm
      clear hm
      go_wp2_with fail
      have hb7 := (((HI4.out.res.set_ 0 (.slice none 0 0)).set_ 1 (.slice none 0 0)).set_ 2 (.int .i64 (2)))
      have k0 := hb7.cell 0
      have k1 := hb7.cell 1
      have k2 := hb7.cell 2
      simp at k0 k1 k2
      have hBf : Below w.heap.size w (((w4.setCell ⟨w.heap.size + 1, 0, none⟩ (.slice none 0 0)).setCell ⟨w.heap.size + 1, 1, none⟩ (.slice none 0 0)).setCell ⟨w.heap.size + 1, 2, none⟩ (.int .i64 (2))) := ((HI4.out.below.setCell (p := ⟨w.heap.size + 1, 0, none⟩) (Nat.le_succ _) _).setCell (p := ⟨w.heap.size + 1, 1, none⟩) (Nat.le_succ _) _).setCell (p := ⟨w.heap.size + 1, 2, none⟩) (Nat.le_succ _) _
      exact bodyPost_ret (v := .agg #[.slice none 0 0, .slice none 0 0, .int .i64 2]) (by simp [results, Try.results28, go_sem, k0, k1, k2]) rfl ⟨([], []), 2, _, _, rfl, OlOwn.nil _ _, hBf, .inr ⟨HDE.out, .inl ⟨by rw [HXS.out, Int.toNat_natCast, HXV.out]; exact HM.out, rfl, rfl⟩⟩⟩
    · have hm1 : decide (1000 < xv) = false := decide_eq_false hm
      have HM := Lib.hid hm
      clear hm
      go_wp2_with fail
      have hle : (Rf.counts gl).getD (q : Int).toNat 0 ≤ 1000 := by rw [HXS.out, Int.toNat_natCast, HXV.out]; have := HM.out; omega
      obtain ⟨G, t, hT, hqt, hbd, hfl⟩ := HOK2.out hle
      refine (rflat_any A n c gl HN.out h12 G t hT hbd (t.idxOf (q : Int) + 1) q w4 (Nat.lt_succ_self _) hqt hqn ((HF.out.below HI4.out.below (Nat.le_refl _)).more HI4.out.below.size)).mono ?_
      rintro e w5 ⟨pv, ev, rfl, hol, hb5⟩
      rw [hfl] at hol
      have HOL := Lib.hid hol
      have HI5 := Lib.hid (HI4.out.below' hb5)
      have HLE := Lib.hid hle
      obtain ⟨pA, pc, eA, ec, rfl, rfl, _⟩ := hol.ne
      have r0 := HI5.out.res.cell 0
      have r1 := HI5.out.res.cell 1
      have r2 := HI5.out.res.cell 2
      have f0 := HI5.out.res.frozen 0
      have f1 := HI5.out.res.frozen 1
      have f2 := HI5.out.res.frozen 2
      have rl := HI5.out.res.lt
      simp only [List.getElem?_toArray, List.getElem?_cons_zero, List.getElem?_cons_succ] at r0 r1 r2
      clear hT hqt hbd hfl hol hb5 hle y0 y1 y2 y3 y4 y5 y6 y7 y8 yl
      go_wp2_with fail
      obtain ⟨P, hP⟩ : ∃ P, (Dp.flat gl (q : Int)).1 = P := ⟨_, rfl⟩
      have hol := HOL.out.mono HI4.out.below.size
      rw [hP] at hol ⊢
      have hb7 := (((HI5.out.res.set_ 0 (.slice pA P.1.length pc)).set_ 1 (.slice eA P.2.length ec)).set_ 2 (.int .i64 (0)))
      have k0 := hb7.cell 0
      have k1 := hb7.cell 1
      have k2 := hb7.cell 2
      simp at k0 k1 k2
      have hBf : Below w.heap.size w (((w5.setCell ⟨w.heap.size + 1, 0, none⟩ (.slice pA P.1.length pc)).setCell ⟨w.heap.size + 1, 1, none⟩ (.slice eA P.2.length ec)).setCell ⟨w.heap.size + 1, 2, none⟩ (.int .i64 (0))) := ((HI5.out.below.setCell (p := ⟨w.heap.size + 1, 0, none⟩) (Nat.le_succ _) _).setCell (p := ⟨w.heap.size + 1, 1, none⟩) (Nat.le_succ _) _).setCell (p := ⟨w.heap.size + 1, 2, none⟩) (Nat.le_succ _) _
      exact bodyPost_ret (v := .agg #[.slice pA P.1.length pc, .slice eA P.2.length ec, .int .i64 0]) (by simp [results, Try.results28, go_sem, k0, k1, k2]) rfl ⟨P, 0, _, _, rfl, ((hol.setB HI5.out.res 0 _).setB (HI5.out.res.set_ 0 _) 1 _).setB ((HI5.out.res.set_ 0 _).set_ 1 _) 2 _, hBf, .inr ⟨HDE.out, .inr ⟨HLE.out, rfl, rfl⟩⟩⟩
  · have hE1 : (dE != 0) = true := by simpa using hE
    have HE := Lib.hid hE
    have HDE := Lib.hid hdE
    clear hok hX1 hR1 hB1 hb2 hdN hdE hI3 hG3 hE HOK
    go_wp2_with fail
    have hb7 := (((HI3.out.res.set_ 0 (.slice none 0 0)).set_ 1 (.slice none 0 0)).set_ 2 (.int .i64 (dE)))
    have k0 := hb7.cell 0
    have k1 := hb7.cell 1
    have k2 := hb7.cell 2
    simp at k0 k1 k2
    have hBf : Below w.heap.size w (((W3.setCell ⟨w.heap.size + 1, 0, none⟩ (.slice none 0 0)).setCell ⟨w.heap.size + 1, 1, none⟩ (.slice none 0 0)).setCell ⟨w.heap.size + 1, 2, none⟩ (.int .i64 (dE))) := ((HI3.out.below.setCell (p := ⟨w.heap.size + 1, 0, none⟩) (Nat.le_succ _) _).setCell (p := ⟨w.heap.size + 1, 1, none⟩) (Nat.le_succ _) _).setCell (p := ⟨w.heap.size + 1, 2, none⟩) (Nat.le_succ _) _
    exact bodyPost_ret (v := .agg #[.slice none 0 0, .slice none 0 0, .int .i64 dE]) (by simp [results, Try.results28, go_sem, k0, k1, k2]) rfl ⟨([], []), dE, _, _, rfl, OlOwn.nil _ _, hBf, .inl ⟨HDE.out.symm, HE.out, rfl⟩⟩
end Go.Proofs.Ytoklllbaihccnaa
namespace Go.Proofs.Ytoklllbaihccnaa
open Go.RowKit Go.Shelf
theorem Blk.on {X Y : World} {g : Nat} {t : TypeId} {cs : Array Value} (h : Blk X g t cs) (hb : Below X.heap.size X Y) : Blk Y g t cs := (hb.block g h.lt).trans h
/-- what tells asks of a font -/
structure TlF (gl : List Gl) : Prop where
  p : ∀ g, (partsOf gl g).length ≤ 1000
  raw : ∀ g, (Lf.raw gl g).length ≤ 1000
  ol : ∃ e q, (∀ y, (Dp.ownO gl y).2.length ≤ e) ∧ (∀ y, (partsOf gl y).length ≤ q) ∧ Dp.cap e q 4 ≤ 90000
theorem Dp.flat_bdG {gl : List Gl} (ht : TlF gl) (g : Int) (h : (Dp.down gl g).2.2 = 0) (hm : Dp.learn (Dp.many gl) (Dp.down gl g).1 g ≤ 1000) :
    ∀ pre x post, (Dp.down gl g).1 = pre ++ x :: post → ∀ y, (Dp.learnO (Dp.flatF gl) pre y).1.length ≤ 90000 ∧ (Dp.learnO (Dp.flatF gl) pre y).2.length ≤ 90000 := by
  obtain ⟨e', q, he, hq, hc⟩ := ht.ol
  obtain ⟨t, hd, h4, e⟩ := (Dp.down_zero ht.p).1 h
  rw [e] at hm ⊢
  have hm' : Dp.lrn 0 (Dp.many gl) t g ≤ 1000 := hm
  intro pre x post hsp y
  have hsp' : t = pre ++ x :: post := hsp
  rw [Dp.lrn_ol]
  by_cases hy : y ∈ pre
  · have hyt : y ∈ t := by rw [hsp']; exact List.mem_append_left _ hy
    have hn := hd.told.nd
    rw [hsp', List.nodup_append] at hn
    have hyp : y ∉ x :: post := fun hm => hn.2.2 _ hy _ hm rfl
    have e1 : Dp.lrn ([], []) (Dp.flatF gl) pre y = Dp.lrn ([], []) (Dp.flatF gl) t y := by rw [hsp', Dp.lrn_app _ _ _ hyp]
    rw [e1]
    exact Dp.ol_bd hd h4 hm' he hq hc ((hd.reach y).1 (hd.told.sub y hyt))
  · rw [Dp.lrn_out hy]
    exact ⟨Nat.zero_le _, Nat.zero_le _⟩
theorem Dp.flat_fewG {gl : List Gl} (ht : TlF gl) (g : Int) : (Dp.flat gl g).1.1.length ≤ 90000 ∧ (Dp.flat gl g).1.2.length ≤ 90000 := by
  by_cases h : (Dp.flat gl g).2 = 0
  · obtain ⟨e', q, he, hq, hc⟩ := ht.ol
    obtain ⟨t, d, e0, hm, e⟩ := Dp.flat_zero ht.p h
    obtain ⟨t0, d0, h4, _⟩ := (Dp.down_zero ht.p).1 e0
    rw [e]
    exact Dp.ol_bd d (by rw [d.same d0 .refl (Dp.loc_most _) .refl]; exact h4) hm he hq hc .refl
  · rw [Dp.flat_bad h]
    exact ⟨Nat.zero_le _, Nat.zero_le _⟩
theorem Rf.all4_eq {gl : List Gl} (hp : ∀ g, (partsOf gl g).length ≤ 1000) (g : Int) : Rf.all4 gl g = Wk.all gl g := by
  rw [← Rf.all_eq hp g]
  unfold Rf.all4 Rf.all
  by_cases h : thereB gl.length g = true
  · rw [if_pos h, if_pos h]
    have h2 : 0 ≤ g ∧ g < gl.length := by simpa [thereB] using h
    have e : ((g.toNat : Nat) : Int) = g := by omega
    unfold Rf.upTo
    rw [e]
  · rw [if_neg h, if_neg h]
theorem Wk.all_few {gl : List Gl} (hp : ∀ g, (partsOf gl g).length ≤ 1000) (g : Int) : (Wk.all gl g).length ≤ gl.length := by
  rw [← Rf.all4_eq hp g]
  unfold Rf.all4
  split
  · rw [List.length_map]
    unfold Rf.upTo
    exact Nat.le_trans (List.length_filter_le _ _) (by simp)
  · exact Nat.zero_le _
/-- at a round of tells -/
def TlI (w : World) (A : Option Addr) (n c : Nat) (v : Value) (W : World) : Prop := Blk W w.heap.size 32 (fvC A n c).cs ∧ Below w.heap.size w W ∧ ∃ i : Int, -1 ≤ i ∧ i ≤ n + 1 ∧ v = .int .i64 i
section
variable {P : Program} {ops : Array Oper} {Q : Exit → Act → World → Prop} {S : World → Prop} {T U need : Nat → Bool}
/-- a load where S tells a font's nine cells and more -/
theorem wpSeq_loadT {i : Nat} {r : List Nat} {a : Act} {w : World} {o : Oper} {v : Value} (hT : T i = true) (ho : ops[i]? = some o) (hS : S w) (hU : U i = true) (h : wpSeq P ops Q S T U need r (a.put o.dst v) w)
    (hw : Region.wanted o (yielded ops a.tmps) = true := by kernel_rfl) (hQ : ∀ c a w, Q (.panic c) (a.put o.dst v) w → Q (.panic c) a w := by exact fun _ _ _ h => h)
    (hy : ∀ wq, S wq → (execOp a.eval o).run P wq = .ok (.value v) wq := by intro wq hq; obtain ⟨hq0, hq1, hq2, hq3, hq4, hq5, hq6, hq7, hq8⟩ := hq; first | (go_simp; done) | (go_simp; rfl)) :
    wpSeq P ops Q S T U need (i :: r) a w := wpSeq_load hT ho hw hQ hS hU hy h
end
set_option maxRecDepth 100000 in
set_option maxHeartbeats 4000000 in
theorem tells_any (A : Option Addr) (n c : Nat) (gl : List Gl) (w : World) (hn : n = gl.length) (hf : FAt w w.heap.size A gl) (h12 : n ≤ 12) (ht : TlF gl) :
    Calls Try.prog 14 #[.agg (fvC A n c).cs] w fun e w' => e = .returned (.bool true) ∧ Below w.heap.size w w' := by
  have HF := Lib.hid hf
  have HN := Lib.hid hn
  have HT := Lib.hid ht
  clear hf hn ht
  go_enter Try.func14, Try.ntmps14
  go_wp2_with fail
  obtain ⟨W1, hW1⟩ : ∃ W1, w.alloc (.cells (fvC A n c).cs 32) = W1 := ⟨_, rfl⟩
  have hX1 : Blk W1 w.heap.size 32 (fvC A n c).cs := by rw [← hW1]; exact Blk.new _ _ _
  have hB1 : Below w.heap.size w W1 := by rw [← hW1]; exact (Below.refl _ _).alloc (Nat.le_refl _) _
  rw [hW1]
  clear hW1
  have HX1 := Lib.hid hX1
  have HB1 := Lib.hid hB1
  refine (order_any (fvC A n c) gl W1 HN.out ((HF.out.below hB1 (Nat.le_refl _)).more hB1.size) (by have := HN.out; omega) (fvC_one _ _ _)).mono ?_
  rintro e w2 ⟨tv, rfl, hrow, hb2⟩
  obtain ⟨oL, oN, oE, ho⟩ : ∃ a b d, Fo.order gl = (a, b, d) := ⟨_, _, _, rfl⟩
  rw [ho] at hrow ⊢
  obtain ⟨A1, c1, rfl, _⟩ := owns_form hrow
  have hX2 := hX1.on hb2
  have hB2 := hB1.trans (hb2.mono hB1.size)
  have HX2 := Lib.hid hX2
  have HB2 := Lib.hid hB2
  have HO := Lib.hid ho
  have HR1 := Lib.hid (owns_mono hrow hB1.size)
  have y0 := hX2.cell 0
  have y1 := hX2.cell 1
  have y2 := hX2.cell 2
  have y3 := hX2.cell 3
  have y4 := hX2.cell 4
  have y5 := hX2.cell 5
  have y6 := hX2.cell 6
  have y7 := hX2.cell 7
  have y8 := hX2.cell 8
  have yl := hX2.lt
  simp only [List.getElem?_toArray, List.getElem?_cons_zero, List.getElem?_cons_succ] at y0 y1 y2 y3 y4 y5 y6 y7 y8
  clear hX1 hB1 hrow hb2 hX2 hB2 ho HX1 HB1
  go_wp2_with fail
  refine (rorder_any A n c gl w2 HN.out ((HF.out.below HB2.out (Nat.le_refl _)).more HB2.out.size) h12).mono ?_
  rintro e w3 ⟨L, N, E, v, rfl, hrow, hb3, hor⟩
  rw [HN.out] at hor
  have he := Dp.order_eqR HT.out.raw hor
  rw [HO.out] at he
  simp only [Prod.mk.injEq] at he
  obtain ⟨rfl, rfl, rfl⟩ := he
  have hB3 := HB2.out.trans (hb3.mono HB2.out.size)
  obtain ⟨A2, c2, rfl, _⟩ := owns_form hrow
  have hLl : oL.length ≤ 1000000 := by
    have := HN.out
    rcases hor with ⟨e, _⟩ | ⟨_, _, e, _⟩
    · rw [e]; exact Nat.zero_le _
    · omega
  have HX3 := Lib.hid (HX2.out.on hb3)
  have HLL := Lib.hid hLl
  have HS3 := Lib.hid hB3.size
  clear hor hLl y0 y1 y2 y3 y4 y5 y6 y7 y8 yl
  go_upto_region 3 with fail
  obtain ⟨W4, hW4⟩ : ∃ W4, w3.alloc (.cells #[.slice A2 oL.length c2, .int .i64 oN, .int .i64 oE] 76) = W4 := ⟨_, rfl⟩
  have hG4 : Blk W4 w3.heap.size 76 #[.slice A2 oL.length c2, .int .i64 oN, .int .i64 oE] := by rw [← hW4]; exact Blk.new _ _ _
  have hX4 : Blk W4 w.heap.size 32 (fvC A n c).cs := by rw [← hW4]; exact Blk.alloc HX3.out _
  have hB4 : Below w.heap.size w W4 := by rw [← hW4]; exact hB3.alloc HS3.out _
  have hR14 : W4.ownsRow w.heap.size 3 1 (.slice A1 oL.length c1) oL.length (ints oL) := by rw [← hW4]; exact owns_grow (owns_grow HR1.out (Fr.of_below hb3 fun k hk _ => hk)) ((Fr.refl _ _).alloc _)
  have hR24 : W4.ownsRow w2.heap.size 3 1 (.slice A2 oL.length c2) oL.length (ints oL) := by rw [← hW4]; exact owns_grow hrow ((Fr.refl _ _).alloc _)
  rw [hW4]
  clear hW4
  have HG4 := Lib.hid hG4
  have HX4 := Lib.hid hX4
  have HB4 := Lib.hid hB4
  have x0 := hG4.cell 0
  have x1 := hG4.cell 1
  have x2 := hG4.cell 2
  simp only [List.getElem?_toArray, List.getElem?_cons_zero, List.getElem?_cons_succ] at x0 x1 x2
  clear hG4 hX4 hB4 hrow hb3 hB3
  go_wp2_with fail
  refine (nums4_any A1 A2 c1 c2 W4.heap.size W4.heap.size oL oL W4 (Reads.of_own hR14) (Reads.of_own hR24) HLL.out HLL.out).mono ?_
  rintro e w5 ⟨rfl, hg5⟩
  rw [decide_eq_true (rfl : oL = oL)]
  have hb5 := hg5.below (Nat.le_refl _)
  have HX5 := Lib.hid (HX4.out.on hb5)
  have HG5 := Lib.hid (HG4.out.on hb5)
  have HB5 := Lib.hid (HB4.out.trans (hb5.mono HB4.out.size))
  have x0 := HG5.out.cell 0
  have x1 := HG5.out.cell 1
  have x2 := HG5.out.cell 2
  simp only [List.getElem?_toArray, List.getElem?_cons_zero, List.getElem?_cons_succ] at x0 x1 x2
  have y0 := HX5.out.cell 0
  have y1 := HX5.out.cell 1
  have y2 := HX5.out.cell 2
  have y3 := HX5.out.cell 3
  have y4 := HX5.out.cell 4
  have y5 := HX5.out.cell 5
  have y6 := HX5.out.cell 6
  have y7 := HX5.out.cell 7
  have y8 := HX5.out.cell 8
  have yl := HX5.out.lt
  simp only [List.getElem?_toArray, List.getElem?_cons_zero, List.getElem?_cons_succ] at y0 y1 y2 y3 y4 y5 y6 y7 y8
  clear hR14 hR24 hg5 hb5
  go_wp2_with fail
  clear x0 x1 x2 y0 y1 y2 y3 y4 y5 y6 y7 y8 yl
  go_loopw [8] (fun i wr => TlI w A n c i wr) (fun i _ => ((n : Int) + 1 - intOf i).toNat)
  case atStart => exact ⟨HX5.out, HB5.out, -1, by omega, by omega, rfl⟩
  case round =>
    obtain ⟨hx, hb, i, hi0, hi1, rfl⟩ := hrel
    have HX := Lib.hid hx
    have HB := Lib.hid hb
    have HI := Lib.hid (show I64 i by unfold I64; omega)
    have y0 := hx.cell 0
    have y1 := hx.cell 1
    have y2 := hx.cell 2
    have y3 := hx.cell 3
    have y4 := hx.cell 4
    have y5 := hx.cell 5
    have y6 := hx.cell 6
    have y7 := hx.cell 7
    have y8 := hx.cell 8
    have yl := hx.lt
    simp only [List.getElem?_toArray, List.getElem?_cons_zero, List.getElem?_cons_succ] at y0 y1 y2 y3 y4 y5 y6 y7 y8
    clear hx hb HX5 HG5 HB5 HG4 HX4 HB4 HX3 HR1
    by_cases hin : i ≤ n
    · have hd1 : decide (i ≤ (n : Int)) = true := decide_eq_true hin
      have HIN := Lib.hid hin
      have HI0 := Lib.hid hi0
      clear hin hi0 hi1
      go_wp2_with fail
      refine (deep_any (fvC A n c) gl i wr HN.out ((HF.out.below HB.out (Nat.le_refl _)).more HB.out.size) (by have := HN.out; omega) HI.out (fvC_one _ _ _)).mono ?_
      rintro e w6 ⟨rfl, hb6⟩
      obtain ⟨dN, dE, hd⟩ : ∃ a b, ((Dp.down gl i).2.1, (Dp.down gl i).2.2) = (a, b) := ⟨_, _, rfl⟩
      simp only [Prod.mk.injEq] at hd
      rw [hd.1, hd.2]
      have HD := Lib.hid hd
      have HX6 := Lib.hid (HX.out.on hb6)
      have HB6 := Lib.hid (HB.out.trans (hb6.mono HB.out.size))
      clear hb6 hd y0 y1 y2 y3 y4 y5 y6 y7 y8 yl
      have y0 := HX6.out.cell 0
      have y1 := HX6.out.cell 1
      have y2 := HX6.out.cell 2
      have y3 := HX6.out.cell 3
      have y4 := HX6.out.cell 4
      have y5 := HX6.out.cell 5
      have y6 := HX6.out.cell 6
      have y7 := HX6.out.cell 7
      have y8 := HX6.out.cell 8
      have yl := HX6.out.lt
      simp only [List.getElem?_toArray, List.getElem?_cons_zero, List.getElem?_cons_succ] at y0 y1 y2 y3 y4 y5 y6 y7 y8
      go_wp2_with fail
      refine (flat_any (fvC A n c) gl i w6 HN.out ((HF.out.below HB6.out (Nat.le_refl _)).more HB6.out.size) (by have := HN.out; omega) HI.out (fvC_one _ _ _) (Dp.flat_bdG HT.out i)).mono ?_
      rintro e w7 ⟨pv, ev, rfl, hol, hb7⟩
      obtain ⟨o, ho⟩ : ∃ o, (Dp.flat gl i).1 = o := ⟨_, rfl⟩
      obtain ⟨fE, hfE⟩ : ∃ fE, (Dp.flat gl i).2 = fE := ⟨_, rfl⟩
      have hfw := Dp.flat_fewG HT.out i
      rw [ho] at hol hfw
      rw [hfE]
      obtain ⟨pA, pc, eA, ec, rfl, rfl, _⟩ := hol.ne
      have HO := Lib.hid ho
      have HFE := Lib.hid hfE
      have HFW := Lib.hid hfw
      have HX7 := Lib.hid (HX6.out.on hb7)
      have HB7 := Lib.hid (HB6.out.trans (hb7.mono HB6.out.size))
      have HOL := Lib.hid (hol.mono HB6.out.size)
      clear hb7 ho hfE hfw hol y0 y1 y2 y3 y4 y5 y6 y7 y8 yl
      go_upto_region 11 with fail
      obtain ⟨W8, hW8⟩ : ∃ W8, w7.alloc (.cells #[.slice pA o.1.length pc, .slice eA o.2.length ec] 39) = W8 := ⟨_, rfl⟩
      have hO8 : Blk W8 w7.heap.size 39 #[.slice pA o.1.length pc, .slice eA o.2.length ec] := by rw [← hW8]; exact Blk.new _ _ _
      have hX8 : Blk W8 w.heap.size 32 (fvC A n c).cs := by rw [← hW8]; exact HX7.out.alloc _
      have hB8 : Below w.heap.size w W8 := by rw [← hW8]; exact HB7.out.alloc HB7.out.size _
      have hL8 : OlOwn W8 w.heap.size (.slice pA o.1.length pc) (.slice eA o.2.length ec) o := by rw [← hW8]; exact HOL.out.grow ((Fr.refl _ _).alloc _)
      rw [hW8]
      clear hW8
      have HO8 := Lib.hid hO8
      have HX8 := Lib.hid hX8
      have HB8 := Lib.hid hB8
      have HL8 := Lib.hid hL8
      have y0 := hX8.cell 0
      have y1 := hX8.cell 1
      have y2 := hX8.cell 2
      have y3 := hX8.cell 3
      have y4 := hX8.cell 4
      have y5 := hX8.cell 5
      have y6 := hX8.cell 6
      have y7 := hX8.cell 7
      have y8 := hX8.cell 8
      have yl := hX8.lt
      simp only [List.getElem?_toArray, List.getElem?_cons_zero, List.getElem?_cons_succ] at y0 y1 y2 y3 y4 y5 y6 y7 y8
      clear hO8 hX8 hB8 hL8
      go_wp2_with fail
      refine (rdeep_any A n c i gl W8 HN.out ((HF.out.below HB8.out (Nat.le_refl _)).more HB8.out.size) h12 HI.out).mono ?_
      rintro e w9 ⟨rfl, hb9⟩
      rw [Dp.deepR_eq HT.out.p]
      simp only
      rw [HD.out.1, HD.out.2]
      have HX9 := Lib.hid (HX8.out.on hb9)
      have HO9 := Lib.hid (HO8.out.on hb9)
      have HB9 := Lib.hid (HB8.out.trans (hb9.mono HB8.out.size))
      have HL9 := Lib.hid (HL8.out.grow (Fr.of_below hb9 fun k hk _ => hk))
      clear hb9 y0 y1 y2 y3 y4 y5 y6 y7 y8 yl
      go_upto_region 12 with fail
      obtain ⟨W10, hW10⟩ : ∃ W10, w9.alloc (.cells #[.slice none 0 0, .int .i64 dN, .int .i64 dE] 76) = W10 := ⟨_, rfl⟩
      have hD10 : Blk W10 w9.heap.size 76 #[.slice none 0 0, .int .i64 dN, .int .i64 dE] := by rw [← hW10]; exact Blk.new _ _ _
      have hO10 : Blk W10 w7.heap.size 39 #[.slice pA o.1.length pc, .slice eA o.2.length ec] := by rw [← hW10]; exact HO9.out.alloc _
      have hX10 : Blk W10 w.heap.size 32 (fvC A n c).cs := by rw [← hW10]; exact HX9.out.alloc _
      have hB10 : Below w.heap.size w W10 := by rw [← hW10]; exact HB9.out.alloc HB9.out.size _
      have hL10 : OlOwn W10 w.heap.size (.slice pA o.1.length pc) (.slice eA o.2.length ec) o := by rw [← hW10]; exact HL9.out.grow ((Fr.refl _ _).alloc _)
      rw [hW10]
      clear hW10
      have HD10 := Lib.hid hD10
      have HO10 := Lib.hid hO10
      have HX10 := Lib.hid hX10
      have HB10 := Lib.hid hB10
      have HL10 := Lib.hid hL10
      have y0 := hX10.cell 0
      have y1 := hX10.cell 1
      have y2 := hX10.cell 2
      have y3 := hX10.cell 3
      have y4 := hX10.cell 4
      have y5 := hX10.cell 5
      have y6 := hX10.cell 6
      have y7 := hX10.cell 7
      have y8 := hX10.cell 8
      have yl := hX10.lt
      simp only [List.getElem?_toArray, List.getElem?_cons_zero, List.getElem?_cons_succ] at y0 y1 y2 y3 y4 y5 y6 y7 y8
      clear hD10 hO10 hX10 hB10 hL10
      go_wp2_with fail
      refine (rflatT_any A n c i gl W10 HN.out ((HF.out.below HB10.out (Nat.le_refl _)).more HB10.out.size) h12 HI.out (fun h => by rw [HN.out]; obtain ⟨e, q, he, hq, hc⟩ := HT.out.ol; exact Dp.flat_hok HT.out.p he hq hc i h)).mono ?_
      rintro e w11 ⟨o', E', pv', ev', rfl, hol', hb11, hor⟩
      obtain ⟨e1, e2⟩ := Dp.flat_eqR HT.out.p hor
      rw [HFE.out] at e1
      rw [HO.out] at e2
      subst e1 e2
      obtain ⟨pA', pc', eA', ec', rfl, rfl, _⟩ := hol'.ne
      have HX11 := Lib.hid (HX10.out.on hb11)
      have HO11 := Lib.hid (HO10.out.on hb11)
      have HD11 := Lib.hid (HD10.out.on hb11)
      have HB11 := Lib.hid (HB10.out.trans (hb11.mono HB10.out.size))
      have HL11 := Lib.hid (HL10.out.grow (Fr.of_below hb11 fun k hk _ => hk))
      have HK11 := Lib.hid (hol'.mono HB10.out.size)
      clear hb11 hol' hor y0 y1 y2 y3 y4 y5 y6 y7 y8 yl
      go_upto_region 13 with fail
      obtain ⟨W12, hW12⟩ : ∃ W12, w11.alloc (.cells #[.slice pA' o'.1.length pc', .slice eA' o'.2.length ec', .int .i64 E'] 80) = W12 := ⟨_, rfl⟩
      have hF12 : Blk W12 w11.heap.size 80 #[.slice pA' o'.1.length pc', .slice eA' o'.2.length ec', .int .i64 E'] := by rw [← hW12]; exact Blk.new _ _ _
      have hD12 : Blk W12 w9.heap.size 76 #[.slice none 0 0, .int .i64 dN, .int .i64 dE] := by rw [← hW12]; exact HD11.out.alloc _
      have hO12 : Blk W12 w7.heap.size 39 #[.slice pA o'.1.length pc, .slice eA o'.2.length ec] := by rw [← hW12]; exact HO11.out.alloc _
      have hX12 : Blk W12 w.heap.size 32 (fvC A n c).cs := by rw [← hW12]; exact HX11.out.alloc _
      have hB12 : Below w.heap.size w W12 := by rw [← hW12]; exact HB11.out.alloc HB11.out.size _
      have hL12 : OlOwn W12 w.heap.size (.slice pA o'.1.length pc) (.slice eA o'.2.length ec) o' := by rw [← hW12]; exact HL11.out.grow ((Fr.refl _ _).alloc _)
      have hK12 : OlOwn W12 w.heap.size (.slice pA' o'.1.length pc') (.slice eA' o'.2.length ec') o' := by rw [← hW12]; exact HK11.out.grow ((Fr.refl _ _).alloc _)
      rw [hW12]
      clear hW12
      have HF12 := Lib.hid hF12
      have HD12 := Lib.hid hD12
      have HX12 := Lib.hid hX12
      have HB12 := Lib.hid hB12
      have HL12 := Lib.hid hL12
      have HK12 := Lib.hid hK12
      have x0 := hF12.cell 0
      have x1 := hF12.cell 1
      have x2 := hF12.cell 2
      have z0 := hO12.cell 0
      have z1 := hO12.cell 1
      simp only [List.getElem?_toArray, List.getElem?_cons_zero, List.getElem?_cons_succ] at x0 x1 x2 z0 z1
      clear hF12 hD12 hO12 hX12 hB12 hL12 hK12
      go_wp2_with fail
      refine (same4_any pA eA pA' eA' pc ec pc' ec' W12.heap.size o' o' W12 (Reads.of_own HL12.out.pts) (Reads.of_own HL12.out.ends) (Reads.of_own HK12.out.pts) (Reads.of_own HK12.out.ends) (Nat.le_refl _) (by have := HFW.out; omega) (by have := HFW.out; omega) (by have := HFW.out; omega) (by have := HFW.out; omega)).mono ?_
      rintro e w13 ⟨rfl, hg13⟩
      rw [decide_eq_true (rfl : o' = o')]
      have hb13 := hg13.below (Nat.le_refl _)
      have HX13 := Lib.hid (HX12.out.on hb13)
      have HF13 := Lib.hid (HF12.out.on hb13)
      have HD13 := Lib.hid (HD12.out.on hb13)
      have HB13 := Lib.hid (HB12.out.trans (hb13.mono HB12.out.size))
      clear hg13 hb13 x0 x1 x2 z0 z1
      go_upto_region 14 with fail
      have y0 := HX13.out.cell 0
      have y1 := HX13.out.cell 1
      have y2 := HX13.out.cell 2
      have y3 := HX13.out.cell 3
      have y4 := HX13.out.cell 4
      have y5 := HX13.out.cell 5
      have y6 := HX13.out.cell 6
      have y7 := HX13.out.cell 7
      have y8 := HX13.out.cell 8
      have yl := HX13.out.lt
      simp only [List.getElem?_toArray, List.getElem?_cons_zero, List.getElem?_cons_succ] at y0 y1 y2 y3 y4 y5 y6 y7 y8
      have hS : w13.drew.cell? ⟨w.heap.size, 0, none⟩ = some (.int .i64 0) ∧ w13.drew.cell? ⟨w.heap.size, 1, none⟩ = some (.slice A n c) ∧ w13.drew.cell? ⟨w.heap.size, 2, none⟩ = some (.slice none 0 0) ∧ w13.drew.cell? ⟨w.heap.size, 3, none⟩ = some (.slice none 0 0) ∧ w13.drew.cell? ⟨w.heap.size, 4, none⟩ = some (.slice none 0 0) ∧ w13.drew.cell? ⟨w.heap.size, 5, none⟩ = some (.slice none 0 0) ∧ w13.drew.cell? ⟨w.heap.size, 6, none⟩ = some (.slice none 0 0) ∧ w13.drew.cell? ⟨w.heap.size, 7, none⟩ = some (.slice none 0 0) ∧ w13.drew.cell? ⟨w.heap.size, 8, none⟩ = some (.slice none 0 0) := ⟨y0, y1, y2, y3, y4, y5, y6, y7, y8⟩
      refine wp_region_seqT (fun i => !([2, 5, 6] : List Nat).contains i) (fun i => ([0, 3] : List Nat).contains i) (fun i => ([2] : List Nat).contains i) [0, 1, 3, 4, 2, 5, 6, 7] (fun wq : World => wq.cell? ⟨w.heap.size, 0, none⟩ = some (.int .i64 0) ∧ wq.cell? ⟨w.heap.size, 1, none⟩ = some (.slice A n c) ∧ wq.cell? ⟨w.heap.size, 2, none⟩ = some (.slice none 0 0) ∧ wq.cell? ⟨w.heap.size, 3, none⟩ = some (.slice none 0 0) ∧ wq.cell? ⟨w.heap.size, 4, none⟩ = some (.slice none 0 0) ∧ wq.cell? ⟨w.heap.size, 5, none⟩ = some (.slice none 0 0) ∧ wq.cell? ⟨w.heap.size, 6, none⟩ = some (.slice none 0 0) ∧ wq.cell? ⟨w.heap.size, 7, none⟩ = some (.slice none 0 0) ∧ wq.cell? ⟨w.heap.size, 8, none⟩ = some (.slice none 0 0)) (by kernel_rfl) (by kernel_rfl) (by kernel_rfl) (by kernel_rfl) ?_
      iterate 4 (first | refine wpSeq_pureA (v := _) rfl rfl rfl ?_ | refine wpSeq_loadT (v := _) rfl rfl hS rfl ?_)
      refine wpSeq_heavy rfl rfl (fun K hK => ?_); go_simp
      refine (all_any (fvC A n c) gl i w13.drew HN.out ((HF.out.below HB13.out.drew (Nat.le_refl _)).more HB13.out.drew.size) (by have := HN.out; omega) HI.out (fvC_one _ _ _)).mono ?_
      rintro e w14 ⟨uv, rfl, hown, hb14⟩
      have hx14 := (Blk.drew HX13.out).on hb14
      have HX14 := Lib.hid hx14
      have HF14 := Lib.hid ((Blk.drew HF13.out).on hb14)
      have HD14 := Lib.hid ((Blk.drew HD13.out).on hb14)
      have HB14 := Lib.hid (HB13.out.drew.trans (hb14.mono HB13.out.drew.size))
      obtain ⟨L, hL⟩ : ∃ L, Wk.all gl i = L := ⟨_, rfl⟩
      rw [hL] at hown
      have HL := Lib.hid hL
      have HLW := Lib.hid (show L.length ≤ 1000000 by have h1 := Wk.all_few HT.out.p i; rw [hL] at h1; have := HN.out; omega)
      obtain ⟨uA, uc, rfl, _⟩ := owns_form hown
      have HU := Lib.hid (owns_mono hown HB13.out.drew.size)
      clear hown hb14 hL y0 y1 y2 y3 y4 y5 y6 y7 y8 yl hS
      have y0 := hx14.cell 0
      have y1 := hx14.cell 1
      have y2 := hx14.cell 2
      have y3 := hx14.cell 3
      have y4 := hx14.cell 4
      have y5 := hx14.cell 5
      have y6 := hx14.cell 6
      have y7 := hx14.cell 7
      have y8 := hx14.cell 8
      have yl := hx14.lt
      simp only [List.getElem?_toArray, List.getElem?_cons_zero, List.getElem?_cons_succ] at y0 y1 y2 y3 y4 y5 y6 y7 y8
      refine hK _ _ (fun _ => ⟨y0, y1, y2, y3, y4, y5, y6, y7, y8⟩) ?_; clear hK K
      refine wpSeq_heavy rfl rfl (fun K hK => ?_); go_simp
      refine (rall_any A n c i gl w14 HN.out ((HF.out.below HB14.out (Nat.le_refl _)).more HB14.out.size) h12 HI.out).mono ?_
      rintro e w15 ⟨uv, rfl, hown, hb15⟩
      rw [Rf.all4_eq HT.out.p, HL.out] at hown
      have HF15 := Lib.hid (HF14.out.on hb15)
      have HX15 := Lib.hid (HX14.out.on hb15)
      have HD15 := Lib.hid (HD14.out.on hb15)
      have HB15 := Lib.hid (HB14.out.trans (hb15.mono HB14.out.size))
      have HU15 := Lib.hid (owns_grow HU.out (Fr.of_below hb15 fun k hk _ => hk))
      obtain ⟨uA2, uc2, rfl, _⟩ := owns_form hown
      have HV15 := Lib.hid (owns_mono hown HB14.out.size)
      clear hown hb15 hx14 y0 y1 y2 y3 y4 y5 y6 y7 y8 yl
      refine hK _ _ (fun h => by cases h) ?_; clear hK K
      refine wpSeq_heavy rfl rfl (fun K hK => ?_); go_simp
      refine (nums4_any uA uA2 uc uc2 w15.heap.size w15.heap.size L L w15 (Reads.of_own HU15.out) (Reads.of_own HV15.out) HLW.out HLW.out).mono ?_
      rintro e w16 ⟨rfl, hg16⟩
      rw [decide_eq_true (rfl : L = L)]
      have hb16 := hg16.below (Nat.le_refl _)
      have HF16 := Lib.hid (HF15.out.on hb16)
      have HX16 := Lib.hid (HX15.out.on hb16)
      have HD16 := Lib.hid (HD15.out.on hb16)
      have HB16 := Lib.hid (HB15.out.trans (hb16.mono HB15.out.size))
      clear hg16 hb16
      refine hK _ _ (fun h => by cases h) ?_; clear hK K
      iterate 1 (first | refine wpSeq_pureA (v := _) rfl rfl rfl ?_ | refine wpSeq_loadT (v := _) rfl rfl hS rfl ?_)
      refine wpSeq_end ?_
      have x2 := HF16.out.cell 2
      have z1 := HD16.out.cell 1
      have z2 := HD16.out.cell 2
      simp only [List.getElem?_toArray, List.getElem?_cons_zero, List.getElem?_cons_succ] at x2 z1 z2
      go_wp2_with fail
      have hi0 := HI0.out
      have hi1 := HIN.out
      have hw : wrap64 (i + 1) = i + 1 := by unfold wrap64; omega
      rw [hw]
      exact ⟨⟨HX16.out, HB16.out, i + 1, by omega, by omega, rfl⟩, by simp only [intOf]; omega⟩
    · have hd1 : decide (i ≤ (n : Int)) = false := decide_eq_false hin
      clear hin hi0 hi1
      go_wp2_with fail
      exact bodyPost_ret (v := .bool true) (by simp [results, Try.results14]) rfl ⟨rfl, HB.out⟩
end Go.Proofs.Ytoklllbaihccnaa
namespace Go.Proofs.Ytoklllbaihccnaa
open Go.RowKit Go.Shelf
theorem M4.made_tlF (s : List Int) (loops : Bool) : TlF (M4.made s loops) :=
  ⟨M4.made_p1000 s loops, fun g => by
    unfold Lf.raw
    cases h : (M4.made s loops)[g]? with
    | none => simp
    | some x => have := (M4.made_get s loops (List.mem_of_getElem? h)).1; simp; omega, 1, 15, M4.own_len s loops, fun y => M4.partsOf_len s loops y, by decide⟩
theorem nil_tlF : TlF [] := ⟨fun g => by simp [partsOf, psOf], fun g => by simp [Lf.raw], 0, 0, fun y => by simp [Dp.ownO], fun y => by simp [partsOf, psOf], by decide⟩
theorem nil_fat (w : World) (B : Nat) : FAt w B none [] := ⟨⟨[], rfl, fun i g cs h => by simp at h, Reads.none_⟩, by simp⟩
set_option maxRecDepth 100000 in
set_option maxHeartbeats 4000000 in
theorem tells4_walk (s : List Int) (A : Option Addr) (c : Nat) (w : World) (hs : Reads w w.heap.size 1 A s.length (ints s)) (hi : ∀ x ∈ s, I64 x) :
    Calls Try.prog 4 #[.slice A s.length c] w fun e w' => e = .returned (.bool true) ∧ Below w.heap.size w w' := by
  have HS := Lib.hid hs
  have HI := Lib.hid hi
  clear hs hi
  go_enter Try.func4, Try.ntmps4
  go_wp2_with fail
  refine (awake_any _).mono ?_
  rintro e w1 ⟨rfl, hg1⟩
  have HG1 := Lib.hid (hg1.below (Nat.le_refl _))
  clear hg1
  go_wp2_with fail
  refine (made_any s true A c w.heap.size w1 (HS.out.keep fun p hp => HG1.out.cell hp) HI.out HG1.out.size).mono ?_
  rintro e w2 ⟨gA, gc, rfl, hf1, hg2⟩
  have HG2 := Lib.hid (HG1.out.trans (hg2.below HG1.out.size))
  have h8 := M4.made_len s true
  have H8 := Lib.hid h8
  have HF1 := Lib.hid hf1.fat
  clear hg2 hf1 h8
  go_wp2_with fail
  refine (tells_any gA (M4.made s true).length gc (M4.made s true) w2 rfl HF1.out (by have := H8.out; have := M4.num_in s; omega) (M4.made_tlF s true)).mono ?_
  rintro e w3 ⟨rfl, hb3⟩
  have HB3 := Lib.hid (HG2.out.trans (hb3.mono HG2.out.size))
  clear hb3
  go_wp2_with fail
  refine (made_any s false A c w.heap.size w3 (HS.out.keep fun p hp => HB3.out.cell hp) HI.out HB3.out.size).mono ?_
  rintro e w4 ⟨gA2, gc2, rfl, hf4, hg4⟩
  have HG4 := Lib.hid (HB3.out.trans (hg4.below HB3.out.size))
  have h8 := M4.made_len s false
  have H82 := Lib.hid h8
  have HF4 := Lib.hid hf4.fat
  clear hg4 hf4 h8
  go_wp2_with fail
  refine (tells_any gA2 (M4.made s false).length gc2 (M4.made s false) w4 rfl HF4.out (by have := H82.out; have := M4.num_in s; omega) (M4.made_tlF s false)).mono ?_
  rintro e w5 ⟨rfl, hb5⟩
  have HB5 := Lib.hid (HG4.out.trans (hb5.mono HG4.out.size))
  clear hb5
  go_wp2_with fail
  refine (tells_any none 0 0 [] w5 rfl (nil_fat _ _) (by omega) nil_tlF).mono ?_
  rintro e w6 ⟨rfl, hb6⟩
  have HB6 := Lib.hid (HB5.out.trans (hb6.mono HB5.out.size))
  clear hb6
  go_wp2_with fail
  exact bodyPost_ret (v := .bool true) (by simp [results, Try.results4]) rfl ⟨rfl, HB6.out⟩
end Go.Proofs.Ytoklllbaihccnaa

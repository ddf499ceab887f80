/- The machine's Run: its contract. -/
import Derived.Test.YthdmdgmchkhngaaGreatMnD
namespace Go.Proofs.YthdmdgmchkhngaaGreat
open Go.RowKit Mc

theorem step_bound {s : St} : (Mc.step s).1.steps ≤ s.steps + 1 := by
  rcases hn : next s with ⟨s', o⟩
  cases o with
  | none =>
    rw [step_none hn]
    have : s' = (next s).1 := by rw [hn]
    simp only
    rw [this]
    unfold next
    split
    · simp
    · split
      · simp
      · simp
  | some ins =>
    rw [step_some hn]
    obtain ⟨f, r, _, _, n, _, _, _, hb, _, hs, _⟩ := next_some (op := ins.1) (a := ins.2) hn
    simp only
    rw [(deed_steps ins.1 ins.2 (bump s')).1, hb]
    simp only
    omega
/-- the steps, one more -/
theorem steps_true {n : Nat} {s s' : St} (h : Mc.step s = (s', true)) : Mc.steps (n + 1) s = Mc.steps n s' := by
  conv => lhs; unfold Mc.steps
  rw [h]
theorem steps_false {n : Nat} {s s' : St} (h : Mc.step s = (s', false)) : Mc.steps (n + 1) s = (s', false) := by
  conv => lhs; unfold Mc.steps
  rw [h]
theorem run_of {n : Nat} {s t : St} (h : Mc.steps n s = (t, false)) : Mc.run n s = t := by unfold Mc.run; rw [h]
theorem run_none {n : Nat} {s t u : St} (h : Mc.steps n s = (t, true)) (h2 : next t = (u, none)) : Mc.run n s = u := by unfold Mc.run; rw [h]; simp only; rw [h2]
theorem run_some {n : Nat} {s t u : St} {i : Int × Int} (h : Mc.steps n s = (t, true)) (h2 : next t = (u, some i)) : Mc.run n s = { u with err := 53 } := by unfold Mc.run; rw [h]; simp only; rw [h2]
theorem RanAt.mono {B B' : Nat} {s : St} {W : World} {og cu to en cv st sk : Value} (h : RanAt B s W og cu to en cv st sk) (hb : B' ≤ B) : RanAt B' s W og cu to en cv st sk :=
  ⟨owns_mono h.og hb, owns_mono h.cu hb, owns_mono h.to hb, owns_mono h.en hb, owns_mono h.cv hb, owns_mono h.st hb, owns_mono h.sk hb⟩
/-- a machine of a call's own -/
def MaN (w : World) (mb : Nat) (s : St) (wr : World) : Prop := ∃ O L, MaL wr mb O L s ∧ (∀ k, O k → w.heap.size ≤ k) ∧ Below w.heap.size w wr
theorem MaN.step {w wr w' : World} {mb : Nat} {s' : St} {O : Nat → Prop} (hO : ∀ k, O k → w.heap.size ≤ k) (hb : Below w.heap.size w wr) (hm : ∃ L', MaL w' mb (ext O wr w') L' s') (hf : Fr O wr w') : MaN w mb s' w' := by
  obtain ⟨L', hm⟩ := hm
  exact ⟨_, L', hm, fun k hk => by
    rcases hk with hk | hk
    · exact hO k hk
    · have := hb.size; omega, hb.trans (hf.below hb.size (fun k hk e => by have := hO k e; omega))⟩
theorem MaN.same {w wr w' : World} {mb : Nat} {s' : St} {O : Nat → Prop} (hO : ∀ k, O k → w.heap.size ≤ k) (hb : Below w.heap.size w wr) (hm : ∃ L', MaL w' mb O L' s') (hf : Fr O wr w') : MaN w mb s' w' := by
  obtain ⟨L', hm⟩ := hm
  exact ⟨_, L', hm, hO, hb.trans (hf.below hb.size (fun k hk e => by have := hO k e; omega))⟩
/-- the rounds of Run -/
def RunI (w w1 : World) (mb N : Nat) (s : St) (i : Value) (wr : World) : Prop :=
  ∃ (k : Nat) (t : St), k ≤ N ∧ i = .int .i64 k ∧ MaN w1 mb t wr ∧ Mc.steps N s = Mc.steps (N - k) t ∧ t.steps ≤ k ∧ Blk wr (w.heap.size + 1 + 1) 43 #[.slice none 0 0, .slice none 0 0, .slice none 0 0, .slice none 0 0, .slice none 0 0, .slice none 0 0, .slice none 0 0, .int .i64 0, .int .i64 0, .int .i64 0]
theorem run_any (w : World) (p : Pg) (z : Zn) (hp : PgOk p) (hz : ZnOk z) (fA mA cA oA tA eA uA : Option Addr) (fc mc cc oc tc ec uc : Nat) (hpa : PgAt w w.heap.size p fA mA cA) (hza : ZnAt w w.heap.size z oA uA tA eA) (n : Int) (hN : n ≤ 1000000) :
    Calls Tryz.prog 19 #[.agg #[.slice fA p.funcs.length fc, .slice mA p.main.length mc, .slice cA p.cvt.length cc, .int .i64 p.size], .agg #[.slice oA z.org.length oc, .slice uA z.cur.length uc, .slice tA z.touch.length tc, .slice eA z.ends.length ec], .int .i64 n] w (RanPost w (Mc.run n.toNat (begin_ p z))) := by
  obtain ⟨X, hX⟩ : ∃ X, X = ((w.alloc (.cells #[.slice fA p.funcs.length fc, .slice mA p.main.length mc, .slice cA p.cvt.length cc, .int .i64 p.size] 28)).alloc (.cells #[.slice oA z.org.length oc, .slice uA z.cur.length uc, .slice tA z.touch.length tc, .slice eA z.ends.length ec] 33)).alloc (.cells #[.slice none 0 0, .slice none 0 0, .slice none 0 0, .slice none 0 0, .slice none 0 0, .slice none 0 0, .slice none 0 0, .int .i64 0, .int .i64 0, .int .i64 0] 43) := ⟨_, rfl⟩
  have hXz : X.heap.size = w.heap.size + 1 + 1 + 1 := by rw [hX]; simp
  have hXG : Grow w X := by rw [hX]; exact (((Fr.refl _ w).alloc _).alloc _).alloc _
  have hbp : Blk X w.heap.size 28 #[.slice fA p.funcs.length fc, .slice mA p.main.length mc, .slice cA p.cvt.length cc, .int .i64 p.size] := by rw [hX]; exact ((Blk.new _ _ _).alloc _).alloc _
  have hbz : Blk X (w.heap.size + 1) 33 #[.slice oA z.org.length oc, .slice uA z.cur.length uc, .slice tA z.touch.length tc, .slice eA z.ends.length ec] := by rw [hX]; exact (Blk.new_at _ _ _ (by simp)).alloc _
  have hbr : Blk X (w.heap.size + 1 + 1) 43 #[.slice none 0 0, .slice none 0 0, .slice none 0 0, .slice none 0 0, .slice none 0 0, .slice none 0 0, .slice none 0 0, .int .i64 0, .int .i64 0, .int .i64 0] := by rw [hX]; exact Blk.new_at _ _ _ (by simp)
  have mor : ∀ {B C : Nat} {q : Pg} {a b c : Option Addr}, B ≤ C → PgAt X B q a b c → PgAt X C q a b c := fun hBC h => by
    obtain ⟨⟨cs, h1, h2⟩, h3, h4⟩ := h
    exact ⟨⟨cs, h1.more hBC, fun i code hc => by obtain ⟨A, c, x, y⟩ := h2 i code hc; exact ⟨A, c, x, y.more hBC⟩⟩, h3.more hBC, h4.more hBC⟩
  have hnew := new_any X p z hp hz fA mA cA oA tA eA uA fc mc cc oc tc ec uc (mor hXG.size (hpa.keep (W' := X) fun q hq => hXG.cell hq (fun x => x))) (by
    have h := hza.keep (W' := X) fun q hq => hXG.cell hq (fun x => x)
    exact ⟨h.org.more hXG.size, h.cur.more hXG.size, h.touch.more hXG.size, h.ends.more hXG.size⟩)
  have HNEW := Lib.hid hnew
  have HXG := Lib.hid hXG
  have HBR := Lib.hid hbr
  have HX := Lib.hid hX
  have HN := Lib.hid hN
  have p0 := hbp.cell 0
  have p1 := hbp.cell 1
  have p2 := hbp.cell 2
  have p3 := hbp.cell 3
  have q0 := hbz.cell 0
  have q1 := hbz.cell 1
  have q2 := hbz.cell 2
  have q3 := hbz.cell 3
  simp only [List.getElem?_toArray, List.getElem?_cons_zero, List.getElem?_cons_succ] at p0 p1 p2 p3 q0 q1 q2 q3
  clear hX hnew hp hz hpa hza hXG hbp hbz hbr mor
  go_enter Tryz.func19, Tryz.ntmps19
  go_upto_region 1 with fail
  rw [← HX.out]
  go_wp2_with fail
  refine HNEW.out.mono ?_
  rintro e w1 ⟨mb, O1, L1, rfl, hm1, hO1, hb1⟩
  have HR0 : Hid (RunI w X mb n.toNat (begin_ p z) (.int .i64 0) w1) := Lib.hid ⟨0, _, Nat.zero_le _, rfl, ⟨O1, L1, hm1, hO1, hb1⟩, rfl, Nat.le_refl _, HBR.out.below hb1 (by omega)⟩
  clear hm1 hO1 hb1 HNEW p0 p1 p2 p3 q0 q1 q2 q3
  generalize begin_ p z = sb at *
  go_wp2_with fail
  go_loopw [8] (fun i wr => RunI w X mb n.toNat sb i wr) (fun i _ => n.toNat - (intOf i).toNat)
  case atStart => exact HR0.out
  case round =>
    clear HR0
    obtain ⟨k, t, hk, rfl, ⟨O, L, hm, hO, hb⟩, hst, htk, hbr⟩ := hrel
    have hn6 := HN.out
    by_cases hlt : (k : Int) < n
    · have HC := Lib.hid (step_any wr mb O L t hm (by omega))
      have HM := Lib.hid hm
      have HO := Lib.hid hO
      have HB := Lib.hid hb
      have HST := Lib.hid hst
      have HBR1 := Lib.hid hbr
      have hno : ¬ O (w.heap.size + 1 + 1) := fun e => by have := hO _ e; omega
      have HNO := Lib.hid hno
      clear hm hO hb hst hbr hno
      go_wp2_with fail
      refine HC.out.mono ?_
      rintro e w2 ⟨rfl, hm2, hf2⟩
      have hb2 := hf2.blk HBR1.out HNO.out
      have hmn := MaN.step HO.out HB.out hm2 hf2
      have hsb := step_bound (s := t)
      rcases hs : Mc.step t with ⟨t', b⟩
      rw [hs] at hmn hsb
      simp only at hmn hsb
      obtain ⟨m, hm⟩ : ∃ m, n.toNat - k = m + 1 := ⟨n.toNat - k - 1, by omega⟩
      have hst2 := HST.out
      rw [hm] at hst2
      clear HC HM HO HB HST HBR1 HNO hm2 hf2
      cases b with
      | true =>
        rw [steps_true hs] at hst2
        have HRE : Hid (RunI w X mb n.toNat sb (.int .i64 ((k : Int) + 1)) w2) := Lib.hid ⟨k + 1, t', by omega, by simp, hmn, by rw [hst2, show n.toNat - (k + 1) = m by omega], by omega, hb2⟩
        clear hmn hst2 hb2 hs hm hsb
        go_wp2_with fail
        go_roundw
        case rel => exact HRE.out
        case measure => simp [intOf]; omega
      | false =>
        rw [steps_false hs] at hst2
        have HRUN := Lib.hid (run_of hst2)
        obtain ⟨O2, L2, hm2, hO2, hbl2⟩ := hmn
        have HC := Lib.hid (ran_any w2 mb O2 L2 t' hm2)
        have HB2 := Lib.hid hb2
        have HBL2 := Lib.hid hbl2
        clear hm2 hO2 hbl2 hb2 hst2 hs hm hsb
        go_wp2_with fail
        refine HC.out.mono ?_
        rintro e w3 ⟨og, cu, to, en, cv, st, sk, rfl, hra, hbl3⟩
        obtain ⟨A1, c1, rfl, _⟩ := owns_form hra.og
        obtain ⟨A2, c2, rfl, _⟩ := owns_form hra.cu
        obtain ⟨A3, c3, rfl, _⟩ := owns_form hra.to
        obtain ⟨A4, c4, rfl, _⟩ := owns_form hra.en
        obtain ⟨A5, c5, rfl, _⟩ := owns_form hra.cv
        obtain ⟨A6, c6, rfl, _⟩ := owns_form hra.st
        obtain ⟨A7, c7, rfl, _⟩ := owns_form hra.sk
        have hw2 := HBL2.out.size
        have HRA := Lib.hid (hra.mono (show w.heap.size ≤ w2.heap.size by omega))
        have HB3 := Lib.hid (HB2.out.below hbl3 HB2.out.lt)
        have HBL3 := Lib.hid (((Grow.below HXG.out (Nat.le_refl _)).trans (HBL2.out.mono (by omega))).trans (hbl3.mono (show w.heap.size ≤ w2.heap.size by omega)))
        clear hra hbl3 HC HB2 HBL2
        have hst := stores_ran HB3.out HRA.out (by omega) HBL3.out (.slice A1 t'.org.length c1) (.slice A2 t'.cur.length c2) (.slice A3 t'.touch.length c3) (.slice A4 t'.ends.length c4) (.slice A5 t'.cvt.length c5) (.slice A6 32 c6) (.slice A7 t'.stack.length c7) (.int .i64 t'.steps) (.int .i64 t'.peak) (.int .i64 t'.err)
        have HST := Lib.hid hst
        have b0 := HB3.out.cell
        have b1 := HB3.out.frozen
        have b2 := HB3.out.lt
        clear hst HB3 HRA HBL3
        go_wp2_with fail
        unfold set10 at HST
        generalize ((((((((((w3.setCell ⟨w.heap.size + 1 + 1, 0, none⟩ (.slice A1 t'.org.length c1)).setCell ⟨w.heap.size + 1 + 1, 1, none⟩ (.slice A2 t'.cur.length c2)).setCell ⟨w.heap.size + 1 + 1, 2, none⟩ (.slice A3 t'.touch.length c3)).setCell ⟨w.heap.size + 1 + 1, 3, none⟩ (.slice A4 t'.ends.length c4)).setCell ⟨w.heap.size + 1 + 1, 4, none⟩ (.slice A5 t'.cvt.length c5)).setCell ⟨w.heap.size + 1 + 1, 5, none⟩ (.slice A6 32 c6)).setCell ⟨w.heap.size + 1 + 1, 6, none⟩ (.slice A7 t'.stack.length c7)).setCell ⟨w.heap.size + 1 + 1, 7, none⟩ (.int .i64 t'.steps)).setCell ⟨w.heap.size + 1 + 1, 8, none⟩ (.int .i64 t'.peak)).setCell ⟨w.heap.size + 1 + 1, 9, none⟩ (.int .i64 t'.err)) = W9 at HST ⊢
        have e2 := HST.out.2.2.lt
        have e1 := HST.out.2.2.cell
        simp only [List.setIfInBounds_toArray, List.set_cons_zero, List.set_cons_succ] at e1
        have y0 := e1 0
        simp only [List.getElem?_toArray, List.getElem?_cons_zero] at y0
        have y1 := e1 1
        simp only [List.getElem?_toArray, List.getElem?_cons_zero, List.getElem?_cons_succ] at y1
        have y2 := e1 2
        simp only [List.getElem?_toArray, List.getElem?_cons_zero, List.getElem?_cons_succ] at y2
        have y3 := e1 3
        simp only [List.getElem?_toArray, List.getElem?_cons_zero, List.getElem?_cons_succ] at y3
        have y4 := e1 4
        simp only [List.getElem?_toArray, List.getElem?_cons_zero, List.getElem?_cons_succ] at y4
        have y5 := e1 5
        simp only [List.getElem?_toArray, List.getElem?_cons_zero, List.getElem?_cons_succ] at y5
        have y6 := e1 6
        simp only [List.getElem?_toArray, List.getElem?_cons_zero, List.getElem?_cons_succ] at y6
        have y7 := e1 7
        simp only [List.getElem?_toArray, List.getElem?_cons_zero, List.getElem?_cons_succ] at y7
        have y8 := e1 8
        simp only [List.getElem?_toArray, List.getElem?_cons_zero, List.getElem?_cons_succ] at y8
        have y9 := e1 9
        simp only [List.getElem?_toArray, List.getElem?_cons_zero, List.getElem?_cons_succ] at y9
        clear e1
        refine bodyPost_ret (v := .agg #[.slice A1 t'.org.length c1, .slice A2 t'.cur.length c2, .slice A3 t'.touch.length c3, .slice A4 t'.ends.length c4, .slice A5 t'.cvt.length c5, .slice A6 32 c6, .slice A7 t'.stack.length c7, .int .i64 t'.steps, .int .i64 t'.peak, .int .i64 t'.err]) (by simp [results, Tryz.results19, go_sem, y0, y1, y2, y3, y4, y5, y6, y7, y8, y9]) rfl ?_
        rw [HRUN.out]
        exact ⟨_, _, _, _, _, _, _, rfl, HST.out.1, HST.out.2.1⟩
    · have hkn : n.toNat - k = 0 := by omega
      rw [hkn] at hst
      have hst0 : Mc.steps n.toNat sb = (t, true) := hst
      have HC := Lib.hid (next_any wr mb O L t hm)
      have HO := Lib.hid hO
      have HB := Lib.hid hb
      have HST0 := Lib.hid hst0
      have HBR1 := Lib.hid hbr
      have hno : ¬ O (w.heap.size + 1 + 1) := fun e => by have := hO _ e; omega
      have HNO := Lib.hid hno
      clear hm hO hb hst hbr hno hst0 hkn
      go_wp2_with fail
      refine HC.out.mono ?_
      rintro e w2 ⟨⟨x, y, rfl, hxy⟩, hm2, hf2⟩
      have hb2 := hf2.blk HBR1.out HNO.out
      have hmn := MaN.same HO.out HB.out hm2 hf2
      rcases hnx : next t with ⟨u, o⟩
      rw [hnx] at hmn
      simp only at hmn ⊢
      obtain ⟨O2, L2, hmu, hO2, hblu⟩ := hmn
      have HC2 := Lib.hid (ran_any (w2.alloc (.cells #[.int .i64 x, .int .i64 y] 61)) mb O2 L2 u (hmu.alloc _))
      have HBA := Lib.hid (hb2.alloc (.cells #[.int .i64 x, .int .i64 y] 61))
      have HBLA := Lib.hid (hblu.alloc (by have := hblu.size; omega) (.cells #[.int .i64 x, .int .i64 y] 61))
      clear hmu hO2 hblu hb2 hm2 hf2 hxy HC HO HB HBR1 HNO
      cases o with
      | none =>
        have HRUN := Lib.hid (run_none HST0.out hnx)
        clear hnx HST0
        simp only [Option.isSome_none]
        go_wp2_with fail
        refine HC2.out.mono ?_
        rintro e w3 ⟨og, cu, to, en, cv, st, sk, rfl, hra, hbl3⟩
        obtain ⟨A1, c1, rfl, _⟩ := owns_form hra.og
        obtain ⟨A2, c2, rfl, _⟩ := owns_form hra.cu
        obtain ⟨A3, c3, rfl, _⟩ := owns_form hra.to
        obtain ⟨A4, c4, rfl, _⟩ := owns_form hra.en
        obtain ⟨A5, c5, rfl, _⟩ := owns_form hra.cv
        obtain ⟨A6, c6, rfl, _⟩ := owns_form hra.st
        obtain ⟨A7, c7, rfl, _⟩ := owns_form hra.sk
        go_upto_region 11 with fail
        have hw2 := HBLA.out.size
        have hw3 := hbl3.size
        have HRA := Lib.hid ((hra.mono (show w.heap.size ≤ (w2.alloc (.cells #[.int .i64 x, .int .i64 y] 61)).heap.size by omega)).grow ((Fr.refl _ w3).alloc (.cells #[.slice A1 u.org.length c1, .slice A2 u.cur.length c2, .slice A3 u.touch.length c3, .slice A4 u.ends.length c4, .slice A5 u.cvt.length c5, .slice A6 32 c6, .slice A7 u.stack.length c7, .int .i64 u.steps, .int .i64 u.peak, .int .i64 u.err] 43)))
        have HB3 := Lib.hid ((HBA.out.below hbl3 HBA.out.lt).alloc (.cells #[.slice A1 u.org.length c1, .slice A2 u.cur.length c2, .slice A3 u.touch.length c3, .slice A4 u.ends.length c4, .slice A5 u.cvt.length c5, .slice A6 32 c6, .slice A7 u.stack.length c7, .int .i64 u.steps, .int .i64 u.peak, .int .i64 u.err] 43))
        have HBL3 := Lib.hid ((((Grow.below HXG.out (Nat.le_refl _)).trans (HBLA.out.mono (by omega))).trans (hbl3.mono (show w.heap.size ≤ (w2.alloc (.cells #[.int .i64 x, .int .i64 y] 61)).heap.size by omega))).alloc (show w.heap.size ≤ w3.heap.size by omega) (.cells #[.slice A1 u.org.length c1, .slice A2 u.cur.length c2, .slice A3 u.touch.length c3, .slice A4 u.ends.length c4, .slice A5 u.cvt.length c5, .slice A6 32 c6, .slice A7 u.stack.length c7, .int .i64 u.steps, .int .i64 u.peak, .int .i64 u.err] 43))
        have HR4 := Lib.hid (Blk.new w3 43 #[.slice A1 u.org.length c1, .slice A2 u.cur.length c2, .slice A3 u.touch.length c3, .slice A4 u.ends.length c4, .slice A5 u.cvt.length c5, .slice A6 32 c6, .slice A7 u.stack.length c7, .int .i64 u.steps, .int .i64 u.peak, .int .i64 u.err])
        have hrb : w3.heap.size ≠ w.heap.size + 1 + 1 := by have := (HBA.out.below hbl3 HBA.out.lt).lt; omega
        clear hra hbl3 HC2 HBA HBLA
        generalize w3.alloc (.cells #[.slice A1 u.org.length c1, .slice A2 u.cur.length c2, .slice A3 u.touch.length c3, .slice A4 u.ends.length c4, .slice A5 u.cvt.length c5, .slice A6 32 c6, .slice A7 u.stack.length c7, .int .i64 u.steps, .int .i64 u.peak, .int .i64 u.err] 43) = W4 at *
        generalize w3.heap.size = rb at *
        have g0 := HR4.out.cell 0
        have g1 := HR4.out.cell 1
        have g2 := HR4.out.cell 2
        have g3 := HR4.out.cell 3
        have g4 := HR4.out.cell 4
        have g5 := HR4.out.cell 5
        have g6 := HR4.out.cell 6
        have g7 := HR4.out.cell 7
        have g8 := HR4.out.cell 8
        have g9 := HR4.out.cell 9
        simp only [List.getElem?_toArray, List.getElem?_cons_zero, List.getElem?_cons_succ] at g0 g1 g2 g3 g4 g5 g6 g7 g8 g9
        have hst := stores_ran HB3.out HRA.out (by omega) HBL3.out (.slice A1 u.org.length c1) (.slice A2 u.cur.length c2) (.slice A3 u.touch.length c3) (.slice A4 u.ends.length c4) (.slice A5 u.cvt.length c5) (.slice A6 32 c6) (.slice A7 u.stack.length c7) (.int .i64 u.steps) (.int .i64 u.peak) (.int .i64 u.err)
        have HST := Lib.hid hst
        have b0 := HB3.out.cell
        have b1 := HB3.out.frozen
        have b2 := HB3.out.lt
        clear hst HB3 HRA HBL3
        go_wp2_with fail
        unfold set10 at HST
        generalize ((((((((((W4.setCell ⟨w.heap.size + 1 + 1, 0, none⟩ (.slice A1 u.org.length c1)).setCell ⟨w.heap.size + 1 + 1, 1, none⟩ (.slice A2 u.cur.length c2)).setCell ⟨w.heap.size + 1 + 1, 2, none⟩ (.slice A3 u.touch.length c3)).setCell ⟨w.heap.size + 1 + 1, 3, none⟩ (.slice A4 u.ends.length c4)).setCell ⟨w.heap.size + 1 + 1, 4, none⟩ (.slice A5 u.cvt.length c5)).setCell ⟨w.heap.size + 1 + 1, 5, none⟩ (.slice A6 32 c6)).setCell ⟨w.heap.size + 1 + 1, 6, none⟩ (.slice A7 u.stack.length c7)).setCell ⟨w.heap.size + 1 + 1, 7, none⟩ (.int .i64 u.steps)).setCell ⟨w.heap.size + 1 + 1, 8, none⟩ (.int .i64 u.peak)).setCell ⟨w.heap.size + 1 + 1, 9, none⟩ (.int .i64 u.err)) = W9 at HST ⊢
        have e2 := HST.out.2.2.lt
        have e1 := HST.out.2.2.cell
        simp only [List.setIfInBounds_toArray, List.set_cons_zero, List.set_cons_succ] at e1
        have y0 := e1 0
        simp only [List.getElem?_toArray, List.getElem?_cons_zero] at y0
        have y1 := e1 1
        simp only [List.getElem?_toArray, List.getElem?_cons_zero, List.getElem?_cons_succ] at y1
        have y2 := e1 2
        simp only [List.getElem?_toArray, List.getElem?_cons_zero, List.getElem?_cons_succ] at y2
        have y3 := e1 3
        simp only [List.getElem?_toArray, List.getElem?_cons_zero, List.getElem?_cons_succ] at y3
        have y4 := e1 4
        simp only [List.getElem?_toArray, List.getElem?_cons_zero, List.getElem?_cons_succ] at y4
        have y5 := e1 5
        simp only [List.getElem?_toArray, List.getElem?_cons_zero, List.getElem?_cons_succ] at y5
        have y6 := e1 6
        simp only [List.getElem?_toArray, List.getElem?_cons_zero, List.getElem?_cons_succ] at y6
        have y7 := e1 7
        simp only [List.getElem?_toArray, List.getElem?_cons_zero, List.getElem?_cons_succ] at y7
        have y8 := e1 8
        simp only [List.getElem?_toArray, List.getElem?_cons_zero, List.getElem?_cons_succ] at y8
        have y9 := e1 9
        simp only [List.getElem?_toArray, List.getElem?_cons_zero, List.getElem?_cons_succ] at y9
        clear e1
        refine bodyPost_ret (v := .agg #[.slice A1 u.org.length c1, .slice A2 u.cur.length c2, .slice A3 u.touch.length c3, .slice A4 u.ends.length c4, .slice A5 u.cvt.length c5, .slice A6 32 c6, .slice A7 u.stack.length c7, .int .i64 u.steps, .int .i64 u.peak, .int .i64 u.err]) (by simp [results, Tryz.results19, go_sem, y0, y1, y2, y3, y4, y5, y6, y7, y8, y9]) rfl ?_
        rw [HRUN.out]
        exact ⟨_, _, _, _, _, _, _, rfl, HST.out.1, HST.out.2.1⟩
      | some ins =>
        have HRUN := Lib.hid (run_some HST0.out hnx)
        clear hnx HST0
        simp only [Option.isSome_some]
        go_wp2_with fail
        refine HC2.out.mono ?_
        rintro e w3 ⟨og, cu, to, en, cv, st, sk, rfl, hra, hbl3⟩
        obtain ⟨A1, c1, rfl, _⟩ := owns_form hra.og
        obtain ⟨A2, c2, rfl, _⟩ := owns_form hra.cu
        obtain ⟨A3, c3, rfl, _⟩ := owns_form hra.to
        obtain ⟨A4, c4, rfl, _⟩ := owns_form hra.en
        obtain ⟨A5, c5, rfl, _⟩ := owns_form hra.cv
        obtain ⟨A6, c6, rfl, _⟩ := owns_form hra.st
        obtain ⟨A7, c7, rfl, _⟩ := owns_form hra.sk
        go_upto_region 11 with fail
        have hw2 := HBLA.out.size
        have hw3 := hbl3.size
        have HRA := Lib.hid ((hra.mono (show w.heap.size ≤ (w2.alloc (.cells #[.int .i64 x, .int .i64 y] 61)).heap.size by omega)).grow ((Fr.refl _ w3).alloc (.cells #[.slice A1 u.org.length c1, .slice A2 u.cur.length c2, .slice A3 u.touch.length c3, .slice A4 u.ends.length c4, .slice A5 u.cvt.length c5, .slice A6 32 c6, .slice A7 u.stack.length c7, .int .i64 u.steps, .int .i64 u.peak, .int .i64 53] 43)))
        have HB3 := Lib.hid ((HBA.out.below hbl3 HBA.out.lt).alloc (.cells #[.slice A1 u.org.length c1, .slice A2 u.cur.length c2, .slice A3 u.touch.length c3, .slice A4 u.ends.length c4, .slice A5 u.cvt.length c5, .slice A6 32 c6, .slice A7 u.stack.length c7, .int .i64 u.steps, .int .i64 u.peak, .int .i64 53] 43))
        have HBL3 := Lib.hid ((((Grow.below HXG.out (Nat.le_refl _)).trans (HBLA.out.mono (by omega))).trans (hbl3.mono (show w.heap.size ≤ (w2.alloc (.cells #[.int .i64 x, .int .i64 y] 61)).heap.size by omega))).alloc (show w.heap.size ≤ w3.heap.size by omega) (.cells #[.slice A1 u.org.length c1, .slice A2 u.cur.length c2, .slice A3 u.touch.length c3, .slice A4 u.ends.length c4, .slice A5 u.cvt.length c5, .slice A6 32 c6, .slice A7 u.stack.length c7, .int .i64 u.steps, .int .i64 u.peak, .int .i64 53] 43))
        have HR4 := Lib.hid (Blk.new w3 43 #[.slice A1 u.org.length c1, .slice A2 u.cur.length c2, .slice A3 u.touch.length c3, .slice A4 u.ends.length c4, .slice A5 u.cvt.length c5, .slice A6 32 c6, .slice A7 u.stack.length c7, .int .i64 u.steps, .int .i64 u.peak, .int .i64 53])
        have hrb : w3.heap.size ≠ w.heap.size + 1 + 1 := by have := (HBA.out.below hbl3 HBA.out.lt).lt; omega
        clear hra hbl3 HC2 HBA HBLA
        generalize w3.alloc (.cells #[.slice A1 u.org.length c1, .slice A2 u.cur.length c2, .slice A3 u.touch.length c3, .slice A4 u.ends.length c4, .slice A5 u.cvt.length c5, .slice A6 32 c6, .slice A7 u.stack.length c7, .int .i64 u.steps, .int .i64 u.peak, .int .i64 53] 43) = W4 at *
        generalize w3.heap.size = rb at *
        have g0 := HR4.out.cell 0
        have g1 := HR4.out.cell 1
        have g2 := HR4.out.cell 2
        have g3 := HR4.out.cell 3
        have g4 := HR4.out.cell 4
        have g5 := HR4.out.cell 5
        have g6 := HR4.out.cell 6
        have g7 := HR4.out.cell 7
        have g8 := HR4.out.cell 8
        have g9 := HR4.out.cell 9
        simp only [List.getElem?_toArray, List.getElem?_cons_zero, List.getElem?_cons_succ] at g0 g1 g2 g3 g4 g5 g6 g7 g8 g9
        have hst := stores_ran HB3.out HRA.out (by omega) HBL3.out (.slice A1 u.org.length c1) (.slice A2 u.cur.length c2) (.slice A3 u.touch.length c3) (.slice A4 u.ends.length c4) (.slice A5 u.cvt.length c5) (.slice A6 32 c6) (.slice A7 u.stack.length c7) (.int .i64 u.steps) (.int .i64 u.peak) (.int .i64 53)
        have HST := Lib.hid hst
        have b0 := HB3.out.cell
        have b1 := HB3.out.frozen
        have b2 := HB3.out.lt
        clear hst HB3 HRA HBL3
        go_wp2_with fail
        unfold set10 at HST
        generalize ((((((((((W4.setCell ⟨w.heap.size + 1 + 1, 0, none⟩ (.slice A1 u.org.length c1)).setCell ⟨w.heap.size + 1 + 1, 1, none⟩ (.slice A2 u.cur.length c2)).setCell ⟨w.heap.size + 1 + 1, 2, none⟩ (.slice A3 u.touch.length c3)).setCell ⟨w.heap.size + 1 + 1, 3, none⟩ (.slice A4 u.ends.length c4)).setCell ⟨w.heap.size + 1 + 1, 4, none⟩ (.slice A5 u.cvt.length c5)).setCell ⟨w.heap.size + 1 + 1, 5, none⟩ (.slice A6 32 c6)).setCell ⟨w.heap.size + 1 + 1, 6, none⟩ (.slice A7 u.stack.length c7)).setCell ⟨w.heap.size + 1 + 1, 7, none⟩ (.int .i64 u.steps)).setCell ⟨w.heap.size + 1 + 1, 8, none⟩ (.int .i64 u.peak)).setCell ⟨w.heap.size + 1 + 1, 9, none⟩ (.int .i64 53)) = W9 at HST ⊢
        have e2 := HST.out.2.2.lt
        have e1 := HST.out.2.2.cell
        simp only [List.setIfInBounds_toArray, List.set_cons_zero, List.set_cons_succ] at e1
        have y0 := e1 0
        simp only [List.getElem?_toArray, List.getElem?_cons_zero] at y0
        have y1 := e1 1
        simp only [List.getElem?_toArray, List.getElem?_cons_zero, List.getElem?_cons_succ] at y1
        have y2 := e1 2
        simp only [List.getElem?_toArray, List.getElem?_cons_zero, List.getElem?_cons_succ] at y2
        have y3 := e1 3
        simp only [List.getElem?_toArray, List.getElem?_cons_zero, List.getElem?_cons_succ] at y3
        have y4 := e1 4
        simp only [List.getElem?_toArray, List.getElem?_cons_zero, List.getElem?_cons_succ] at y4
        have y5 := e1 5
        simp only [List.getElem?_toArray, List.getElem?_cons_zero, List.getElem?_cons_succ] at y5
        have y6 := e1 6
        simp only [List.getElem?_toArray, List.getElem?_cons_zero, List.getElem?_cons_succ] at y6
        have y7 := e1 7
        simp only [List.getElem?_toArray, List.getElem?_cons_zero, List.getElem?_cons_succ] at y7
        have y8 := e1 8
        simp only [List.getElem?_toArray, List.getElem?_cons_zero, List.getElem?_cons_succ] at y8
        have y9 := e1 9
        simp only [List.getElem?_toArray, List.getElem?_cons_zero, List.getElem?_cons_succ] at y9
        clear e1
        refine bodyPost_ret (v := .agg #[.slice A1 u.org.length c1, .slice A2 u.cur.length c2, .slice A3 u.touch.length c3, .slice A4 u.ends.length c4, .slice A5 u.cvt.length c5, .slice A6 32 c6, .slice A7 u.stack.length c7, .int .i64 u.steps, .int .i64 u.peak, .int .i64 53]) (by simp [results, Tryz.results19, go_sem, y0, y1, y2, y3, y4, y5, y6, y7, y8, y9]) rfl ?_
        rw [HRUN.out]
        exact ⟨_, _, _, _, _, _, _, rfl, ⟨HST.out.1.og, HST.out.1.cu, HST.out.1.to, HST.out.1.en, HST.out.1.cv, HST.out.1.st, HST.out.1.sk⟩, HST.out.2.1⟩
end Go.Proofs.YthdmdgmchkhngaaGreat

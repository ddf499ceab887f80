/- MachineSteps's walk. -/
import Derived.Test.YthdmdgmchkhngaaGreatMadeN
import Derived.Test.YthdmdgmchkhngaaGreatSpoilB
import Derived.Test.YthdmdgmchkhngaaGreatMnE
import Derived.Test.YthdmdgmchkhngaaGreatMcSz
import Derived.Test.YthdmdgmchkhngaaGreatPt4
import Derived.Test.YthdmdgmchkhngaaGreatRsB
namespace Go.Proofs.YthdmdgmchkhngaaGreat
open Go.RowKit Mc

set_option maxRecDepth 100000 in
/-- a cut slice, as seed tells it -/
theorem seed_any (A : Option Addr) (n ac m : Nat) (w : World) (hn : n ≤ ac) (hm : m = min n 600) (hac : (ac : Int) ≤ 9223372036854775807) :
    Calls Tryz.prog 11 #[.slice A n ac] w fun e w' => e = .returned (.slice A m ac) ∧ w = w' := by
  go_enter Tryz.func11, Tryz.ntmps11
  by_cases h : (600 : Int) < (n : Int)
  · have hm6 : m = 600 := by omega
    subst hm6
    clear hm
    go_wp2_with fail
    go_ret
    exact ⟨rfl, rfl⟩
  · have hmn : m = n := by omega
    subst hmn
    clear hm
    go_wp2_with fail
    go_ret
    exact ⟨rfl, rfl⟩
theorem ZnAt.more7 {w : World} {B B' : Nat} {z : Zn} {oA uA tA eA : Option Addr} (h : ZnAt w B z oA uA tA eA) (hB : B ≤ B') : ZnAt w B' z oA uA tA eA := ⟨h.org.more hB, h.cur.more hB, h.touch.more hB, h.ends.more hB⟩
theorem PgAt.more7 {w : World} {B B' : Nat} {p : Pg} {fA mA cA : Option Addr} (h : PgAt w B p fA mA cA) (hB : B ≤ B') : PgAt w B' p fA mA cA := by
  obtain ⟨⟨cs, h1, h2⟩, h3, h4⟩ := h
  exact ⟨⟨cs, h1.more hB, fun i code hc => by obtain ⟨A, c, a, b⟩ := h2 i code hc; exact ⟨A, c, a, b.more hB⟩⟩, h3.more hB, h4.more hB⟩
theorem pg_of {N0 B : Nat} {W : World} {A0 A1 A2 : Option Addr} {c0 c1 c2 : Nat} {fl : List (List (Int × Int))} {ml : List (Int × Int)} {cl : List Int} {size : Int} (h : ProgAt N0 B W A0 A1 A2 c0 c1 c2 fl ml cl size) : PgAt W B ⟨fl, ml, cl, size⟩ A0 A1 A2 := by
  refine ⟨?_, ?_, ?_⟩
  · obtain ⟨vs, h1, h2⟩ := rowsR_at h.f.2.2
    refine ⟨vs, h1, fun i code hc => ?_⟩
    obtain ⟨v, h3, A, c, rfl, h4⟩ := h2 i code hc
    rw [insCells_flat] at h4
    exact ⟨A, c, h3, h4⟩
  · have := codeR_reads h.m.2.2
    rwa [insCells_flat] at this
  · have := h.c.2.2.reads (fun x => [.int .i64 x]) fun _ _ h => h.1
    show Reads W B 1 A2 cl.length (cl.map (Value.int .i64))
    rw [List.map_eq_flatMap]
    exact this
theorem reads_take_ {w : World} {B size n m : Nat} {A : Option Addr} {xs : List Value} (h : Reads w B size A n xs) (hm : m ≤ n) : Reads w B size A m (xs.take (m * size)) := by
  refine ⟨by rw [List.length_take, h.1]; exact Nat.min_eq_left (Nat.mul_le_mul_right _ hm), fun hp => ?_⟩
  obtain ⟨b, off, e, hb, hc⟩ := h.2 (by omega)
  refine ⟨b, off, e, hb, fun j u hu => hc j u ?_⟩
  rw [List.getElem?_take] at hu
  split at hu
  · exact hu
  · cases hu
def MsV (N0 B0 : Nat) (A : Option Addr) (n m ac : Nat) (q0 q1 q2 q3 : Int) (i : Nat) (v : Value) (W : World) : Prop :=
  match i with
  | 0 => v = .slice A n ac
  | 1 => v = .slice A m ac
  | 2 => ∃ B A0 A1 A2 c0 c1 c2 fl ml cl size, B ≤ W.heap.size ∧ v = .agg #[.slice A0 (List.length fl) c0, .slice A1 (List.length ml) c1, .slice A2 (List.length cl) c2, .int .i64 size] ∧ ProgAt N0 B W A0 A1 A2 c0 c1 c2 fl ml cl size ∧ fl.length ≤ 30 ∧ (∀ f ∈ fl, f.length ≤ 300) ∧ ml.length ≤ 300
  | 3 => v = .agg #[.int .i64 q0, .int .i64 q1, .int .i64 q2, .int .i64 q3]
  | 4 => ∃ B A0 A1 A2 c0 c1 c2 fl ml cl size, B ≤ W.heap.size ∧ v = .agg #[.slice A0 (List.length fl) c0, .slice A1 (List.length ml) c1, .slice A2 (List.length cl) c2, .int .i64 size] ∧ ProgAt N0 B W A0 A1 A2 c0 c1 c2 fl ml cl size ∧ fl.length ≤ 30 ∧ (∀ f ∈ fl, f.length ≤ 300) ∧ ml.length ≤ 300
  | 5 => ∃ g, v = .pointer (some ⟨g, 0, none⟩) ∧ B0 ≤ g ∧ Blk W g 28 #[.slice none 0 0, .slice none 0 0, .slice none 0 0, .int .i64 0]
  | _ => True
theorem MsV.grow {N0 B0 : Nat} {A : Option Addr} {n m ac : Nat} {q0 q1 q2 q3 : Int} {i : Nat} {v : Value} {W W' : World} (h : MsV N0 B0 A n m ac q0 q1 q2 q3 i v W) (hg : Grow W W') : MsV N0 B0 A n m ac q0 q1 q2 q3 i v W' := by
  match i with
  | 0 | 1 | 3 => exact h
  | 2 => obtain ⟨B, A0, A1, A2, c0, c1, c2, fl, ml, cl, size, hB, e, h1, h2, h3, h4⟩ := h; exact ⟨B, A0, A1, A2, c0, c1, c2, fl, ml, cl, size, Nat.le_trans hB hg.size, e, h1.below (Grow.below hg (Nat.le_refl _)) hB, h2, h3, h4⟩
  | 4 => obtain ⟨B, A0, A1, A2, c0, c1, c2, fl, ml, cl, size, hB, e, h1, h2, h3, h4⟩ := h; exact ⟨B, A0, A1, A2, c0, c1, c2, fl, ml, cl, size, Nat.le_trans hB hg.size, e, h1.below (Grow.below hg (Nat.le_refl _)) hB, h2, h3, h4⟩
  | 5 => obtain ⟨g, e, h1, h2⟩ := h; exact ⟨g, e, h1, hg.blk h2 (fun x => x)⟩
  | i + 6 => trivial
theorem iter_small (j : Nat) (p : Pg) (z : Zn) (h1 : z.cur.length ≤ 1000000) (h2 : z.ends.length ≤ 1000000) (h3 : p.cvt.length ≤ 1000000) :
    (Mr.iter j (begin_ p z)).org.length ≤ 1000000 ∧ (Mr.iter j (begin_ p z)).cur.length ≤ 1000000 ∧ (Mr.iter j (begin_ p z)).touch.length ≤ 1000000 ∧ (Mr.iter j (begin_ p z)).ends.length ≤ 1000000 ∧ (Mr.iter j (begin_ p z)).cvt.length ≤ 1000000 ∧ (Mr.iter j (begin_ p z)).store.length = 32 ∧ (Mr.iter j (begin_ p z)).stack.length ≤ 32 := by
  obtain ⟨a, b, c, d, e, f⟩ := Mr.iter_sz j (Mr.begin_sz p z)
  exact ⟨by omega, by omega, by omega, by omega, by omega, f, Mr.iter_stack j (by simp [begin_])⟩
/-- the rounds -/
def MsI (Y : World) (mb N : Nat) (S0 : St) (i : Value) (wr : World) : Prop := ∃ k : Nat, k ≤ N ∧ i = .int .i64 k ∧ MaN Y mb (Mr.iter k S0) wr ∧ (Mr.iter k S0).steps ≤ k
/-- a step, told of the two states -/
theorem step_two {s t : St} {b : Bool} (h : Mr.Er s) (hs : Mc.step s = (t, b)) : (b = true ∧ (t.steps : Int) = s.steps + 1 ∧ (s.peak : Int) ≤ t.peak ∧ s.err = 0) ∨ (b = false ∧ (t.steps : Int) = s.steps ∧ (t.peak : Int) = s.peak) := by
  rcases Mr.step_cases s h with ⟨u, e, e1, e2, _, hz⟩ | ⟨u, e, hv, _, _⟩
  · rw [hs] at e
    injection e with x y
    subst x y
    exact .inl ⟨rfl, by omega, by omega, hz⟩
  · rw [hs] at e
    injection e with x y
    subst x y
    have a := hv.2.2.2.2.2.2.2.1
    have c := hv.2.2.2.2.2.2.2.2
    exact .inr ⟨rfl, by rw [a], by rw [c]⟩
set_option maxHeartbeats 2000000 in
set_option maxRecDepth 100000 in
theorem machineSteps_walk (A : Option Addr) (ac : Nat) (xs : List Int) (q0 q1 q2 q3 s0 : Int) (w : World) (h1 : xs.length ≤ ac) (h2 : ac ≤ maxLen) (hr : RowAt (Repr.int (N0 := w.heap.size)) 3 w w.heap.size A xs) (hq0 : I64 q0) (hq1 : I64 q1) (hq2 : I64 q2) (hq3 : I64 q3) :
    Calls Tryz.prog 4 #[.slice A xs.length ac, .agg #[.int .i64 q0, .int .i64 q1, .int .i64 q2, .int .i64 q3], .int .i64 s0] w fun e w' => e = .returned (.bool true) ∧ Below w.heap.size w w' := by
  have hrd : Reads w w.heap.size 1 A xs.length (xs.map (Value.int .i64)) := by
    have := hr.reads (fun x => [.int .i64 x]) fun _ _ h => h.1
    rw [List.map_eq_flatMap]
    exact this
  have hxi : ∀ x ∈ xs, I64 x := by
    intro x hx
    obtain ⟨i, hi⟩ := List.getElem?_of_mem hx
    obtain ⟨_, _, _, _, _, hrel, _⟩ := hr.get hi
    exact hrel.2
  obtain ⟨m, hmn⟩ : ∃ m, m = min xs.length 600 := ⟨_, rfl⟩
  have hml : m ≤ xs.length ∧ m ≤ 600 := by omega
  have hr2 := reads_take_ hrd hml.1
  rw [Nat.mul_one, ← List.map_take] at hr2
  have hxi2 : ∀ x ∈ xs.take m, I64 x := fun x hx => hxi x (List.mem_of_mem_take hx)
  have hyl : (xs.take m).length = m := by rw [List.length_take]; omega
  have HR := Lib.hid hr2
  have HX := Lib.hid hxi2
  have HYL := Lib.hid hyl
  unfold maxLen at h2
  have hac : (ac : Int) ≤ 9223372036854775807 := by omega
  have hn : xs.length ≤ ac := h1
  have HMN := Lib.hid hmn
  clear hr hrd hr2 hxi hxi2 h2 hyl h1 hmn
  generalize hnx : xs.length = n at *
  generalize xs.take m = ys at *
  clear hnx
  go_enter Tryz.func4, Tryz.ntmps4
  go_wp2_with fail
  have hA0 : Blk (w.alloc (.cells #[.int .i64 q0, .int .i64 q1, .int .i64 q2, .int .i64 q3] 23)) w.heap.size 23 #[.int .i64 q0, .int .i64 q1, .int .i64 q2, .int .i64 q3] := Blk.new _ _ _
  have hG0 : Below w.heap.size w (w.alloc (.cells #[.int .i64 q0, .int .i64 q1, .int .i64 q2, .int .i64 q3] 23)) := (Below.refl _ _).alloc (Nat.le_refl _) _
  generalize (w.alloc (.cells #[.int .i64 q0, .int .i64 q1, .int .i64 q2, .int .i64 q3] 23)) = X0 at *
  refine (awake_any X0).mono ?_
  rintro e' X ⟨rfl, hbl⟩
  have HQB := Lib.hid (hA0.below hbl hA0.lt)
  have HB0 := Lib.hid (hG0.trans (hbl.mono hG0.size))
  clear hA0 hG0 hbl
  go_upto_region 2 with fail
  refine wp_region_conc (MsV w.heap.size X.heap.size A n m ac q0 q1 q2 q3) (fun W => Grow X W) Grow (by as_aux_lemma => kernel_rfl) (by as_aux_lemma => kernel_rfl) 6 rfl ?_ ?_ ?_ ?_
  · intro i v W W' hv hr
    exact hv.grow hr
  · exact (Fr.refl _ _).drew
  · intro j ev val W hj hG hev hd
    have _ec := hev.const
    have _ef := hev.func
    have HGG := Lib.hid hG
    have hzW := hG.size
    clear hG
    match j, hj with
    | 0, _ =>
      have _s0 : ev (.tmp 0) = .slice A n ac := hev.other 0 (by kernel_rfl)
      refine ⟨_, rfl, rfl, ?_⟩; unfold yields; go_simp
      exact ⟨rfl, HGG.out, Fr.refl _ _⟩
    | 1, _ =>
      have d0 := hd 0 (by kernel_rfl); have x0 := hev.dep 0 19 (by kernel_rfl) (by kernel_rfl); simp only [MsV] at d0
      rw [d0] at x0
      refine ⟨_, rfl, rfl, ?_⟩; unfold yields; go_simp
      refine (seed_any A n ac m W hn HMN.out hac).mono ?_
      rintro e w5 ⟨rfl, rfl⟩
      exact ⟨_, rfl, rfl, HGG.out, Fr.refl _ _⟩
    | 2, _ =>
      have d1 := hd 1 (by kernel_rfl); have x1 := hev.dep 1 20 (by kernel_rfl) (by kernel_rfl); simp only [MsV] at d1
      rw [d1] at x1
      refine ⟨_, rfl, rfl, ?_⟩; unfold yields; go_simp
      have hg1 := Grow.below HGG.out (Nat.le_refl _)
      have hbw := HB0.out.trans (hg1.mono HB0.out.size)
      refine (made18_any w.heap.size W A m ac ys hbw.size ((HR.out.below hbw (Nat.le_refl _)).more hbw.size) HX.out (by omega)).mono ?_
      rintro e w5 ⟨B0', B1', B2', k0, k1, k2, fl, ml, cl, size, rfl, hpr, hf, hfb, hm', hb5⟩
      have hg5 : Grow W w5 := Fr.of_below hb5 (fun k hk _ => hk)
      exact ⟨_, rfl, ⟨w5.heap.size, _, _, _, _, _, _, _, _, _, _, Nat.le_refl _, rfl, hpr, hf, hfb, hm'⟩, HGG.out.trans hg5, hg5⟩
    | 3, _ =>
      have _s4 : ev (.tmp 4) = .pointer (some ⟨w.heap.size, 0, none⟩) := hev.other 4 (by kernel_rfl)
      have hp := HGG.out.blk HQB.out (fun x => x)
      have y0 := hp.cell 0
      have y1 := hp.cell 1
      have y2 := hp.cell 2
      have y3 := hp.cell 3
      simp only [List.getElem?_toArray, List.getElem?_cons_zero, List.getElem?_cons_succ] at y0 y1 y2 y3
      have pl := hp.lt
      clear hp
      refine ⟨_, rfl, rfl, ?_⟩; unfold yields; go_simp
      exact ⟨rfl, HGG.out, Fr.refl _ _⟩
    | 4, _ =>
      have d2 := hd 2 (by kernel_rfl); have x2 := hev.dep 2 21 (by kernel_rfl) (by kernel_rfl); simp only [MsV] at d2
      have d3 := hd 3 (by kernel_rfl); have x3 := hev.dep 3 22 (by kernel_rfl) (by kernel_rfl); simp only [MsV] at d3
      rw [d3] at x3
      obtain ⟨B, A0, A1, A2, c0, c1, c2, fl, ml, cl, size, hB, hv, hpr, hf, hfb, hm'⟩ := d2
      rw [hv] at x2
      have HPR := Lib.hid hpr
      have HFB := Lib.hid hfb
      clear hv hpr hfb
      refine ⟨_, rfl, rfl, ?_⟩; unfold yields; go_simp
      have hbw := HB0.out.trans ((Grow.below HGG.out (Nat.le_refl _)).mono HB0.out.size)
      refine (spoilt_any w.heap.size W A0 A1 A2 c0 c1 c2 fl ml cl size q0 q1 q2 q3 hbw.size (HPR.out.more hB) hq0 hq1 hq2 hq3 hf HFB.out hm').mono ?_
      rintro e w5 ⟨B0', B1', B2', k0, k1, k2, fl', ml', cl', size', rfl, hpr, hf, hfb, hm', hb5⟩
      have hg5 : Grow W w5 := Fr.of_below hb5 (fun k hk _ => hk)
      exact ⟨_, rfl, ⟨w5.heap.size, _, _, _, _, _, _, _, _, _, _, Nat.le_refl _, rfl, hpr, hf, hfb, hm'⟩, HGG.out.trans hg5, hg5⟩
    | 5, _ =>
      refine ⟨_, rfl, rfl, ?_⟩; unfold yields; go_simp
      exact ⟨⟨_, rfl, hzW, Blk.new _ _ _⟩, HGG.out.alloc _, (Fr.refl _ _).alloc _⟩
    | i + 6, hi => exact absurd hi (by simp)
  intro val W hG hV
  have v4 := hV 4 (by simp)
  have v5 := hV 5 (by simp)
  simp only [MsV] at v4 v5
  obtain ⟨B, A0, A1, A3, c0, c1, c3, fl, ml, cl, size, hB, hv, hpr, hf, hfb, hm'⟩ := v4
  obtain ⟨pb, hv2, hpb0, hbk⟩ := v5
  have b0 := hbk.cell
  have b1 := hbk.frozen
  have b2 := hbk.lt
  have HPR := Lib.hid (hpr.more hB)
  have HG := Lib.hid hG
  have HBK := Lib.hid hbk
  have HFB := Lib.hid hfb
  clear hV hG hbk hpr hfb hB
  unfold wpOp
  change (if _ then _ else _)
  rw [if_pos (by kernel_rfl)]
  refine .inl ?_
  simp only [fillA, dstOf, List.getElem?_toArray, List.getElem?_cons_zero, List.getElem?_cons_succ, Option.bind_some]
  go_simp
  have hge : w.heap.size ≤ pb := Nat.le_trans HB0.out.size hpb0
  have hbW : Below w.heap.size w W := HB0.out.trans ((Grow.below HG.out (Nat.le_refl _)).mono HB0.out.size)
  have HP1 : Hid (Blk ((((W.setCell ⟨pb, 0, none⟩ (.slice A0 fl.length c0)).setCell ⟨pb, 1, none⟩ (.slice A1 ml.length c1)).setCell ⟨pb, 2, none⟩ (.slice A3 cl.length c3)).setCell ⟨pb, 3, none⟩ (.int .i64 size)) pb 28 #[.slice A0 fl.length c0, .slice A1 ml.length c1, .slice A3 cl.length c3, .int .i64 size]) := Lib.hid (by simpa using (((HBK.out.set_ 0 (.slice A0 fl.length c0)).set_ 1 (.slice A1 ml.length c1)).set_ 2 (.slice A3 cl.length c3)).set_ 3 (.int .i64 size))
  have HPR1 : Hid (ProgAt w.heap.size ((((W.setCell ⟨pb, 0, none⟩ (.slice A0 fl.length c0)).setCell ⟨pb, 1, none⟩ (.slice A1 ml.length c1)).setCell ⟨pb, 2, none⟩ (.slice A3 cl.length c3)).setCell ⟨pb, 3, none⟩ (.int .i64 size)).heap.size ((((W.setCell ⟨pb, 0, none⟩ (.slice A0 fl.length c0)).setCell ⟨pb, 1, none⟩ (.slice A1 ml.length c1)).setCell ⟨pb, 2, none⟩ (.slice A3 cl.length c3)).setCell ⟨pb, 3, none⟩ (.int .i64 size)) A0 A1 A3 c0 c1 c3 fl ml cl size) := Lib.hid (by
    simp only [size_setCell]
    exact (((HPR.out.setCell HBK.out hge 0 _).setCell (HBK.out.set_ 0 _) hge 1 _).setCell ((HBK.out.set_ 0 _).set_ 1 _) hge 2 _).setCell (((HBK.out.set_ 0 _).set_ 1 _).set_ 2 _) hge 3 _)
  have HB1 : Hid (Below w.heap.size w ((((W.setCell ⟨pb, 0, none⟩ (.slice A0 fl.length c0)).setCell ⟨pb, 1, none⟩ (.slice A1 ml.length c1)).setCell ⟨pb, 2, none⟩ (.slice A3 cl.length c3)).setCell ⟨pb, 3, none⟩ (.int .i64 size))) := Lib.hid ((((hbW.setCell (p := ⟨pb, 0, none⟩) hge _).setCell (p := ⟨pb, 1, none⟩) hge _).setCell (p := ⟨pb, 2, none⟩) hge _).setCell (p := ⟨pb, 3, none⟩) hge _)
  clear hbW HQB HG HBK HPR b0 b1 b2 hv hv2
  generalize hX1 : ((((W.setCell ⟨pb, 0, none⟩ (.slice A0 fl.length c0)).setCell ⟨pb, 1, none⟩ (.slice A1 ml.length c1)).setCell ⟨pb, 2, none⟩ (.slice A3 cl.length c3)).setCell ⟨pb, 3, none⟩ (.int .i64 size)) = X1 at *
  clear hX1
  have hPG : PgAt X1 X1.heap.size ⟨fl, ml, cl, size⟩ A0 A1 A3 := pg_of HPR1.out
  have HPG1 := Lib.hid hPG
  have HPO : Hid (PgOk ⟨fl, ml, cl, size⟩) := Lib.hid ⟨by simp only; omega, fun c hc => by have := HFB.out c hc; omega, by simp only; omega, by have := HPR1.out.k; simp only; omega⟩
  have hzq : ys.length = m := HYL.out
  have HP9 := Lib.hid (fun W h hB => points4_any A ac w.heap.size ys W h hB (by omega))
  rw [hzq] at HP9
  have HZO : Hid (ZnOk (zn4 ys (n4 ys))) := Lib.hid (zn4_ok ys _ (by unfold n4; omega))
  clear hzq hPG HPR1 HX HFB HYL
  generalize zn4 ys (n4 ys) = z at *
  go_wp2_with fail
  refine (seed_any A n ac m X1 hn HMN.out hac).mono ?_
  rintro e w5 ⟨rfl, rfl⟩
  go_wp2_with fail
  refine (HP9.out X1 (HR.out.below HB1.out (Nat.le_refl _)) HB1.out.size).mono ?_
  rintro e w6 ⟨og, cu, tq, en, rfl, ⟨o1, o2, o3, o4⟩, hg6⟩
  obtain ⟨E1, g1, rfl, _⟩ := owns_form o1
  obtain ⟨E2, g2, rfl, _⟩ := owns_form o2
  obtain ⟨E3, g3, rfl, _⟩ := owns_form o3
  obtain ⟨E4, g4, rfl, _⟩ := owns_form o4
  have HZA6 : Hid (ZnAt w6 w6.heap.size z E1 E2 E3 E4) := Lib.hid ⟨Reads.of_own o1, Reads.of_own o2, Reads.of_own o3, Reads.of_own o4⟩
  have hga : Grow X1 (w6.alloc (.cells #[.slice E1 z.org.length g1, .slice E2 z.cur.length g2, .slice E3 z.touch.length g3, .slice E4 z.ends.length g4] 33)) := Fr.alloc hg6 _
  have HPB : Hid (Blk (w6.alloc (.cells #[.slice E1 z.org.length g1, .slice E2 z.cur.length g2, .slice E3 z.touch.length g3, .slice E4 z.ends.length g4] 33)) pb 28 #[.slice A0 fl.length c0, .slice A1 ml.length c1, .slice A3 cl.length c3, .int .i64 size]) := Lib.hid (hga.blk HP1.out (fun x => x))
  have HZB : Hid (Blk (w6.alloc (.cells #[.slice E1 z.org.length g1, .slice E2 z.cur.length g2, .slice E3 z.touch.length g3, .slice E4 z.ends.length g4] 33)) w6.heap.size 33 #[.slice E1 z.org.length g1, .slice E2 z.cur.length g2, .slice E3 z.touch.length g3, .slice E4 z.ends.length g4]) := Lib.hid (Blk.new _ _ _)
  have HB2 : Hid (Below w.heap.size w (w6.alloc (.cells #[.slice E1 z.org.length g1, .slice E2 z.cur.length g2, .slice E3 z.touch.length g3, .slice E4 z.ends.length g4] 33))) := Lib.hid (HB1.out.trans ((Grow.below hga (Nat.le_refl _)).mono HB1.out.size))
  have HPG : Hid (PgAt (w6.alloc (.cells #[.slice E1 z.org.length g1, .slice E2 z.cur.length g2, .slice E3 z.touch.length g3, .slice E4 z.ends.length g4] 33)) (w6.alloc (.cells #[.slice E1 z.org.length g1, .slice E2 z.cur.length g2, .slice E3 z.touch.length g3, .slice E4 z.ends.length g4] 33)).heap.size ⟨fl, ml, cl, size⟩ A0 A1 A3) := Lib.hid ((HPG1.out.keep fun q hq => hga.cell hq (fun x => x)).more7 hga.size)
  have HZA : Hid (ZnAt (w6.alloc (.cells #[.slice E1 z.org.length g1, .slice E2 z.cur.length g2, .slice E3 z.touch.length g3, .slice E4 z.ends.length g4] 33)) (w6.alloc (.cells #[.slice E1 z.org.length g1, .slice E2 z.cur.length g2, .slice E3 z.touch.length g3, .slice E4 z.ends.length g4] 33)).heap.size z E1 E2 E3 E4) := Lib.hid ((HZA6.out.keep fun q hq => World.cell?_alloc_lt _ _ _ hq).more7 (by simp))
  clear o1 o2 o3 o4 hg6 hga HP1 HB1 HZA6 HPG1 HP9 HR HMN
  go_upto_region 4 with fail
  generalize hzb : w6.heap.size = zb at *
  generalize hY : w6.alloc (.cells #[.slice E1 z.org.length g1, .slice E2 z.cur.length g2, .slice E3 z.touch.length g3, .slice E4 z.ends.length g4] 33) = Y at *
  clear hY hzb
  have p0 := HPB.out.cell 0
  have p1 := HPB.out.cell 1
  have p2 := HPB.out.cell 2
  have p3 := HPB.out.cell 3
  have z0 := HZB.out.cell 0
  have z1 := HZB.out.cell 1
  have z2 := HZB.out.cell 2
  have z3 := HZB.out.cell 3
  simp only [List.getElem?_toArray, List.getElem?_cons_zero, List.getElem?_cons_succ] at p0 p1 p2 p3 z0 z1 z2 z3
  have pl := HPB.out.lt
  have zl := HZB.out.lt
  have HNEW := Lib.hid (new_any Y ⟨fl, ml, cl, size⟩ z HPO.out HZO.out A0 A1 A3 E1 E3 E4 E2 c0 c1 c3 g1 g3 g4 g2 HPG.out HZA.out)
  go_wp2_with fail
  refine HNEW.out.mono ?_
  rintro e w1 ⟨mb, O1, L1, rfl, hm1, hO1, hb1⟩
  have hsm := fun j => iter_small j ⟨fl, ml, cl, size⟩ z HZO.out.cur HZO.out.ends HPO.out.cvt
  have her := Mr.begin_er ⟨fl, ml, cl, size⟩ z
  obtain ⟨S0, hS0⟩ : ∃ S0, S0 = begin_ ⟨fl, ml, cl, size⟩ z := ⟨_, rfl⟩
  rw [← hS0] at hm1 hsm her
  have HS0 := Lib.hid hS0
  have HSM := Lib.hid hsm
  have HER := Lib.hid her
  obtain ⟨N, hN⟩ : ∃ N : Nat, (N : Int) = s0 % 201 := ⟨(s0 % 201).toNat, by omega⟩
  have hN2 : N ≤ 200 := by omega
  have HR0 : Hid (MsI Y mb N S0 (.int .i64 0) w1) := Lib.hid ⟨0, Nat.zero_le _, rfl, ⟨O1, L1, hm1, hO1, hb1⟩, by show S0.steps ≤ 0; rw [HS0.out]; exact Nat.le_refl _⟩
  clear HNEW p0 p1 p2 p3 z0 z1 z2 z3 hsm her hS0 hm1 hO1 hb1 pl zl
  have HNN := Lib.hid hN
  clear hN
  go_wp2_with fail
  refine (lrest_any s0 201 w1 (by decide) (by decide)).mono ?_
  rintro e w5 ⟨rfl, rfl⟩
  rw [← HNN.out]
  go_wp2_with fail
  go_loopw [12] (fun i wr => MsI Y mb N S0 i wr) (fun i _ => N - (intOf i).toNat)
  case atStart => exact HR0.out
  case round =>
    clear HR0
    obtain ⟨k, hk, rfl, ⟨O, L, hm, hO, hb⟩, htk⟩ := hrel
    obtain ⟨t, ht⟩ : ∃ t, t = Mr.iter k S0 := ⟨_, rfl⟩
    rw [← ht] at hm htk
    have hert : Mr.Er t := by rw [ht]; exact Mr.iter_er k HER.out
    have HT := Lib.hid ht
    have HM0 := Lib.hid hm
    have HO0 := Lib.hid hO
    have HB0' := Lib.hid hb
    have HERT := Lib.hid hert
    have hoF : ∀ q, O q → q < wr.heap.size := hm.olt
    have HOF := Lib.hid hoF
    clear ht hm hO hb hert hoF
    by_cases hlt : (k : Int) < (N : Int)
    · have HCa := Lib.hid (ran_any wr mb O L t HM0.out)
      go_wp2_with fail
      refine HCa.out.mono ?_
      rintro e w2 ⟨og, cu, tq, en, cv, st, sk, rfl, hraa, hbla⟩
      obtain ⟨F1, f1, rfl, _⟩ := owns_form hraa.og
      obtain ⟨F2, f2, rfl, _⟩ := owns_form hraa.cu
      obtain ⟨F3, f3, rfl, _⟩ := owns_form hraa.to
      obtain ⟨F4, f4, rfl, _⟩ := owns_form hraa.en
      obtain ⟨F5, f5, rfl, _⟩ := owns_form hraa.cv
      obtain ⟨F6, f6, rfl, _⟩ := owns_form hraa.st
      obtain ⟨F7, f7, rfl, _⟩ := owns_form hraa.sk
      have hga : Grow wr (w2.alloc (.cells #[.slice F1 t.org.length f1, .slice F2 t.cur.length f2, .slice F3 t.touch.length f3, .slice F4 t.ends.length f4, .slice F5 t.cvt.length f5, .slice F6 32 f6, .slice F7 t.stack.length f7, .int .i64 t.steps, .int .i64 t.peak, .int .i64 t.err] 43)) := Fr.alloc (Fr.of_below hbla (fun k hk _ => hk)) _
      have HMa := Lib.hid (HM0.out.grow hga)
      have HBa := Lib.hid (HB0'.out.trans ((Grow.below hga (Nat.le_refl _)).mono HB0'.out.size))
      have HKa := Lib.hid (Blk.new w2 43 #[.slice F1 t.org.length f1, .slice F2 t.cur.length f2, .slice F3 t.touch.length f3, .slice F4 t.ends.length f4, .slice F5 t.cvt.length f5, .slice F6 32 f6, .slice F7 t.stack.length f7, .int .i64 t.steps, .int .i64 t.peak, .int .i64 t.err])
      have hya : Y.heap.size ≤ wr.heap.size := HB0'.out.size
      have hza : wr.heap.size ≤ w2.heap.size := hbla.size
      clear HCa hbla HM0 HB0'
      go_upto_region 12 with fail
      have hno : ¬ O w2.heap.size := fun e => by have := HOF.out _ e; omega
      have HNO := Lib.hid hno
      clear hno HOF hga hraa
      generalize hab : w2.heap.size = ab at *
      generalize hXA : w2.alloc (.cells #[.slice F1 t.org.length f1, .slice F2 t.cur.length f2, .slice F3 t.touch.length f3, .slice F4 t.ends.length f4, .slice F5 t.cvt.length f5, .slice F6 32 f6, .slice F7 t.stack.length f7, .int .i64 t.steps, .int .i64 t.peak, .int .i64 t.err] 43) = XA at *
      clear hab hXA
      have HC := Lib.hid (step_any XA mb O L t HMa.out (by omega))
      go_wp2_with fail
      refine HC.out.mono ?_
      rintro e w3 ⟨rfl, hm3, hf3⟩
      have HK3 := Lib.hid (hf3.blk HKa.out HNO.out)
      have hmn := MaN.step HO0.out HBa.out hm3 hf3
      have hsb := step_bound (s := t)
      have hit : Mr.iter (k + 1) S0 = (Mc.step t).1 := by rw [Mr.iter_succ, ← HT.out]
      rcases hs : Mc.step t with ⟨t', b⟩
      rw [hs] at hmn hsb hit
      simp only at hmn hsb hit
      have hl := step_two HERT.out hs
      have HIT := Lib.hid hit
      obtain ⟨O2, L2, hm4, hO4, hb4⟩ := hmn
      have HM4 := Lib.hid hm4
      have HO4 := Lib.hid hO4
      have HB4 := Lib.hid hb4
      clear HC hm3 hf3 hs hit HKa HNO HMa HBa HO0 HERT hm4 hO4 hb4
      go_upto_region 13 with fail
      have HCb := Lib.hid (ran_any w3 mb O2 L2 t' HM4.out)
      go_wp2_with fail
      refine HCb.out.mono ?_
      rintro e w4 ⟨og, cu, tq, en, cv, st, sk, rfl, hrab, hblb⟩
      obtain ⟨H1, h1, rfl, _⟩ := owns_form hrab.og
      obtain ⟨H2, h2, rfl, _⟩ := owns_form hrab.cu
      obtain ⟨H3, h3, rfl, _⟩ := owns_form hrab.to
      obtain ⟨H4, h4, rfl, _⟩ := owns_form hrab.en
      obtain ⟨H5, h5, rfl, _⟩ := owns_form hrab.cv
      obtain ⟨H6, h6, rfl, _⟩ := owns_form hrab.st
      obtain ⟨H7, h7, rfl, _⟩ := owns_form hrab.sk
      have hgb : Grow w3 (w4.alloc (.cells #[.slice H1 t'.org.length h1, .slice H2 t'.cur.length h2, .slice H3 t'.touch.length h3, .slice H4 t'.ends.length h4, .slice H5 t'.cvt.length h5, .slice H6 32 h6, .slice H7 t'.stack.length h7, .int .i64 t'.steps, .int .i64 t'.peak, .int .i64 t'.err] 43)) := Fr.alloc (Fr.of_below hblb (fun k hk _ => hk)) _
      have HMb := Lib.hid (HM4.out.grow hgb)
      have HBb := Lib.hid (HB4.out.trans ((Grow.below hgb (Nat.le_refl _)).mono HB4.out.size))
      have HKb := Lib.hid (Blk.new w4 43 #[.slice H1 t'.org.length h1, .slice H2 t'.cur.length h2, .slice H3 t'.touch.length h3, .slice H4 t'.ends.length h4, .slice H5 t'.cvt.length h5, .slice H6 32 h6, .slice H7 t'.stack.length h7, .int .i64 t'.steps, .int .i64 t'.peak, .int .i64 t'.err])
      have hyb : Y.heap.size ≤ w3.heap.size := HB4.out.size
      have hzb : w3.heap.size ≤ w4.heap.size := hblb.size
      have HK5 := Lib.hid ((HK3.out.below hblb HK3.out.lt).alloc (.cells #[.slice H1 t'.org.length h1, .slice H2 t'.cur.length h2, .slice H3 t'.touch.length h3, .slice H4 t'.ends.length h4, .slice H5 t'.cvt.length h5, .slice H6 32 h6, .slice H7 t'.stack.length h7, .int .i64 t'.steps, .int .i64 t'.peak, .int .i64 t'.err] 43))
      have hno : ab < w4.heap.size := Nat.lt_of_lt_of_le HK3.out.lt hzb
      clear HCb hblb HM4 HB4
      go_upto_region 14 with fail
      clear HK3 hgb hrab
      generalize hbb : w4.heap.size = bb at *
      generalize hXB : w4.alloc (.cells #[.slice H1 t'.org.length h1, .slice H2 t'.cur.length h2, .slice H3 t'.touch.length h3, .slice H4 t'.ends.length h4, .slice H5 t'.cvt.length h5, .slice H6 32 h6, .slice H7 t'.stack.length h7, .int .i64 t'.steps, .int .i64 t'.peak, .int .i64 t'.err] 43) = XB at *
      clear hbb hXB
      have HRE : Hid (MsI Y mb N S0 (.int .i64 ((k : Int) + 1)) XB) := Lib.hid ⟨k + 1, by omega, by simp, by rw [HIT.out]; exact ⟨O2, L2, HMb.out, HO4.out, HBb.out⟩, by rw [HIT.out]; omega⟩
      have a7 := HK5.out.cell 7
      have a8 := HK5.out.cell 8
      have a9 := HK5.out.cell 9
      have b7 := HKb.out.cell 7
      have b8 := HKb.out.cell 8
      simp only [List.getElem?_toArray, List.getElem?_cons_zero, List.getElem?_cons_succ] at a7 a8 a9 b7 b8
      have al := HK5.out.lt
      have bl := HKb.out.lt
      have hst0 : (0 : Int) ≤ t.steps ∧ (t.steps : Int) ≤ 1000 := by omega
      clear HK5 HKb HMb HBb HO4 HIT HT hsb htk
      rcases hl with ⟨rfl, e1, e2, e3⟩ | ⟨rfl, e1, e2⟩
      · rw [e1] at b7
        rw [e3] at a9
        clear e1 e3
        generalize (t.steps : Int) = ts at *
        generalize (t.peak : Int) = tp at *
        generalize (t'.peak : Int) = tp' at *
        go_wp2_with fail
        go_roundw
        case rel => exact HRE.out
        case measure => simp [intOf]; omega
      · rw [e1] at b7
        rw [e2] at b8
        clear e1 e2
        generalize (t.steps : Int) = ts at *
        generalize (t.peak : Int) = tp at *
        generalize t.err = te at *
        by_cases hte : te = 0
        · subst hte
          go_wp2_with fail
          go_roundw
          case rel => exact HRE.out
          case measure => simp [intOf]; omega
        · have hteb : (te != 0) = true := by simpa using hte
          go_wp2_with fail
          go_roundw
          case rel => exact HRE.out
          case measure => simp [intOf]; omega
    · obtain rfl : k = N := by omega
      have HCr := Lib.hid (ran_any wr mb O L t HM0.out)
      go_wp2_with fail
      refine HCr.out.mono ?_
      rintro e w2 ⟨og, cu, tq, en, cv, st, sk, rfl, hrar, hblr⟩
      obtain ⟨F1, f1, rfl, _⟩ := owns_form hrar.og
      obtain ⟨F2, f2, rfl, _⟩ := owns_form hrar.cu
      obtain ⟨F3, f3, rfl, _⟩ := owns_form hrar.to
      obtain ⟨F4, f4, rfl, _⟩ := owns_form hrar.en
      obtain ⟨F5, f5, rfl, _⟩ := owns_form hrar.cv
      obtain ⟨F6, f6, rfl, _⟩ := owns_form hrar.st
      obtain ⟨F7, f7, rfl, _⟩ := owns_form hrar.sk
      have hgr : Grow wr (w2.alloc (.cells #[.slice F1 t.org.length f1, .slice F2 t.cur.length f2, .slice F3 t.touch.length f3, .slice F4 t.ends.length f4, .slice F5 t.cvt.length f5, .slice F6 32 f6, .slice F7 t.stack.length f7, .int .i64 t.steps, .int .i64 t.peak, .int .i64 t.err] 43)) := Fr.alloc (Fr.of_below hblr (fun k hk _ => hk)) _
      have HMr := Lib.hid (HM0.out.grow hgr)
      have HBr := Lib.hid (HB0'.out.trans ((Grow.below hgr (Nat.le_refl _)).mono HB0'.out.size))
      have HKr := Lib.hid (Blk.new w2 43 #[.slice F1 t.org.length f1, .slice F2 t.cur.length f2, .slice F3 t.touch.length f3, .slice F4 t.ends.length f4, .slice F5 t.cvt.length f5, .slice F6 32 f6, .slice F7 t.stack.length f7, .int .i64 t.steps, .int .i64 t.peak, .int .i64 t.err])
      have hyr : Y.heap.size ≤ wr.heap.size := HB0'.out.size
      have hzr : wr.heap.size ≤ w2.heap.size := hblr.size
      have HRTr := Lib.hid (hrar.grow ((Fr.refl _ _).alloc (.cells #[.slice F1 t.org.length f1, .slice F2 t.cur.length f2, .slice F3 t.touch.length f3, .slice F4 t.ends.length f4, .slice F5 t.cvt.length f5, .slice F6 32 f6, .slice F7 t.stack.length f7, .int .i64 t.steps, .int .i64 t.peak, .int .i64 t.err] 43)))
      clear HCr hblr HM0 HB0'
      go_upto_region 17 with fail
      clear HMr hgr hrar HO0 HOF
      generalize hab : w2.heap.size = rb at *
      generalize hXA : w2.alloc (.cells #[.slice F1 t.org.length f1, .slice F2 t.cur.length f2, .slice F3 t.touch.length f3, .slice F4 t.ends.length f4, .slice F5 t.cvt.length f5, .slice F6 32 f6, .slice F7 t.stack.length f7, .int .i64 t.steps, .int .i64 t.peak, .int .i64 t.err] 43) = XR at *
      clear hab hXA
      have hYR := HBr.out.size
      have p0 := (HPB.out.below HBr.out HPB.out.lt).cell 0
      have p1 := (HPB.out.below HBr.out HPB.out.lt).cell 1
      have p2 := (HPB.out.below HBr.out HPB.out.lt).cell 2
      have p3 := (HPB.out.below HBr.out HPB.out.lt).cell 3
      have z0 := (HZB.out.below HBr.out HZB.out.lt).cell 0
      have z1 := (HZB.out.below HBr.out HZB.out.lt).cell 1
      have z2 := (HZB.out.below HBr.out HZB.out.lt).cell 2
      have z3 := (HZB.out.below HBr.out HZB.out.lt).cell 3
      simp only [List.getElem?_toArray, List.getElem?_cons_zero, List.getElem?_cons_succ] at p0 p1 p2 p3 z0 z1 z2 z3
      have pl := HPB.out.lt
      have zl := HZB.out.lt
      have HRUN := Lib.hid (run_any XR ⟨fl, ml, cl, size⟩ z HPO.out HZO.out A0 A1 A3 E1 E3 E4 E2 c0 c1 c3 g1 g3 g4 g2 ((HPG.out.keep fun q hq => HBr.out.cell hq).more7 hYR) ((HZA.out.keep fun q hq => HBr.out.cell hq).more7 hYR) (k : Int) (by omega))
      go_wp2_with fail
      refine HRUN.out.mono ?_
      rw [Int.toNat_natCast, ← HS0.out]
      have hvis := Mr.iter_run k HER.out
      rw [← HT.out] at hvis
      have hsmt := HSM.out k
      rw [← HT.out] at hsmt
      have HVIS := Lib.hid hvis
      have HSMT := Lib.hid hsmt
      clear hvis hsmt HRUN p0 p1 p2 p3 z0 z1 z2 z3 HSM HS0 HER HT HPB HZB HPG HZA HPO HZO
      generalize Mc.run k S0 = T at *
      rintro e w6 ⟨og, cu, tq, en, cv, st, sk, rfl, hra, hbl⟩
      obtain ⟨H1, h1, rfl, _⟩ := owns_form hra.og
      obtain ⟨H2, h2, rfl, _⟩ := owns_form hra.cu
      obtain ⟨H3, h3, rfl, _⟩ := owns_form hra.to
      obtain ⟨H4, h4, rfl, _⟩ := owns_form hra.en
      obtain ⟨H5, h5, rfl, _⟩ := owns_form hra.cv
      obtain ⟨H6, h6, rfl, _⟩ := owns_form hra.st
      obtain ⟨H7, h7, rfl, _⟩ := owns_form hra.sk
      have hg6 : Grow XR (w6.alloc (.cells #[.slice H1 T.org.length h1, .slice H2 T.cur.length h2, .slice H3 T.touch.length h3, .slice H4 T.ends.length h4, .slice H5 T.cvt.length h5, .slice H6 32 h6, .slice H7 T.stack.length h7, .int .i64 T.steps, .int .i64 T.peak, .int .i64 T.err] 43)) := Fr.alloc (Fr.of_below hbl (fun k hk _ => hk)) _
      have HR7 := Lib.hid (HKr.out.below (Grow.below hg6 (Nat.le_refl _)) HKr.out.lt)
      have HRT7 := Lib.hid (HRTr.out.grow hg6)
      have HW7 := Lib.hid (Blk.new w6 43 #[.slice H1 T.org.length h1, .slice H2 T.cur.length h2, .slice H3 T.touch.length h3, .slice H4 T.ends.length h4, .slice H5 T.cvt.length h5, .slice H6 32 h6, .slice H7 T.stack.length h7, .int .i64 T.steps, .int .i64 T.peak, .int .i64 T.err])
      have HWT7 := Lib.hid (hra.grow ((Fr.refl _ _).alloc (.cells #[.slice H1 T.org.length h1, .slice H2 T.cur.length h2, .slice H3 T.touch.length h3, .slice H4 T.ends.length h4, .slice H5 T.cvt.length h5, .slice H6 32 h6, .slice H7 T.stack.length h7, .int .i64 T.steps, .int .i64 T.peak, .int .i64 T.err] 43)))
      have HE7 := Lib.hid (HB2.out.trans ((HBr.out.trans ((Grow.below hg6 (Nat.le_refl _)).mono hYR)).mono HB2.out.size))
      have hrw : rb < w6.heap.size := Nat.lt_of_lt_of_le HKr.out.lt hbl.size
      clear hra hbl hg6 HKr HRTr HBr
      go_upto_region 18 with fail
      generalize hwb : w6.heap.size = wb at *
      generalize hX7 : w6.alloc (.cells #[.slice H1 T.org.length h1, .slice H2 T.cur.length h2, .slice H3 T.touch.length h3, .slice H4 T.ends.length h4, .slice H5 T.cvt.length h5, .slice H6 32 h6, .slice H7 T.stack.length h7, .int .i64 T.steps, .int .i64 T.peak, .int .i64 T.err] 43) = X7 at *
      clear hwb hX7
      have r9 := HR7.out.cell 9
      have w9 := HW7.out.cell 9
      have r9f := HR7.out.frozen 9
      have w9f := HW7.out.frozen 9
      simp only [List.getElem?_toArray, List.getElem?_cons_zero, List.getElem?_cons_succ] at r9 w9
      have rl := HR7.out.lt
      have wl := HW7.out.lt
      have hne : ¬ rb = wb := by omega
      have hne2 : ¬ wb = rb := by omega
      have hgeR : w.heap.size ≤ rb := by have := HB2.out.size; have := hYR; omega
      have hgeW : w.heap.size ≤ wb := by omega
      by_cases hz : T.err = 53
      · rw [hz] at w9
        have HWc1 := Lib.hid (HW7.out.set_ 9 (.int .i64 0))
        have HRc1 := Lib.hid (HR7.out.far (p := ⟨wb, 9, none⟩) hne (.int .i64 0))
        have HRTc1 := Lib.hid (HRT7.out.set_ HW7.out 9 (.int .i64 0))
        have HWTc1 := Lib.hid (HWT7.out.set_ HW7.out 9 (.int .i64 0))
        have HEc1 := Lib.hid (HE7.out.setCell (p := ⟨wb, 9, none⟩) hgeW (.int .i64 0))
        have HRc2 := Lib.hid (HRc1.out.set_ 9 (.int .i64 0))
        have HWc2 := Lib.hid (HWc1.out.far (p := ⟨rb, 9, none⟩) hne2 (.int .i64 0))
        have HRTc2 := Lib.hid (HRTc1.out.set_ HRc1.out 9 (.int .i64 0))
        have HWTc2 := Lib.hid (HWTc1.out.set_ HRc1.out 9 (.int .i64 0))
        have HEc2 := Lib.hid (HEc1.out.setCell (p := ⟨rb, 9, none⟩) hgeR (.int .i64 0))
        have HWc3 := Lib.hid (HWc2.out.set_ 9 (.int .i64 0))
        have HRc3 := Lib.hid (HRc2.out.far (p := ⟨wb, 9, none⟩) hne (.int .i64 0))
        have HRTc3 := Lib.hid (HRTc2.out.set_ HWc2.out 9 (.int .i64 0))
        have HWTc3 := Lib.hid (HWTc2.out.set_ HWc2.out 9 (.int .i64 0))
        have HEc3 := Lib.hid (HEc2.out.setCell (p := ⟨wb, 9, none⟩) hgeW (.int .i64 0))
        clear HR7 HW7 HRT7 HWT7 HE7 HRc1 HWc1 HRTc1 HWTc1 HEc1 HRc2 HWc2 HRTc2 HWTc2 HEc2
        go_upto_region 22 with fail
        generalize hX8 : (((X7.setCell ⟨wb, 9, none⟩ (.int .i64 0)).setCell ⟨rb, 9, none⟩ (.int .i64 0)).setCell ⟨wb, 9, none⟩ (.int .i64 0)) = X8 at *
        clear hX8 r9 w9 r9f w9f rl wl
        have hr8 := HRc3.out
        have hw8 := HWc3.out
        simp only [List.setIfInBounds_toArray, List.set_cons_zero, List.set_cons_succ] at hr8 hw8
        have a0 := hr8.cell 0
        have b0 := hw8.cell 0
        have a1 := hr8.cell 1
        have b1 := hw8.cell 1
        have a2 := hr8.cell 2
        have b2 := hw8.cell 2
        have a3 := hr8.cell 3
        have b3 := hw8.cell 3
        have a4 := hr8.cell 4
        have b4 := hw8.cell 4
        have a5 := hr8.cell 5
        have b5 := hw8.cell 5
        have a6 := hr8.cell 6
        have b6 := hw8.cell 6
        have a7 := hr8.cell 7
        have b7 := hw8.cell 7
        have a8 := hr8.cell 8
        have b8 := hw8.cell 8
        have a9 := hr8.cell 9
        have b9 := hw8.cell 9
        simp only [List.getElem?_toArray, List.getElem?_cons_zero, List.getElem?_cons_succ] at a0 b0 a1 b1 a2 b2 a3 b3 a4 b4 a5 b5 a6 b6 a7 b7 a8 b8 a9 b9
        have rl := hr8.lt
        have wl := hw8.lt
        have HSAME := Lib.hid (rsame_ran X8 X8.heap.size (Nat.le_refl _) t T HVIS.out HSMT.out 0 F1 F2 F3 F4 F5 F6 F7 H1 H2 H3 H4 H5 H6 H7 f1 f2 f3 f4 f5 f6 f7 h1 h2 h3 h4 h5 h6 h7 HRTc3.out (Nat.le_refl _) (fun q hq => rfl) HWTc3.out (Nat.le_refl _) (fun q hq => rfl))
        clear hr8 hw8 HRc3 HWc3 HRTc3 HWTc3 HVIS HSMT
        go_wp2_with fail
        refine HSAME.out.mono ?_
        rintro e w9 ⟨rfl, hg9⟩
        have HE := Lib.hid (HEc3.out.trans ((Grow.below hg9 (Nat.le_refl _)).mono HEc3.out.size))
        clear HSAME hg9 a0 b0 a1 b1 a2 b2 a3 b3 a4 b4 a5 b5 a6 b6 a7 b7 a8 b8 a9 b9
        go_wp2_with fail
        go_ret
        exact ⟨rfl, HE.out⟩
      · have hzb : (T.err == 53) = false := by simpa using hz
        have HRc1 := Lib.hid (HR7.out.set_ 9 (.int .i64 0))
        have HWc1 := Lib.hid (HW7.out.far (p := ⟨rb, 9, none⟩) hne2 (.int .i64 0))
        have HRTc1 := Lib.hid (HRT7.out.set_ HR7.out 9 (.int .i64 0))
        have HWTc1 := Lib.hid (HWT7.out.set_ HR7.out 9 (.int .i64 0))
        have HEc1 := Lib.hid (HE7.out.setCell (p := ⟨rb, 9, none⟩) hgeR (.int .i64 0))
        have HWc2 := Lib.hid (HWc1.out.set_ 9 (.int .i64 0))
        have HRc2 := Lib.hid (HRc1.out.far (p := ⟨wb, 9, none⟩) hne (.int .i64 0))
        have HRTc2 := Lib.hid (HRTc1.out.set_ HWc1.out 9 (.int .i64 0))
        have HWTc2 := Lib.hid (HWTc1.out.set_ HWc1.out 9 (.int .i64 0))
        have HEc2 := Lib.hid (HEc1.out.setCell (p := ⟨wb, 9, none⟩) hgeW (.int .i64 0))
        clear HR7 HW7 HRT7 HWT7 HE7 HRc1 HWc1 HRTc1 HWTc1 HEc1
        go_upto_region 22 with fail
        generalize hX8 : ((X7.setCell ⟨rb, 9, none⟩ (.int .i64 0)).setCell ⟨wb, 9, none⟩ (.int .i64 0)) = X8 at *
        clear hX8 r9 w9 r9f w9f rl wl
        have hr8 := HRc2.out
        have hw8 := HWc2.out
        simp only [List.setIfInBounds_toArray, List.set_cons_zero, List.set_cons_succ] at hr8 hw8
        have a0 := hr8.cell 0
        have b0 := hw8.cell 0
        have a1 := hr8.cell 1
        have b1 := hw8.cell 1
        have a2 := hr8.cell 2
        have b2 := hw8.cell 2
        have a3 := hr8.cell 3
        have b3 := hw8.cell 3
        have a4 := hr8.cell 4
        have b4 := hw8.cell 4
        have a5 := hr8.cell 5
        have b5 := hw8.cell 5
        have a6 := hr8.cell 6
        have b6 := hw8.cell 6
        have a7 := hr8.cell 7
        have b7 := hw8.cell 7
        have a8 := hr8.cell 8
        have b8 := hw8.cell 8
        have a9 := hr8.cell 9
        have b9 := hw8.cell 9
        simp only [List.getElem?_toArray, List.getElem?_cons_zero, List.getElem?_cons_succ] at a0 b0 a1 b1 a2 b2 a3 b3 a4 b4 a5 b5 a6 b6 a7 b7 a8 b8 a9 b9
        have rl := hr8.lt
        have wl := hw8.lt
        have HSAME := Lib.hid (rsame_ran X8 X8.heap.size (Nat.le_refl _) t T HVIS.out HSMT.out 0 F1 F2 F3 F4 F5 F6 F7 H1 H2 H3 H4 H5 H6 H7 f1 f2 f3 f4 f5 f6 f7 h1 h2 h3 h4 h5 h6 h7 HRTc2.out (Nat.le_refl _) (fun q hq => rfl) HWTc2.out (Nat.le_refl _) (fun q hq => rfl))
        clear hr8 hw8 HRc2 HWc2 HRTc2 HWTc2 HVIS HSMT
        go_wp2_with fail
        refine HSAME.out.mono ?_
        rintro e w9 ⟨rfl, hg9⟩
        have HE := Lib.hid (HEc2.out.trans ((Grow.below hg9 (Nat.le_refl _)).mono HEc2.out.size))
        clear HSAME hg9 a0 b0 a1 b1 a2 b2 a3 b3 a4 b4 a5 b5 a6 b6 a7 b7 a8 b8 a9 b9
        go_wp2_with fail
        go_ret
        exact ⟨rfl, HE.out⟩
end Go.Proofs.YthdmdgmchkhngaaGreat

/- MachineMore's walk. -/
import Derived.Test.YthdmdgmchkhngaaGreatMadeN
import Derived.Test.YthdmdgmchkhngaaGreatSpoilB
import Derived.Test.YthdmdgmchkhngaaGreatMnE
import Derived.Test.YthdmdgmchkhngaaGreatMcSz
import Derived.Test.YthdmdgmchkhngaaGreatPt4
import Derived.Test.YthdmdgmchkhngaaGreatRsB
namespace Go.Proofs.YthdmdgmchkhngaaGreat
open Go.RowKit Mc

set_option maxRecDepth 100000 in
/-- a cut slice, as seed tells it -/
theorem seed_any (A : Option Addr) (n ac m : Nat) (w : World) (hn : n ≤ ac) (hm : m = min n 600) (hac : (ac : Int) ≤ 9223372036854775807) :
    Calls Tryz.prog 11 #[.slice A n ac] w fun e w' => e = .returned (.slice A m ac) ∧ w = w' := by
  go_enter Tryz.func11, Tryz.ntmps11
  by_cases h : (600 : Int) < (n : Int)
  · have hm6 : m = 600 := by omega
    subst hm6
    clear hm
    go_wp2_with fail
    go_ret
    exact ⟨rfl, rfl⟩
  · have hmn : m = n := by omega
    subst hmn
    clear hm
    go_wp2_with fail
    go_ret
    exact ⟨rfl, rfl⟩
theorem ZnAt.more7 {w : World} {B B' : Nat} {z : Zn} {oA uA tA eA : Option Addr} (h : ZnAt w B z oA uA tA eA) (hB : B ≤ B') : ZnAt w B' z oA uA tA eA := ⟨h.org.more hB, h.cur.more hB, h.touch.more hB, h.ends.more hB⟩
theorem PgAt.more7 {w : World} {B B' : Nat} {p : Pg} {fA mA cA : Option Addr} (h : PgAt w B p fA mA cA) (hB : B ≤ B') : PgAt w B' p fA mA cA := by
  obtain ⟨⟨cs, h1, h2⟩, h3, h4⟩ := h
  exact ⟨⟨cs, h1.more hB, fun i code hc => by obtain ⟨A, c, a, b⟩ := h2 i code hc; exact ⟨A, c, a, b.more hB⟩⟩, h3.more hB, h4.more hB⟩
theorem pg_of {N0 B : Nat} {W : World} {A0 A1 A2 : Option Addr} {c0 c1 c2 : Nat} {fl : List (List (Int × Int))} {ml : List (Int × Int)} {cl : List Int} {size : Int} (h : ProgAt N0 B W A0 A1 A2 c0 c1 c2 fl ml cl size) : PgAt W B ⟨fl, ml, cl, size⟩ A0 A1 A2 := by
  refine ⟨?_, ?_, ?_⟩
  · obtain ⟨vs, h1, h2⟩ := rowsR_at h.f.2.2
    refine ⟨vs, h1, fun i code hc => ?_⟩
    obtain ⟨v, h3, A, c, rfl, h4⟩ := h2 i code hc
    rw [insCells_flat] at h4
    exact ⟨A, c, h3, h4⟩
  · have := codeR_reads h.m.2.2
    rwa [insCells_flat] at this
  · have := h.c.2.2.reads (fun x => [.int .i64 x]) fun _ _ h => h.1
    show Reads W B 1 A2 cl.length (cl.map (Value.int .i64))
    rw [List.map_eq_flatMap]
    exact this
theorem reads_take_ {w : World} {B size n m : Nat} {A : Option Addr} {xs : List Value} (h : Reads w B size A n xs) (hm : m ≤ n) : Reads w B size A m (xs.take (m * size)) := by
  refine ⟨by rw [List.length_take, h.1]; exact Nat.min_eq_left (Nat.mul_le_mul_right _ hm), fun hp => ?_⟩
  obtain ⟨b, off, e, hb, hc⟩ := h.2 (by omega)
  refine ⟨b, off, e, hb, fun j u hu => hc j u ?_⟩
  rw [List.getElem?_take] at hu
  split at hu
  · exact hu
  · cases hu
def MmV (N0 B0 : Nat) (A : Option Addr) (n m ac : Nat) (q0 q1 q2 q3 : Int) (i : Nat) (v : Value) (W : World) : Prop :=
  match i with
  | 0 => v = .slice A n ac
  | 1 => v = .slice A m ac
  | 2 => ∃ B A0 A1 A2 c0 c1 c2 fl ml cl size, B ≤ W.heap.size ∧ v = .agg #[.slice A0 (List.length fl) c0, .slice A1 (List.length ml) c1, .slice A2 (List.length cl) c2, .int .i64 size] ∧ ProgAt N0 B W A0 A1 A2 c0 c1 c2 fl ml cl size ∧ fl.length ≤ 30 ∧ (∀ f ∈ fl, f.length ≤ 300) ∧ ml.length ≤ 300
  | 3 => v = .agg #[.int .i64 q0, .int .i64 q1, .int .i64 q2, .int .i64 q3]
  | 4 => ∃ B A0 A1 A2 c0 c1 c2 fl ml cl size, B ≤ W.heap.size ∧ v = .agg #[.slice A0 (List.length fl) c0, .slice A1 (List.length ml) c1, .slice A2 (List.length cl) c2, .int .i64 size] ∧ ProgAt N0 B W A0 A1 A2 c0 c1 c2 fl ml cl size ∧ fl.length ≤ 30 ∧ (∀ f ∈ fl, f.length ≤ 300) ∧ ml.length ≤ 300
  | 5 => ∃ g, v = .pointer (some ⟨g, 0, none⟩) ∧ B0 ≤ g ∧ Blk W g 28 #[.slice none 0 0, .slice none 0 0, .slice none 0 0, .int .i64 0]
  | _ => True
theorem MmV.grow {N0 B0 : Nat} {A : Option Addr} {n m ac : Nat} {q0 q1 q2 q3 : Int} {i : Nat} {v : Value} {W W' : World} (h : MmV N0 B0 A n m ac q0 q1 q2 q3 i v W) (hg : Grow W W') : MmV N0 B0 A n m ac q0 q1 q2 q3 i v W' := by
  match i with
  | 0 | 1 | 3 => exact h
  | 2 => obtain ⟨B, A0, A1, A2, c0, c1, c2, fl, ml, cl, size, hB, e, h1, h2, h3, h4⟩ := h; exact ⟨B, A0, A1, A2, c0, c1, c2, fl, ml, cl, size, Nat.le_trans hB hg.size, e, h1.below (Grow.below hg (Nat.le_refl _)) hB, h2, h3, h4⟩
  | 4 => obtain ⟨B, A0, A1, A2, c0, c1, c2, fl, ml, cl, size, hB, e, h1, h2, h3, h4⟩ := h; exact ⟨B, A0, A1, A2, c0, c1, c2, fl, ml, cl, size, Nat.le_trans hB hg.size, e, h1.below (Grow.below hg (Nat.le_refl _)) hB, h2, h3, h4⟩
  | 5 => obtain ⟨g, e, h1, h2⟩ := h; exact ⟨g, e, h1, hg.blk h2 (fun x => x)⟩
  | i + 6 => trivial
def MmW (A0 A1 A3 E1 E2 E3 E4 : Option Addr) (nf c0 nm c1 nc c3 n1 g1 n2 g2 n3 g3 n4 g4 sb B : Nat) (size s0 _s1 : Int) (T : St) (i : Nat) (v : Value) (W : World) : Prop :=
  match i with
  | 0 => v = .agg #[.slice A0 nf c0, .slice A1 nm c1, .slice A3 nc c3, .int .i64 size]
  | 1 => v = .agg #[.slice E1 n1 g1, .slice E2 n2 g2, .slice E3 n3 g3, .slice E4 n4 g4]
  | 2 => v = .pointer (some ⟨sb, 0, none⟩)
  | 3 => v = .int .i64 s0
  | 4 => v = .int .i64 (s0 % 201)
  | 5 => ∃ og cu tq en cv st sk, v = .agg #[og, cu, tq, en, cv, st, sk, .int .i64 T.steps, .int .i64 T.peak, .int .i64 T.err] ∧ RanAt B T W og cu tq en cv st sk
  | 6 => ∃ g, v = .pointer (some ⟨g, 0, none⟩) ∧ B ≤ g ∧ Blk W g 43 #[.slice none 0 0, .slice none 0 0, .slice none 0 0, .slice none 0 0, .slice none 0 0, .slice none 0 0, .slice none 0 0, .int .i64 0, .int .i64 0, .int .i64 0]
  | _ => True
theorem MmW.grow {A0 A1 A3 E1 E2 E3 E4 : Option Addr} {nf c0 nm c1 nc c3 n1 g1 n2 g2 n3 g3 n4 g4 sb B : Nat} {size s0 s1 : Int} {T : St} {i : Nat} {v : Value} {W W' : World} (h : MmW A0 A1 A3 E1 E2 E3 E4 nf c0 nm c1 nc c3 n1 g1 n2 g2 n3 g3 n4 g4 sb B size s0 s1 T i v W) (hg : Grow W W') : MmW A0 A1 A3 E1 E2 E3 E4 nf c0 nm c1 nc c3 n1 g1 n2 g2 n3 g3 n4 g4 sb B size s0 s1 T i v W' := by
  match i with
  | 0 | 1 | 2 | 3 | 4 => exact h
  | 5 => obtain ⟨og, cu, tq, en, cv, st, sk, e, h1⟩ := h; exact ⟨og, cu, tq, en, cv, st, sk, e, h1.grow hg⟩
  | 6 => obtain ⟨g, e, h1, h2⟩ := h; exact ⟨g, e, h1, hg.blk h2 (fun x => x)⟩
  | i + 7 => trivial
def MmU (A0 A1 A3 E1 E2 E3 E4 : Option Addr) (nf c0 nm c1 nc c3 n1 g1 n2 g2 n3 g3 n4 g4 sb B : Nat) (size s0 s1 : Int) (T : St) (i : Nat) (v : Value) (W : World) : Prop :=
  match i with
  | 0 => v = .agg #[.slice A0 nf c0, .slice A1 nm c1, .slice A3 nc c3, .int .i64 size]
  | 1 => v = .agg #[.slice E1 n1 g1, .slice E2 n2 g2, .slice E3 n3 g3, .slice E4 n4 g4]
  | 2 => v = .pointer (some ⟨sb, 0, none⟩)
  | 3 => v = .int .i64 s0
  | 4 => v = .int .i64 (s0 % 201)
  | 5 => v = .pointer (some ⟨sb, 1, none⟩)
  | 6 => v = .int .i64 s1
  | 7 => v = .int .i64 (s1 % 201)
  | 8 => v = .int .i64 (s0 % 201 + s1 % 201)
  | 9 => ∃ og cu tq en cv st sk, v = .agg #[og, cu, tq, en, cv, st, sk, .int .i64 T.steps, .int .i64 T.peak, .int .i64 T.err] ∧ RanAt B T W og cu tq en cv st sk
  | 10 => ∃ g, v = .pointer (some ⟨g, 0, none⟩) ∧ B ≤ g ∧ Blk W g 43 #[.slice none 0 0, .slice none 0 0, .slice none 0 0, .slice none 0 0, .slice none 0 0, .slice none 0 0, .slice none 0 0, .int .i64 0, .int .i64 0, .int .i64 0]
  | _ => True
theorem MmU.grow {A0 A1 A3 E1 E2 E3 E4 : Option Addr} {nf c0 nm c1 nc c3 n1 g1 n2 g2 n3 g3 n4 g4 sb B : Nat} {size s0 s1 : Int} {T : St} {i : Nat} {v : Value} {W W' : World} (h : MmU A0 A1 A3 E1 E2 E3 E4 nf c0 nm c1 nc c3 n1 g1 n2 g2 n3 g3 n4 g4 sb B size s0 s1 T i v W) (hg : Grow W W') : MmU A0 A1 A3 E1 E2 E3 E4 nf c0 nm c1 nc c3 n1 g1 n2 g2 n3 g3 n4 g4 sb B size s0 s1 T i v W' := by
  match i with
  | 0 | 1 | 2 | 3 | 4 | 5 | 6 | 7 | 8 => exact h
  | 9 => obtain ⟨og, cu, tq, en, cv, st, sk, e, h1⟩ := h; exact ⟨og, cu, tq, en, cv, st, sk, e, h1.grow hg⟩
  | 10 => obtain ⟨g, e, h1, h2⟩ := h; exact ⟨g, e, h1, hg.blk h2 (fun x => x)⟩
  | i + 11 => trivial
set_option maxHeartbeats 2000000 in
set_option maxRecDepth 100000 in
theorem machineMore_walk (A : Option Addr) (ac : Nat) (xs : List Int) (q0 q1 q2 q3 s0 s1 : Int) (w : World) (h1 : xs.length ≤ ac) (h2 : ac ≤ maxLen) (hr : RowAt (Repr.int (N0 := w.heap.size)) 3 w w.heap.size A xs) (hq0 : I64 q0) (hq1 : I64 q1) (hq2 : I64 q2) (hq3 : I64 q3) :
    Calls Tryz.prog 5 #[.slice A xs.length ac, .agg #[.int .i64 q0, .int .i64 q1, .int .i64 q2, .int .i64 q3], .agg #[.int .i64 s0, .int .i64 s1]] w fun e w' => e = .returned (.bool true) ∧ Below w.heap.size w w' := by
  have hrd : Reads w w.heap.size 1 A xs.length (xs.map (Value.int .i64)) := by
    have := hr.reads (fun x => [.int .i64 x]) fun _ _ h => h.1
    rw [List.map_eq_flatMap]
    exact this
  have hxi : ∀ x ∈ xs, I64 x := by
    intro x hx
    obtain ⟨i, hi⟩ := List.getElem?_of_mem hx
    obtain ⟨_, _, _, _, _, hrel, _⟩ := hr.get hi
    exact hrel.2
  obtain ⟨m, hmn⟩ : ∃ m, m = min xs.length 600 := ⟨_, rfl⟩
  have hml : m ≤ xs.length ∧ m ≤ 600 := by omega
  have hr2 := reads_take_ hrd hml.1
  rw [Nat.mul_one, ← List.map_take] at hr2
  have hxi2 : ∀ x ∈ xs.take m, I64 x := fun x hx => hxi x (List.mem_of_mem_take hx)
  have hyl : (xs.take m).length = m := by rw [List.length_take]; omega
  have HR := Lib.hid hr2
  have HX := Lib.hid hxi2
  have HYL := Lib.hid hyl
  unfold maxLen at h2
  have hac : (ac : Int) ≤ 9223372036854775807 := by omega
  have hn : xs.length ≤ ac := h1
  have HMN := Lib.hid hmn
  clear hr hrd hr2 hxi hxi2 h2 hyl h1 hmn
  generalize hnx : xs.length = n at *
  generalize xs.take m = ys at *
  clear hnx
  go_enter Tryz.func5, Tryz.ntmps5
  go_wp2_with fail
  have hA0 : Blk ((w.alloc (.cells #[.int .i64 q0, .int .i64 q1, .int .i64 q2, .int .i64 q3] 23)).alloc (.cells #[.int .i64 s0, .int .i64 s1] 47)) w.heap.size 23 #[.int .i64 q0, .int .i64 q1, .int .i64 q2, .int .i64 q3] := (Blk.new _ _ _).alloc _
  have hS0 : Blk ((w.alloc (.cells #[.int .i64 q0, .int .i64 q1, .int .i64 q2, .int .i64 q3] 23)).alloc (.cells #[.int .i64 s0, .int .i64 s1] 47)) (w.heap.size + 1) 47 #[.int .i64 s0, .int .i64 s1] := Blk.new_at _ _ _ (by simp)
  have hG0 : Below w.heap.size w ((w.alloc (.cells #[.int .i64 q0, .int .i64 q1, .int .i64 q2, .int .i64 q3] 23)).alloc (.cells #[.int .i64 s0, .int .i64 s1] 47)) := ((Below.refl _ _).alloc (Nat.le_refl _) _).alloc (by simp) _
  generalize ((w.alloc (.cells #[.int .i64 q0, .int .i64 q1, .int .i64 q2, .int .i64 q3] 23)).alloc (.cells #[.int .i64 s0, .int .i64 s1] 47)) = X0 at *
  refine (awake_any X0).mono ?_
  rintro e' X ⟨rfl, hbl⟩
  have HQB := Lib.hid (hA0.below hbl hA0.lt)
  have HSB := Lib.hid (hS0.below hbl hS0.lt)
  have HB0 := Lib.hid (hG0.trans (hbl.mono hG0.size))
  clear hA0 hS0 hG0 hbl
  go_upto_region 2 with fail
  refine wp_region_conc (MmV w.heap.size X.heap.size A n m ac q0 q1 q2 q3) (fun W => Grow X W) Grow (by as_aux_lemma => kernel_rfl) (by as_aux_lemma => kernel_rfl) 6 rfl ?_ ?_ ?_ ?_
  · intro i v W W' hv hr
    exact hv.grow hr
  · exact (Fr.refl _ _).drew
  · intro j ev val W hj hG hev hd
    have _ec := hev.const
    have _ef := hev.func
    have HGG := Lib.hid hG
    have hzW := hG.size
    clear hG
    match j, hj with
    | 0, _ =>
      have _s0 : ev (.tmp 0) = .slice A n ac := hev.other 0 (by kernel_rfl)
      refine ⟨_, rfl, rfl, ?_⟩; unfold yields; go_simp
      exact ⟨rfl, HGG.out, Fr.refl _ _⟩
    | 1, _ =>
      have d0 := hd 0 (by kernel_rfl); have x0 := hev.dep 0 13 (by kernel_rfl) (by kernel_rfl); simp only [MmV] at d0
      rw [d0] at x0
      refine ⟨_, rfl, rfl, ?_⟩; unfold yields; go_simp
      refine (seed_any A n ac m W hn HMN.out hac).mono ?_
      rintro e w5 ⟨rfl, rfl⟩
      exact ⟨_, rfl, rfl, HGG.out, Fr.refl _ _⟩
    | 2, _ =>
      have d1 := hd 1 (by kernel_rfl); have x1 := hev.dep 1 14 (by kernel_rfl) (by kernel_rfl); simp only [MmV] at d1
      rw [d1] at x1
      refine ⟨_, rfl, rfl, ?_⟩; unfold yields; go_simp
      have hg1 := Grow.below HGG.out (Nat.le_refl _)
      have hbw := HB0.out.trans (hg1.mono HB0.out.size)
      refine (made18_any w.heap.size W A m ac ys hbw.size ((HR.out.below hbw (Nat.le_refl _)).more hbw.size) HX.out (by omega)).mono ?_
      rintro e w5 ⟨B0', B1', B2', k0, k1, k2, fl, ml, cl, size, rfl, hpr, hf, hfb, hm', hb5⟩
      have hg5 : Grow W w5 := Fr.of_below hb5 (fun k hk _ => hk)
      exact ⟨_, rfl, ⟨w5.heap.size, _, _, _, _, _, _, _, _, _, _, Nat.le_refl _, rfl, hpr, hf, hfb, hm'⟩, HGG.out.trans hg5, hg5⟩
    | 3, _ =>
      have _s4 : ev (.tmp 4) = .pointer (some ⟨w.heap.size, 0, none⟩) := hev.other 4 (by kernel_rfl)
      have hp := HGG.out.blk HQB.out (fun x => x)
      have y0 := hp.cell 0
      have y1 := hp.cell 1
      have y2 := hp.cell 2
      have y3 := hp.cell 3
      simp only [List.getElem?_toArray, List.getElem?_cons_zero, List.getElem?_cons_succ] at y0 y1 y2 y3
      have pl := hp.lt
      clear hp
      refine ⟨_, rfl, rfl, ?_⟩; unfold yields; go_simp
      exact ⟨rfl, HGG.out, Fr.refl _ _⟩
    | 4, _ =>
      have d2 := hd 2 (by kernel_rfl); have x2 := hev.dep 2 15 (by kernel_rfl) (by kernel_rfl); simp only [MmV] at d2
      have d3 := hd 3 (by kernel_rfl); have x3 := hev.dep 3 16 (by kernel_rfl) (by kernel_rfl); simp only [MmV] at d3
      rw [d3] at x3
      obtain ⟨B, A0, A1, A2, c0, c1, c2, fl, ml, cl, size, hB, hv, hpr, hf, hfb, hm'⟩ := d2
      rw [hv] at x2
      have HPR := Lib.hid hpr
      have HFB := Lib.hid hfb
      clear hv hpr hfb
      refine ⟨_, rfl, rfl, ?_⟩; unfold yields; go_simp
      have hbw := HB0.out.trans ((Grow.below HGG.out (Nat.le_refl _)).mono HB0.out.size)
      refine (spoilt_any w.heap.size W A0 A1 A2 c0 c1 c2 fl ml cl size q0 q1 q2 q3 hbw.size (HPR.out.more hB) hq0 hq1 hq2 hq3 hf HFB.out hm').mono ?_
      rintro e w5 ⟨B0', B1', B2', k0, k1, k2, fl', ml', cl', size', rfl, hpr, hf, hfb, hm', hb5⟩
      have hg5 : Grow W w5 := Fr.of_below hb5 (fun k hk _ => hk)
      exact ⟨_, rfl, ⟨w5.heap.size, _, _, _, _, _, _, _, _, _, _, Nat.le_refl _, rfl, hpr, hf, hfb, hm'⟩, HGG.out.trans hg5, hg5⟩
    | 5, _ =>
      refine ⟨_, rfl, rfl, ?_⟩; unfold yields; go_simp
      exact ⟨⟨_, rfl, hzW, Blk.new _ _ _⟩, HGG.out.alloc _, (Fr.refl _ _).alloc _⟩
    | i + 6, hi => exact absurd hi (by simp)
  intro val W hG hV
  have v4 := hV 4 (by simp)
  have v5 := hV 5 (by simp)
  simp only [MmV] at v4 v5
  obtain ⟨B, A0, A1, A3, c0, c1, c3, fl, ml, cl, size, hB, hv, hpr, hf, hfb, hm'⟩ := v4
  obtain ⟨pb, hv2, hpb0, hbk⟩ := v5
  have b0 := hbk.cell
  have b1 := hbk.frozen
  have b2 := hbk.lt
  have HPR := Lib.hid (hpr.more hB)
  have HG := Lib.hid hG
  have HBK := Lib.hid hbk
  have HFB := Lib.hid hfb
  clear hV hG hbk hpr hfb hB
  unfold wpOp
  change (if _ then _ else _)
  rw [if_pos (by kernel_rfl)]
  refine .inl ?_
  simp only [fillA, dstOf, List.getElem?_toArray, List.getElem?_cons_zero, List.getElem?_cons_succ, Option.bind_some]
  go_simp
  have hge : w.heap.size ≤ pb := Nat.le_trans HB0.out.size hpb0
  have hbW : Below w.heap.size w W := HB0.out.trans ((Grow.below HG.out (Nat.le_refl _)).mono HB0.out.size)
  have HP1 : Hid (Blk ((((W.setCell ⟨pb, 0, none⟩ (.slice A0 fl.length c0)).setCell ⟨pb, 1, none⟩ (.slice A1 ml.length c1)).setCell ⟨pb, 2, none⟩ (.slice A3 cl.length c3)).setCell ⟨pb, 3, none⟩ (.int .i64 size)) pb 28 #[.slice A0 fl.length c0, .slice A1 ml.length c1, .slice A3 cl.length c3, .int .i64 size]) := Lib.hid (by simpa using (((HBK.out.set_ 0 (.slice A0 fl.length c0)).set_ 1 (.slice A1 ml.length c1)).set_ 2 (.slice A3 cl.length c3)).set_ 3 (.int .i64 size))
  have HPR1 : Hid (ProgAt w.heap.size ((((W.setCell ⟨pb, 0, none⟩ (.slice A0 fl.length c0)).setCell ⟨pb, 1, none⟩ (.slice A1 ml.length c1)).setCell ⟨pb, 2, none⟩ (.slice A3 cl.length c3)).setCell ⟨pb, 3, none⟩ (.int .i64 size)).heap.size ((((W.setCell ⟨pb, 0, none⟩ (.slice A0 fl.length c0)).setCell ⟨pb, 1, none⟩ (.slice A1 ml.length c1)).setCell ⟨pb, 2, none⟩ (.slice A3 cl.length c3)).setCell ⟨pb, 3, none⟩ (.int .i64 size)) A0 A1 A3 c0 c1 c3 fl ml cl size) := Lib.hid (by
    simp only [size_setCell]
    exact (((HPR.out.setCell HBK.out hge 0 _).setCell (HBK.out.set_ 0 _) hge 1 _).setCell ((HBK.out.set_ 0 _).set_ 1 _) hge 2 _).setCell (((HBK.out.set_ 0 _).set_ 1 _).set_ 2 _) hge 3 _)
  have HB1 : Hid (Below w.heap.size w ((((W.setCell ⟨pb, 0, none⟩ (.slice A0 fl.length c0)).setCell ⟨pb, 1, none⟩ (.slice A1 ml.length c1)).setCell ⟨pb, 2, none⟩ (.slice A3 cl.length c3)).setCell ⟨pb, 3, none⟩ (.int .i64 size))) := Lib.hid ((((hbW.setCell (p := ⟨pb, 0, none⟩) hge _).setCell (p := ⟨pb, 1, none⟩) hge _).setCell (p := ⟨pb, 2, none⟩) hge _).setCell (p := ⟨pb, 3, none⟩) hge _)
  have hsW := HG.out.blk HSB.out (fun x => x)
  have hne : w.heap.size + 1 ≠ pb := by have := HSB.out.lt; omega
  have HS1 : Hid (Blk ((((W.setCell ⟨pb, 0, none⟩ (.slice A0 fl.length c0)).setCell ⟨pb, 1, none⟩ (.slice A1 ml.length c1)).setCell ⟨pb, 2, none⟩ (.slice A3 cl.length c3)).setCell ⟨pb, 3, none⟩ (.int .i64 size)) (w.heap.size + 1) 47 #[.int .i64 s0, .int .i64 s1]) := Lib.hid ((((hsW.far (p := ⟨pb, 0, none⟩) hne _).far (p := ⟨pb, 1, none⟩) hne _).far (p := ⟨pb, 2, none⟩) hne _).far (p := ⟨pb, 3, none⟩) hne _)
  clear hbW hsW hne HSB HQB HG HBK HPR b0 b1 b2 hv hv2
  generalize hX1 : ((((W.setCell ⟨pb, 0, none⟩ (.slice A0 fl.length c0)).setCell ⟨pb, 1, none⟩ (.slice A1 ml.length c1)).setCell ⟨pb, 2, none⟩ (.slice A3 cl.length c3)).setCell ⟨pb, 3, none⟩ (.int .i64 size)) = X1 at *
  clear hX1
  have hPG : PgAt X1 X1.heap.size ⟨fl, ml, cl, size⟩ A0 A1 A3 := pg_of HPR1.out
  have HPG1 := Lib.hid hPG
  have HPO : Hid (PgOk ⟨fl, ml, cl, size⟩) := Lib.hid ⟨by simp only; omega, fun c hc => by have := HFB.out c hc; omega, by simp only; omega, by have := HPR1.out.k; simp only; omega⟩
  have hzq : ys.length = m := HYL.out
  have HP9 := Lib.hid (fun W h hB => points4_any A ac w.heap.size ys W h hB (by omega))
  rw [hzq] at HP9
  have HZO : Hid (ZnOk (zn4 ys (n4 ys))) := Lib.hid (zn4_ok ys _ (by unfold n4; omega))
  clear hzq hPG HPR1 HX HFB HYL
  generalize zn4 ys (n4 ys) = z at *
  go_wp2_with fail
  refine (seed_any A n ac m X1 hn HMN.out hac).mono ?_
  rintro e w5 ⟨rfl, rfl⟩
  go_wp2_with fail
  refine (HP9.out X1 (HR.out.below HB1.out (Nat.le_refl _)) HB1.out.size).mono ?_
  rintro e w6 ⟨og, cu, tq, en, rfl, ⟨o1, o2, o3, o4⟩, hg6⟩
  obtain ⟨E1, g1, rfl, _⟩ := owns_form o1
  obtain ⟨E2, g2, rfl, _⟩ := owns_form o2
  obtain ⟨E3, g3, rfl, _⟩ := owns_form o3
  obtain ⟨E4, g4, rfl, _⟩ := owns_form o4
  have HZA6 : Hid (ZnAt w6 w6.heap.size z E1 E2 E3 E4) := Lib.hid ⟨Reads.of_own o1, Reads.of_own o2, Reads.of_own o3, Reads.of_own o4⟩
  have hga : Grow X1 (w6.alloc (.cells #[.slice E1 z.org.length g1, .slice E2 z.cur.length g2, .slice E3 z.touch.length g3, .slice E4 z.ends.length g4] 33)) := Fr.alloc hg6 _
  have HPB : Hid (Blk (w6.alloc (.cells #[.slice E1 z.org.length g1, .slice E2 z.cur.length g2, .slice E3 z.touch.length g3, .slice E4 z.ends.length g4] 33)) pb 28 #[.slice A0 fl.length c0, .slice A1 ml.length c1, .slice A3 cl.length c3, .int .i64 size]) := Lib.hid (hga.blk HP1.out (fun x => x))
  have HSB : Hid (Blk (w6.alloc (.cells #[.slice E1 z.org.length g1, .slice E2 z.cur.length g2, .slice E3 z.touch.length g3, .slice E4 z.ends.length g4] 33)) (w.heap.size + 1) 47 #[.int .i64 s0, .int .i64 s1]) := Lib.hid (hga.blk HS1.out (fun x => x))
  have HZB : Hid (Blk (w6.alloc (.cells #[.slice E1 z.org.length g1, .slice E2 z.cur.length g2, .slice E3 z.touch.length g3, .slice E4 z.ends.length g4] 33)) w6.heap.size 33 #[.slice E1 z.org.length g1, .slice E2 z.cur.length g2, .slice E3 z.touch.length g3, .slice E4 z.ends.length g4]) := Lib.hid (Blk.new _ _ _)
  have HB2 : Hid (Below w.heap.size w (w6.alloc (.cells #[.slice E1 z.org.length g1, .slice E2 z.cur.length g2, .slice E3 z.touch.length g3, .slice E4 z.ends.length g4] 33))) := Lib.hid (HB1.out.trans ((Grow.below hga (Nat.le_refl _)).mono HB1.out.size))
  have HPG : Hid (PgAt (w6.alloc (.cells #[.slice E1 z.org.length g1, .slice E2 z.cur.length g2, .slice E3 z.touch.length g3, .slice E4 z.ends.length g4] 33)) (w6.alloc (.cells #[.slice E1 z.org.length g1, .slice E2 z.cur.length g2, .slice E3 z.touch.length g3, .slice E4 z.ends.length g4] 33)).heap.size ⟨fl, ml, cl, size⟩ A0 A1 A3) := Lib.hid ((HPG1.out.keep fun q hq => hga.cell hq (fun x => x)).more7 hga.size)
  have HZA : Hid (ZnAt (w6.alloc (.cells #[.slice E1 z.org.length g1, .slice E2 z.cur.length g2, .slice E3 z.touch.length g3, .slice E4 z.ends.length g4] 33)) (w6.alloc (.cells #[.slice E1 z.org.length g1, .slice E2 z.cur.length g2, .slice E3 z.touch.length g3, .slice E4 z.ends.length g4] 33)).heap.size z E1 E2 E3 E4) := Lib.hid ((HZA6.out.keep fun q hq => World.cell?_alloc_lt _ _ _ hq).more7 (by simp))
  clear o1 o2 o3 o4 hg6 hga HP1 HS1 HB1 HZA6 HPG1 HP9 HR HMN
  go_upto_region 4 with fail
  generalize hzb : w6.heap.size = zb at *
  generalize hY : w6.alloc (.cells #[.slice E1 z.org.length g1, .slice E2 z.cur.length g2, .slice E3 z.touch.length g3, .slice E4 z.ends.length g4] 33) = Y at *
  clear hY hzb
  have hsm := fun j => Mr.run_small j ⟨fl, ml, cl, size⟩ z HZO.out.cur HZO.out.ends HPO.out.cvt
  have HSM := Lib.hid hsm
  obtain ⟨Ta, hTa⟩ : ∃ Ta, Ta = Mc.run (s0 % 201).toNat (begin_ ⟨fl, ml, cl, size⟩ z) := ⟨_, rfl⟩
  have HTA := Lib.hid hTa
  clear hsm hTa
  refine wp_region_conc (MmW A0 A1 A3 E1 E2 E3 E4 fl.length c0 ml.length c1 cl.length c3 z.org.length g1 z.cur.length g2 z.touch.length g3 z.ends.length g4 (w.heap.size + 1) Y.heap.size size s0 s1 Ta) (fun W => Grow Y W) Grow (by as_aux_lemma => kernel_rfl) (by as_aux_lemma => kernel_rfl) 7 rfl ?_ ?_ ?_ ?_
  · intro i v W W' hv hr
    exact hv.grow hr
  · exact (Fr.refl _ _).drew
  · intro j ev val W hj hG hev hd
    have _ec := hev.const
    have _ef := hev.func
    have HGG := Lib.hid hG
    have hzW := hG.size
    clear hG
    match j, hj with
    | 0, _ =>
      have _s8 : ev (.tmp 8) = .pointer (some ⟨pb, 0, none⟩) := hev.other 8 (by kernel_rfl)
      have hp := HGG.out.blk HPB.out (fun x => x)
      have y0 := hp.cell 0
      have y1 := hp.cell 1
      have y2 := hp.cell 2
      have y3 := hp.cell 3
      simp only [List.getElem?_toArray, List.getElem?_cons_zero, List.getElem?_cons_succ] at y0 y1 y2 y3
      have yl := hp.lt
      clear hp
      refine ⟨_, rfl, rfl, ?_⟩; unfold yields; go_simp
      exact ⟨rfl, HGG.out, Fr.refl _ _⟩
    | 1, _ =>
      have _s9 : ev (.tmp 9) = .pointer (some ⟨zb, 0, none⟩) := hev.other 9 (by kernel_rfl)
      have hp := HGG.out.blk HZB.out (fun x => x)
      have y0 := hp.cell 0
      have y1 := hp.cell 1
      have y2 := hp.cell 2
      have y3 := hp.cell 3
      simp only [List.getElem?_toArray, List.getElem?_cons_zero, List.getElem?_cons_succ] at y0 y1 y2 y3
      have yl := hp.lt
      clear hp
      refine ⟨_, rfl, rfl, ?_⟩; unfold yields; go_simp
      exact ⟨rfl, HGG.out, Fr.refl _ _⟩
    | 2, _ =>
      have _s5 : ev (.tmp 5) = .pointer (some ⟨w.heap.size + 1, 0, none⟩) := hev.other 5 (by kernel_rfl)
      have hp := HGG.out.blk HSB.out (fun x => x)
      have y0 := hp.cell 0
      have y1 := hp.cell 1
      simp only [List.getElem?_toArray, List.getElem?_cons_zero, List.getElem?_cons_succ] at y0 y1
      have yl := hp.lt
      clear hp
      refine ⟨_, rfl, rfl, ?_⟩; unfold yields; go_simp
      exact ⟨rfl, HGG.out, Fr.refl _ _⟩
    | 3, _ =>
      have d2 := hd 2 (by kernel_rfl); have x2 := hev.dep 2 23 (by kernel_rfl) (by kernel_rfl); simp only [MmW] at d2
      rw [d2] at x2
      have hp := HGG.out.blk HSB.out (fun x => x)
      have y0 := hp.cell 0
      have y1 := hp.cell 1
      simp only [List.getElem?_toArray, List.getElem?_cons_zero, List.getElem?_cons_succ] at y0 y1
      have yl := hp.lt
      clear hp
      refine ⟨_, rfl, rfl, ?_⟩; unfold yields; go_simp
      exact ⟨rfl, HGG.out, Fr.refl _ _⟩
    | 4, _ =>
      have d3 := hd 3 (by kernel_rfl); have x3 := hev.dep 3 24 (by kernel_rfl) (by kernel_rfl); simp only [MmW] at d3
      rw [d3] at x3
      refine ⟨_, rfl, rfl, ?_⟩; unfold yields; go_simp
      refine (lrest_any s0 201 W (by decide) (by decide)).mono ?_
      rintro e w5 ⟨rfl, rfl⟩
      exact ⟨_, rfl, rfl, HGG.out, Fr.refl _ _⟩
    | 5, _ =>
      have d0 := hd 0 (by kernel_rfl); have x0 := hev.dep 0 21 (by kernel_rfl) (by kernel_rfl); simp only [MmW] at d0
      rw [d0] at x0
      have d1 := hd 1 (by kernel_rfl); have x1 := hev.dep 1 22 (by kernel_rfl) (by kernel_rfl); simp only [MmW] at d1
      rw [d1] at x1
      have d4 := hd 4 (by kernel_rfl); have x4 := hev.dep 4 25 (by kernel_rfl) (by kernel_rfl); simp only [MmW] at d4
      rw [d4] at x4
      refine ⟨_, rfl, rfl, ?_⟩; unfold yields; go_simp
      refine (run_any W ⟨fl, ml, cl, size⟩ z HPO.out HZO.out A0 A1 A3 E1 E3 E4 E2 c0 c1 c3 g1 g3 g4 g2 ((HPG.out.keep (W' := W) fun q hq => HGG.out.cell hq (fun x => x)).more7 hzW) ((HZA.out.keep (W' := W) fun q hq => HGG.out.cell hq (fun x => x)).more7 hzW) (s0 % 201) (by omega)).mono ?_
      rintro e w8 ⟨og, cu, tq, en, cv, st, sk, rfl, hra, hbl⟩
      rw [← HTA.out] at hra ⊢
      exact ⟨_, rfl, ⟨_, _, _, _, _, _, _, rfl, hra.mono hzW⟩, HGG.out.trans (Fr.of_below hbl (fun k hk _ => hk)), Fr.of_below hbl (fun k hk _ => hk)⟩
    | 6, _ =>
      refine ⟨_, rfl, rfl, ?_⟩; unfold yields; go_simp
      exact ⟨⟨_, rfl, hzW, Blk.new _ _ _⟩, HGG.out.alloc _, (Fr.refl _ _).alloc _⟩
    | i + 7, hi => exact absurd hi (by simp)
  intro val W hG hV
  have v9 := hV 5 (by simp)
  have v10 := hV 6 (by simp)
  simp only [MmW] at v9 v10
  obtain ⟨og, cu, tq, en, cv, st, sk, hv, hra⟩ := v9
  obtain ⟨ra, hv2, hrba, hbk⟩ := v10
  have hbX : Below Y.heap.size Y W := Grow.below hG (Nat.le_refl _)
  obtain ⟨F1, f1, rfl, _⟩ := owns_form hra.og
  obtain ⟨F2, f2, rfl, _⟩ := owns_form hra.cu
  obtain ⟨F3, f3, rfl, _⟩ := owns_form hra.to
  obtain ⟨F4, f4, rfl, _⟩ := owns_form hra.en
  obtain ⟨F5, f5, rfl, _⟩ := owns_form hra.cv
  obtain ⟨F6, f6, rfl, _⟩ := owns_form hra.st
  obtain ⟨F7, f7, rfl, _⟩ := owns_form hra.sk
  have hst := stores_ran hbk hra hrba hbX (.slice F1 Ta.org.length f1) (.slice F2 Ta.cur.length f2) (.slice F3 Ta.touch.length f3) (.slice F4 Ta.ends.length f4) (.slice F5 Ta.cvt.length f5) (.slice F6 32 f6) (.slice F7 Ta.stack.length f7) (.int .i64 Ta.steps) (.int .i64 Ta.peak) (.int .i64 Ta.err)
  have HST := Lib.hid hst
  have b0 := hbk.cell
  have b1 := hbk.frozen
  have b2 := hbk.lt
  clear hV hst hbk hra hbX hG
  unfold wpOp
  change (if _ then _ else _)
  rw [if_pos (by kernel_rfl)]
  refine .inl ?_
  simp only [fillA, dstOf, List.getElem?_toArray, List.getElem?_cons_zero, List.getElem?_cons_succ, Option.bind_some]
  rw [hv, hv2]
  go_simp
  unfold set10 at HST
  generalize hXn : ((((((((((W.setCell ⟨ra, 0, none⟩ (.slice F1 Ta.org.length f1)).setCell ⟨ra, 1, none⟩ (.slice F2 Ta.cur.length f2)).setCell ⟨ra, 2, none⟩ (.slice F3 Ta.touch.length f3)).setCell ⟨ra, 3, none⟩ (.slice F4 Ta.ends.length f4)).setCell ⟨ra, 4, none⟩ (.slice F5 Ta.cvt.length f5)).setCell ⟨ra, 5, none⟩ (.slice F6 32 f6)).setCell ⟨ra, 6, none⟩ (.slice F7 Ta.stack.length f7)).setCell ⟨ra, 7, none⟩ (.int .i64 Ta.steps)).setCell ⟨ra, 8, none⟩ (.int .i64 Ta.peak)).setCell ⟨ra, 9, none⟩ (.int .i64 Ta.err)) = Xa at HST ⊢
  clear hXn b0 b1 b2 hv hv2
  have hbRa := HST.out.2.2
  simp only [List.setIfInBounds_toArray, List.set_cons_zero, List.set_cons_succ] at hbRa
  have HRa := Lib.hid hbRa
  have HRTa := Lib.hid HST.out.1
  have HSBa := Lib.hid HST.out.2.1
  clear HST hbRa
  have hlY := HSBa.out.size
  have HPB1 := Lib.hid (HPB.out.below HSBa.out HPB.out.lt)
  have HZB1 := Lib.hid (HZB.out.below HSBa.out HZB.out.lt)
  have HSB1 := Lib.hid (HSB.out.below HSBa.out HSB.out.lt)
  have HPG1 := Lib.hid ((HPG.out.keep fun q hq => HSBa.out.cell hq).more7 hlY)
  have HZA1 := Lib.hid ((HZA.out.keep fun q hq => HSBa.out.cell hq).more7 hlY)
  have HB3 := Lib.hid (HB2.out.trans (HSBa.out.mono HB2.out.size))
  clear HPB HZB HSB HPG HZA HB2 HSBa
  have HPB := HPB1
  have HZB := HZB1
  have HSB := HSB1
  have HPG := HPG1
  have HZA := HZA1
  clear HPB1 HZB1 HSB1 HPG1 HZA1
  go_upto_region 5 with fail
  obtain ⟨Tb, hTb⟩ : ∃ Tb, Tb = Mc.run (s0 % 201 + s1 % 201).toNat (begin_ ⟨fl, ml, cl, size⟩ z) := ⟨_, rfl⟩
  have HTB := Lib.hid hTb
  clear hTb
  refine wp_region_conc (MmU A0 A1 A3 E1 E2 E3 E4 fl.length c0 ml.length c1 cl.length c3 z.org.length g1 z.cur.length g2 z.touch.length g3 z.ends.length g4 (w.heap.size + 1) Xa.heap.size size s0 s1 Tb) (fun W => Grow Xa W) Grow (by as_aux_lemma => kernel_rfl) (by as_aux_lemma => kernel_rfl) 11 rfl ?_ ?_ ?_ ?_
  · intro i v W W' hv hr
    exact hv.grow hr
  · exact (Fr.refl _ _).drew
  · intro j ev val W hj hG hev hd
    have _ec := hev.const
    have _ef := hev.func
    have HGG := Lib.hid hG
    have hzW := hG.size
    clear hG
    match j, hj with
    | 0, _ =>
      have _s8 : ev (.tmp 8) = .pointer (some ⟨pb, 0, none⟩) := hev.other 8 (by kernel_rfl)
      have hp := HGG.out.blk HPB.out (fun x => x)
      have y0 := hp.cell 0
      have y1 := hp.cell 1
      have y2 := hp.cell 2
      have y3 := hp.cell 3
      simp only [List.getElem?_toArray, List.getElem?_cons_zero, List.getElem?_cons_succ] at y0 y1 y2 y3
      have yl := hp.lt
      clear hp
      refine ⟨_, rfl, rfl, ?_⟩; unfold yields; go_simp
      exact ⟨rfl, HGG.out, Fr.refl _ _⟩
    | 1, _ =>
      have _s9 : ev (.tmp 9) = .pointer (some ⟨zb, 0, none⟩) := hev.other 9 (by kernel_rfl)
      have hp := HGG.out.blk HZB.out (fun x => x)
      have y0 := hp.cell 0
      have y1 := hp.cell 1
      have y2 := hp.cell 2
      have y3 := hp.cell 3
      simp only [List.getElem?_toArray, List.getElem?_cons_zero, List.getElem?_cons_succ] at y0 y1 y2 y3
      have yl := hp.lt
      clear hp
      refine ⟨_, rfl, rfl, ?_⟩; unfold yields; go_simp
      exact ⟨rfl, HGG.out, Fr.refl _ _⟩
    | 2, _ =>
      have _s5 : ev (.tmp 5) = .pointer (some ⟨w.heap.size + 1, 0, none⟩) := hev.other 5 (by kernel_rfl)
      have hp := HGG.out.blk HSB.out (fun x => x)
      have y0 := hp.cell 0
      have y1 := hp.cell 1
      simp only [List.getElem?_toArray, List.getElem?_cons_zero, List.getElem?_cons_succ] at y0 y1
      have yl := hp.lt
      clear hp
      refine ⟨_, rfl, rfl, ?_⟩; unfold yields; go_simp
      exact ⟨rfl, HGG.out, Fr.refl _ _⟩
    | 3, _ =>
      have d2 := hd 2 (by kernel_rfl); have x2 := hev.dep 2 29 (by kernel_rfl) (by kernel_rfl); simp only [MmU] at d2
      rw [d2] at x2
      have hp := HGG.out.blk HSB.out (fun x => x)
      have y0 := hp.cell 0
      have y1 := hp.cell 1
      simp only [List.getElem?_toArray, List.getElem?_cons_zero, List.getElem?_cons_succ] at y0 y1
      have yl := hp.lt
      clear hp
      refine ⟨_, rfl, rfl, ?_⟩; unfold yields; go_simp
      exact ⟨rfl, HGG.out, Fr.refl _ _⟩
    | 4, _ =>
      have d3 := hd 3 (by kernel_rfl); have x3 := hev.dep 3 30 (by kernel_rfl) (by kernel_rfl); simp only [MmU] at d3
      rw [d3] at x3
      refine ⟨_, rfl, rfl, ?_⟩; unfold yields; go_simp
      refine (lrest_any s0 201 W (by decide) (by decide)).mono ?_
      rintro e w5 ⟨rfl, rfl⟩
      exact ⟨_, rfl, rfl, HGG.out, Fr.refl _ _⟩
    | 5, _ =>
      have _s5 : ev (.tmp 5) = .pointer (some ⟨w.heap.size + 1, 0, none⟩) := hev.other 5 (by kernel_rfl)
      have hp := HGG.out.blk HSB.out (fun x => x)
      have y0 := hp.cell 0
      have y1 := hp.cell 1
      simp only [List.getElem?_toArray, List.getElem?_cons_zero, List.getElem?_cons_succ] at y0 y1
      have yl := hp.lt
      clear hp
      refine ⟨_, rfl, rfl, ?_⟩; unfold yields; go_simp
      exact ⟨rfl, HGG.out, Fr.refl _ _⟩
    | 6, _ =>
      have d5 := hd 5 (by kernel_rfl); have x5 := hev.dep 5 32 (by kernel_rfl) (by kernel_rfl); simp only [MmU] at d5
      rw [d5] at x5
      have hp := HGG.out.blk HSB.out (fun x => x)
      have y0 := hp.cell 0
      have y1 := hp.cell 1
      simp only [List.getElem?_toArray, List.getElem?_cons_zero, List.getElem?_cons_succ] at y0 y1
      have yl := hp.lt
      clear hp
      refine ⟨_, rfl, rfl, ?_⟩; unfold yields; go_simp
      exact ⟨rfl, HGG.out, Fr.refl _ _⟩
    | 7, _ =>
      have d6 := hd 6 (by kernel_rfl); have x6 := hev.dep 6 33 (by kernel_rfl) (by kernel_rfl); simp only [MmU] at d6
      rw [d6] at x6
      refine ⟨_, rfl, rfl, ?_⟩; unfold yields; go_simp
      refine (lrest_any s1 201 W (by decide) (by decide)).mono ?_
      rintro e w5 ⟨rfl, rfl⟩
      exact ⟨_, rfl, rfl, HGG.out, Fr.refl _ _⟩
    | 8, _ =>
      have d4 := hd 4 (by kernel_rfl); have x4 := hev.dep 4 31 (by kernel_rfl) (by kernel_rfl); simp only [MmU] at d4
      rw [d4] at x4
      have d7 := hd 7 (by kernel_rfl); have x7 := hev.dep 7 34 (by kernel_rfl) (by kernel_rfl); simp only [MmU] at d7
      rw [d7] at x7
      have hw : IntKind.i64.wrap (s0 % 201 + s1 % 201) = s0 % 201 + s1 % 201 := by rw [IntKind.wrap_i64]; omega
      refine ⟨_, rfl, rfl, ?_⟩; unfold yields; go_simp
      exact ⟨by first | exact hw | rfl, HGG.out, Fr.refl _ _⟩
    | 9, _ =>
      have d0 := hd 0 (by kernel_rfl); have x0 := hev.dep 0 27 (by kernel_rfl) (by kernel_rfl); simp only [MmU] at d0
      rw [d0] at x0
      have d1 := hd 1 (by kernel_rfl); have x1 := hev.dep 1 28 (by kernel_rfl) (by kernel_rfl); simp only [MmU] at d1
      rw [d1] at x1
      have d8 := hd 8 (by kernel_rfl); have x8 := hev.dep 8 35 (by kernel_rfl) (by kernel_rfl); simp only [MmU] at d8
      rw [d8] at x8
      refine ⟨_, rfl, rfl, ?_⟩; unfold yields; go_simp
      refine (run_any W ⟨fl, ml, cl, size⟩ z HPO.out HZO.out A0 A1 A3 E1 E3 E4 E2 c0 c1 c3 g1 g3 g4 g2 ((HPG.out.keep (W' := W) fun q hq => HGG.out.cell hq (fun x => x)).more7 hzW) ((HZA.out.keep (W' := W) fun q hq => HGG.out.cell hq (fun x => x)).more7 hzW) (s0 % 201 + s1 % 201) (by omega)).mono ?_
      rintro e w8 ⟨og, cu, tq, en, cv, st, sk, rfl, hra, hbl⟩
      rw [← HTB.out] at hra ⊢
      exact ⟨_, rfl, ⟨_, _, _, _, _, _, _, rfl, hra.mono hzW⟩, HGG.out.trans (Fr.of_below hbl (fun k hk _ => hk)), Fr.of_below hbl (fun k hk _ => hk)⟩
    | 10, _ =>
      refine ⟨_, rfl, rfl, ?_⟩; unfold yields; go_simp
      exact ⟨⟨_, rfl, hzW, Blk.new _ _ _⟩, HGG.out.alloc _, (Fr.refl _ _).alloc _⟩
    | i + 11, hi => exact absurd hi (by simp)
  intro val W hG hV
  have v9 := hV 9 (by simp)
  have v10 := hV 10 (by simp)
  simp only [MmU] at v9 v10
  obtain ⟨og, cu, tq, en, cv, st, sk, hv, hra⟩ := v9
  obtain ⟨rb, hv2, hrbb, hbk⟩ := v10
  have hbX : Below Xa.heap.size Xa W := Grow.below hG (Nat.le_refl _)
  obtain ⟨L1, l1, rfl, _⟩ := owns_form hra.og
  obtain ⟨L2, l2, rfl, _⟩ := owns_form hra.cu
  obtain ⟨L3, l3, rfl, _⟩ := owns_form hra.to
  obtain ⟨L4, l4, rfl, _⟩ := owns_form hra.en
  obtain ⟨L5, l5, rfl, _⟩ := owns_form hra.cv
  obtain ⟨L6, l6, rfl, _⟩ := owns_form hra.st
  obtain ⟨L7, l7, rfl, _⟩ := owns_form hra.sk
  have hst := stores_ran hbk hra hrbb hbX (.slice L1 Tb.org.length l1) (.slice L2 Tb.cur.length l2) (.slice L3 Tb.touch.length l3) (.slice L4 Tb.ends.length l4) (.slice L5 Tb.cvt.length l5) (.slice L6 32 l6) (.slice L7 Tb.stack.length l7) (.int .i64 Tb.steps) (.int .i64 Tb.peak) (.int .i64 Tb.err)
  have HST := Lib.hid hst
  have b0 := hbk.cell
  have b1 := hbk.frozen
  have b2 := hbk.lt
  clear hV hst hbk hra hbX hG
  unfold wpOp
  change (if _ then _ else _)
  rw [if_pos (by kernel_rfl)]
  refine .inl ?_
  simp only [fillA, dstOf, List.getElem?_toArray, List.getElem?_cons_zero, List.getElem?_cons_succ, Option.bind_some]
  rw [hv, hv2]
  go_simp
  unfold set10 at HST
  generalize hXn : ((((((((((W.setCell ⟨rb, 0, none⟩ (.slice L1 Tb.org.length l1)).setCell ⟨rb, 1, none⟩ (.slice L2 Tb.cur.length l2)).setCell ⟨rb, 2, none⟩ (.slice L3 Tb.touch.length l3)).setCell ⟨rb, 3, none⟩ (.slice L4 Tb.ends.length l4)).setCell ⟨rb, 4, none⟩ (.slice L5 Tb.cvt.length l5)).setCell ⟨rb, 5, none⟩ (.slice L6 32 l6)).setCell ⟨rb, 6, none⟩ (.slice L7 Tb.stack.length l7)).setCell ⟨rb, 7, none⟩ (.int .i64 Tb.steps)).setCell ⟨rb, 8, none⟩ (.int .i64 Tb.peak)).setCell ⟨rb, 9, none⟩ (.int .i64 Tb.err)) = Xb at HST ⊢
  clear hXn b0 b1 b2 hv hv2
  have hbRb := HST.out.2.2
  simp only [List.setIfInBounds_toArray, List.set_cons_zero, List.set_cons_succ] at hbRb
  have HRb := Lib.hid hbRb
  have HRTb := Lib.hid HST.out.1
  have HSBb := Lib.hid HST.out.2.1
  clear HST hbRb
  have HRa2 := Lib.hid (HRa.out.below HSBb.out HRa.out.lt)
  have HB4 := Lib.hid (HB3.out.trans (HSBb.out.mono HB3.out.size))
  have HSB2 := Lib.hid (HSB.out.below HSBb.out HSB.out.lt)
  have hlaw := Mr.run_more (s0 % 201).toNat (s1 % 201).toNat (Mr.begin_er ⟨fl, ml, cl, size⟩ z)
  rw [show (s0 % 201).toNat + (s1 % 201).toNat = (s0 % 201 + s1 % 201).toNat by omega, ← HTA.out, ← HTB.out] at hlaw
  have hsm := HSM.out (s0 % 201).toNat
  rw [← HTA.out] at hsm
  have HSMA := Lib.hid hsm
  clear HPB HZB HSB HPG HZA HB3 HTA HTB HSM HPO HZO HRa hsm
  by_cases hz : Ta.err = 53
  · --PART3
    obtain ⟨e1, e2, e3⟩ := hlaw.1 hz
    have e1' : (Ta.steps : Int) = s0 % 201 := by rw [e1]; show ((0 + (s0 % 201).toNat : Nat) : Int) = _; omega
    have e2' : s0 % 201 ≤ (Tb.steps : Int) := by omega
    have e3' : (Ta.peak : Int) ≤ (Tb.peak : Int) := by omega
    have a7 := HRa2.out.cell 7
    have a8 := HRa2.out.cell 8
    have a9 := HRa2.out.cell 9
    have b7 := HRb.out.cell 7
    have b8 := HRb.out.cell 8
    have c0 := HSB2.out.cell 0
    simp only [List.getElem?_toArray, List.getElem?_cons_zero, List.getElem?_cons_succ] at a7 a8 a9 b7 b8 c0
    rw [e1'] at a7
    rw [hz] at a9
    have al := HRa2.out.lt
    have bl := HRb.out.lt
    have cl' := HSB2.out.lt
    clear hlaw e1 e2 e3 e1' hz HRa2 HRb HRTa HRTb HSB2 HSMA HSBb
    generalize (Tb.steps : Int) = bs at *
    generalize (Tb.peak : Int) = bp at *
    generalize (Ta.peak : Int) = ap at *
    go_upto_region 7 with fail
    have hS : (fun w' : World => w'.cell? ⟨rb, 7, none⟩ = some (.int .i64 bs) ∧ w'.cell? ⟨ra, 7, none⟩ = some (.int .i64 (s0 % 201)) ∧ w'.cell? ⟨rb, 8, none⟩ = some (.int .i64 bp) ∧ w'.cell? ⟨ra, 8, none⟩ = some (.int .i64 ap) ∧ w'.cell? ⟨w.heap.size + 1, 0, none⟩ = some (.int .i64 s0)) Xb.drew := ⟨b7, a7, b8, a8, c0⟩
    refine wp_region_seqT (fun i => !([20] : List Nat).contains i) (fun i => ([3, 5, 10, 12, 17, 19] : List Nat).contains i) (fun i => ([20] : List Nat).contains i) [0, 1, 2, 3, 4, 5, 6, 7, 8, 9, 10, 11, 12, 13, 14, 15, 16, 17, 18, 19, 20, 21, 22, 23] (fun w' : World => w'.cell? ⟨rb, 7, none⟩ = some (.int .i64 bs) ∧ w'.cell? ⟨ra, 7, none⟩ = some (.int .i64 (s0 % 201)) ∧ w'.cell? ⟨rb, 8, none⟩ = some (.int .i64 bp) ∧ w'.cell? ⟨ra, 8, none⟩ = some (.int .i64 ap) ∧ w'.cell? ⟨w.heap.size + 1, 0, none⟩ = some (.int .i64 s0)) (by as_aux_lemma => kernel_rfl) (by as_aux_lemma => kernel_rfl) (by as_aux_lemma => kernel_rfl) (by as_aux_lemma => kernel_rfl) ?_
    clear a7 a8 b7 b8 c0 a9
    refine wpSeq_pure (v := _) rfl rfl rfl (by kernel_rfl) (fun _ _ _ h => h) (fun wq => by first | (go_simp; done) | (go_simp; rfl)) ?_
    refine wpSeq_pure (v := _) rfl rfl rfl (by kernel_rfl) (fun _ _ _ h => h) (fun wq => by first | (go_simp; done) | (go_simp; rfl)) ?_
    refine wpSeq_pure (v := _) rfl rfl rfl (by kernel_rfl) (fun _ _ _ h => h) (fun wq => by first | (go_simp; done) | (go_simp; rfl)) ?_
    refine wpSeq_load (v := _) rfl rfl (by kernel_rfl) (fun _ _ _ h => h) hS rfl (fun wq hq => by (try have hq1 := hq.1); (try have hq2 := hq.2.1); (try have hq3 := hq.2.2.1); (try have hq4 := hq.2.2.2.1); (try have hq5 := hq.2.2.2.2.1); (try have hq6 := hq.2.2.2.2.2.1); (try have hq7 := hq.2.2.2.2.2.2); (try have hr2 := hq.2); (try have hr3 := hq.2.2); (try have hr4 := hq.2.2.2); (try have hr5 := hq.2.2.2.2); first | (go_simp; done) | (go_simp; rfl)) ?_
    refine wpSeq_pure (v := _) rfl rfl rfl (by kernel_rfl) (fun _ _ _ h => h) (fun wq => by first | (go_simp; done) | (go_simp; rfl)) ?_
    refine wpSeq_load (v := _) rfl rfl (by kernel_rfl) (fun _ _ _ h => h) hS rfl (fun wq hq => by (try have hq1 := hq.1); (try have hq2 := hq.2.1); (try have hq3 := hq.2.2.1); (try have hq4 := hq.2.2.2.1); (try have hq5 := hq.2.2.2.2.1); (try have hq6 := hq.2.2.2.2.2.1); (try have hq7 := hq.2.2.2.2.2.2); (try have hr2 := hq.2); (try have hr3 := hq.2.2); (try have hr4 := hq.2.2.2); (try have hr5 := hq.2.2.2.2); first | (go_simp; done) | (go_simp; rfl)) ?_
    refine wpSeq_pure (v := _) rfl rfl rfl (by kernel_rfl) (fun _ _ _ h => h) (fun wq => by first | (go_simp; done) | (go_simp; rfl)) ?_
    refine wpSeq_pure (v := _) rfl rfl rfl (by kernel_rfl) (fun _ _ _ h => h) (fun wq => by first | (go_simp; done) | (go_simp; rfl)) ?_
    refine wpSeq_pure (v := _) rfl rfl rfl (by kernel_rfl) (fun _ _ _ h => h) (fun wq => by first | (go_simp; done) | (go_simp; rfl)) ?_
    refine wpSeq_pure (v := _) rfl rfl rfl (by kernel_rfl) (fun _ _ _ h => h) (fun wq => by first | (go_simp; done) | (go_simp; rfl)) ?_
    refine wpSeq_load (v := _) rfl rfl (by kernel_rfl) (fun _ _ _ h => h) hS rfl (fun wq hq => by (try have hq1 := hq.1); (try have hq2 := hq.2.1); (try have hq3 := hq.2.2.1); (try have hq4 := hq.2.2.2.1); (try have hq5 := hq.2.2.2.2.1); (try have hq6 := hq.2.2.2.2.2.1); (try have hq7 := hq.2.2.2.2.2.2); (try have hr2 := hq.2); (try have hr3 := hq.2.2); (try have hr4 := hq.2.2.2); (try have hr5 := hq.2.2.2.2); first | (go_simp; done) | (go_simp; rfl)) ?_
    refine wpSeq_pure (v := _) rfl rfl rfl (by kernel_rfl) (fun _ _ _ h => h) (fun wq => by first | (go_simp; done) | (go_simp; rfl)) ?_
    refine wpSeq_load (v := _) rfl rfl (by kernel_rfl) (fun _ _ _ h => h) hS rfl (fun wq hq => by (try have hq1 := hq.1); (try have hq2 := hq.2.1); (try have hq3 := hq.2.2.1); (try have hq4 := hq.2.2.2.1); (try have hq5 := hq.2.2.2.2.1); (try have hq6 := hq.2.2.2.2.2.1); (try have hq7 := hq.2.2.2.2.2.2); (try have hr2 := hq.2); (try have hr3 := hq.2.2); (try have hr4 := hq.2.2.2); (try have hr5 := hq.2.2.2.2); first | (go_simp; done) | (go_simp; rfl)) ?_
    refine wpSeq_pure (v := _) rfl rfl rfl (by kernel_rfl) (fun _ _ _ h => h) (fun wq => by first | (go_simp; done) | (go_simp; rfl)) ?_
    refine wpSeq_pure (v := _) rfl rfl rfl (by kernel_rfl) (fun _ _ _ h => h) (fun wq => by first | (go_simp; done) | (go_simp; rfl)) ?_
    refine wpSeq_pure (v := _) rfl rfl rfl (by kernel_rfl) (fun _ _ _ h => h) (fun wq => by first | (go_simp; done) | (go_simp; rfl)) ?_
    refine wpSeq_pure (v := _) rfl rfl rfl (by kernel_rfl) (fun _ _ _ h => h) (fun wq => by first | (go_simp; done) | (go_simp; rfl)) ?_
    refine wpSeq_load (v := _) rfl rfl (by kernel_rfl) (fun _ _ _ h => h) hS rfl (fun wq hq => by (try have hq1 := hq.1); (try have hq2 := hq.2.1); (try have hq3 := hq.2.2.1); (try have hq4 := hq.2.2.2.1); (try have hq5 := hq.2.2.2.2.1); (try have hq6 := hq.2.2.2.2.2.1); (try have hq7 := hq.2.2.2.2.2.2); (try have hr2 := hq.2); (try have hr3 := hq.2.2); (try have hr4 := hq.2.2.2); (try have hr5 := hq.2.2.2.2); first | (go_simp; done) | (go_simp; rfl)) ?_
    refine wpSeq_pure (v := _) rfl rfl rfl (by kernel_rfl) (fun _ _ _ h => h) (fun wq => by first | (go_simp; done) | (go_simp; rfl)) ?_
    go_simp
    refine wpSeq_load (v := _) rfl rfl (by kernel_rfl) (fun _ _ _ h => h) hS rfl (fun wq hq => by (try have hq1 := hq.1); (try have hq2 := hq.2.1); (try have hq3 := hq.2.2.1); (try have hq4 := hq.2.2.2.1); (try have hq5 := hq.2.2.2.2.1); (try have hq6 := hq.2.2.2.2.2.1); (try have hq7 := hq.2.2.2.2.2.2); (try have hr2 := hq.2); (try have hr3 := hq.2.2); (try have hr4 := hq.2.2.2); (try have hr5 := hq.2.2.2.2); first | (go_simp; done) | (go_simp; rfl)) ?_
    refine wpSeq_heavy rfl rfl (fun K hK => ?_); go_simp
    refine (lrest_any s0 201 _ (by decide) (by decide)).mono ?_
    rintro e w9 ⟨rfl, rfl⟩
    dsimp only
    refine hK _ _ (fun _ => hS) ?_; clear hK K
    refine wpSeq_pure (v := _) rfl rfl rfl (by kernel_rfl) (fun _ _ _ h => h) (fun wq => by first | (go_simp; done) | (go_simp; rfl)) ?_
    refine wpSeq_pure (v := _) rfl rfl rfl (by kernel_rfl) (fun _ _ _ h => h) (fun wq => by first | (go_simp; done) | (go_simp; rfl)) ?_
    refine wpSeq_pure (v := _) rfl rfl rfl (by kernel_rfl) (fun _ _ _ h => h) (fun wq => by first | (go_simp; done) | (go_simp; rfl)) ?_
    refine wpSeq_end ?_
    go_wp2_with fail
    go_ret
    exact ⟨rfl, HB4.out.drew⟩
  · have he := hlaw.2 hz
    have hzb : (Ta.err == 53) = false := by simpa using hz
    clear hlaw
    subst he
    have a0 := HRa2.out.cell 0
    have b0 := HRb.out.cell 0
    have a1 := HRa2.out.cell 1
    have b1 := HRb.out.cell 1
    have a2 := HRa2.out.cell 2
    have b2 := HRb.out.cell 2
    have a3 := HRa2.out.cell 3
    have b3 := HRb.out.cell 3
    have a4 := HRa2.out.cell 4
    have b4 := HRb.out.cell 4
    have a5 := HRa2.out.cell 5
    have b5 := HRb.out.cell 5
    have a6 := HRa2.out.cell 6
    have b6 := HRb.out.cell 6
    have a7 := HRa2.out.cell 7
    have b7 := HRb.out.cell 7
    have a8 := HRa2.out.cell 8
    have b8 := HRb.out.cell 8
    have a9 := HRa2.out.cell 9
    have b9 := HRb.out.cell 9
    simp only [List.getElem?_toArray, List.getElem?_cons_zero, List.getElem?_cons_succ] at a0 b0 a1 b1 a2 b2 a3 b3 a4 b4 a5 b5 a6 b6 a7 b7 a8 b8 a9 b9
    have al := HRa2.out.lt
    have bl := HRb.out.lt
    have HSAME := Lib.hid (rsame_ran Xb Xb.heap.size (Nat.le_refl _) Tb Tb ⟨rfl, rfl, rfl, rfl, rfl, rfl, rfl, rfl, rfl⟩ HSMA.out Tb.err F1 F2 F3 F4 F5 F6 F7 L1 L2 L3 L4 L5 L6 L7 f1 f2 f3 f4 f5 f6 f7 l1 l2 l3 l4 l5 l6 l7 HRTa.out HSBb.out.size (fun q hq => HSBb.out.cell hq) HRTb.out (Nat.le_refl _) (fun q hq => rfl))
    clear HRa2 HRb HRTa HRTb HSB2 HSMA HSBb
    go_wp2_with fail
    refine HSAME.out.mono ?_
    rintro e w9 ⟨rfl, hg9⟩
    have HE := Lib.hid (HB4.out.trans ((Grow.below hg9 (Nat.le_refl _)).mono HB4.out.size))
    clear HSAME hg9 a0 b0 a1 b1 a2 b2 a3 b3 a4 b4 a5 b5 a6 b6 a7 b7 a8 b8 a9 b9
    go_wp2_with fail
    go_ret
    exact ⟨rfl, HE.out⟩
end Go.Proofs.YthdmdgmchkhngaaGreat

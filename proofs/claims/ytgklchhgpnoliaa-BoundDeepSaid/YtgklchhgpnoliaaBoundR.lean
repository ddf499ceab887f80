/- BoundDeep's walk. -/
import Derived.Test.YtgklchhgpnoliaaBoundQ
import Derived.Test.YtgklchhgpnoliaaRep
import Derived.Test.YtgklchhgpnoliaaDeepLaw
namespace Go.Proofs.Ytgklchhgpnoliaa
open Go.RowKit
attribute [local go_sem] i64_mask16

def insR : Repr (Int × Int) := Repr.pair Repr.int Repr.int
def codeR : Repr (List (Int × Int)) := Repr.row 25 insR
theorem insR_mk (w : World) (B : Nat) (op a : Int) : insR.rel w B (op, a) [.int .i64 op, .int .i64 a] := ⟨[_], [_], rfl, rfl, rfl⟩
theorem insR_eq {w : World} {B : Nat} {x : Int × Int} {cs : List Value} (h : insR.rel w B x cs) : cs = [.int .i64 x.1, .int .i64 x.2] := by
  obtain ⟨_, _, rfl, rfl, rfl⟩ := h; rfl
theorem insCells_flat (l : List (Int × Int)) : insCells l = l.flatMap fun x => [.int .i64 x.1, .int .i64 x.2] := by
  induction l with
  | nil => rfl
  | cons x r ih => simp [insCells, ih]
theorem codeR_reads {w : World} {B : Nat} {A : Option Addr} {l : List (Int × Int)} (h : RowAt insR 25 w B A l) : Reads w B 2 A l.length (insCells l) := by
  rw [insCells_flat]; exact h.reads _ fun a cs h => insR_eq h
theorem rowsR_at {w : World} {B : Nat} {A : Option Addr} {ll : List (List (Int × Int))} (h : RowAt codeR 22 w B A ll) : RowsAt w B A ll := by
  obtain ⟨css, h1, h2, h3⟩ := h
  have key : ∀ (i : Nat) l cs, ll[i]? = some l → css[i]? = some cs → ∃ v, cs = [v] ∧ InsAt w B v l := by
    intro i l cs hl hc
    obtain ⟨A, c, rfl, hr⟩ := h2 i l cs hl hc
    exact ⟨_, rfl, A, c, rfl, codeR_reads hr⟩
  have hlen : ∀ cs ∈ css, cs.length = 1 := by
    intro cs hcs
    obtain ⟨i, hi⟩ := List.getElem?_of_mem hcs
    have hlt : i < css.length := (List.getElem?_eq_some_iff.1 hi).1
    obtain ⟨v, rfl, _⟩ := key i (ll[i]'(by omega)) cs (List.getElem?_eq_getElem (by omega)) hi
    rfl
  obtain ⟨f1, f2⟩ := flatten_get css hlen
  refine ⟨css.flatten, ⟨by omega, fun hn => ?_⟩, fun i l hl => ?_⟩
  · obtain ⟨b, off, xs, fz, e, hb, hh, hc⟩ := h3 hn
    refine ⟨b, off, e, hb, fun j u hu => ?_⟩
    have hj : j < css.length := by have := (List.getElem?_eq_some_iff.1 hu).1; omega
    have hcj : css[j]? = some (css[j]'hj) := List.getElem?_eq_getElem hj
    obtain ⟨v, hv, _⟩ := key j (ll[j]'(by omega)) _ (List.getElem?_eq_getElem (by omega)) hcj
    rw [hv] at hcj
    have h4 := f2 j 0 [v] v hcj rfl
    simp only [Nat.mul_one, Nat.add_zero] at h4
    rw [h4] at hu
    injection hu with hu
    subst hu
    rw [cell_of_row w b _ xs _ fz hh]
    have h5 := hc j 0 [v] v hcj rfl
    simpa [codeR, Repr.row] using h5
  · have hlt : i < css.length := by have := (List.getElem?_eq_some_iff.1 hl).1; omega
    obtain ⟨v, hv, hin⟩ := key i l _ hl (List.getElem?_eq_getElem hlt)
    refine ⟨v, ?_, hin⟩
    have h4 := f2 i 0 [v] v (by rw [List.getElem?_eq_getElem hlt, hv]) rfl
    simpa using h4

def DeepA (X : World) (base g0 F : Nat) (i : Value) (wr : World) : Prop :=
  ∃ (k : Nat) (A : Option Addr) (c : Nat), k ≤ F ∧ i = .int .i64 k ∧ Blk wr g0 22 #[.slice A k c] ∧ OwnAt insR 25 base wr (.slice A k c) (List.replicate k (34, 0)) ∧ Below base X wr
def DeepB (X : World) (base F N : Nat) (v s bd i : Value) (wr : World) : Prop :=
  ∃ (k : Nat) (A : Option Addr) (c : Nat) (s1 s2 : Int), k ≤ N ∧ i = .int .i64 ((k : Int) + 1) ∧ v = .slice A (k + 1) c ∧ Hid ((s1, s2) = Bd.deepSt F k) ∧ s = .int .i64 s1 ∧ bd = .int .i64 s2 ∧ OwnAt codeR 22 base wr v (Bd.deepLl k F) ∧ Below base X wr

set_option maxHeartbeats 1000000 in
set_option maxRecDepth 8000 in
theorem boundDeep_walk (n0 f0 : Int) (w : World) :
    Calls Try.prog 5 #[.int .i64 n0, .int .i64 f0] w fun e w' => e = .returned (.bool true) ∧ Below w.heap.size w w' := by
  obtain ⟨i0, hi, hz0, hz1, hz2⟩ := info_parts ins_info
  obtain ⟨i1, ji, jz0, jz1, jz2⟩ := info_parts rows_info
  go_enter Try.func5, Try.ntmps5
  go_wp2_with fail
  refine (shown_any _).mono ?_
  rintro e w1 ⟨rfl, hb1⟩
  obtain ⟨N, hN, hN20⟩ : ∃ N : Nat, 1 + n0 % 65536 % 20 = (N : Int) + 1 ∧ N < 20 := ⟨(n0 % 65536 % 20).toNat, by omega, by omega⟩
  obtain ⟨F, hF, hF10⟩ : ∃ F : Nat, f0 % 65536 % 10 = F ∧ F < 10 := ⟨(f0 % 65536 % 10).toNat, by omega, by omega⟩
  have hz := hb1.size
  have hFi : (F : Int) ≤ 9 := by omega
  go_wp2_with fail
  clear hN
  rw [hF]
  clear hF
  obtain ⟨X, hX⟩ : ∃ X, X = (w1.alloc (Obj.cells #[] 25)).alloc (Obj.cells #[Value.slice (some { block := w1.heap.size, off := 0 }) 0 0] 22) := ⟨_, rfl⟩
  have hXa : Blk X w1.heap.size 25 #[] := by rw [hX]; exact (Blk.new _ _ _).alloc _
  have hXb : Blk X (w1.heap.size + 1) 22 #[Value.slice (some { block := w1.heap.size, off := 0 }) 0 0] := by rw [hX]; exact Blk.new_at _ _ _ (by simp)
  have hXw : Below w.heap.size w X := by rw [hX]; exact (hb1.alloc hz _).alloc (by simp; omega) _
  have hXz : X.heap.size = w1.heap.size + 1 + 1 := by rw [hX]; simp
  rw [← hX]
  clear hX
  go_loopw [7] (fun i wr => DeepA X w1.heap.size (w1.heap.size + 1) F i wr) (fun i _ => F - (intOf i).toNat)
  case atStart => exact ⟨0, _, 0, by omega, rfl, hXb, OwnAt.empty insR hXa (Nat.le_refl _), Below.refl _ _⟩
  case round =>
    obtain ⟨k, A, c, hk, rfl, hblk, hown, hb⟩ := hrel
    have hsz := hb.size
    by_cases hlt : k < F
    · have HB := Lib.hid hblk
      have c0 := hblk.cell 0
      simp only [List.getElem?_toArray, List.getElem?_cons_zero] at c0
      have hl2 := hblk.lt
      have hown2 : OwnAt insR 25 w1.heap.size (wr.alloc (.cells #[.int .i64 34, .int .i64 0] 25)) (.slice A k c) (List.replicate k (34, 0)) := hown.below ((Below.refl _ _).alloc (Nat.le_refl _) _) (Nat.le_refl _)
      have HO := Lib.hid hown2
      have HS := Lib.hid (Blk.new wr 25 #[.int .i64 34, .int .i64 0])
      have HI := Lib.hid (insR_mk (wr.alloc (.cells #[.int .i64 34, .int .i64 0] 25)) (wr.alloc (.cells #[.int .i64 34, .int .i64 0] 25)).heap.size 34 0)
      clear hown2 hblk hown
      go_wp2_with (at_builtin; refine wpList_push _ rfl (.tmp 32) (.tmp 34) _ rfl insR w1.heap.size 25 i0 _ 16 Try.underlying22 hi hz0 hz1 hz2 rfl (by decide) (by decide) (.slice A k c) (List.replicate k (34, 0)) rfl HO.out wr.heap.size [.int .i64 34, .int .i64 0] (34, 0) rfl HS.out HI.out (by simp [maxLen]; omega) (by simp; omega) (by simp; omega) ?_; intro A3 c3 w2 hown3 hg3; have hb3 := (HB.out.alloc _).grownOwn HO.out hg3 (by decide); have d0 := hb3.cell 0; have d1 := hb3.frozen 0; simp only [List.getElem?_toArray, List.getElem?_cons_zero, List.length_replicate] at d0 hown3; have HB3 := Lib.hid hb3; clear hb3)
      go_roundw
      case rel =>
        refine ⟨k + 1, A3, c3, by omega, by go_num, ?_, ?_, ?_⟩
        · simpa using HB3.out.set_ 0 (.slice A3 (k + 1) c3)
        · rw [List.replicate_succ']
          exact hown3.setCell HB3.out (by decide) 0 _
        · exact (below_own HO.out (hb.alloc (by omega) _) hg3 (by simp; omega) (Nat.le_refl _)).setCell (by simp) _
      case measure => simp [intOf]; omega
    · obtain rfl : k = F := by omega
      have hown4 : OwnAt codeR 22 w1.heap.size wr (.slice (some ⟨w1.heap.size + 1, 0, none⟩) 1 1) (Bd.deepLl 0 k) := OwnAt.one (cs := [_]) hblk (by omega) hown.rel
      have HO := Lib.hid hown4
      obtain ⟨Y, hY⟩ : ∃ Y, Y = wr := ⟨_, rfl⟩
      rw [← hY] at HO hb ⊢
      clear hblk hown hown4 hY
      go_wp2_with fail
      go_loopw [6, 8, 9, 10] (fun v s b i wr => DeepB X w1.heap.size k N v s b i wr) (fun _ _ _ i _ => N + 1 - (intOf i).toNat)
      case atStart => exact ⟨0, _, _, _, _, by omega, rfl, rfl, rfl, rfl, rfl, HO.out, hb⟩
      case round =>
        obtain ⟨j, A2, c2, s1, s2, hj, rfl, rfl, HST, rfl, rfl, hown5, hb5⟩ := hrel
        have hsd := Bd.deepSt_bd k j hF10
        rw [← HST.out] at hsd
        simp only at hsd
        have hsz5 := hb5.size
        have hll := Bd.deepLl_len j k
        have HLL := Lib.hid hll
        clear hll
        by_cases hjN : j < N
        · obtain ⟨W, hW⟩ : ∃ W, W = (wr.alloc (.cells #[.int .i64 1, .int .i64 99, .int .i64 38, .int .i64 j] 25)).alloc (.cells #[.slice (some ⟨wr.heap.size, 0, none⟩) 2 2] 22) := ⟨_, rfl⟩
          have hWz : W.heap.size = wr.heap.size + 1 + 1 := by rw [hW]; simp
          have hWo : OwnAt codeR 22 w1.heap.size W (.slice A2 (j + 1) c2) (Bd.deepLl j k) := by rw [hW]; exact hown5.below (((Below.refl _ _).alloc (Nat.le_refl _) _).alloc (by simp) _) (Nat.le_refl _)
          have hWb : Blk W (wr.heap.size + 1) 22 #[.slice (some ⟨wr.heap.size, 0, none⟩) 2 2] := by rw [hW]; exact Blk.new_at _ _ _ (by simp)
          have hWc : Blk W wr.heap.size 25 #[.int .i64 1, .int .i64 99, .int .i64 38, .int .i64 j] := by rw [hW]; exact (Blk.new _ _ _).alloc _
          have hWr : codeR.rel W W.heap.size [(1, 99), (38, (j : Int))] [.slice (some ⟨wr.heap.size, 0, none⟩) 2 2] := ⟨_, _, rfl, RowAt.of_blk [[_, _], [_, _]] hWc (by omega) ⟨insR_mk _ _ _ _, insR_mk _ _ _ _, trivial⟩⟩
          have hWbl : Below w1.heap.size X W := by rw [hW]; exact (hb5.alloc (by omega) _).alloc (by simp; omega) _
          have HWO := Lib.hid hWo
          have HWB := Lib.hid hWb
          have HWR := Lib.hid hWr
          clear hWo hWb hWc hWr hown5
          have HW := Lib.hid hW
          clear hW
          by_cases hc : 2 + 16 * s1 ≤ 4096
          · have hst : (2 + 16 * s1, s2) = Bd.deepSt k (j + 1) := by
              rw [Bd.deepSt, ← HST.out]
              simp only [Prod.mk.injEq]
              exact ⟨by omega, by rw [if_neg (by omega)]⟩
            have HS2 := Lib.hid hst
            clear hst HST
            have hm : min (2 + 16 * s1) 4097 = 2 + 16 * s1 := by omega
            go_wp2_with (at_builtin; rw [← HW.out]; refine wpList_push _ rfl (.tmp 43) (.tmp 49) _ rfl codeR w1.heap.size 22 i1 _ 24 Try.underlying34 ji jz0 jz1 jz2 rfl (by decide) (by decide) (.slice A2 (j + 1) c2) (Bd.deepLl j k) rfl HWO.out (wr.heap.size + 1) _ _ rfl HWB.out HWR.out (by rw [HLL.out]; simp [maxLen]; omega) (by rw [HLL.out]; omega) (by omega) ?_; intro A3 c3 w2 hown3 hg3; rw [HLL.out] at hown3 ⊢)
            exact ⟨⟨j + 1, A3, c3, _, _, by omega, by go_num, rfl, HS2, (by first | rfl | (congr 1; split <;> omega)), rfl, by rw [Bd.deepLl_succ]; exact hown3, below_own HWO.out hWbl hg3 (by omega) (Nat.le_refl _)⟩, by simp [intOf]; omega⟩
          · by_cases hc2 : s2 < 0
            · have hst : (4097, (j : Int) + 1) = Bd.deepSt k (j + 1) := by
                rw [Bd.deepSt, ← HST.out]
                simp only [Prod.mk.injEq]
                exact ⟨by omega, by rw [if_pos (by omega)]⟩
              have HS2 := Lib.hid hst
              clear hst HST
              have hm : min (2 + 16 * s1) 4097 = 4097 := by omega
              go_wp2_with (at_builtin; rw [← HW.out]; refine wpList_push _ rfl (.tmp 43) (.tmp 49) _ rfl codeR w1.heap.size 22 i1 _ 24 Try.underlying34 ji jz0 jz1 jz2 rfl (by decide) (by decide) (.slice A2 (j + 1) c2) (Bd.deepLl j k) rfl HWO.out (wr.heap.size + 1) _ _ rfl HWB.out HWR.out (by rw [HLL.out]; simp [maxLen]; omega) (by rw [HLL.out]; omega) (by omega) ?_; intro A3 c3 w2 hown3 hg3; rw [HLL.out] at hown3 ⊢)
              exact ⟨⟨j + 1, A3, c3, _, _, by omega, by go_num, rfl, HS2, (by first | rfl | (congr 1; split <;> omega)), rfl, by rw [Bd.deepLl_succ]; exact hown3, below_own HWO.out hWbl hg3 (by omega) (Nat.le_refl _)⟩, by simp [intOf]; omega⟩
            · have hst : (4097, s2) = Bd.deepSt k (j + 1) := by
                rw [Bd.deepSt, ← HST.out]
                simp only [Prod.mk.injEq]
                exact ⟨by omega, by rw [if_neg (by omega)]⟩
              have HS2 := Lib.hid hst
              clear hst HST
              have hm : min (2 + 16 * s1) 4097 = 4097 := by omega
              go_wp2_with (at_builtin; rw [← HW.out]; refine wpList_push _ rfl (.tmp 43) (.tmp 49) _ rfl codeR w1.heap.size 22 i1 _ 24 Try.underlying34 ji jz0 jz1 jz2 rfl (by decide) (by decide) (.slice A2 (j + 1) c2) (Bd.deepLl j k) rfl HWO.out (wr.heap.size + 1) _ _ rfl HWB.out HWR.out (by rw [HLL.out]; simp [maxLen]; omega) (by rw [HLL.out]; omega) (by omega) ?_; intro A3 c3 w2 hown3 hg3; rw [HLL.out] at hown3 ⊢)
              exact ⟨⟨j + 1, A3, c3, _, _, by omega, by go_num, rfl, HS2, (by first | rfl | (congr 1; split <;> omega)), rfl, by rw [Bd.deepLl_succ]; exact hown3, below_own HWO.out hWbl hg3 (by omega) (Nat.le_refl _)⟩, by simp [intOf]; omega⟩
        · obtain rfl : j = N := by omega
          obtain ⟨A4, c4, e4, hrow⟩ := hown5.form
          rw [HLL.out] at e4
          injection e4 with e5 e6 e7
          subst e5 e7
          have hfn := funcs_any A2 c2 wr.heap.size _ wr (rowsR_at hrow) (Nat.le_refl _) (Bd.deepLl_small j k hF10)
          have hlaw := Bd.deep_law j k hN20 hF10
          rw [HLL.out] at hfn
          rw [← HST.out] at hlaw
          generalize Bd.funcs (Bd.deepLl j k) = r at hfn hlaw
          have HFN := Lib.hid hfn
          clear hfn hrow e6
          rcases hlaw with ⟨hs, rfl⟩ | ⟨hs, cs, ri, ⟨cn, cd, cp, cst⟩, rfl, hcl, hcg, hc1, hc2, hc3, hc4⟩
          · clear HST
            go_wp2_with fail
            refine HFN.out.mono ?_
            rintro e w8 ⟨A8, c8, rfl, _, hb8⟩
            have hend : Below w.heap.size w w8 := hXw.trans ((hb5.mono hz).trans (hb8.mono (by omega)))
            clear HFN hb8
            simp only at hs ⊢
            go_wp2
            go_ret
            exact ⟨rfl, hend⟩
          · simp only at hs hc1 hc2 hc3 hc4
            subst hc1 hc2 hc3
            go_wp2_with fail
            refine HFN.out.mono ?_
            rintro e w8 ⟨A8, c8, rfl, hrd, hb8⟩
            have hend : Below w.heap.size w w8 := hXw.trans ((hb5.mono hz).trans (hb8.mono (by omega)))
            simp only at hrd ⊢
            obtain ⟨b, off, rfl, hbB, hcells⟩ := hrd.2 (by omega)
            obtain ⟨g0, g1, g2, g3⟩ := costCells_at cs j ⟨0, 0, cp, cst⟩ hcg
            have d0 := hcells _ _ g0
            have d1 := hcells _ _ g1
            have d2 := hcells _ _ g2
            have d3 := hcells _ _ g3
            rw [← Nat.add_assoc] at d1 d2 d3
            simp only at d0 d1 d2 d3
            have HCL := Lib.hid hcl
            clear hcells g0 g1 g2 g3 hcg HFN hb8 hrd HST
            rw [hcl]
            have hs2 : ¬ (0 ≤ s2) := by omega
            clear hcl
            by_cases hj0 : 1 ≤ j
            · have hp : (cp == 1) = true := by rw [hc4]; simpa using hj0
              clear hc4
              go_wp2
              go_ret
              exact ⟨ret_bool (by simp; omega), hend⟩
            · have hp : (cp == 1) = false := by rw [hc4]; simpa using hj0
              clear hc4
              go_wp2
              go_ret
              exact ⟨ret_bool (by simp; omega), hend⟩
end Go.Proofs.Ytgklchhgpnoliaa

/- fleuronref02: Scale, and fleuronref21: Scale: their contracts. -/
import Derived.Test.YtnalbkjbidaojaaNumK
import Derived.Test.YtnalbkjbidaojaaNumF
import Derived.Test.YtnalbkjbidaojaaScaleAll
namespace Go.Proofs.Ytnalbkjbidaojaa
open Go.RowKit Nm

/-- what fleuronref02.Scale tells -/
def nsc (n a b : Int) : Int := if b = 0 then 0 else
    let N := if b < 0 then -(n * a) else n * a
    let v := hf N b.natAbs
    if -9223372036854775808 ≤ v ∧ v ≤ 9223372036854775807 then v else 0
theorem nsc_gsc (unit size n : Int) : nsc n (wrap64 (64 * size)) unit = gsc unit size n := (gsc_is unit size n).symm
theorem NumO.keep {b K : Nat} {W W' : World} {v : Value} {x : Int} (h : NumO b W v x K) (hb : Below W.heap.size W W') : NumO b W' v x K := by
  obtain ⟨b1, A, d, c, e, ho, h3⟩ := h
  exact ⟨b1, A, d, c, e, own_keep ho fun g hg => hb.block g (own_lt ho hg), h3⟩
theorem NumV.new {b base K : Nat} {W : World} {x : Int} {s : Bool} {A : Option Addr} {d : List Int} {c : Nat} (h : W.ownsRow b 3 1 (.slice A d.length c) d.length (dints d) ∧ Ok s d ∧ sv s d = x ∧ d.length ≤ K) (hb : base ≤ b) : NumV (W.alloc (.cells #[.bool s, .slice A d.length c] 89)) base W.heap.size x K :=
  ⟨s, A, d, c, Blk.new _ _ _, own_keep (own_mono7 h.1 hb) fun g hg => Below.heap_alloc W _ g (own_lt h.1 hg), h.2⟩
set_option maxHeartbeats 1000000 in
set_option maxRecDepth 100000 in
theorem nscale_any (n a b : Int) (w : World) (hn0 : -9223372036854775808 ≤ n) (hn1 : n ≤ 9223372036854775807) (ha0 : -9223372036854775808 ≤ a) (ha1 : a ≤ 9223372036854775807) (hb0 : -9223372036854775808 ≤ b) (hb1 : b ≤ 9223372036854775807) :
    Calls Try.prog 18 #[.int .i64 n, .int .i64 a, .int .i64 b] w (fun e w' => ∃ ok, e = .returned (.tuple #[.int .i64 (nsc n a b), .bool ok]) ∧ Below w.heap.size w w') := by
  by_cases hb : b = 0
  · subst hb
    go_enter Try.func18, Try.ntmps18
    go_wp2
    go_ret2
    exact ⟨false, rfl, Below.refl _ _⟩
  · have h1 : (b == 0) = false := beq_eq_false_iff_ne.2 hb
    have HC1 := Lib.hid (of_any n w hn0 hn1)
    have HC2 := Lib.hid (fun W => of_any a W ha0 ha1)
    have HC3 := Lib.hid (fun W => of_any b W hb0 hb1)
    go_enter Try.func18, Try.ntmps18
    go_wp2_with fail
    refine HC1.out.mono ?_
    rintro e w1 ⟨v1, rfl, ho1, hb1⟩
    have HO1 := Lib.hid ho1
    have HB1 := Lib.hid hb1
    clear ho1 hb1
    go_wp2_with fail
    refine (HC2.out _).mono ?_
    rintro e w2 ⟨v2, rfl, ho2, hb2⟩
    have hz2 := hb2.size
    have HC4 := Lib.hid (ntimes_any v1 v2 n a 4 4 w2.heap.size w2 (HO1.out.keep hb2).is ho2.is (Nat.le_refl _) (by omega) (by omega))
    have HB2 := Lib.hid (HB1.out.trans (hb2.mono HB1.out.size))
    clear ho2 hb2 HO1 HB1
    go_wp2_with fail
    refine HC4.out.mono ?_
    rintro e w3 ⟨v3, rfl, ho3, hb3⟩
    obtain ⟨b3, A3, d3, c3, rfl, hx3⟩ := ho3
    have HB3 := Lib.hid (HB2.out.trans (hb3.mono HB2.out.size))
    have HB2z := HB2.out.size
    clear hb3 HB2 HC4
    go_wp2_with fail
    have HV1 := Lib.hid (NumV.new hx3 HB2z)
    have HB4 := Lib.hid (HB3.out.alloc HB3.out.size (.cells #[.bool b3, .slice A3 d3.length c3] 89))
    obtain ⟨g, hg⟩ : ∃ g, g = w3.heap.size := ⟨_, rfl⟩
    rw [← hg] at HV1
    have HG := Lib.hid (show w.heap.size ≤ g by rw [hg]; exact HB3.out.size)
    clear hx3 HB3 
    rw [← hg]
    generalize (w3.alloc (.cells #[.bool b3, .slice A3 d3.length c3] 89)) = W4 at *
    clear hg
    refine (HC3.out _).mono ?_
    rintro e w5 ⟨v5, rfl, ho5, hb5⟩
    obtain ⟨b5, A5, d5, c5, rfl, hx5⟩ := ho5
    have HV2 := Lib.hid (HV1.out.keep hb5)
    have HB5 := Lib.hid (HB4.out.trans (hb5.mono HB4.out.size))
    have HV3 := Lib.hid (NumV.new (base := w.heap.size) hx5 HB4.out.size)
    have hgl : g < w5.heap.size := by obtain ⟨_, _, _, _, hk, _⟩ := HV2.out; exact hk.lt
    have HV4 := Lib.hid (HV2.out.alloc (.cells #[.bool b5, .slice A5 d5.length c5] 89))
    have HB6 := Lib.hid (HB5.out.alloc HB5.out.size (.cells #[.bool b5, .slice A5 d5.length c5] 89))
    have HBK := Lib.hid (Blk.new w5 89 #[.bool b5, .slice A5 d5.length c5])
    clear hx5 hb5 HV1 HV2 HB4 HB5
    go_upto_region 5 with fail
    obtain ⟨q, hq⟩ : ∃ q, q = w5.heap.size := ⟨_, rfl⟩
    rw [← hq] at HV3 HBK ⊢
    have HNE := Lib.hid (show g ≠ q by omega)
    have HGg := HG
    have HGq := Lib.hid (show w.heap.size ≤ q by have := HG.out; omega)
    have Hg := HV4
    have Hq := HV3
    generalize (w5.alloc (.cells #[.bool b5, .slice A5 d5.length c5] 89)) = W6 at *
    clear HBK HG HV3 HV4 hq hgl
    by_cases hneg : b < 0
    · go_upto_region 6 with fail
      obtain ⟨bn, An, dn, cn, hk, is1, -⟩ := Hg.out.is
      have HC := Lib.hid (neg_any _ _ _ W6.heap.size W6 is1 (Nat.le_refl _) (by omega))
      have e0 := hk.cell 0
      have e1 := hk.cell 1
      have el := hk.lt
      simp only [List.getElem?_toArray, List.getElem?_cons_zero, List.getElem?_cons_succ] at e0 e1
      have HK := Lib.hid hk
      clear is1 hk
      go_wp2_with fail
      refine HC.out.mono ?_
      rintro e w7 ⟨v7, rfl, ⟨b7, A7, d7, c7, rfl, hx7⟩, hb7⟩
      clear e0 e1 el HC
      have hk3 := HK.out.below hb7 HK.out.lt
      have b0 := hk3.cell
      have b1 := hk3.frozen
      have b2 := hk3.lt
      have NO := Lib.hid ((Hq.out.keep hb7).set2 hk3 (by have := HNE.out; omega) (.bool b7) (.slice A7 d7.length c7))
      have NV := Lib.hid (NumV.put (N := 4 + 4 + 1) (base := w.heap.size) hk3 (own_mono7 hx7.1 (by have := HB6.out.size; omega)) hx7.2.1 hx7.2.2.1 hx7.2.2.2)
      have NB := Lib.hid (((HB6.out.trans (hb7.mono HB6.out.size)).setCell (p := ⟨g, 0, none⟩) (by show w.heap.size ≤ g; exact HGg.out) (.bool b7)).setCell (p := ⟨g, 1, none⟩) (by show w.heap.size ≤ g; exact HGg.out) (.slice A7 d7.length c7))
      clear hk3 hx7 hb7 Hg Hq HB6 HK
      go_upto_region 7 with fail
      clear b0 b1 b2
      generalize (w7.setCell ⟨g, 0, none⟩ (.bool b7)).setCell ⟨g, 1, none⟩ (.slice A7 d7.length c7) = W6' at *
      have Hg := NV
      have Hq := NO
      have HB6 := NB
      clear NV NO NB
      obtain ⟨bn, An, dn, cn, hk, is1, -⟩ := Hq.out.is
      have HC := Lib.hid (neg_any _ _ _ W6'.heap.size W6' is1 (Nat.le_refl _) (by omega))
      have e0 := hk.cell 0
      have e1 := hk.cell 1
      have el := hk.lt
      simp only [List.getElem?_toArray, List.getElem?_cons_zero, List.getElem?_cons_succ] at e0 e1
      have HK := Lib.hid hk
      clear is1 hk
      go_wp2_with fail
      refine HC.out.mono ?_
      rintro e w7 ⟨v7, rfl, ⟨b7, A7, d7, c7, rfl, hx7⟩, hb7⟩
      clear e0 e1 el HC
      have hk3 := HK.out.below hb7 HK.out.lt
      have b0 := hk3.cell
      have b1 := hk3.frozen
      have b2 := hk3.lt
      have NO := Lib.hid ((Hg.out.keep hb7).set2 hk3 (by have := HNE.out; omega) (.bool b7) (.slice A7 d7.length c7))
      have NV := Lib.hid (NumV.put (N := 4) (base := w.heap.size) hk3 (own_mono7 hx7.1 (by have := HB6.out.size; omega)) hx7.2.1 hx7.2.2.1 hx7.2.2.2)
      have NB := Lib.hid (((HB6.out.trans (hb7.mono HB6.out.size)).setCell (p := ⟨q, 0, none⟩) (by show w.heap.size ≤ q; exact HGq.out) (.bool b7)).setCell (p := ⟨q, 1, none⟩) (by show w.heap.size ≤ q; exact HGq.out) (.slice A7 d7.length c7))
      clear hk3 hx7 hb7 Hq Hg HB6 HK
      go_upto_region 8 with fail
      clear b0 b1 b2
      generalize (w7.setCell ⟨q, 0, none⟩ (.bool b7)).setCell ⟨q, 1, none⟩ (.slice A7 d7.length c7) = W6'' at *
      have Hq := NV
      have Hg := NO
      have HB6 := NB
      clear NV NO NB
      obtain ⟨bx, Ax, dx, cx, hk1, is1, -⟩ := Hg.out.is
      obtain ⟨by_, Ay, dy, cy, hk2, is2, -⟩ := Hq.out.is
      have HC := Lib.hid (half_any _ _ _ _ _ _ W6''.heap.size W6'' is1 is2 (Nat.le_refl _) (by omega) (by omega) (by omega))
      have e0 := hk1.cell 0
      have e1 := hk1.cell 1
      have el := hk1.lt
      have f0 := hk2.cell 0
      have f1 := hk2.cell 1
      have fl := hk2.lt
      simp only [List.getElem?_toArray, List.getElem?_cons_zero, List.getElem?_cons_succ] at e0 e1 f0 f1
      clear is1 hk1 is2 hk2
      go_wp2_with fail
      refine HC.out.mono ?_
      rintro e w8 ⟨r, ok, rfl, hok, hr, hb8⟩
      clear e0 e1 el f0 f1 fl HC
      have HEND := Lib.hid (HB6.out.trans (hb8.mono HB6.out.size))
      have HOK := Lib.hid hok
      have HR := Lib.hid hr
      clear hok hr
      have h3 : r = nsc n a b := by
        have h2 := HR.out
        rw [HOK.out] at h2
        simp only [decide_eq_true_eq] at h2
        rw [h2]
        unfold nsc hf
        rw [if_neg hb]
        rw [if_pos hneg, show ((b.natAbs : Nat) : Int) = -b by omega, show -(n * a) + -(n * a) + -b = 2 * -(n * a) + -b by omega, show -b + -b = 2 * -b by omega]
      have H3 := Lib.hid h3
      clear h3
      go_wp2
      go_ret2
      exact ⟨ok, by rw [← H3.out]; rfl, HEND.out⟩
    · go_upto_region 8 with fail
      obtain ⟨bx, Ax, dx, cx, hk1, is1, -⟩ := Hg.out.is
      obtain ⟨by_, Ay, dy, cy, hk2, is2, -⟩ := Hq.out.is
      have HC := Lib.hid (half_any _ _ _ _ _ _ W6.heap.size W6 is1 is2 (Nat.le_refl _) (by omega) (by omega) (by omega))
      have e0 := hk1.cell 0
      have e1 := hk1.cell 1
      have el := hk1.lt
      have f0 := hk2.cell 0
      have f1 := hk2.cell 1
      have fl := hk2.lt
      simp only [List.getElem?_toArray, List.getElem?_cons_zero, List.getElem?_cons_succ] at e0 e1 f0 f1
      clear is1 hk1 is2 hk2
      go_wp2_with fail
      refine HC.out.mono ?_
      rintro e w8 ⟨r, ok, rfl, hok, hr, hb8⟩
      clear e0 e1 el f0 f1 fl HC
      have HEND := Lib.hid (HB6.out.trans (hb8.mono HB6.out.size))
      have HOK := Lib.hid hok
      have HR := Lib.hid hr
      clear hok hr
      have h3 : r = nsc n a b := by
        have h2 := HR.out
        rw [HOK.out] at h2
        simp only [decide_eq_true_eq] at h2
        rw [h2]
        unfold nsc hf
        rw [if_neg hb]
        rw [if_neg (show ¬ b < 0 by omega), show ((b.natAbs : Nat) : Int) = b by omega, show n * a + n * a + b = 2 * (n * a) + b by omega, show b + b = 2 * b by omega]
      have H3 := Lib.hid h3
      clear h3
      go_wp2
      go_ret2
      exact ⟨ok, by rw [← H3.out]; rfl, HEND.out⟩
theorem rscale_any (unit size n : Int) (w : World) (hn0 : -9223372036854775808 ≤ n) (hn1 : n ≤ 9223372036854775807) (hu0 : -9223372036854775808 ≤ unit) (hu1 : unit ≤ 9223372036854775807) :
    Calls Try.prog 8 #[.int .i64 unit, .int .i64 size, .int .i64 n] w fun e w' => e = .returned (.int .i64 (gsc unit size n)) ∧ Below w.heap.size w w' := by
  obtain ⟨r0, r1⟩ := wrap64_range (64 * size)
  have HC := Lib.hid (nscale_any n (wrap64 (64 * size)) unit w hn0 hn1 r0 (by omega) hu0 hu1)
  rw [nsc_gsc] at HC
  generalize gsc unit size n = r at *
  clear r0 r1
  go_enter Try.func8, Try.ntmps8
  go_wp2_with fail
  refine HC.out.mono ?_
  rintro e w8 ⟨ok, rfl, hb8⟩
  go_wp2
  go_ret
  exact ⟨rfl, hb8⟩
end Go.Proofs.Ytnalbkjbidaojaa

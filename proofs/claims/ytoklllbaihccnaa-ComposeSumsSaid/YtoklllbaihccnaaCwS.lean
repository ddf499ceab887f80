/- The law ComposeSums: its walk. Expanded from XCwS.src by expand.py. -/
import Derived.Test.YtoklllbaihccnaaCpF
import Derived.Test.YtoklllbaihccnaaCpG
import Derived.Test.YtoklllbaihccnaaCwK
import Derived.Test.YtoklllbaihccnaaCqJ
import Derived.Deep.CutBlock
set_option linter.unusedVariables false
set_option linter.unusedSimpArgs false
namespace Go.Proofs.Ytoklllbaihccnaa
open Go.RowKit Go.Shelf
theorem max_if4 (x y : Int) : (if x < y then y else x) = max x y := by omega
namespace Dp
open Ln Wk
def sumOf (k : Int → Ol) (l : List Prt) (a : Nat) : Nat := l.foldl (fun m p => m + (k p.1).1.length) a
theorem flatOf_sum (k : Int → Ol) : ∀ (l : List Prt) (a : Ol), (flatOf k a l).1.length = sumOf k l a.1.length
  | [], _ => rfl
  | p :: l, a => by
    have e : flatOf k a (p :: l) = flatOf k (behindO a (k p.1) p) l := rfl
    have e2 : sumOf k (p :: l) a.1.length = sumOf k l (a.1.length + (k p.1).1.length) := rfl
    rw [e, e2, flatOf_sum k l, (behindO_len _ _ _).1]
theorem sumOf_app (k : Int → Ol) (l l' : List Prt) (a : Nat) : sumOf k (l ++ l') a = sumOf k l' (sumOf k l a) := by simp [sumOf, List.foldl_append]
theorem sumOf_le (k : Int → Ol) : ∀ (l : List Prt) (a : Nat), a ≤ sumOf k l a
  | [], _ => Nat.le_refl _
  | p :: l, a => Nat.le_trans (Nat.le_add_right a _) (sumOf_le k l (a + (k p.1).1.length))
theorem flatOf_pre (k : Int → Ol) : ∀ (l : List Prt) (a : Ol), ∃ r, (flatOf k a l).1 = a.1 ++ r
  | [], a => ⟨[], by simp [flatOf]⟩
  | p :: l, a => by
    obtain ⟨r, hr⟩ := flatOf_pre k l (behindO a (k p.1) p)
    exact ⟨(k p.1).1.map (mvP p.2.1 p.2.2) ++ r, by
      have e : flatOf k a (p :: l) = flatOf k (behindO a (k p.1) p) l := rfl
      rw [e, hr]
      simp [behindO]⟩
theorem psOf_snoc (n : Nat) (l : List Prt) (p : Prt) : psOf n (l ++ [p]) = psOf n l ++ (if thereB n p.1 = true then [p] else []) := by
  unfold psOf
  rw [List.filter_append, List.filter_cons]
  rfl
theorem mostOf_app (k : Int → Int) (l l' : List Prt) : mostOf k l ≤ mostOf k (l ++ l') := by
  unfold mostOf
  rw [List.foldl_append]
  exact (mostOf_le k l' _).1
theorem down_nn (gl : List Gl) (g : Int) : 0 ≤ (down gl g).2.1 := by
  unfold down
  split
  · split
    · exact Int.le_refl _
    · split
      · exact Int.le_refl _
      · exact (learn_bd gl _ _ rfl _).1
  · exact Int.le_refl _
theorem mostOf_nn (k : Int → Int) (l : List Prt) : 0 ≤ mostOf k l := (mostOf_le k l 0).1
end Dp
namespace M4
open Dp
theorem own_i64 (s : List Int) (loops : Bool) : ∀ y, ∀ e ∈ (ownO (made s loops) y).2, I64 e := by
  intro y e he
  unfold ownO at he
  cases h : (made s loops)[y.toNat]? with
  | none => rw [h] at he; cases he
  | some g =>
    rw [h] at he
    have := (made_get s loops (List.mem_of_getElem? h)).2.2.2.2.2 e he
    rw [this]; unfold I64; decide
theorem flat_few (s : List Int) {g : Int} (eg : (flat (made s false) g).2 = 0) : (flat (made s false) g).1.1.length ≤ 90000 ∧ (flat (made s false) g).1.2.length ≤ 90000 := by
  obtain ⟨t, d, e0, hm, e⟩ := flat_zero (made_p1000 s false) eg
  obtain ⟨t0, d0, h4, _⟩ := (down_zero (made_p1000 s false)).1 e0
  rw [e]
  exact ol_bd d (by rw [d.same d0 .refl (loc_most _) .refl]; exact h4) hm (own_len s false) (partsOf_len s false) (show cap 1 15 4 ≤ 90000 by decide) .refl
/-- what the sums come to, part by part -/
structure SumP (s : List Int) (g : Nat) (gg : Gl) : Prop where
  sum : sumOf (fun x => (flat (made s false) x).1) (psOf (made s false).length gg.parts) gg.pts.length = (flat (made s false) g).1.1.length
  deep : mostOf (fun x => (down (made s false) x).2.1) (psOf (made s false).length gg.parts) = (down (made s false) g).2.1
  low : (down (made s false) g).2.1 ≤ 4
  part : ∀ p ∈ gg.parts, 0 ≤ p.1 → thereB (made s false).length p.1 = true ∧ (flat (made s false) p.1).2 = 0
  pre : ∃ r, (flat (made s false) g).1.1 = gg.pts ++ r
theorem sumP (s : List Int) {g : Nat} {gg : Gl} (hg : (made s false)[g]? = some gg) (e : (flat (made s false) g).2 = 0) : SumP s g gg := by
  have hp := made_p1000 s false
  obtain ⟨t, d, e0, _, _⟩ := flat_zero hp e
  obtain ⟨t0, d0, h4, e00⟩ := (down_zero hp).1 e0
  have hps : partsOf (made s false) ((g : Nat) : Int).toNat = psOf (made s false).length gg.parts := by
    rw [Int.toNat_natCast]
    unfold partsOf
    rw [hg]; rfl
  have hown : ownO (made s false) g = (gg.pts, gg.ends) := by
    unfold ownO
    rw [Int.toNat_natCast, hg]
    have hok := made_get s false (List.mem_of_getElem? hg)
    refine Prod.ext ?_ rfl
    exact mv_id fun p hp => by
      have := hok.2.2.2.1 p hp
      unfold I64; omega
  have hfl := flat_eq hp e
  unfold flatF at hfl
  rw [hps, hown] at hfl
  refine ⟨?_, ?_, by rw [e00]; exact h4, fun p hpp hp0 => ?_, ?_⟩
  · rw [hfl, flatOf_sum]
  · rw [deep_eq hp e0]
    unfold most
    rw [hps]
    rfl
  · have hlt := made_up s g gg hg p hpp
    have ht : thereB (made s false).length p.1 = true := by simp [thereB]; omega
    exact ⟨ht, flat_part hp e (by rw [hps]; exact List.mem_filter.2 ⟨hpp, ht⟩)⟩
  · rw [hfl]
    exact flatOf_pre _ _ _
theorem flat_err (s : List Int) {g : Nat} (hg : g < (made s false).length) : (flat (made s false) g).2 = 0 ∨ (flat (made s false) g).2 = 34 ∨ (flat (made s false) g).2 = 2 :=
  flat_cases (made_p1000 s false) ⟨by omega, by omega⟩ fun x hx => made_noloop s (hx.inR ⟨by omega, by omega⟩).1
end M4
set_option maxRecDepth 100000 in
set_option maxHeartbeats 4000000 in
theorem sums_walk (s : List Int) (A : Option Addr) (c : Nat) (m0 : Int) (w : World) (hs : Reads w w.heap.size 1 A s.length (ints s)) (hi : ∀ x ∈ s, I64 x) :
    Calls Try.prog 6 #[.slice A s.length c, .int .i64 m0] w fun e w' => e = .returned (.bool true) ∧ Below w.heap.size w w' := by
  have HS := Lib.hid hs
  have HI := Lib.hid hi
  clear hs hi
  go_enter Try.func6, Try.ntmps6
  go_wp2_with fail
  refine (awake_any _).mono ?_
  rintro e w1 ⟨rfl, hg1⟩
  have HG1 := Lib.hid hg1
  clear hg1
  go_wp2_with fail
  refine (made_any s false A c w.heap.size w1 (HS.out.keep fun p hp => HG1.out.cell hp fun x => x) HI.out HG1.out.size).mono ?_
  rintro e w2 ⟨gA, gc, rfl, hf1, hg2⟩
  obtain ⟨gl, hgl⟩ : ∃ gl, M4.made s false = gl := ⟨_, rfl⟩
  have hlen := M4.made_len s false
  have hnum := M4.num_in s
  rw [hgl] at hf1 hlen ⊢
  obtain ⟨n, hn⟩ : ∃ n, n = gl.length := ⟨_, rfl⟩
  rw [← hn] at hlen ⊢
  have hn8 : 1 ≤ n ∧ n ≤ 8 := by omega
  have HGL := Lib.hid hgl
  have HG2 := Lib.hid (HG1.out.trans hg2)
  have HF1 := Lib.hid hf1.fat
  have HN := Lib.hid hn
  clear hgl hlen hnum hf1 hg2 HS HI hn HG1
  go_wp2_with fail
  refine (lrest4_any m0 n _ (by omega) (by omega)).mono ?_
  rintro e w' ⟨rfl, rfl⟩
  obtain ⟨g, hg⟩ : ∃ g : Nat, (g : Int) = m0 % n := ⟨(m0 % n).toNat, by have := Int.emod_nonneg m0 (show (n : Int) ≠ 0 by omega); omega⟩
  have hgn : g < n := by have := Int.emod_lt_of_pos m0 (show (0 : Int) < n by omega); omega
  rw [← hg]
  clear hg
  go_wp2_with fail
  obtain ⟨W3, hW3⟩ : ∃ W3, w2.alloc (.cells (Fv.cs (fvC gA n gc)) 32) = W3 := ⟨_, rfl⟩
  have hG3 : Grow w2 W3 := by rw [← hW3]; exact (Fr.refl _ _).alloc _
  have hX3 : Blk W3 w2.heap.size 32 (Fv.cs (fvC gA n gc)) := by rw [← hW3]; exact Blk.new _ _ _
  have hs3 : W3.heap.size = w2.heap.size + 1 := by rw [← hW3]; simp
  rw [hW3]
  have HG3 := Lib.hid hG3
  clear hW3 hG3
  refine (flat_any (fvC gA n gc) gl g W3 HN.out ((HF1.out.keep fun p hp => HG3.out.cell hp fun x => x).more HG3.out.size) (by have := HN.out; omega) (by unfold I64; omega) (fvC_one _ _ _) (by rw [← HGL.out]; exact Dp.made_bd s false g)).mono ?_
  rintro e w4 ⟨pv, ev, rfl, hol, hb4⟩
  have her := M4.flat_err s (g := g) (by rw [HGL.out, ← HN.out]; exact hgn)
  have hbad := Dp.flat_bad (gl := gl) (g := (g : Int))
  rw [HGL.out] at her
  obtain ⟨R, hR⟩ : ∃ R, Dp.flat gl g = R := ⟨_, rfl⟩
  rw [hR] at hol her hbad ⊢
  obtain ⟨pA, pc, rfl, _⟩ := owns_form hol.pts
  obtain ⟨eA, ec, rfl, _⟩ := owns_form hol.ends
  have hX4 := hX3.below hb4 (by omega)
  have hs4 := hb4.size
  have HOL := Lib.hid hol
  have HB4 := Lib.hid ((Grow.below HG3.out (Nat.le_refl _)).trans (hb4.mono HG3.out.size))
  have HR := Lib.hid hR
  have HX4 := Lib.hid hX4
  clear hol hb4 hR hX4 hX3
  obtain ⟨⟨⟨rp, re⟩, er⟩, hRe⟩ : ∃ r, r = R := ⟨_, rfl⟩
  subst hRe
  simp only at her hbad
  by_cases he0 : er = 0
  · subst he0
    clear her hbad
    go_upto_region 7 with fail
    obtain ⟨W5, hW5⟩ : ∃ W5, w4.alloc (.cells #[.slice pA rp.length pc, .slice eA re.length ec] 39) = W5 := ⟨_, rfl⟩
    have hG5 : Grow w4 W5 := by rw [← hW5]; exact (Fr.refl _ _).alloc _
    have hO5 : Blk W5 w4.heap.size 39 #[.slice pA rp.length pc, .slice eA re.length ec] := by rw [← hW5]; exact Blk.new _ _ _
    have hX5 := hG5.blk HX4.out fun x => x
    have HB5 := Lib.hid (HB4.out.trans (Grow.below hG5 HB4.out.size))
    have HOL5 := Lib.hid (HOL.out.grow hG5)
    have hs5 := hG5.size
    have hol5 := hO5.lt
    rw [hW5]
    obtain ⟨gg, hgg⟩ : ∃ gg, gl[g]? = some gg := ⟨_, List.getElem?_eq_getElem (by have := HN.out; omega)⟩
    have hsm := M4.sumP s (g := g) (gg := gg) (by rw [HGL.out]; exact hgg) (by rw [HGL.out, HR.out])
    obtain ⟨q1, q2, q3, q4, q5⟩ := hsm
    rw [HGL.out] at q1 q2 q3 q4 q5
    rw [← HN.out] at q1 q2 q4
    rw [HR.out] at q1 q5
    have HQ1 := Lib.hid q1
    have HQ2 := Lib.hid q2
    have HQ3 := Lib.hid q3
    have HQ4 := Lib.hid q4
    have HQ5 := Lib.hid q5
    have hfew := M4.flat_few s (g := g) (by rw [HGL.out, HR.out])
    rw [HGL.out, HR.out] at hfew
    have HFEW := Lib.hid hfew.1
    obtain ⟨b, off, oA, oc, uA, uc, rfl, hb, hc3, hc4, _, _, hop, _, ⟨hol1, _⟩, _⟩ := HF1.out.outline hgg
    obtain ⟨b', off', qA, qc, hA', _, hc5, hqc, hq, hql, hqi⟩ := HF1.out.parts hgg
    injection hA' with hA'
    injection hA' with hA1 hA2
    subst hA1
    subst hA2
    obtain ⟨ol, holn⟩ : ∃ ol, ol = gg.pts.length := ⟨_, rfl⟩
    obtain ⟨el, heln⟩ : ∃ el, el = gg.ends.length := ⟨_, rfl⟩
    obtain ⟨pl, hpl⟩ : ∃ pl, pl = gg.parts.length := ⟨_, rfl⟩
    obtain ⟨rl, hrl⟩ : ∃ rl, rl = rp.length := ⟨_, rfl⟩
    rw [← holn] at hc3 hop hol1
    rw [← heln] at hc4
    rw [← hpl] at hc5 hq hql hqc
    rw [← hrl] at hO5 ⊢
    have HC5 := Lib.hid hc5
    have HOP := Lib.hid hop
    have HOLN := Lib.hid holn
    have HPL := Lib.hid hpl
    have HRL := Lib.hid hrl
    have HQ := Lib.hid hq
    have HQI := Lib.hid hqi
    have HGG := Lib.hid hgg
    have a3 := (HB5.out.cell (p := ⟨b, off + g * 9 + 3, none⟩) hb).trans hc3
    have a4 := (HB5.out.cell (p := ⟨b, off + g * 9 + 4, none⟩) hb).trans hc4
    have a4' : W5.cell? ⟨b, off + g * 9 + 3 + 1, none⟩ = some (.slice uA el uc) := a4
    have u1 := hX5.cell 1
    have ul := hX5.lt
    simp only [List.getElem?_toArray, List.getElem?_cons_zero, List.getElem?_cons_succ] at u1
    have HX5 := Lib.hid hX5
    have HO5 := Lib.hid hO5
    clear hW5 hG5 hO5 hX5 q1 q2 q3 q4 q5 hfew hc3 hc4 hc5 hop holn heln hpl hrl hq hqi hgg HOL HX4
    go_upto_region 8 with fail
    obtain ⟨W6, hW6⟩ : ∃ W6, W5.alloc (.cells #[.slice oA ol oc, .slice uA el uc] 39) = W6 := ⟨_, rfl⟩
    have hG6 : Grow W5 W6 := by rw [← hW6]; exact (Fr.refl _ _).alloc _
    have hP6 : Blk W6 W5.heap.size 39 #[.slice oA ol oc, .slice uA el uc] := by rw [← hW6]; exact Blk.new _ _ _
    have HX6 := Lib.hid (hG6.blk HX5.out fun x => x)
    have HO6 := Lib.hid (hG6.blk HO5.out fun x => x)
    have HB6 := Lib.hid (HB5.out.trans (Grow.below hG6 HB5.out.size))
    have HOL6 := Lib.hid (HOL5.out.grow hG6)
    have HP6 := Lib.hid hP6
    have hs6 := hG6.size
    have b0 := hP6.cell 0
    have bl := hP6.lt
    have v1 := HX6.out.cell 1
    have vl := HX6.out.lt
    simp only [List.getElem?_toArray, List.getElem?_cons_zero, List.getElem?_cons_succ] at b0 v1
    have d5 := (HB6.out.cell (p := ⟨b, off + g * 9 + 5, none⟩) hb).trans HC5.out
    rw [hW6]
    have hmx := max_if4
    clear hW6 hG6 hP6 HX5 HO5 HB5 HOL5 u1 ul a3 a4 a4'
    go_wp2_with fail
    go_loopw [11, 12, 13] (fun sm dp i wr => ∃ k : Nat, k ≤ pl ∧ i = .int .i64 k ∧ sm = .int .i64 ((Dp.sumOf (fun x => (Dp.flat gl x).1) (psOf n (gg.parts.take k)) ol : Nat) : Int) ∧ dp = .int .i64 (Dp.mostOf (fun x => (Dp.down gl x).2.1) (psOf n (gg.parts.take k))) ∧ Below W6.heap.size W6 wr) (fun _ _ i _ => pl - (intOf i).toNat)
    case atStart => exact ⟨0, Nat.zero_le _, rfl, by simp [psOf, Dp.sumOf], by simp [psOf, Dp.mostOf], Below.refl _ _⟩
    case round =>
      obtain ⟨k, hk, rfl, hsm, hdp, hbr⟩ := hrel
      obtain ⟨S, hS⟩ : ∃ S, Dp.sumOf (fun x => (Dp.flat gl x).1) (psOf n (gg.parts.take k)) ol = S := ⟨_, rfl⟩
      obtain ⟨M, hM⟩ : ∃ M, Dp.mostOf (fun x => (Dp.down gl x).2.1) (psOf n (gg.parts.take k)) = M := ⟨_, rfl⟩
      rw [hS] at hsm
      rw [hM] at hdp
      subst hsm
      subst hdp
      have hsplit : psOf n gg.parts = psOf n (gg.parts.take k) ++ psOf n (gg.parts.drop k) := by unfold psOf; rw [← List.filter_append, List.take_append_drop]
      have hS1 : S ≤ rl := by
        have h1 := HQ1.out
        rw [hsplit, ← HOLN.out, Dp.sumOf_app, hS] at h1
        have h2 := Dp.sumOf_le (fun x => (Dp.flat gl x).1) (psOf n (gg.parts.drop k)) S
        have h3 := HRL.out
        have h4 : _ = rp.length := h1
        omega
      have hM1 : 0 ≤ M ∧ M ≤ 4 := by
        have h1 := HQ2.out
        rw [hsplit] at h1
        have h2 := Dp.mostOf_app (fun x => (Dp.down gl x).2.1) (psOf n (gg.parts.take k)) (psOf n (gg.parts.drop k))
        have h3 := Dp.mostOf_nn (fun x => (Dp.down gl x).2.1) (psOf n (gg.parts.take k))
        have h4 := HQ3.out
        omega
      have hrl9 : rl ≤ 90000 := by have := HRL.out; have : rp.length ≤ 90000 := HFEW.out; omega
      have HSS := Lib.hid hS
      have HMM := Lib.hid hM
      have HBR := Lib.hid hbr
      have HXR := Lib.hid (HX6.out.below hbr HX6.out.lt)
      have hsr := hbr.size
      have c5 := (hbr.cell (p := ⟨b, off + g * 9 + 5, none⟩) (by simp only; omega)).trans d5
      have hbw : b < wr.heap.size := by omega
      have y0 := HXR.out.cell 0
      have y1 := HXR.out.cell 1
      have y2 := HXR.out.cell 2
      have y3 := HXR.out.cell 3
      have y4 := HXR.out.cell 4
      have y5 := HXR.out.cell 5
      have y6 := HXR.out.cell 6
      have y7 := HXR.out.cell 7
      have y8 := HXR.out.cell 8
      have yl := HXR.out.lt
      simp only [List.getElem?_toArray, List.getElem?_cons_zero, List.getElem?_cons_succ] at y0 y1 y2 y3 y4 y5 y6 y7 y8
      clear hS hM hbr hsplit
      by_cases hlt : k < pl
      · obtain ⟨⟨pg, px, py⟩, hpk⟩ : ∃ p, gg.parts[k]? = some p := ⟨_, List.getElem?_eq_getElem (by have := HPL.out; omega)⟩
        obtain ⟨c1, _, _⟩ := prts_at hpk
        obtain ⟨qb, qo, hqA, hqb, hqc2⟩ := HQ.out.at_ (by omega)
        subst hqA
        have p0 := ((HB6.out.trans (HBR.out.mono HB6.out.size)).cell (p := ⟨qb, qo + k * 3, none⟩) hqb).trans (hqc2 _ _ c1)
        have hpi := (HQI.out _ (List.mem_of_getElem? hpk)).1
        have htk : gg.parts.take (k + 1) = gg.parts.take k ++ [(pg, px, py)] := by rw [List.take_add_one, hpk]; rfl
        simp only at hpi p0
        have HPI := Lib.hid hpi
        have HTK := Lib.hid htk
        have hq4 := HQ4.out _ (List.mem_of_getElem? hpk)
        simp only at hq4
        clear hpk c1 hqc2 hpi htk
        by_cases hp0 : pg < 0
        · clear hq4
          go_wp2_with fail
          go_roundw
          case rel =>
            refine ⟨k + 1, by omega, by go_num, ?_, ?_, HBR.out⟩
            · rw [HTK.out, Dp.psOf_snoc, if_neg (by simp [thereB]; omega), List.append_nil, HSS.out]
            · rw [HTK.out, Dp.psOf_snoc, if_neg (by simp [thereB]; omega), List.append_nil, HMM.out]
          case measure => simp [intOf]; omega
        · obtain ⟨ht, hf0⟩ := hq4 (by omega)
          have HT := Lib.hid ht
          have HF0 := Lib.hid hf0
          clear hq4 ht hf0
          go_wp2_with fail
          refine (flat_any (fvC (some ⟨b, off, none⟩) n gc) gl pg wr HN.out ((HF1.out.keep fun p hp => (HB6.out.trans (HBR.out.mono HB6.out.size)).cell hp).more (by have := HB6.out.size; omega)) (by have := HN.out; omega) HPI.out (fvC_one _ _ _) (by rw [← HGL.out]; exact Dp.made_bd s false pg)).mono ?_
          rintro e w7 ⟨pv, ev, rfl, hol7, hb7⟩
          have hf0 := HF0.out
          have hfp := (M4.flat_few s (g := pg) (by rw [HGL.out]; exact HF0.out)).1
          rw [HGL.out] at hfp
          obtain ⟨R7, hR7⟩ : ∃ R7, Dp.flat gl pg = R7 := ⟨_, rfl⟩
          rw [hR7] at hol7 hf0 hfp ⊢
          obtain ⟨⟨op7, oe7⟩, oz7⟩ := R7
          simp only at hf0 hfp hol7 ⊢
          subst hf0
          obtain ⟨pA7, pc7, rfl, _⟩ := owns_form hol7.pts
          obtain ⟨eA7, ec7, rfl, _⟩ := owns_form hol7.ends
          simp only
          obtain ⟨l7, hl7⟩ : ∃ l7, l7 = op7.length := ⟨_, rfl⟩
          rw [← hl7] at hfp ⊢
          have HR7 := Lib.hid hR7
          have HL7 := Lib.hid hl7
          have HX7 := Lib.hid (HXR.out.below hb7 HXR.out.lt)
          have HB7 := Lib.hid (HBR.out.trans (hb7.mono hsr))
          clear hR7 hol7 hb7 hl7 y0 y1 y2 y3 y4 y5 y6 y7 y8 yl c5 p0 hbw
          have y0 := HX7.out.cell 0
          have y1 := HX7.out.cell 1
          have y2 := HX7.out.cell 2
          have y3 := HX7.out.cell 3
          have y4 := HX7.out.cell 4
          have y5 := HX7.out.cell 5
          have y6 := HX7.out.cell 6
          have y7 := HX7.out.cell 7
          have y8 := HX7.out.cell 8
          have yl := HX7.out.lt
          simp only [List.getElem?_toArray, List.getElem?_cons_zero, List.getElem?_cons_succ] at y0 y1 y2 y3 y4 y5 y6 y7 y8
          go_wp2_with fail
          obtain ⟨W8, hW8⟩ : ∃ W8, w7.alloc (.cells #[.slice pA7 l7 pc7, .slice eA7 oe7.length ec7] 39) = W8 := ⟨_, rfl⟩
          have hG8 : Grow w7 W8 := by rw [← hW8]; exact (Fr.refl _ _).alloc _
          have hT8 : Blk W8 w7.heap.size 39 #[.slice pA7 l7 pc7, .slice eA7 oe7.length ec7] := by rw [← hW8]; exact Blk.new _ _ _
          have hb68 : Below W6.heap.size W6 W8 := HB7.out.trans (Grow.below hG8 HB7.out.size)
          rw [hW8]
          refine (deep_any (fvC (some ⟨b, off, none⟩) n gc) gl pg W8 HN.out ((HF1.out.keep fun p hp => (HB6.out.trans (hb68.mono HB6.out.size)).cell hp).more (by have := HB6.out.size; have := hb68.size; omega)) (by have := HN.out; omega) HPI.out (fvC_one _ _ _)).mono ?_
          rintro e w9 ⟨rfl, hb9⟩
          have hnn := Dp.down_nn gl pg
          obtain ⟨D7, hD7⟩ : ∃ D7, (Dp.down gl pg).2.1 = D7 := ⟨_, rfl⟩
          obtain ⟨E7, hE7⟩ : ∃ E7, (Dp.down gl pg).2.2 = E7 := ⟨_, rfl⟩
          rw [hD7] at hnn
          rw [hD7, hE7]
          have hS2 : Dp.sumOf (fun x => (Dp.flat gl x).1) (psOf n (gg.parts.take (k + 1))) ol = S + l7 := by
            have ht := HT.out
            rw [HTK.out, Dp.psOf_snoc, if_pos ht, Dp.sumOf_app, HSS.out]
            show S + (Dp.flat gl pg).1.1.length = S + l7
            rw [HR7.out, HL7.out]
          have hM2 : Dp.mostOf (fun x => (Dp.down gl x).2.1) (psOf n (gg.parts.take (k + 1))) = max M (D7 + 1) := by
            have ht := HT.out
            rw [HTK.out, Dp.psOf_snoc, if_pos ht, Dp.mostOf_snoc, HMM.out]
            show max M ((Dp.down gl pg).2.1 + 1) = _
            rw [hD7]
          have hd7 : D7 ≤ 3 := by
            have h1 := HQ2.out
            have hsplit : psOf n gg.parts = psOf n (gg.parts.take (k + 1)) ++ psOf n (gg.parts.drop (k + 1)) := by unfold psOf; rw [← List.filter_append, List.take_append_drop]
            rw [hsplit] at h1
            have h2 := Dp.mostOf_app (fun x => (Dp.down gl x).2.1) (psOf n (gg.parts.take (k + 1))) (psOf n (gg.parts.drop (k + 1)))
            have h4 := HQ3.out
            omega
          have HS2 := Lib.hid hS2
          have HM2 := Lib.hid hM2
          have hT9 := hT8.below hb9 hT8.lt
          have r0 := hT9.cell 0
          have rlt := hT9.lt
          simp only [List.getElem?_toArray, List.getElem?_cons_zero, List.getElem?_cons_succ] at r0
          have HB9 := Lib.hid (hb68.trans (hb9.mono hb68.size))
          clear hW8 hG8 hT8 hb68 hb9 hD7 hE7 hS2 hM2 hT9 y0 y1 y2 y3 y4 y5 y6 y7 y8 yl
          go_wp2_with fail
          go_roundw
          case rel => exact ⟨k + 1, by omega, by go_num, by rw [HS2.out]; go_num, by rw [HM2.out], HB9.out⟩
          case measure => simp [intOf]; omega
      · obtain rfl : k = pl := by omega
        have hSr : S = rl := by
          have h1 := HQ1.out
          have h2 := HSS.out
          rw [HPL.out, List.take_length] at h2
          rw [← HOLN.out, h2] at h1
          have h3 := HRL.out
          have h4 : S = rp.length := h1
          omega
        have hMr : (Dp.down gl g).2.1 = M := by
          have h1 := HQ2.out
          have h2 := HMM.out
          rw [HPL.out, List.take_length] at h2
          rw [← h1, h2]
        subst hSr
        have HMR := Lib.hid hMr
        have hor : ol ≤ S := by
          have h1 := HQ1.out
          have h2 := Dp.sumOf_le (fun x => (Dp.flat gl x).1) (psOf n gg.parts) gg.pts.length
          have h3 := HOLN.out
          have h4 := HRL.out
          have h5 : _ = rp.length := h1
          omega
        clear hMr
        go_wp2_with fail
        refine (deep_any (fvC (some ⟨b, off, none⟩) n gc) gl g wr HN.out ((HF1.out.keep fun p hp => (HB6.out.trans (HBR.out.mono HB6.out.size)).cell hp).more (by have := HB6.out.size; omega)) (by have := HN.out; omega) (by unfold I64; omega) (fvC_one _ _ _)).mono ?_
        rintro e w10 ⟨rfl, hb10⟩
        rw [HMR.out]
        obtain ⟨E9, hE9⟩ : ∃ E9, (Dp.down gl g).2.2 = E9 := ⟨_, rfl⟩
        rw [hE9]
        have hbt : Below W6.heap.size W6 w10 := HBR.out.trans (hb10.mono hsr)
        have hO10 := HO6.out.below hbt HO6.out.lt
        have hP10 := HP6.out.below hbt HP6.out.lt
        have o0 := hO10.cell 0
        have n0 := hP10.cell 0
        have oll := hO10.lt
        have nll := hP10.lt
        simp only [List.getElem?_toArray, List.getElem?_cons_zero, List.getElem?_cons_succ] at o0 n0
        have HL10 := Lib.hid (show w10.ownsRow W3.heap.size 59 3 (.slice pA S pc) S (opts rp) by
          have h := (HOL6.out.grow (Fr.of_below hbt fun k hk _ => hk)).pts
          simp only at h
          rw [← HRL.out] at h
          exact h)
        have HBT := Lib.hid hbt
        have HB210 := Lib.hid (HB6.out.trans (hbt.mono HB6.out.size))
        clear hE9 hbt hO10 hP10 hb10 y0 y1 y2 y3 y4 y5 y6 y7 y8 yl c5
        go_wp2_with fail
        go_loopw [21] (fun i wq => ∃ m : Nat, m ≤ ol ∧ i = .int .i64 m ∧ ∃ j, wq = w10.drewN j) (fun i _ => ol - (intOf i).toNat)
        case atStart => exact ⟨0, Nat.zero_le _, rfl, 0, rfl⟩
        case round =>
          obtain ⟨m, hm, rfl, j, rfl⟩ := hrel
          by_cases hml : m < ol
          · obtain ⟨⟨p1, p2, p3⟩, hpk⟩ : ∃ p, gg.pts[m]? = some p := ⟨_, List.getElem?_eq_getElem (by have := HOLN.out; omega)⟩
            have hpk2 : rp[m]? = some (p1, p2, p3) := by
              obtain ⟨r, hr⟩ := HQ5.out
              have hr' : rp = gg.pts ++ r := hr
              rw [hr', List.getElem?_append_left (List.getElem?_eq_some_iff.1 hpk).1]
              exact hpk
            obtain ⟨e1, e2, e3⟩ := opts_at hpk
            obtain ⟨f1, f2, f3⟩ := opts_at hpk2
            obtain ⟨ob, oo, hoA, hob, hoc⟩ := HOP.out.at_ (by omega)
            subst hoA
            obtain ⟨gb, cb, hv, _, _, hgbl, hcell2⟩ := owns_at HL10.out (by omega)
            injection hv with hv1 hv2 hv3
            subst hv1
            clear hv2 hv3
            have z0 := (HB210.out.cell (p := ⟨ob, oo + m * 3, none⟩) hob).trans (hoc _ _ e1)
            have z1 := (HB210.out.cell (p := ⟨ob, oo + (m * 3 + 1), none⟩) hob).trans (hoc _ _ e2)
            have z2 := (HB210.out.cell (p := ⟨ob, oo + (m * 3 + 2), none⟩) hob).trans (hoc _ _ e3)
            have y0 := hcell2 _ _ f1
            have y1 := hcell2 _ _ f2
            have y2 := hcell2 _ _ f3
            simp only [← Nat.add_assoc] at z0 z1 z2 y0 y1 y2
            have ex1 : (p1 == p1) = true := by simp
            have ex2 : (p2 == p2) = true := by simp
            have ex3 : (p3 == p3) = true := by simp
            have hmS : ¬ S ≤ m := by omega
            have hmS2 : decide (S ≤ m) = false := decide_eq_false hmS
            clear hoc hcell2 e1 e2 e3 f1 f2 f3 hpk hpk2
            go_wp2_with fail
            go_quiet (fail)
            go_wp2_with fail
            go_roundw
            case rel => exact ⟨m + 1, by omega, by go_num, _, rfl⟩
            case measure => simp [intOf]; omega
          · go_wp2_with fail
            go_ret
            exact ⟨by first | rfl | trivial, (Grow.below HG2.out (Nat.le_refl _)).trans ((HB210.out.trans (below_drewN (Below.refl _ _) _)).mono HG2.out.size)⟩
  · have hnil := hbad he0
    injection hnil with h1 h2
    subst h1
    subst h2
    have he1 : (er == 0) = false := by simpa using he0
    clear hbad
    rcases her with h | rfl | rfl
    · exact absurd h he0
    · clear he0 he1
      go_wp2_with fail
      go_ret
      exact ⟨by first | rfl | trivial, (Grow.below HG2.out (Nat.le_refl _)).trans ((HB4.out.trans (Grow.below ((Fr.refl _ _).alloc _) HB4.out.size)).mono HG2.out.size)⟩
    · clear he0 he1
      go_wp2_with fail
      go_ret
      exact ⟨by first | rfl | trivial, (Grow.below HG2.out (Nat.le_refl _)).trans ((HB4.out.trans (Grow.below ((Fr.refl _ _).alloc _) HB4.out.size)).mono HG2.out.size)⟩
end Go.Proofs.Ytoklllbaihccnaa

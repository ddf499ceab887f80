/- The reference of layer 18: rows of points and of numbers, and zones, compared. -/
import Derived.Test.YtnalbkjbidaojaaZBase
import Derived.Deep.CutBlock
namespace Go.Proofs.Ytnalbkjbidaojaa
open Go.RowKit Mc

set_option maxRecDepth 100000 in
theorem rnums_any (A A' : Option Addr) (c c' B B' : Nat) (l l' : List Int) (w : World) (h : Reads w B 1 A l.length (ints l)) (h' : Reads w B' 1 A' l'.length (ints l')) (hl : l.length ≤ 1000000) (_hl' : l'.length ≤ 1000000) :
    Calls Try.prog 26 #[.slice A l.length c, .slice A' l'.length c'] w fun e w' => e = .returned (.bool (decide (l = l'))) ∧ Grow w w' := by
  by_cases hne : l.length = l'.length
  · obtain ⟨n, hn⟩ : ∃ n, n = l.length := ⟨_, rfl⟩
    rw [← hne] at h' _hl' ⊢
    rw [← hn] at h h' hl ⊢
    have HN := Lib.hid hn
    have HNE := Lib.hid hne
    have H := Lib.hid h
    have H' := Lib.hid h'
    clear h h' hn hne _hl'
    have hnb : ((n : Int) != (n : Int)) = false := by simp
    go_enter Try.func26, Try.ntmps26
    go_wp2_with fail
    go_loopw [5] (fun i wr => ∃ k : Nat, k ≤ n ∧ i = .int .i64 k ∧ Grow w wr ∧ wr.heap = w.heap ∧ l.take k = l'.take k) (fun i _ => n - (intOf i).toNat)
    case atStart => exact ⟨0, by omega, rfl, Fr.refl _ _, rfl, rfl⟩
    case round =>
      obtain ⟨k, hk, rfl, hb, hh, htk⟩ := hrel
      have HH := Lib.hid hh
      have hcell : ∀ p, wr.cell? p = w.cell? p := fun p => by unfold World.cell?; rw [hh]
      have HCE := Lib.hid hcell
      have HTK := Lib.hid htk
      have HB := Lib.hid hb
      clear hh hcell htk hb
      by_cases hlt : k < n
      · obtain ⟨x, hx⟩ : ∃ x, l[k]? = some x := ⟨_, List.getElem?_eq_getElem (by have := HN.out; omega)⟩
        obtain ⟨y, hy⟩ : ∃ y, l'[k]? = some y := ⟨_, List.getElem?_eq_getElem (by have := HN.out; have := HNE.out; omega)⟩
        obtain ⟨b, off, rfl, hbB, hcells⟩ := H.out.2 (by omega)
        obtain ⟨b', off', rfl, hbB', hcells'⟩ := H'.out.2 (by omega)
        have d0 := hcells _ _ (ints_at l k x hx)
        have e0 := hcells' _ _ (ints_at l' k y hy)
        rw [← HCE.out] at d0 e0
        have HX := Lib.hid hx
        have HY := Lib.hid hy
        clear hcells hcells' hx hy
        have i1 : (0 : Int) ≤ (k : Int) := by omega
        have i2 : (k : Int) < (n : Int) := by omega
        by_cases hxy : x = y
        · subst hxy
          go_wp2_with fail
          go_quiet (fail)
          go_wp2
          go_roundw
          case rel => exact ⟨k + 1, by omega, by go_num, HB.out.drewN _, HH.out, take_more HX.out HY.out HTK.out⟩
          case measure => simp [intOf]; omega
        · have hbn : (x != y) = true := by simpa using hxy
          go_wp2_with fail
          go_quiet (fail)
          go_wp2
          go_ret
          exact ⟨ret_bool (decide_eq_false (take_ne HX.out HY.out hxy)).symm, HB.out.drewN _⟩
      · have hkn : k = n := by omega
        subst hkn
        go_wp2
        go_ret
        have he : l = l' := by
          have := HTK.out
          rw [List.take_of_length_le (by have := HN.out; omega), List.take_of_length_le (by have := HN.out; have := HNE.out; omega)] at this
          exact this
        exact ⟨ret_bool (decide_eq_true he).symm, HB.out⟩
  · have hnb : ((l.length : Int) != (l'.length : Int)) = true := by simp; omega
    have hno : ¬ l = l' := fun e => hne (by rw [e])
    have HNO := Lib.hid hno
    clear h h' hno
    generalize l.length = n at *
    generalize l'.length = n' at *
    go_enter Try.func26, Try.ntmps26
    go_wp2_with fail
    go_ret
    exact ⟨ret_bool (decide_eq_false HNO.out).symm, Fr.refl _ _⟩
set_option maxRecDepth 100000 in
theorem rpoints_any (A A' : Option Addr) (c c' B B' : Nat) (l l' : List (Int × Int)) (w : World) (h : Reads w B 2 A l.length (pts l)) (h' : Reads w B' 2 A' l'.length (pts l')) (hl : l.length ≤ 1000000) (_hl' : l'.length ≤ 1000000) :
    Calls Try.prog 25 #[.slice A l.length c, .slice A' l'.length c'] w fun e w' => e = .returned (.bool (decide (l = l'))) ∧ Grow w w' := by
  by_cases hne : l.length = l'.length
  · obtain ⟨n, hn⟩ : ∃ n, n = l.length := ⟨_, rfl⟩
    rw [← hne] at h' _hl' ⊢
    rw [← hn] at h h' hl ⊢
    have HN := Lib.hid hn
    have HNE := Lib.hid hne
    have H := Lib.hid h
    have H' := Lib.hid h'
    clear h h' hn hne _hl'
    have hnb : ((n : Int) != (n : Int)) = false := by simp
    go_enter Try.func25, Try.ntmps25
    go_wp2_with fail
    go_loopw [5] (fun i wr => ∃ k : Nat, k ≤ n ∧ i = .int .i64 k ∧ Grow w wr ∧ wr.heap = w.heap ∧ l.take k = l'.take k) (fun i _ => n - (intOf i).toNat)
    case atStart => exact ⟨0, by omega, rfl, Fr.refl _ _, rfl, rfl⟩
    case round =>
      obtain ⟨k, hk, rfl, hb, hh, htk⟩ := hrel
      have HH := Lib.hid hh
      have hcell : ∀ p, wr.cell? p = w.cell? p := fun p => by unfold World.cell?; rw [hh]
      have HCE := Lib.hid hcell
      have HTK := Lib.hid htk
      have HB := Lib.hid hb
      clear hh hcell htk hb
      by_cases hlt : k < n
      · obtain ⟨x, hx⟩ : ∃ x, l[k]? = some x := ⟨_, List.getElem?_eq_getElem (by have := HN.out; omega)⟩
        obtain ⟨y, hy⟩ : ∃ y, l'[k]? = some y := ⟨_, List.getElem?_eq_getElem (by have := HN.out; have := HNE.out; omega)⟩
        obtain ⟨b, off, rfl, hbB, hcells⟩ := H.out.2 (by omega)
        obtain ⟨b', off', rfl, hbB', hcells'⟩ := H'.out.2 (by omega)
        obtain ⟨g0, g1⟩ := pts_at l k x hx
        obtain ⟨g2, g3⟩ := pts_at l' k y hy
        have d0 := hcells _ _ g0
        have d1 := hcells _ _ g1
        have e0 := hcells' _ _ g2
        have e1 := hcells' _ _ g3
        rw [← Nat.add_assoc] at d1 e1
        rw [← HCE.out] at d0 d1 e0 e1
        have HX := Lib.hid hx
        have HY := Lib.hid hy
        clear hcells hcells' hx hy g0 g1 g2 g3
        have i1 : (0 : Int) ≤ (k : Int) := by omega
        have i2 : (k : Int) < (n : Int) := by omega
        obtain ⟨x1, x2⟩ := x
        obtain ⟨y1, y2⟩ := y
        simp only at d0 d1 e0 e1
        by_cases hx1 : x1 = y1
        · subst hx1
          by_cases hx2 : x2 = y2
          · subst hx2
            go_wp2_with fail
            go_quiet (fail)
            go_wp2
            go_roundw
            case rel => exact ⟨k + 1, by omega, by go_num, HB.out.drewN _, HH.out, take_more HX.out HY.out HTK.out⟩
            case measure => simp [intOf]; omega
          · have hbn : (x2 != y2) = true := by simpa using hx2
            go_wp2_with fail
            go_quiet (fail)
            go_wp2
            go_ret
            exact ⟨ret_bool (decide_eq_false (take_ne HX.out HY.out (fun e => hx2 (by injection e)))).symm, HB.out.drewN _⟩
        · have hbn : (x1 != y1) = true := by simpa using hx1
          go_wp2_with fail
          go_quiet (fail)
          go_wp2
          go_ret
          exact ⟨ret_bool (decide_eq_false (take_ne HX.out HY.out (fun e => hx1 (by injection e)))).symm, HB.out.drewN _⟩
      · have hkn : k = n := by omega
        subst hkn
        go_wp2
        go_ret
        have he : l = l' := by
          have := HTK.out
          rw [List.take_of_length_le (by have := HN.out; omega), List.take_of_length_le (by have := HN.out; have := HNE.out; omega)] at this
          exact this
        exact ⟨ret_bool (decide_eq_true he).symm, HB.out⟩
  · have hnb : ((l.length : Int) != (l'.length : Int)) = true := by simp; omega
    have hno : ¬ l = l' := fun e => hne (by rw [e])
    have HNO := Lib.hid hno
    clear h h' hno
    generalize l.length = n at *
    generalize l'.length = n' at *
    go_enter Try.func25, Try.ntmps25
    go_wp2_with fail
    go_ret
    exact ⟨ret_bool (decide_eq_false HNO.out).symm, Fr.refl _ _⟩
set_option maxRecDepth 100000 in
theorem rsameZone_any (z z' : Zn) (B : Nat) (oA uA tA eA oA' uA' tA' eA' : Option Addr) (oc uc tc ec oc' uc' tc' ec' : Nat) (w : World) (hB : B ≤ w.heap.size) (h : ZnAt w B z oA uA tA eA) (h' : ZnAt w B z' oA' uA' tA' eA') (hz : ZnOk z) (hz' : ZnOk z') :
    Calls Try.prog 13 #[.agg #[.slice oA z.org.length oc, .slice uA z.cur.length uc, .slice tA z.touch.length tc, .slice eA z.ends.length ec], .agg #[.slice oA' z'.org.length oc', .slice uA' z'.cur.length uc', .slice tA' z'.touch.length tc', .slice eA' z'.ends.length ec']] w
      fun e w' => e = .returned (.bool (decide (z.org = z'.org ∧ z.cur = z'.cur ∧ z.touch = z'.touch ∧ z.ends = z'.ends))) ∧ Grow w w' := by
  obtain ⟨X, hX⟩ : ∃ X, X = (w.alloc (.cells #[.slice oA z.org.length oc, .slice uA z.cur.length uc, .slice tA z.touch.length tc, .slice eA z.ends.length ec] 47)).alloc (.cells #[.slice oA' z'.org.length oc', .slice uA' z'.cur.length uc', .slice tA' z'.touch.length tc', .slice eA' z'.ends.length ec'] 47) := ⟨_, rfl⟩
  have hXG : Grow w X := by rw [hX]; exact ((Fr.refl _ w).alloc _).alloc _
  have hb0 : Blk X w.heap.size 47 #[.slice oA z.org.length oc, .slice uA z.cur.length uc, .slice tA z.touch.length tc, .slice eA z.ends.length ec] := by rw [hX]; exact (Blk.new _ _ _).alloc _
  have hb1 : Blk X (w.heap.size + 1) 47 #[.slice oA' z'.org.length oc', .slice uA' z'.cur.length uc', .slice tA' z'.touch.length tc', .slice eA' z'.ends.length ec'] := by rw [hX]; exact Blk.new_at _ _ _ (by simp)
  have HZ := Lib.hid (h.keep (W' := X) fun q hq => hXG.cell (by omega) (fun x => x))
  have HZ' := Lib.hid (h'.keep (W' := X) fun q hq => hXG.cell (by omega) (fun x => x))
  have HXG := Lib.hid hXG
  have HX := Lib.hid hX
  have HO := Lib.hid hz
  have HO' := Lib.hid hz'
  have HB := Lib.hid hB
  have HB0 := Lib.hid hb0
  have HB1 := Lib.hid hb1
  have hw1 : w.heap.size < X.heap.size := hb0.lt
  clear h h' hz hz' hX hXG hb0 hb1 hB
  go_enter Try.func13, Try.ntmps13
  go_upto_region 1 with fail
  rw [← HX.out]
  have p0 := HB0.out.cell 0
  have q0 := HB1.out.cell 0
  simp only [List.getElem?_toArray, List.getElem?_cons_zero] at p0 q0
  go_wp2_with fail
  refine (rpoints_any oA oA' oc oc' B B z.org z'.org _ HZ.out.org HZ'.out.org HO.out.org HO'.out.org).mono ?_
  rintro e w1 ⟨rfl, hg⟩
  have HG0 := Lib.hid (HXG.out.trans hg)
  have HC0 := Lib.hid (hg.blk HB0.out (fun x => x))
  have HC1 := Lib.hid (hg.blk HB1.out (fun x => x))
  have HY := Lib.hid (HZ.out.keep (W' := w1) fun q hq => hg.cell (by have := HB.out; have := HXG.out.size; omega) (fun x => x))
  have HY' := Lib.hid (HZ'.out.keep (W' := w1) fun q hq => hg.cell (by have := HB.out; have := HXG.out.size; omega) (fun x => x))
  clear p0 q0 hg HXG HB0 HB1 HZ HZ' HX
  obtain ⟨HXG, HB0, HB1, HZ, HZ'⟩ : Hid _ ∧ Hid _ ∧ Hid _ ∧ Hid _ ∧ Hid _ := ⟨HG0, HC0, HC1, HY, HY'⟩
  clear HG0 HC0 HC1 HY HY'
  by_cases hc0 : z.org = z'.org
  · rw [decide_eq_true hc0]
    have HC0e := Lib.hid hc0
    clear hc0
    have p1 := HB0.out.cell 1
    have q1 := HB1.out.cell 1
    simp only [List.getElem?_toArray, List.getElem?_cons_zero, List.getElem?_cons_succ] at p1 q1
    go_wp2_with fail
    refine (rpoints_any uA uA' uc uc' B B z.cur z'.cur _ HZ.out.cur HZ'.out.cur HO.out.cur HO'.out.cur).mono ?_
    rintro e w2 ⟨rfl, hg⟩
    have HG1 := Lib.hid (HXG.out.trans hg)
    have HC0 := Lib.hid (hg.blk HB0.out (fun x => x))
    have HC1 := Lib.hid (hg.blk HB1.out (fun x => x))
    have HY := Lib.hid (HZ.out.keep (W' := w2) fun q hq => hg.cell (by have := HB.out; have := HXG.out.size; omega) (fun x => x))
    have HY' := Lib.hid (HZ'.out.keep (W' := w2) fun q hq => hg.cell (by have := HB.out; have := HXG.out.size; omega) (fun x => x))
    clear p1 q1 hg HXG HB0 HB1 HZ HZ' 
    obtain ⟨HXG, HB0, HB1, HZ, HZ'⟩ : Hid _ ∧ Hid _ ∧ Hid _ ∧ Hid _ ∧ Hid _ := ⟨HG1, HC0, HC1, HY, HY'⟩
    clear HG1 HC0 HC1 HY HY'
    by_cases hc1 : z.cur = z'.cur
    · rw [decide_eq_true hc1]
      have HC1e := Lib.hid hc1
      clear hc1
      have p2 := HB0.out.cell 2
      have q2 := HB1.out.cell 2
      simp only [List.getElem?_toArray, List.getElem?_cons_zero, List.getElem?_cons_succ] at p2 q2
      go_wp2_with fail
      refine (rnums_any tA tA' tc tc' B B z.touch z'.touch _ HZ.out.touch HZ'.out.touch HO.out.touch HO'.out.touch).mono ?_
      rintro e w3 ⟨rfl, hg⟩
      have HG2 := Lib.hid (HXG.out.trans hg)
      have HC0 := Lib.hid (hg.blk HB0.out (fun x => x))
      have HC1 := Lib.hid (hg.blk HB1.out (fun x => x))
      have HY := Lib.hid (HZ.out.keep (W' := w3) fun q hq => hg.cell (by have := HB.out; have := HXG.out.size; omega) (fun x => x))
      have HY' := Lib.hid (HZ'.out.keep (W' := w3) fun q hq => hg.cell (by have := HB.out; have := HXG.out.size; omega) (fun x => x))
      clear p2 q2 hg HXG HB0 HB1 HZ HZ' 
      obtain ⟨HXG, HB0, HB1, HZ, HZ'⟩ : Hid _ ∧ Hid _ ∧ Hid _ ∧ Hid _ ∧ Hid _ := ⟨HG2, HC0, HC1, HY, HY'⟩
      clear HG2 HC0 HC1 HY HY'
      by_cases hc2 : z.touch = z'.touch
      · rw [decide_eq_true hc2]
        have HC2e := Lib.hid hc2
        clear hc2
        have p3 := HB0.out.cell 3
        have q3 := HB1.out.cell 3
        simp only [List.getElem?_toArray, List.getElem?_cons_zero, List.getElem?_cons_succ] at p3 q3
        go_wp2_with fail
        refine (rnums_any eA eA' ec ec' B B z.ends z'.ends _ HZ.out.ends HZ'.out.ends HO.out.ends HO'.out.ends).mono ?_
        rintro e w4 ⟨rfl, hg⟩
        have HG3 := Lib.hid (HXG.out.trans hg)
        have HC0 := Lib.hid (hg.blk HB0.out (fun x => x))
        have HC1 := Lib.hid (hg.blk HB1.out (fun x => x))
        have HY := Lib.hid (HZ.out.keep (W' := w4) fun q hq => hg.cell (by have := HB.out; have := HXG.out.size; omega) (fun x => x))
        have HY' := Lib.hid (HZ'.out.keep (W' := w4) fun q hq => hg.cell (by have := HB.out; have := HXG.out.size; omega) (fun x => x))
        clear p3 q3 hg HXG HB0 HB1 HZ HZ' 
        obtain ⟨HXG, HB0, HB1, HZ, HZ'⟩ : Hid _ ∧ Hid _ ∧ Hid _ ∧ Hid _ ∧ Hid _ := ⟨HG3, HC0, HC1, HY, HY'⟩
        clear HG3 HC0 HC1 HY HY'
        by_cases hc3 : z.ends = z'.ends
        · rw [decide_eq_true hc3]
          have HC3e := Lib.hid hc3
          clear hc3
          go_wp2_with fail
          go_ret
          exact ⟨ret_bool (decide_eq_true ⟨HC0e.out, HC1e.out, HC2e.out, HC3e.out⟩).symm, HXG.out⟩
        · have hno : ¬ (z.org = z'.org ∧ z.cur = z'.cur ∧ z.touch = z'.touch ∧ z.ends = z'.ends) := fun h => hc3 h.2.2.2
          have HNO := Lib.hid hno
          rw [decide_eq_false hc3]
          clear hno hc3
          go_wp2_with fail
          go_ret
          exact ⟨ret_bool (decide_eq_false HNO.out).symm, HXG.out⟩
      · have hno : ¬ (z.org = z'.org ∧ z.cur = z'.cur ∧ z.touch = z'.touch ∧ z.ends = z'.ends) := fun h => hc2 h.2.2.1
        have HNO := Lib.hid hno
        rw [decide_eq_false hc2]
        clear hno hc2
        go_wp2_with fail
        go_ret
        exact ⟨ret_bool (decide_eq_false HNO.out).symm, HXG.out⟩
    · have hno : ¬ (z.org = z'.org ∧ z.cur = z'.cur ∧ z.touch = z'.touch ∧ z.ends = z'.ends) := fun h => hc1 h.2.1
      have HNO := Lib.hid hno
      rw [decide_eq_false hc1]
      clear hno hc1
      go_wp2_with fail
      go_ret
      exact ⟨ret_bool (decide_eq_false HNO.out).symm, HXG.out⟩
  · have hno : ¬ (z.org = z'.org ∧ z.cur = z'.cur ∧ z.touch = z'.touch ∧ z.ends = z'.ends) := fun h => hc0 h.1
    have HNO := Lib.hid hno
    rw [decide_eq_false hc0]
    clear hno hc0
    go_wp2_with fail
    go_ret
    exact ⟨ret_bool (decide_eq_false HNO.out).symm, HXG.out⟩
end Go.Proofs.Ytnalbkjbidaojaa

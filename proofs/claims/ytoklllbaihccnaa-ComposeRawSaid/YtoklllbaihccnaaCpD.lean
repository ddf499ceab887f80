/- fleuronref04.rest, Nums, Same; fleuronlaw04.rest: their contracts. Expanded from XCpD.src by expand.py. -/
import Derived.Test.YtoklllbaihccnaaCpC
set_option linter.unusedVariables false
set_option linter.unusedSimpArgs false
namespace Go.Proofs.Ytoklllbaihccnaa
open Go.RowKit Go.Shelf
theorem tmod_emod (n d : Int) (hd : 0 < d) : n % d = if n.tmod d < 0 then n.tmod d + d else n.tmod d := by
  have h1 := Int.tmod_eq_emod (a := n) (b := d)
  have h2 := Int.emod_nonneg n (show d ≠ 0 by omega)
  have h3 := Int.emod_lt_of_pos n hd
  by_cases h : 0 ≤ n ∨ d ∣ n
  · rw [if_pos h] at h1
    rw [if_neg (by omega)]
    omega
  · rw [if_neg h, Int.natAbs_of_nonneg (by omega)] at h1
    have h4 : n % d ≠ 0 := fun e => h (.inr (Int.dvd_of_emod_eq_zero e))
    rw [if_pos (by omega)]
    omega
theorem tmod_twice (n d : Int) (hd : 0 < d) : (n.tmod d + d) % d = n % d ∧ -d ≤ n.tmod d ∧ n.tmod d < d := by
  have h1 := tmod_emod n d hd
  have h2 := Int.emod_nonneg n (show d ≠ 0 by omega)
  have h3 := Int.emod_lt_of_pos n hd
  generalize n.tmod d = t at *
  generalize n % d = r at *
  by_cases ht : t < 0
  · rw [if_pos ht] at h1
    refine ⟨?_, by omega, by omega⟩
    rw [← h1]
    exact Int.emod_eq_of_lt h2 h3
  · rw [if_neg ht] at h1
    refine ⟨?_, by omega, by omega⟩
    rw [← h1, Int.add_emod_right]
    exact Int.emod_eq_of_lt h2 h3
theorem rest4_any (n d : Int) (w : World) (hd : 0 < d) (hd2 : d ≤ 1000000) : Calls Try.prog 20 #[.int .i64 n, .int .i64 d] w fun e w' => e = .returned (.int .i64 (n % d)) ∧ w = w' := by
  obtain ⟨h1, h2, h3⟩ := tmod_twice n d hd
  have HM := Lib.hid h1
  have hw : IntKind.i64.wrap (n.tmod d + d) = n.tmod d + d := by rw [IntWalk.i64_in _ (by omega)]
  clear h1
  go_enter Try.func20, Try.ntmps20
  go_wp2
  go_ret
  exact ⟨ret_i64 HM.out, rfl⟩
theorem lrest4_any (n d : Int) (w : World) (hd : 0 < d) (hd2 : d ≤ 1000000) : Calls Try.prog 15 #[.int .i64 n, .int .i64 d] w fun e w' => e = .returned (.int .i64 (n % d)) ∧ w = w' := by
  obtain ⟨h1, h2, h3⟩ := tmod_twice n d hd
  have HM := Lib.hid h1
  have hw : IntKind.i64.wrap (n.tmod d + d) = n.tmod d + d := by rw [IntWalk.i64_in _ (by omega)]
  clear h1
  go_enter Try.func15, Try.ntmps15
  go_wp2
  go_ret
  exact ⟨ret_i64 HM.out, rfl⟩
theorem take_more {α : Type} {l l' : List α} {k : Nat} {x : α} (h : l[k]? = some x) (h' : l'[k]? = some x) (ht : l.take k = l'.take k) : l.take (k + 1) = l'.take (k + 1) := by
  rw [List.take_add_one, List.take_add_one, ht, h, h']
theorem take_ne {α : Type} {l l' : List α} {k : Nat} {x x' : α} (h : l[k]? = some x) (h' : l'[k]? = some x') (hn : x ≠ x') : l ≠ l' := fun e => by
  subst e
  rw [h] at h'
  injection h' with h'
  exact hn h'
set_option maxRecDepth 100000 in
theorem nums4_any (A A' : Option Addr) (c c' B B' : Nat) (l l' : List Int) (w : World) (h : Reads w B 1 A l.length (ints l)) (h' : Reads w B' 1 A' l'.length (ints l')) (hl : l.length ≤ 1000000) (_hl' : l'.length ≤ 1000000) :
    Calls Try.prog 19 #[.slice A l.length c, .slice A' l'.length c'] w fun e w' => e = .returned (.bool (decide (l = l'))) ∧ Grow w w' := by
  by_cases hne : l.length = l'.length
  · obtain ⟨n, hn⟩ : ∃ n, n = l.length := ⟨_, rfl⟩
    rw [← hne] at h' _hl' ⊢
    rw [← hn] at h h' hl ⊢
    have HN := Lib.hid hn
    have HNE := Lib.hid hne
    have H := Lib.hid h
    have H' := Lib.hid h'
    clear h h' hn hne _hl'
    have hnb : ((n : Int) != (n : Int)) = false := by simp
    go_enter Try.func19, Try.ntmps19
    go_wp2_with fail
    go_loopw [5] (fun i wr => ∃ k : Nat, k ≤ n ∧ i = .int .i64 k ∧ Grow w wr ∧ wr.heap = w.heap ∧ l.take k = l'.take k) (fun i _ => n - (intOf i).toNat)
    case atStart => exact ⟨0, by omega, rfl, Fr.refl _ _, rfl, rfl⟩
    case round =>
      obtain ⟨k, hk, rfl, hb, hh, htk⟩ := hrel
      have HH := Lib.hid hh
      have hcell : ∀ p, wr.cell? p = w.cell? p := fun p => by unfold World.cell?; rw [hh]
      have HCE := Lib.hid hcell
      have HTK := Lib.hid htk
      have HB := Lib.hid hb
      clear hh hcell htk hb
      by_cases hlt : k < n
      · obtain ⟨x, hx⟩ : ∃ x, l[k]? = some x := ⟨_, List.getElem?_eq_getElem (by have := HN.out; omega)⟩
        obtain ⟨y, hy⟩ : ∃ y, l'[k]? = some y := ⟨_, List.getElem?_eq_getElem (by have := HN.out; have := HNE.out; omega)⟩
        obtain ⟨b, off, rfl, hbB, hcells⟩ := H.out.2 (by omega)
        obtain ⟨b', off', rfl, hbB', hcells'⟩ := H'.out.2 (by omega)
        have d0 := hcells _ _ (ints_at l k x hx)
        have e0 := hcells' _ _ (ints_at l' k y hy)
        rw [← HCE.out] at d0 e0
        have HX := Lib.hid hx
        have HY := Lib.hid hy
        clear hcells hcells' hx hy
        have i1 : (0 : Int) ≤ (k : Int) := by omega
        have i2 : (k : Int) < (n : Int) := by omega
        by_cases hxy : x = y
        · subst hxy
          go_wp2_with fail
          go_quiet (fail)
          go_wp2
          go_roundw
          case rel => exact ⟨k + 1, by omega, by go_num, HB.out.drewN _, HH.out, take_more HX.out HY.out HTK.out⟩
          case measure => simp [intOf]; omega
        · have hbn : (x != y) = true := by simpa using hxy
          go_wp2_with fail
          go_quiet (fail)
          go_wp2
          go_ret
          exact ⟨ret_bool (decide_eq_false (take_ne HX.out HY.out hxy)).symm, HB.out.drewN _⟩
      · have hkn : k = n := by omega
        subst hkn
        go_wp2
        go_ret
        have he : l = l' := by
          have := HTK.out
          rw [List.take_of_length_le (by have := HN.out; omega), List.take_of_length_le (by have := HN.out; have := HNE.out; omega)] at this
          exact this
        exact ⟨ret_bool (decide_eq_true he).symm, HB.out⟩
  · have hnb : ((l.length : Int) != (l'.length : Int)) = true := by simp; omega
    have hno : ¬ l = l' := fun e => hne (by rw [e])
    have HNO := Lib.hid hno
    clear h h' hno
    generalize l.length = n at *
    generalize l'.length = n' at *
    go_enter Try.func19, Try.ntmps19
    go_wp2_with fail
    go_ret
    exact ⟨ret_bool (decide_eq_false HNO.out).symm, Fr.refl _ _⟩
theorem opts3 {l : List P3} {k : Nat} {x : P3} (h : l[k]? = some x) : (opts l)[k * 3]? = some (.int .i64 x.1) ∧ (opts l)[k * 3 + 1]? = some (.int .i64 x.2.1) ∧ (opts l)[k * 3 + 2]? = some (.bool x.2.2) := opts_at h
set_option maxRecDepth 100000 in
set_option maxHeartbeats 2000000 in
theorem same4_any (pA eA pA' eA' : Option Addr) (pc ec pc' ec' B : Nat) (a b : Ol) (w : World) (h1 : Reads w B 3 pA a.1.length (opts a.1)) (h2 : Reads w B 1 eA a.2.length (ints a.2)) (k1 : Reads w B 3 pA' b.1.length (opts b.1)) (k2 : Reads w B 1 eA' b.2.length (ints b.2))
    (hB : B ≤ w.heap.size) (l1 : a.1.length ≤ 1000000) (l2 : a.2.length ≤ 1000000) (l4 : b.2.length ≤ 1000000) (l3 : b.1.length ≤ 1000000) :
    Calls Try.prog 18 #[.agg #[.slice pA a.1.length pc, .slice eA a.2.length ec], .agg #[.slice pA' b.1.length pc', .slice eA' b.2.length ec']] w fun e w' => e = .returned (.bool (decide (a = b))) ∧ Grow w w' := by
  obtain ⟨ap, ae⟩ := a
  obtain ⟨bp, be⟩ := b
  simp only at *
  by_cases hne : ap.length = bp.length
  · obtain ⟨n, hn⟩ : ∃ n, n = ap.length := ⟨_, rfl⟩
    rw [← hne] at k1 ⊢
    rw [← hn] at h1 k1 l1 ⊢
    obtain ⟨m, hm⟩ : ∃ m, m = ae.length := ⟨_, rfl⟩
    obtain ⟨m', hm'⟩ : ∃ m', m' = be.length := ⟨_, rfl⟩
    have HN := Lib.hid hn
    have HNE := Lib.hid hne
    have H1 := Lib.hid h1
    have K1 := Lib.hid k1
    have H2 := Lib.hid h2
    have K2 := Lib.hid k2
    have HM := Lib.hid hm
    have HM' := Lib.hid hm'
    have L2 := Lib.hid l2
    have L4 := Lib.hid l4
    rw [← hm, ← hm']
    clear h1 k1 h2 k2 hn hne hm hm' l2 l4
    have hnb : ((n : Int) != (n : Int)) = false := by simp
    go_enter Try.func18, Try.ntmps18
    go_wp2_with fail
    go_loopw [5] (fun i wr => ∃ k : Nat, k ≤ n ∧ i = .int .i64 k ∧ Grow w wr ∧ Blk wr w.heap.size 39 #[.slice pA n pc, .slice eA m ec] ∧ Blk wr (w.heap.size + 1) 39 #[.slice pA' n pc', .slice eA' m' ec'] ∧ ap.take k = bp.take k) (fun i _ => n - (intOf i).toNat)
    case atStart => exact ⟨0, by omega, rfl, ((Fr.refl _ _).alloc _).alloc _, (Blk.new _ _ _).alloc _, Blk.new_at _ _ _ (by simp), rfl⟩
    case round =>
      obtain ⟨k, hk, rfl, hg, hb1, hb2, htk⟩ := hrel
      have q0 := hb1.cell 0
      have q1 := hb1.cell 1
      have r0 := hb2.cell 0
      have r1 := hb2.cell 1
      have ql := hb1.lt
      have rl := hb2.lt
      simp only [List.getElem?_toArray, List.getElem?_cons_zero, List.getElem?_cons_succ] at q0 q1 r0 r1
      have HG := Lib.hid hg
      have HB1 := Lib.hid hb1
      have HB2 := Lib.hid hb2
      have HTK := Lib.hid htk
      clear hg hb1 hb2 htk
      by_cases hlt : k < n
      · obtain ⟨⟨x, y, z⟩, hx⟩ : ∃ x, ap[k]? = some x := ⟨_, List.getElem?_eq_getElem (by have := HN.out; omega)⟩
        obtain ⟨⟨x', y', z'⟩, hy⟩ : ∃ y, bp[k]? = some y := ⟨_, List.getElem?_eq_getElem (by have := HN.out; have := HNE.out; omega)⟩
        obtain ⟨b, off, rfl, hbB, hcells⟩ := H1.out.2 (by omega)
        obtain ⟨b', off', rfl, hbB', hcells'⟩ := K1.out.2 (by omega)
        obtain ⟨c1, c2, c3⟩ := opts3 hx
        obtain ⟨d1, d2, d3⟩ := opts3 hy
        have hkp : ∀ q : Addr, q.block < B → wr.cell? q = w.cell? q := fun q hq => (HG.out.below hB).cell hq
        have e1 := (hkp ⟨b, off + k * 3, none⟩ hbB).trans (hcells _ _ c1)
        have e2 := (hkp ⟨b, off + (k * 3 + 1), none⟩ hbB).trans (hcells _ _ c2)
        have e3 := (hkp ⟨b, off + (k * 3 + 2), none⟩ hbB).trans (hcells _ _ c3)
        have f1 := (hkp ⟨b', off' + k * 3, none⟩ hbB').trans (hcells' _ _ d1)
        have f2 := (hkp ⟨b', off' + (k * 3 + 1), none⟩ hbB').trans (hcells' _ _ d2)
        have f3 := (hkp ⟨b', off' + (k * 3 + 2), none⟩ hbB').trans (hcells' _ _ d3)
        simp only [← Nat.add_assoc] at e2 e3 f2 f3
        have HX := Lib.hid hx
        have HY := Lib.hid hy
        clear hcells hcells' hx hy c1 c2 c3 d1 d2 d3 hkp
        have i1 : (0 : Int) ≤ (k : Int) := by omega
        have i2 : (k : Int) < (n : Int) := by omega
        by_cases hx1 : x = x'
        · have ex : (x == x') = true := by simpa using hx1
          by_cases hy1 : y = y'
          · have ey : (y == y') = true := by simpa using hy1
            by_cases hz1 : z = z'
            · have ez : (z == z') = true := by simpa using hz1
              have HE := Lib.hid (show (x, y, z) = (x', y', z') by rw [hx1, hy1, hz1])
              clear hx1 hy1 hz1
              go_wp2_with fail
              go_quiet (fail)
              go_wp2_with fail
              go_roundw
              case rel => exact ⟨k + 1, by omega, by go_num, HG.out.drewN _, HB1.out.drewN _, HB2.out.drewN _, take_more HX.out (by rw [HE.out]; exact HY.out) HTK.out⟩
              case measure => simp [intOf]; omega
            · have ez : (z == z') = false := by simpa using hz1
              have HE := Lib.hid (show ¬ (x, y, z) = (x', y', z') from fun e => by injection e with _ e; injection e with _ e; exact hz1 e)
              clear hx1 hy1 hz1
              go_wp2_with fail
              go_quiet (fail)
              go_wp2_with fail
              go_ret
              have hno : ¬ (ap, ae) = (bp, be) := fun e => by injection e with e _; exact take_ne HX.out HY.out HE.out e
              exact ⟨ret_bool (decide_eq_false hno).symm, HG.out.drewN _⟩
          · have ey : (y == y') = false := by simpa using hy1
            have HE := Lib.hid (show ¬ (x, y, z) = (x', y', z') from fun e => by injection e with _ e; injection e with e _; exact hy1 e)
            clear hx1 hy1
            go_wp2_with fail
            go_quiet (fail)
            go_wp2_with fail
            go_ret
            have hno : ¬ (ap, ae) = (bp, be) := fun e => by injection e with e _; exact take_ne HX.out HY.out HE.out e
            exact ⟨ret_bool (decide_eq_false hno).symm, HG.out.drewN _⟩
        · have ex : (x == x') = false := by simpa using hx1
          have HE := Lib.hid (show ¬ (x, y, z) = (x', y', z') from fun e => by injection e with e _; exact hx1 e)
          clear hx1
          go_wp2_with fail
          go_quiet (fail)
          go_wp2_with fail
          go_ret
          have hno : ¬ (ap, ae) = (bp, be) := fun e => by injection e with e _; exact take_ne HX.out HY.out HE.out e
          exact ⟨ret_bool (decide_eq_false hno).symm, HG.out.drewN _⟩
      · have hkn : k = n := by omega
        subst hkn
        have hn2 := nums4_any eA eA' ec ec' B B ae be wr (H2.out.keep fun q hq => (HG.out.below hB).cell hq) (K2.out.keep fun q hq => (HG.out.below hB).cell hq) L2.out L4.out
        rw [← HM.out, ← HM'.out] at hn2
        have HN2 := Lib.hid hn2
        clear hn2
        go_wp2_with fail
        refine HN2.out.mono ?_
        rintro e w' ⟨rfl, hg2⟩
        have HG2 := Lib.hid hg2
        clear hg2
        go_wp2_with fail
        go_ret
        have he : ap = bp := by
          have := HTK.out
          rw [List.take_of_length_le (by have := HN.out; omega), List.take_of_length_le (by have := HN.out; have := HNE.out; omega)] at this
          exact this
        refine ⟨ret_bool ?_, HG.out.trans HG2.out⟩
        rw [he]
        simp
  · have hnb : ((ap.length : Int) != (bp.length : Int)) = true := by simp; omega
    have hno : ¬ (ap, ae) = (bp, be) := fun e => by injection e with e; exact hne (by rw [e])
    have HNO := Lib.hid hno
    clear h1 h2 k1 k2 hno l1 l2 l3 l4
    generalize ap.length = n at *
    generalize bp.length = n' at *
    go_enter Try.func18, Try.ntmps18
    go_wp2_with fail
    go_ret
    exact ⟨ret_bool (decide_eq_false HNO.out).symm, ((Fr.refl _ _).alloc _).alloc _⟩
end Go.Proofs.Ytoklllbaihccnaa

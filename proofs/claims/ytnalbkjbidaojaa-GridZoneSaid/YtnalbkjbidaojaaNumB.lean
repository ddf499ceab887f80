/- fleuronref02: whole, Of, Neg, Plus: their contracts. -/
import Derived.Test.YtnalbkjbidaojaaNumA
import Derived.Test.YtnalbkjbidaojaaRatioA
namespace Go.Proofs.Ytnalbkjbidaojaa
open Go.RowKit Nm

/-- a number that lies -/
def NumIs (W : World) (B : Nat) (v : Value) (x : Int) (N : Nat) : Prop := ∃ (b : Bool) (A : Option Addr) (d : List Int) (c : Nat), v = .agg #[.bool b, .slice A d.length c] ∧ Reads W B 1 A d.length (dints d) ∧ Ok b d ∧ sv b d = x ∧ d.length ≤ N ∧ d.length ≤ c ∧ c ≤ maxLen
/-- a number of the call's own -/
def NumO (base : Nat) (W : World) (v : Value) (x : Int) (N : Nat) : Prop := ∃ (b : Bool) (A : Option Addr) (d : List Int) (c : Nat), v = .agg #[.bool b, .slice A d.length c] ∧ W.ownsRow base 3 1 (.slice A d.length c) d.length (dints d) ∧ Ok b d ∧ sv b d = x ∧ d.length ≤ N
theorem NumO.is {base : Nat} {W : World} {v : Value} {x : Int} {N : Nat} (h : NumO base W v x N) : NumIs W W.heap.size v x N := by
  obtain ⟨b, A, d, c, e, h1, h2, h3, h4⟩ := h
  obtain ⟨A', c', e', h5, h6⟩ := own_form h1
  injection e' with _ _ e'
  subst e'
  exact ⟨b, A, d, c, e, Reads.of_own h1, h2, h3, h4, h5, h6⟩
theorem own_mono7 {w : World} {base base' size n : Nat} {t : TypeId} {v : Value} {xs : List Value} (h : w.ownsRow base t size v n xs) (hb : base' ≤ base) : w.ownsRow base' t size v n xs := by
  refine ⟨h.1, ?_⟩
  rcases h.2 with h0 | ⟨g, cap, cur, e, hg, hh⟩
  · exact .inl h0
  · exact .inr ⟨g, cap, cur, e, Nat.le_trans hb hg, hh⟩
def NumP (w : World) (x : Int) (N : Nat) (e : Ending) (w' : World) : Prop := ∃ v, e = .returned v ∧ NumO w.heap.size w' v x N ∧ Below w.heap.size w w'
theorem NumIs.keep {W W' : World} {B B' : Nat} {v : Value} {x : Int} {N : Nat} (h : NumIs W B v x N) (hb : Below B W W') (hB : B ≤ B') : NumIs W' B' v x N := by
  obtain ⟨b, A, d, c, e, h1, h2⟩ := h
  exact ⟨b, A, d, c, e, (h1.below hb (Nat.le_refl _)).more hB, h2⟩
theorem own_keep {w w' : World} {base size n : Nat} {t : TypeId} {v : Value} {xs : List Value} (h : w.ownsRow base t size v n xs) (k : ∀ g, v.ownBlock = some g → w'.heap[g]? = w.heap[g]?) : w'.ownsRow base t size v n xs := by
  refine ⟨h.1, ?_⟩
  rcases h.2 with h0 | ⟨g, cap, cur, e, hb, hh, h1, h2, h3, h4⟩
  · exact .inl h0
  · exact .inr ⟨g, cap, cur, e, hb, (k g (by rw [e]; rfl)).trans hh, h1, h2, h3, h4⟩
theorem reads_takeN {w : World} {B size n : Nat} {A : Option Addr} {xs : List Value} (h : Reads w B size A n xs) {k : Nat} (hk : k ≤ n) : Reads w B size A k (xs.take (k * size)) := by
  refine ⟨by rw [List.length_take, h.1, Nat.min_eq_left (Nat.mul_le_mul_right _ hk)], fun h0 => ?_⟩
  obtain ⟨b, off, e, hb, hc⟩ := h.2 (by omega)
  refine ⟨b, off, e, hb, fun j u hu => hc j u ?_⟩
  rw [List.getElem?_take] at hu
  split at hu
  · exact hu
  · cases hu
/-- what is left without noughts ahead -/
theorem whole_ok {d : List Int} {k : Nat} (hd : Dig d) (hk : k ≤ d.length) (ht : ∀ q, k = q + 1 → d.getD q 0 ≠ 0) (b : Bool) : Ok (b && decide (0 < k)) (d.take k) := by
  refine ⟨hd.take k, fun q x hq hx => ?_, fun hb e => ?_⟩
  · rw [List.length_take, Nat.min_eq_left hk] at hq
    have := ht q hq
    rw [List.getElem?_take] at hx
    split at hx
    · rw [List.getD_eq_getElem?_getD, hx, Option.getD_some] at this
      exact this
    · cases hx
  · simp only [Bool.and_eq_true, decide_eq_true_eq] at hb
    have := congrArg List.length e
    rw [List.length_take, Nat.min_eq_left hk, List.length_nil] at this
    omega
theorem whole_sv {d : List Int} {k : Nat} (hv : val (d.take k) = val d) (b : Bool) : sv (b && decide (0 < k)) (d.take k) = sv b d := by
  unfold sv
  rw [hv]
  by_cases h : 0 < k
  · simp [h]
  · have : k = 0 := by omega
    subst this
    rw [List.take_zero] at hv
    rw [← hv]
    simp [val]
def WhI (d : List Int) (X : World) (i : Value) (wx : World) : Prop := ∃ k : Nat, k ≤ d.length ∧ i = .int .i64 k ∧ val (d.take k) = val d ∧ wx = X
def WhO (d : List Int) (X : World) (i : Value) (wx : World) : Prop := ∃ k : Nat, k ≤ d.length ∧ i = .int .i64 k ∧ val (d.take k) = val d ∧ (∀ q, k = q + 1 → d.getD q 0 ≠ 0) ∧ wx = X
set_option maxHeartbeats 1000000 in
theorem whole_any (bw : Bool) (A : Option Addr) (c B : Nat) (d : List Int) (w : World) (h : Reads w B 1 A d.length (dints d)) (hB : B ≤ w.heap.size) (hd : Dig d) (hl : d.length ≤ 1000000) (hc1 : d.length ≤ c) (hc2 : c ≤ maxLen) :
    Calls Try.prog 47 #[.bool bw, .slice A d.length c] w (NumP w (sv bw d) d.length) := by
  obtain ⟨i0, hi, hz0, hz1, hz2⟩ := info7 int_info7
  obtain ⟨X, hX⟩ : ∃ X, X = w.alloc (.cells #[.bool false, .slice none 0 0] 89) := ⟨_, rfl⟩
  have hXz : X.heap.size = w.heap.size + 1 := by rw [hX]; simp
  have hXb : Blk X w.heap.size 89 #[.bool false, .slice none 0 0] := by rw [hX]; exact Blk.new _ _ _
  have hXw : Below w.heap.size w X := by rw [hX]; exact (Below.refl _ _).alloc (Nat.le_refl _) _
  have hr := (h.below hXw hB).more (show B ≤ X.heap.size by omega)
  have HR := Lib.hid hr
  have HX := Lib.hid hX
  have HXB := Lib.hid hXb
  have HXW := Lib.hid hXw
  have HD := Lib.hid hd
  unfold maxLen at hc2
  have _hc2i : (c : Int) ≤ 9223372036854775807 := by omega
  obtain ⟨n, hn⟩ : ∃ n, n = d.length := ⟨_, rfl⟩
  have HN := Lib.hid hn
  have hW0 : WhI d X (.int .i64 n) X := ⟨n, by omega, rfl, by rw [take_all d (by omega)], rfl⟩
  have HW0 := Lib.hid hW0
  rw [← hn] at hl hc1 HR ⊢
  clear h hr hX hXb hXw hd hW0 hc2 hn
  go_enter Try.func47, Try.ntmps47
  go_upto_block 0 with (fail)
  rw [← HX.out]
  go_cut [5] (fun v wx => WhO d X v wx)
  case first =>
    go_wp2_with fail
    go_loopw [5] (fun i wx => WhI d X i wx) (fun i _ => (intOf i).toNat)
    case atStart => exact HW0.out
    case round =>
      clear HW0
      obtain ⟨k, hk, rfl, hv, rfl⟩ := hrel
      have HV := Lib.hid hv
      clear hv
      rw [← HN.out] at hk
      cases k with
      | zero =>
        go_wp2_with fail
        go_meet
        exact ⟨0, Nat.zero_le _, by first | rfl | simp, HV.out, fun q hq => by omega, rfl⟩
      | succ q =>
        obtain ⟨b, off, rfl, hb, hcell⟩ := HR.out.2 (by omega)
        have c0 := hcell q _ (dints_at d q (by have := HN.out; omega))
        have HT := Lib.hid (take_succ_val d q)
        clear hcell
        have hx : d.getD q 0 ≠ 0 → ∀ q', q + 1 = q' + 1 → d.getD q' 0 ≠ 0 := fun h q' e => by rw [show q' = q by omega]; exact h
        have HXX := Lib.hid hx
        clear hx
        generalize d.getD q 0 = x at *
        by_cases hx0 : x = 0
        · subst hx0
          have hv2 : val (d.take q) = val d := by
            have := HV.out
            rw [HT.out, Int.mul_zero, Int.add_zero] at this
            exact this
          have HV2 := Lib.hid hv2
          clear hv2
          go_wp2_with fail
          go_roundw
          case rel => exact ⟨q, by have := HN.out; omega, by first | rfl | simp, HV2.out, by first | rfl | trivial⟩
          case measure => simp [intOf]
        · have hxb : (x == 0) = false := by simpa using hx0
          go_wp2_with fail
          go_meet
          exact ⟨q + 1, by have := HN.out; omega, by first | rfl | simp, HV.out, HXX.out hx0, rfl⟩
  case rest =>
    clear HW0
    obtain ⟨k, hk, rfl, hv, ht, rfl⟩ := hcut
    have hok := whole_ok HD.out hk ht bw
    have hsv := whole_sv hv bw
    have HOK := Lib.hid hok
    have HSV := Lib.hid hsv
    rw [← HN.out] at hk
    have hr2 := reads_takeN HR.out hk
    rw [Nat.mul_one, show (dints d).take k = dints (d.take k) from (List.map_take ..).symm] at hr2
    have hlk : (d.take k).length = k := by rw [List.length_take]; have := HN.out; omega
    have HLK := Lib.hid hlk
    have hr3 := hr2.alloc (Nat.le_refl _) (.cells #[] 3)
    have HR3 := Lib.hid hr3
    have HOW := Lib.hid (own_new wc 3 wc.heap.size (Nat.le_refl _))
    have _hkc : k ≤ c := by omega
    have _hxl : w.heap.size < wc.heap.size := by omega
    clear hok hsv hr2 hr3 hv ht hlk HX hXz
    obtain ⟨bb, hbb⟩ : ∃ bb, bb = (bw && decide (0 < k)) := ⟨_, rfl⟩
    rw [← hbb] at HOK HSV
    by_cases hk0 : 0 < k
    · have hki : (0 : Int) < (k : Int) := by omega
      have hb2 : bb = bw := by rw [hbb]; simp [hk0]
      clear hbb
      subst hb2
      cases bb
      · go_wp2_with (at_builtin; refine wpList_append_any _ rfl (.tmp 25) (.tmp 28) _ rfl wc.heap.size 3 i0 _ 1 8 Try.underlying30 hi hz0 hz1 hz2 rfl (by decide) (.slice (some ⟨wc.heap.size, 0, none⟩) 0 0) 0 [] rfl HOW.out wc.heap.size A k c (dints (d.take k)) rfl HR3.out (dints_one _) (by unfold maxLen; omega) (by omega) (by simp) ?_; intro v3 w3 hown3 hg3 _; obtain ⟨A3, c3, rfl, hc31, hc32⟩ := own_form hown3; rw [Nat.zero_add, List.nil_append] at hown3; have hbl3 : Below wc.heap.size wc w3 := Below.grown ((Below.refl wc.heap.size wc).alloc (Nat.le_refl _) (.cells #[] 3)) hg3 (by simp) (fun g hg => own_ge HOW.out hg); have hb3 := HXB.out.below hbl3 (by omega); have b0 := hb3.cell; have b1 := hb3.frozen; have b2 := hb3.lt; have HOWN := Lib.hid hown3; have HB3 := Lib.hid hb3; have HBL := Lib.hid hbl3; clear hown3 hg3 hbl3 hb3)
        have hb4 := (HB3.out.set_ 0 (.bool false)).set_ 1 (.slice A3 (0 + k) c3)
        have HB4 := Lib.hid hb4
        have HE := Lib.hid ((HXW.out.trans (HBL.out.mono (by omega))).setCell (p := ⟨w.heap.size, 0, none⟩) (Nat.le_refl _) (.bool false) |>.setCell (p := ⟨w.heap.size, 1, none⟩) (Nat.le_refl _) (.slice A3 (0 + k) c3))
        have HO4 := Lib.hid (own_keep (w' := (w3.setCell ⟨w.heap.size, 0, none⟩ (.bool false)).setCell ⟨w.heap.size, 1, none⟩ (.slice A3 (0 + k) c3)) HOWN.out fun g hg => by
          have hge := own_ge HOWN.out hg
          have hne : g ≠ w.heap.size := by omega
          rw [Below.heap_setCell _ _ _ _ hne, Below.heap_setCell _ _ _ _ hne])
        clear b0 b1 b2 hb4
        simp only [Nat.zero_add] at HB4 HE HO4 ⊢
        generalize (w3.setCell ⟨w.heap.size, 0, none⟩ (.bool false)).setCell ⟨w.heap.size, 1, none⟩ (.slice A3 k c3) = W4 at *
        have y0 := HB4.out.cell 0
        have y1 := HB4.out.cell 1
        simp at y0 y1
        refine bodyPost_ret (v := .agg #[.bool false, .slice A3 k c3]) (by simp [results, Try.results47, go_sem, y0, y1]) rfl ?_
        refine ⟨_, rfl, ⟨false, A3, d.take k, c3, by rw [HLK.out], by rw [HLK.out]; exact own_mono7 HO4.out (by omega), HOK.out, HSV.out, by rw [HLK.out]; exact hk⟩, HE.out⟩
      · go_wp2_with (at_builtin; refine wpList_append_any _ rfl (.tmp 25) (.tmp 28) _ rfl wc.heap.size 3 i0 _ 1 8 Try.underlying30 hi hz0 hz1 hz2 rfl (by decide) (.slice (some ⟨wc.heap.size, 0, none⟩) 0 0) 0 [] rfl HOW.out wc.heap.size A k c (dints (d.take k)) rfl HR3.out (dints_one _) (by unfold maxLen; omega) (by omega) (by simp) ?_; intro v3 w3 hown3 hg3 _; obtain ⟨A3, c3, rfl, hc31, hc32⟩ := own_form hown3; rw [Nat.zero_add, List.nil_append] at hown3; have hbl3 : Below wc.heap.size wc w3 := Below.grown ((Below.refl wc.heap.size wc).alloc (Nat.le_refl _) (.cells #[] 3)) hg3 (by simp) (fun g hg => own_ge HOW.out hg); have hb3 := HXB.out.below hbl3 (by omega); have b0 := hb3.cell; have b1 := hb3.frozen; have b2 := hb3.lt; have HOWN := Lib.hid hown3; have HB3 := Lib.hid hb3; have HBL := Lib.hid hbl3; clear hown3 hg3 hbl3 hb3)
        have hb4 := (HB3.out.set_ 0 (.bool true)).set_ 1 (.slice A3 (0 + k) c3)
        have HB4 := Lib.hid hb4
        have HE := Lib.hid ((HXW.out.trans (HBL.out.mono (by omega))).setCell (p := ⟨w.heap.size, 0, none⟩) (Nat.le_refl _) (.bool true) |>.setCell (p := ⟨w.heap.size, 1, none⟩) (Nat.le_refl _) (.slice A3 (0 + k) c3))
        have HO4 := Lib.hid (own_keep (w' := (w3.setCell ⟨w.heap.size, 0, none⟩ (.bool true)).setCell ⟨w.heap.size, 1, none⟩ (.slice A3 (0 + k) c3)) HOWN.out fun g hg => by
          have hge := own_ge HOWN.out hg
          have hne : g ≠ w.heap.size := by omega
          rw [Below.heap_setCell _ _ _ _ hne, Below.heap_setCell _ _ _ _ hne])
        clear b0 b1 b2 hb4
        simp only [Nat.zero_add] at HB4 HE HO4 ⊢
        generalize (w3.setCell ⟨w.heap.size, 0, none⟩ (.bool true)).setCell ⟨w.heap.size, 1, none⟩ (.slice A3 k c3) = W4 at *
        have y0 := HB4.out.cell 0
        have y1 := HB4.out.cell 1
        simp at y0 y1
        refine bodyPost_ret (v := .agg #[.bool true, .slice A3 k c3]) (by simp [results, Try.results47, go_sem, y0, y1]) rfl ?_
        refine ⟨_, rfl, ⟨true, A3, d.take k, c3, by rw [HLK.out], by rw [HLK.out]; exact own_mono7 HO4.out (by omega), HOK.out, HSV.out, by rw [HLK.out]; exact hk⟩, HE.out⟩
    · have hki : ¬ (0 : Int) < (k : Int) := by omega
      have hb2 : bb = false := by rw [hbb]; simp [hk0]
      clear hbb
      subst hb2
      cases bw
      · go_wp2_with (at_builtin; refine wpList_append_any _ rfl (.tmp 25) (.tmp 28) _ rfl wc.heap.size 3 i0 _ 1 8 Try.underlying30 hi hz0 hz1 hz2 rfl (by decide) (.slice (some ⟨wc.heap.size, 0, none⟩) 0 0) 0 [] rfl HOW.out wc.heap.size A k c (dints (d.take k)) rfl HR3.out (dints_one _) (by unfold maxLen; omega) (by omega) (by simp) ?_; intro v3 w3 hown3 hg3 _; obtain ⟨A3, c3, rfl, hc31, hc32⟩ := own_form hown3; rw [Nat.zero_add, List.nil_append] at hown3; have hbl3 : Below wc.heap.size wc w3 := Below.grown ((Below.refl wc.heap.size wc).alloc (Nat.le_refl _) (.cells #[] 3)) hg3 (by simp) (fun g hg => own_ge HOW.out hg); have hb3 := HXB.out.below hbl3 (by omega); have b0 := hb3.cell; have b1 := hb3.frozen; have b2 := hb3.lt; have HOWN := Lib.hid hown3; have HB3 := Lib.hid hb3; have HBL := Lib.hid hbl3; clear hown3 hg3 hbl3 hb3)
        have hb4 := (HB3.out.set_ 0 (.bool false)).set_ 1 (.slice A3 (0 + k) c3)
        have HB4 := Lib.hid hb4
        have HE := Lib.hid ((HXW.out.trans (HBL.out.mono (by omega))).setCell (p := ⟨w.heap.size, 0, none⟩) (Nat.le_refl _) (.bool false) |>.setCell (p := ⟨w.heap.size, 1, none⟩) (Nat.le_refl _) (.slice A3 (0 + k) c3))
        have HO4 := Lib.hid (own_keep (w' := (w3.setCell ⟨w.heap.size, 0, none⟩ (.bool false)).setCell ⟨w.heap.size, 1, none⟩ (.slice A3 (0 + k) c3)) HOWN.out fun g hg => by
          have hge := own_ge HOWN.out hg
          have hne : g ≠ w.heap.size := by omega
          rw [Below.heap_setCell _ _ _ _ hne, Below.heap_setCell _ _ _ _ hne])
        clear b0 b1 b2 hb4
        simp only [Nat.zero_add] at HB4 HE HO4 ⊢
        generalize (w3.setCell ⟨w.heap.size, 0, none⟩ (.bool false)).setCell ⟨w.heap.size, 1, none⟩ (.slice A3 k c3) = W4 at *
        have y0 := HB4.out.cell 0
        have y1 := HB4.out.cell 1
        simp at y0 y1
        refine bodyPost_ret (v := .agg #[.bool false, .slice A3 k c3]) (by simp [results, Try.results47, go_sem, y0, y1]) rfl ?_
        refine ⟨_, rfl, ⟨false, A3, d.take k, c3, by rw [HLK.out], by rw [HLK.out]; exact own_mono7 HO4.out (by omega), HOK.out, HSV.out, by rw [HLK.out]; exact hk⟩, HE.out⟩
      · go_wp2_with (at_builtin; refine wpList_append_any _ rfl (.tmp 25) (.tmp 28) _ rfl wc.heap.size 3 i0 _ 1 8 Try.underlying30 hi hz0 hz1 hz2 rfl (by decide) (.slice (some ⟨wc.heap.size, 0, none⟩) 0 0) 0 [] rfl HOW.out wc.heap.size A k c (dints (d.take k)) rfl HR3.out (dints_one _) (by unfold maxLen; omega) (by omega) (by simp) ?_; intro v3 w3 hown3 hg3 _; obtain ⟨A3, c3, rfl, hc31, hc32⟩ := own_form hown3; rw [Nat.zero_add, List.nil_append] at hown3; have hbl3 : Below wc.heap.size wc w3 := Below.grown ((Below.refl wc.heap.size wc).alloc (Nat.le_refl _) (.cells #[] 3)) hg3 (by simp) (fun g hg => own_ge HOW.out hg); have hb3 := HXB.out.below hbl3 (by omega); have b0 := hb3.cell; have b1 := hb3.frozen; have b2 := hb3.lt; have HOWN := Lib.hid hown3; have HB3 := Lib.hid hb3; have HBL := Lib.hid hbl3; clear hown3 hg3 hbl3 hb3)
        have hb4 := (HB3.out.set_ 0 (.bool false)).set_ 1 (.slice A3 (0 + k) c3)
        have HB4 := Lib.hid hb4
        have HE := Lib.hid ((HXW.out.trans (HBL.out.mono (by omega))).setCell (p := ⟨w.heap.size, 0, none⟩) (Nat.le_refl _) (.bool false) |>.setCell (p := ⟨w.heap.size, 1, none⟩) (Nat.le_refl _) (.slice A3 (0 + k) c3))
        have HO4 := Lib.hid (own_keep (w' := (w3.setCell ⟨w.heap.size, 0, none⟩ (.bool false)).setCell ⟨w.heap.size, 1, none⟩ (.slice A3 (0 + k) c3)) HOWN.out fun g hg => by
          have hge := own_ge HOWN.out hg
          have hne : g ≠ w.heap.size := by omega
          rw [Below.heap_setCell _ _ _ _ hne, Below.heap_setCell _ _ _ _ hne])
        clear b0 b1 b2 hb4
        simp only [Nat.zero_add] at HB4 HE HO4 ⊢
        generalize (w3.setCell ⟨w.heap.size, 0, none⟩ (.bool false)).setCell ⟨w.heap.size, 1, none⟩ (.slice A3 k c3) = W4 at *
        have y0 := HB4.out.cell 0
        have y1 := HB4.out.cell 1
        simp at y0 y1
        refine bodyPost_ret (v := .agg #[.bool false, .slice A3 k c3]) (by simp [results, Try.results47, go_sem, y0, y1]) rfl ?_
        refine ⟨_, rfl, ⟨false, A3, d.take k, c3, by rw [HLK.out], by rw [HLK.out]; exact own_mono7 HO4.out (by omega), HOK.out, HSV.out, by rw [HLK.out]; exact hk⟩, HE.out⟩
end Go.Proofs.Ytnalbkjbidaojaa

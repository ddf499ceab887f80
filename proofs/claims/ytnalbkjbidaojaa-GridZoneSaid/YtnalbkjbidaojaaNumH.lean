/- fleuronref02: Parts: its contract. -/
import Derived.Test.YtnalbkjbidaojaaNumC
import Derived.Test.YtnalbkjbidaojaaNumD
import Derived.Test.YtnalbkjbidaojaaNumG
import Derived.Test.YtnalbkjbidaojaaNumPt
namespace Go.Proofs.Ytnalbkjbidaojaa
open Go.RowKit Nm

/-- the loop of Parts: k bits are still to come -/
def PtI (V y : Int) (Y : World) (base g ob na nb : Nat) (i : Value) (W : World) : Prop := ∃ (k : Nat) (Q R : Int), i = .int .i64 ((k : Int) - 1) ∧ k ≤ 16 * na ∧ V / 2 ^ k = Q * y + R ∧ 0 ≤ R ∧ R < y ∧ 0 ≤ Q ∧ NumV W base g Q na ∧ NumV W base (g + 1) R nb ∧ NumV W base ob 1 4 ∧ Below g Y W
set_option maxHeartbeats 1000000 in
set_option maxRecDepth 100000 in
theorem parts_any (v v2 : Value) (x y : Int) (N M B : Nat) (w : World) (h : NumIs w B v x N) (h2 : NumIs w B v2 y M) (hB : B ≤ w.heap.size) (hN : N ≤ 5000) (hM : M ≤ 5000) (hy : 0 < y) :
    Calls Try.prog 48 #[v, v2] w (fun e w' => ∃ v v2, e = .returned (.tuple #[v, v2]) ∧ NumO w.heap.size w' v (x / y) (N + 5) ∧ NumO w.heap.size w' v2 (x % y) (M + 2) ∧ Below w.heap.size w w') := by
  obtain ⟨b, A, d, c, rfl, hr, hok, hsv, hl, hc1, hc2⟩ := h
  obtain ⟨b2, A2, d2, c2, rfl, hr2, hok2, hsv2, hl2, hc12, hcc22⟩ := h2
  obtain ⟨na, hna⟩ : ∃ n, n = d.length := ⟨_, rfl⟩
  obtain ⟨nb, hnb⟩ : ∃ n, n = d2.length := ⟨_, rfl⟩
  rw [← hna] at hl hc1
  rw [← hnb] at hl2 hc12
  obtain ⟨Y, hY⟩ : ∃ Y, Y = ((((w.alloc (.cells #[.bool b, .slice A na c] 89)).alloc (.cells #[.bool b2, .slice A2 nb c2] 89)).alloc (.cells #[.bool false, .slice none 0 0] 89)).alloc (.cells #[.bool false, .slice none 0 0] 89)) := ⟨_, rfl⟩
  have hYz : Y.heap.size = w.heap.size + 1 + 1 + 1 + 1 := by rw [hY]; simp
  have hY1 : Blk Y w.heap.size 89 #[.bool b, .slice A na c] := by rw [hY]; exact (((Blk.new _ _ _).alloc _).alloc _).alloc _
  have hY2 : Blk Y (w.heap.size + 1) 89 #[.bool b2, .slice A2 nb c2] := by rw [hY]; exact ((Blk.new_at _ _ _ (by simp)).alloc _).alloc _
  have hY3 : Blk Y (w.heap.size + 1 + 1) 89 #[.bool false, .slice none 0 0] := by rw [hY]; exact (Blk.new_at _ _ _ (by simp)).alloc _
  have hY4 : Blk Y (w.heap.size + 1 + 1 + 1) 89 #[.bool false, .slice none 0 0] := by rw [hY]; exact Blk.new_at _ _ _ (by simp)
  have hYw : Below w.heap.size w Y := by rw [hY]; exact ((((Below.refl _ _).alloc (Nat.le_refl _) _).alloc (by simp) _).alloc (by simp; omega) _).alloc (by simp; omega) _
  obtain ⟨X, hX⟩ : ∃ X, X = (Y.alloc (.cells #[.bool false, .slice none 0 0] 89)).alloc (.cells #[.bool false, .slice none 0 0] 89) := ⟨_, rfl⟩
  have hXz : X.heap.size = Y.heap.size + 1 + 1 := by rw [hX]; simp
  have hX5 : Blk X Y.heap.size 89 #[.bool false, .slice none 0 0] := by rw [hX]; exact (Blk.new _ _ _).alloc _
  have hX6 : Blk X (Y.heap.size + 1) 89 #[.bool false, .slice none 0 0] := by rw [hX]; exact Blk.new_at _ _ _ (by simp)
  have hYX : Below Y.heap.size Y X := by rw [hX]; exact ((Below.refl _ _).alloc (Nat.le_refl _) _).alloc (by simp) _
  have zero : ∀ g, Blk X g 89 #[.bool false, .slice none 0 0] → ∀ N, NumV X w.heap.size g 0 N := fun g hg N => ⟨false, none, [], 0, hg, ⟨by simp [dints], .inl ⟨rfl, rfl⟩⟩, ⟨Dig.nil, fun k x h => by simp at h, fun h => by cases h⟩, rfl, Nat.zero_le _⟩
  have HQ := Lib.hid (zero _ hX5 na)
  have HRr := Lib.hid (zero _ hX6 nb)
  have HOF := Lib.hid (of_any 1 X (by decide) (by decide))
  have HYX := Lib.hid hYX
  have HYZ := Lib.hid hYz
  have HXZ := Lib.hid hXz
  have HY := Lib.hid hY
  have HX := Lib.hid hX
  have HYW := Lib.hid hYw
  have HB1 := Lib.hid hY1
  have HB2 := Lib.hid hY2
  have HB3 := Lib.hid hY3
  have HB4 := Lib.hid hY4
  have HR := Lib.hid (hr.below hYw hB)
  have HR2 := Lib.hid (hr2.below hYw hB)
  have HOK := Lib.hid hok
  have HOK2 := Lib.hid hok2
  have HSV := Lib.hid (And.intro hsv hsv2)
  have HNA := Lib.hid hna
  have HNB := Lib.hid hnb
  rw [← hna, ← hnb]
  clear zero hX hX5 hX6 hXz hY hY1 hY2 hY3 hY4 hYw hYX hYz hr hr2 hok hok2 hsv hsv2 hc2 hna hnb
  go_enter Try.func48, Try.ntmps48
  go_upto_region 1 with fail
  rw [← HY.out]
  go_upto_region 3 with fail
  rw [← HX.out]
  obtain ⟨g, hg⟩ : ∃ g, g = Y.heap.size := ⟨_, rfl⟩
  rw [← hg] at HQ HRr HYX HYZ HXZ ⊢
  have HG := Lib.hid hg
  have hgB : w.heap.size + 1 + 1 + 1 < g := by have := HYZ.out; omega
  clear hg
  go_wp2_with fail
  refine HOF.out.mono ?_
  rintro e w3 ⟨v, rfl, ⟨b3, A3, d3, c3, rfl, ho3, hok3, hsv3, hl3⟩, hbl3⟩
  have Ho : Hid (NumV (w3.alloc (.cells #[.bool b3, .slice A3 d3.length c3] 89)) w.heap.size w3.heap.size 1 4) := Lib.hid ⟨b3, A3, d3, c3, Blk.new _ _ _, own_mono7 (base' := w.heap.size) (own_alloc ho3 _) (by have := HXZ.out; omega), hok3, hsv3, hl3⟩
  have Hq := Lib.hid ((HQ.out.keep hbl3).alloc (.cells #[.bool b3, .slice A3 d3.length c3] 89))
  have Hr := Lib.hid ((HRr.out.keep hbl3).alloc (.cells #[.bool b3, .slice A3 d3.length c3] 89))
  have HBL := Lib.hid ((HYX.out.trans (hbl3.mono (by have := HXZ.out; omega))).alloc (by have := HXZ.out; have := hbl3.size; omega) (.cells #[.bool b3, .slice A3 d3.length c3] 89))
  obtain ⟨ob, hob⟩ : ∃ ob, ob = w3.heap.size := ⟨_, rfl⟩
  have hobB : g + 1 < ob := by have := HXZ.out; have := hbl3.size; omega
  clear ho3 hok3 hsv3 hbl3 hl3 HQ HRr HOF HYX HXZ HX
  dsimp only
  go_upto_region 4 with fail
  generalize w3.alloc (.cells #[.bool b3, .slice A3 d3.length c3] 89) = Z at *
  rw [← hob] at Ho ⊢
  clear hob
  obtain ⟨V, hVd⟩ : ∃ V, V = val d := ⟨_, rfl⟩
  have hV0 : 0 ≤ V := by rw [hVd]; exact val_nonneg HOK.out.dig
  have hVn : V < pw na := by rw [hVd, HNA.out]; exact val_lt HOK.out.dig
  have hyn : y < pw nb := by
    have h1 := HSV.out.2
    have h2 := val_lt HOK2.out.dig
    have h3 := val_nonneg HOK2.out.dig
    rw [← HNB.out] at h2
    unfold sv at h1
    split at h1 <;> omega
  have HVD := Lib.hid hVd
  have HVN := Lib.hid hVn
  have HYN := Lib.hid hyn
  have h0 : PtI V y Y w.heap.size g ob na nb (.int .i64 (16 * (na : Int) - 1)) Z := ⟨16 * na, 0, 0, by congr 1, Nat.le_refl _, by
    rw [← pw_two, Int.ediv_eq_zero_of_lt hV0 hVn]; simp, Int.le_refl _, hy, Int.le_refl _, Hq.out, Hr.out, Ho.out, HBL.out⟩
  have H0 := Lib.hid h0
  have p1 : Z.cell? ⟨w.heap.size, 1, none⟩ = some (.slice A na c) := by rw [(HB1.out.below HBL.out (by omega)).cell]; rfl
  have pl := (HB1.out.below HBL.out (by omega)).lt
  have HBLZ := HBL
  clear h0 hVd hVn hyn Hq Hr Ho HBL HY
  go_wp2_with fail
  go_loopw [9] (fun i wx => PtI V y Y w.heap.size g ob na nb i wx) (fun i _ => (intOf i + 1).toNat)
  case atStart => exact H0.out
  case round =>
    clear H0 p1 pl
    obtain ⟨k, Q, R, rfl, hk, hV, hR0, hR1, hQ0, hq, hr, ho, hbl⟩ := hrel
    have Hq := Lib.hid hq
    have Hr := Lib.hid hr
    have Ho := Lib.hid ho
    have HBL := Lib.hid hbl
    have HV := Lib.hid hV
    clear hq hr ho hbl hV
    cases k with
    | zero =>
      have hQR : V = Q * y + R := by have h1 := HV.out; rwa [show (2 : Int) ^ 0 = 1 from rfl, Int.ediv_one] at h1
      have HQR := Lib.hid hQR
      have e0 : wr.cell? ⟨w.heap.size, 0, none⟩ = some (.bool b) := by rw [(HB1.out.below HBL.out (by omega)).cell]; rfl
      have el := (HB1.out.below HBL.out (by omega)).lt
      clear hQR HV
      cases b
      · go_upto_region 15 with fail
        obtain ⟨b4, A4, d4, c4, hk4, ho4, ok4, sv4, l4⟩ := Hq.out
        obtain ⟨b5, A5, d5, c5, hk5, ho5, ok5, sv5, l5⟩ := Hr.out
        have hxV : x = V := by have h1 := HSV.out.1; rw [HVD.out, ← h1]; rfl
        have hr1 := (HB3.out.below HBL.out (by omega)).drew
        have hr2 := (HB4.out.below HBL.out (by omega)).drew
        have hq1 : x / y = Q ∧ x % y = R := by
          have h1 := HQR.out
          rw [hxV, h1, Int.add_comm, Int.add_mul_ediv_right _ _ (by omega), Int.ediv_eq_zero_of_lt hR0 hR1, Int.add_mul_emod_self_right, Int.emod_eq_of_lt hR0 hR1]
          omega
        have HQ1 := Lib.hid hq1
        have hS : (fun w' : World => w'.cell? ⟨g, 0, none⟩ = some (.bool b4) ∧ w'.cell? ⟨g, 1, none⟩ = some (.slice A4 d4.length c4) ∧ w'.cell? ⟨g + 1, 0, none⟩ = some (.bool b5) ∧ w'.cell? ⟨g + 1, 1, none⟩ = some (.slice A5 d5.length c5)) wr.drew := ⟨by rw [hk4.drew.cell]; rfl, by rw [hk4.drew.cell]; rfl, by rw [hk5.drew.cell]; rfl, by rw [hk5.drew.cell]; rfl⟩
        have k41 := (hk4.drew.far (p := ⟨w.heap.size + 1 + 1, 0, none⟩) (by show g ≠ w.heap.size + 1 + 1; omega) (.bool b4)).far (p := ⟨w.heap.size + 1 + 1, 1, none⟩) (by show g ≠ w.heap.size + 1 + 1; omega) (.slice A4 d4.length c4)
        have k51 := (hk5.drew.far (p := ⟨w.heap.size + 1 + 1, 0, none⟩) (by show g + 1 ≠ w.heap.size + 1 + 1; omega) (.bool b4)).far (p := ⟨w.heap.size + 1 + 1, 1, none⟩) (by show g + 1 ≠ w.heap.size + 1 + 1; omega) (.slice A4 d4.length c4)
        have hS1 : (fun w' : World => w'.cell? ⟨g, 0, none⟩ = some (.bool b4) ∧ w'.cell? ⟨g, 1, none⟩ = some (.slice A4 d4.length c4) ∧ w'.cell? ⟨g + 1, 0, none⟩ = some (.bool b5) ∧ w'.cell? ⟨g + 1, 1, none⟩ = some (.slice A5 d5.length c5)) ((wr.drew.setCell ⟨w.heap.size + 1 + 1, 0, none⟩ (.bool b4)).setCell ⟨w.heap.size + 1 + 1, 1, none⟩ (.slice A4 d4.length c4)) := ⟨by rw [k41.cell]; rfl, by rw [k41.cell]; rfl, by rw [k51.cell]; rfl, by rw [k51.cell]; rfl⟩
        have hr11 := (hr1.set_ 0 (.bool b4)).set_ 1 (.slice A4 d4.length c4)
        have hr21 := (hr2.far (p := ⟨w.heap.size + 1 + 1, 0, none⟩) (by show w.heap.size + 1 + 1 + 1 ≠ w.heap.size + 1 + 1; omega) (.bool b4)).far (p := ⟨w.heap.size + 1 + 1, 1, none⟩) (by show w.heap.size + 1 + 1 + 1 ≠ w.heap.size + 1 + 1; omega) (.slice A4 d4.length c4)
        have hr12 := (hr11.far (p := ⟨w.heap.size + 1 + 1 + 1, 0, none⟩) (by show w.heap.size + 1 + 1 ≠ w.heap.size + 1 + 1 + 1; omega) (.bool b5)).far (p := ⟨w.heap.size + 1 + 1 + 1, 1, none⟩) (by show w.heap.size + 1 + 1 ≠ w.heap.size + 1 + 1 + 1; omega) (.slice A5 d5.length c5)
        have hr22 := (hr21.set_ 0 (.bool b5)).set_ 1 (.slice A5 d5.length c5)
        have HO1 := Lib.hid (own_set7 (i := 1) (u := .slice A5 d5.length c5) (own_set7 (i := 0) (u := .bool b5) (own_set7 (i := 1) (u := .slice A4 d4.length c4) (own_set7 (i := 0) (u := .bool b4) (own_keep (w' := wr.drew) ho4 fun _ _ => rfl) hr1 (by decide)) (hr1.set_ 0 (.bool b4)) (by decide)) hr21 (by decide)) (hr21.set_ 0 (.bool b5)) (by decide))
        have HO2 := Lib.hid (own_set7 (i := 1) (u := .slice A5 d5.length c5) (own_set7 (i := 0) (u := .bool b5) (own_set7 (i := 1) (u := .slice A4 d4.length c4) (own_set7 (i := 0) (u := .bool b4) (own_keep (w' := wr.drew) ho5 fun _ _ => rfl) hr1 (by decide)) (hr1.set_ 0 (.bool b4)) (by decide)) hr21 (by decide)) (hr21.set_ 0 (.bool b5)) (by decide))
        have HF := Lib.hid (((((HYW.out.trans (HBL.out.mono (by omega))).drew.setCell (p := ⟨w.heap.size + 1 + 1, 0, none⟩) (by show w.heap.size ≤ w.heap.size + 1 + 1; omega) (.bool b4)).setCell (p := ⟨w.heap.size + 1 + 1, 1, none⟩) (by show w.heap.size ≤ w.heap.size + 1 + 1; omega) (.slice A4 d4.length c4)).setCell (p := ⟨w.heap.size + 1 + 1 + 1, 0, none⟩) (by show w.heap.size ≤ w.heap.size + 1 + 1 + 1; omega) (.bool b5)).setCell (p := ⟨w.heap.size + 1 + 1 + 1, 1, none⟩) (by show w.heap.size ≤ w.heap.size + 1 + 1 + 1; omega) (.slice A5 d5.length c5))
        have HR12 := Lib.hid hr12
        have HR22 := Lib.hid hr22
        have HOK4 := Lib.hid ok4
        have HOK5 := Lib.hid ok5
        have HSV4 := Lib.hid sv4
        have HSV5 := Lib.hid sv5
        have m0 := hr1.cell
        have m1 := hr1.frozen
        have m2 := hr1.lt
        have n0 := hr21.cell
        have n1 := hr21.frozen
        have n2 := hr21.lt
        clear hxV hq1 hk4 ho4 ok4 sv4 hk5 ho5 ok5 sv5 hr1 hr2 k41 k51 hr11 hr21 hr12 hr22 e0 el
        refine wp_region_seqT (fun i => !([2, 3] : List Nat).contains i) (fun i => ([0, 1] : List Nat).contains i) (fun i => ([2] : List Nat).contains i) [0, 1, 2, 3] (fun w' : World => w'.cell? ⟨g, 0, none⟩ = some (.bool b4) ∧ w'.cell? ⟨g, 1, none⟩ = some (.slice A4 d4.length c4) ∧ w'.cell? ⟨g + 1, 0, none⟩ = some (.bool b5) ∧ w'.cell? ⟨g + 1, 1, none⟩ = some (.slice A5 d5.length c5)) (by kernel_rfl) (by kernel_rfl) (by kernel_rfl) (by kernel_rfl) ?_
        generalize wr.drew = U at *
        refine wpSeq_load (v := _) rfl rfl (by kernel_rfl) (fun _ _ _ h => h) hS rfl (fun wq hq => by (try have hq1 := hq.1); (try have hq2 := hq.2.1); (try have hq3 := hq.2.2.1); (try have hq4 := hq.2.2.2.1); (try have hq5 := hq.2.2.2.2.1); (try have hq6 := hq.2.2.2.2.2.1); (try have hq7 := hq.2.2.2.2.2.2); (try have hr2 := hq.2); (try have hr3 := hq.2.2); (try have hr4 := hq.2.2.2); (try have hr5 := hq.2.2.2.2); first | (go_simp; done) | (go_simp; rfl)) ?_
        refine wpSeq_load (v := _) rfl rfl (by kernel_rfl) (fun _ _ _ h => h) hS rfl (fun wq hq => by (try have hq1 := hq.1); (try have hq2 := hq.2.1); (try have hq3 := hq.2.2.1); (try have hq4 := hq.2.2.2.1); (try have hq5 := hq.2.2.2.2.1); (try have hq6 := hq.2.2.2.2.2.1); (try have hq7 := hq.2.2.2.2.2.2); (try have hr2 := hq.2); (try have hr3 := hq.2.2); (try have hr4 := hq.2.2.2); (try have hr5 := hq.2.2.2.2); first | (go_simp; done) | (go_simp; rfl)) ?_
        refine wpSeq_heavy rfl rfl (fun K hK => ?_); go_simp
        refine hK _ _ (fun _ => hS1) ?_; clear hK K
        refine wpSeq_heavy rfl rfl (fun K hK => ?_); go_simp
        refine hK _ _ (fun h => by cases h) ?_; clear hK K
        refine wpSeq_end ?_
        clear hS hS1 m0 m1 m2 n0 n1 n2
        generalize (((U.setCell ⟨w.heap.size + 1 + 1, 0, none⟩ (.bool b4)).setCell ⟨w.heap.size + 1 + 1, 1, none⟩ (.slice A4 d4.length c4)).setCell ⟨w.heap.size + 1 + 1 + 1, 0, none⟩ (.bool b5)).setCell ⟨w.heap.size + 1 + 1 + 1, 1, none⟩ (.slice A5 d5.length c5) = W4 at *
        go_wp2_with fail
        have y0 := HR12.out.cell 0
        have y1 := HR12.out.cell 1
        have y2 := HR22.out.cell 0
        have y3 := HR22.out.cell 1
        simp at y0 y1 y2 y3
        refine bodyPost_ret (v := .tuple #[.agg #[.bool b4, .slice A4 d4.length c4], .agg #[.bool b5, .slice A5 d5.length c5]]) (by simp [results, Try.results48, go_sem, y0, y1, y2, y3]) rfl ?_
        exact ⟨_, _, rfl, ⟨b4, A4, d4, c4, rfl, HO1.out, HOK4.out, by rw [HSV4.out, HQ1.out.1], by omega⟩, ⟨b5, A5, d5, c5, rfl, HO2.out, HOK5.out, by rw [HSV5.out, HQ1.out.2], by omega⟩, HF.out⟩

      · obtain ⟨b4, A4, d4, c4, hk4, is4, -⟩ := Hq.out.is
        obtain ⟨b5, A5, d5, c5, hk5, ho5, ok5, sv5, l5⟩ := Hr.out
        have f1 := hk5.cell 1
        have fl := hk5.lt
        simp only [List.getElem?_toArray, List.getElem?_cons_zero, List.getElem?_cons_succ] at f1
        have hxV : x = -V := by have h1 := HSV.out.1; rw [HVD.out, ← h1]; rfl
        have HXV := Lib.hid hxV
        clear hxV
        by_cases hz : d5.length = 0
        · have hRz : R = 0 := by rw [← sv5, List.length_eq_zero_iff.1 hz]; unfold sv; simp [val]
          have hzb : ((d5.length : Int) == 0) = true := by rw [hz]; rfl
          clear hz
          go_upto_region 17 with fail
          have hr1 := (HB3.out.below HBL.out (by omega)).drew
          have hr2 := (HB4.out.below HBL.out (by omega)).drew
          have hq1 : x / y = -Q ∧ x % y = 0 := by
            have h1 := HQR.out
            rw [hRz, Int.add_zero] at h1
            rw [HXV.out, h1, ← Int.neg_mul, Int.mul_ediv_cancel _ (by omega), Int.mul_emod_left]
            exact ⟨rfl, rfl⟩
          have HQ1 := Lib.hid hq1
          have HNG := Lib.hid (neg_any (.agg #[.bool b4, .slice A4 d4.length c4]) Q na wr.heap.size wr.drew (is4.keep (Below.refl _ _).drew (Nat.le_refl _)) (Nat.le_refl _) (by omega))
          have HK4 := Lib.hid hk4.drew
          have HK5 := Lib.hid hk5.drew
          have HR1 := Lib.hid hr1
          have HR2' := Lib.hid hr2
          have HO5 : Hid (wr.drew.ownsRow w.heap.size 3 1 (.slice A5 d5.length c5) d5.length (dints d5)) := Lib.hid (own_keep (w' := wr.drew) ho5 fun _ _ => rfl)
          have HOK5 := Lib.hid ok5
          have HSV5 : Hid (sv b5 d5 = 0) := Lib.hid (by rw [sv5, hRz])
          have HBU := Lib.hid ((HYW.out.trans (HBL.out.mono (by omega))).drew)
          have hsU : w.heap.size ≤ wr.drew.heap.size := HBU.out.size
          have hS : (fun w' : World => w'.cell? ⟨g, 0, none⟩ = some (.bool b4) ∧ w'.cell? ⟨g, 1, none⟩ = some (.slice A4 d4.length c4) ∧ w'.cell? ⟨g + 1, 0, none⟩ = some (.bool b5) ∧ w'.cell? ⟨g + 1, 1, none⟩ = some (.slice A5 d5.length c5)) wr.drew := ⟨by rw [hk4.drew.cell]; rfl, by rw [hk4.drew.cell]; rfl, by rw [hk5.drew.cell]; rfl, by rw [hk5.drew.cell]; rfl⟩
          clear hq1 hk4 is4 hk5 ho5 ok5 sv5 hr1 hr2 e0 el f1 fl
          refine wp_region_seqT (fun i => !([1, 3, 4] : List Nat).contains i) (fun i => ([0, 2] : List Nat).contains i) (fun i => ([1, 3] : List Nat).contains i) [0, 2, 1, 3, 4] (fun w' : World => w'.cell? ⟨g, 0, none⟩ = some (.bool b4) ∧ w'.cell? ⟨g, 1, none⟩ = some (.slice A4 d4.length c4) ∧ w'.cell? ⟨g + 1, 0, none⟩ = some (.bool b5) ∧ w'.cell? ⟨g + 1, 1, none⟩ = some (.slice A5 d5.length c5)) (by kernel_rfl) (by kernel_rfl) (by kernel_rfl) (by kernel_rfl) ?_
          generalize wr.drew = U at *
          refine wpSeq_load (v := _) rfl rfl (by kernel_rfl) (fun _ _ _ h => h) hS rfl (fun wq hq => by (try have hq1 := hq.1); (try have hq2 := hq.2.1); (try have hq3 := hq.2.2.1); (try have hq4 := hq.2.2.2.1); (try have hq5 := hq.2.2.2.2.1); (try have hq6 := hq.2.2.2.2.2.1); (try have hq7 := hq.2.2.2.2.2.2); (try have hr2 := hq.2); (try have hr3 := hq.2.2); (try have hr4 := hq.2.2.2); (try have hr5 := hq.2.2.2.2); first | (go_simp; done) | (go_simp; rfl)) ?_
          refine wpSeq_load (v := _) rfl rfl (by kernel_rfl) (fun _ _ _ h => h) hS rfl (fun wq hq => by (try have hq1 := hq.1); (try have hq2 := hq.2.1); (try have hq3 := hq.2.2.1); (try have hq4 := hq.2.2.2.1); (try have hq5 := hq.2.2.2.2.1); (try have hq6 := hq.2.2.2.2.2.1); (try have hq7 := hq.2.2.2.2.2.2); (try have hr2 := hq.2); (try have hr3 := hq.2.2); (try have hr4 := hq.2.2.2); (try have hr5 := hq.2.2.2.2); first | (go_simp; done) | (go_simp; rfl)) ?_
          refine wpSeq_heavy rfl rfl (fun K hK => ?_); go_simp
          refine HNG.out.mono ?_
          rintro e w3 ⟨v, rfl, ⟨b3, A3, d3, c3, rfl, ho3, hok3, hsv3, hl3⟩, hbl3⟩
          have hk4 := HK4.out.below hbl3 HK4.out.lt
          have hk5 := HK5.out.below hbl3 HK5.out.lt
          have hr1 := HR1.out.below hbl3 HR1.out.lt
          have hr2 := HR2'.out.below hbl3 HR2'.out.lt
          have ho5 := own_keep HO5.out fun g hg => hbl3.block g (own_lt HO5.out hg)
          have ho3' := own_mono7 (base' := w.heap.size) ho3 hsU
          have hS2 : (fun w' : World => w'.cell? ⟨g, 0, none⟩ = some (.bool b4) ∧ w'.cell? ⟨g, 1, none⟩ = some (.slice A4 d4.length c4) ∧ w'.cell? ⟨g + 1, 0, none⟩ = some (.bool b5) ∧ w'.cell? ⟨g + 1, 1, none⟩ = some (.slice A5 d5.length c5)) w3 := ⟨by rw [hk4.cell]; rfl, by rw [hk4.cell]; rfl, by rw [hk5.cell]; rfl, by rw [hk5.cell]; rfl⟩
          have k41 := (hk4.far (p := ⟨w.heap.size + 1 + 1, 0, none⟩) (by show g ≠ w.heap.size + 1 + 1; omega) (.bool b3)).far (p := ⟨w.heap.size + 1 + 1, 1, none⟩) (by show g ≠ w.heap.size + 1 + 1; omega) (.slice A3 d3.length c3)
          have k51 := (hk5.far (p := ⟨w.heap.size + 1 + 1, 0, none⟩) (by show g + 1 ≠ w.heap.size + 1 + 1; omega) (.bool b3)).far (p := ⟨w.heap.size + 1 + 1, 1, none⟩) (by show g + 1 ≠ w.heap.size + 1 + 1; omega) (.slice A3 d3.length c3)
          have hS1 : (fun w' : World => w'.cell? ⟨g, 0, none⟩ = some (.bool b4) ∧ w'.cell? ⟨g, 1, none⟩ = some (.slice A4 d4.length c4) ∧ w'.cell? ⟨g + 1, 0, none⟩ = some (.bool b5) ∧ w'.cell? ⟨g + 1, 1, none⟩ = some (.slice A5 d5.length c5)) ((w3.setCell ⟨w.heap.size + 1 + 1, 0, none⟩ (.bool b3)).setCell ⟨w.heap.size + 1 + 1, 1, none⟩ (.slice A3 d3.length c3)) := ⟨by rw [k41.cell]; rfl, by rw [k41.cell]; rfl, by rw [k51.cell]; rfl, by rw [k51.cell]; rfl⟩
          have hr11 := (hr1.set_ 0 (.bool b3)).set_ 1 (.slice A3 d3.length c3)
          have hr21 := (hr2.far (p := ⟨w.heap.size + 1 + 1, 0, none⟩) (by show w.heap.size + 1 + 1 + 1 ≠ w.heap.size + 1 + 1; omega) (.bool b3)).far (p := ⟨w.heap.size + 1 + 1, 1, none⟩) (by show w.heap.size + 1 + 1 + 1 ≠ w.heap.size + 1 + 1; omega) (.slice A3 d3.length c3)
          have hr12 := (hr11.far (p := ⟨w.heap.size + 1 + 1 + 1, 0, none⟩) (by show w.heap.size + 1 + 1 ≠ w.heap.size + 1 + 1 + 1; omega) (.bool b5)).far (p := ⟨w.heap.size + 1 + 1 + 1, 1, none⟩) (by show w.heap.size + 1 + 1 ≠ w.heap.size + 1 + 1 + 1; omega) (.slice A5 d5.length c5)
          have hr22 := (hr21.set_ 0 (.bool b5)).set_ 1 (.slice A5 d5.length c5)
          have HO1 := Lib.hid (own_set7 (i := 1) (u := .slice A5 d5.length c5) (own_set7 (i := 0) (u := .bool b5) (own_set7 (i := 1) (u := .slice A3 d3.length c3) (own_set7 (i := 0) (u := .bool b3) ho3' hr1 (by decide)) (hr1.set_ 0 (.bool b3)) (by decide)) hr21 (by decide)) (hr21.set_ 0 (.bool b5)) (by decide))
          have HO2 := Lib.hid (own_set7 (i := 1) (u := .slice A5 d5.length c5) (own_set7 (i := 0) (u := .bool b5) (own_set7 (i := 1) (u := .slice A3 d3.length c3) (own_set7 (i := 0) (u := .bool b3) ho5 hr1 (by decide)) (hr1.set_ 0 (.bool b3)) (by decide)) hr21 (by decide)) (hr21.set_ 0 (.bool b5)) (by decide))
          have HF := Lib.hid (((((HBU.out.trans (hbl3.mono hsU)).setCell (p := ⟨w.heap.size + 1 + 1, 0, none⟩) (by show w.heap.size ≤ w.heap.size + 1 + 1; omega) (.bool b3)).setCell (p := ⟨w.heap.size + 1 + 1, 1, none⟩) (by show w.heap.size ≤ w.heap.size + 1 + 1; omega) (.slice A3 d3.length c3)).setCell (p := ⟨w.heap.size + 1 + 1 + 1, 0, none⟩) (by show w.heap.size ≤ w.heap.size + 1 + 1 + 1; omega) (.bool b5)).setCell (p := ⟨w.heap.size + 1 + 1 + 1, 1, none⟩) (by show w.heap.size ≤ w.heap.size + 1 + 1 + 1; omega) (.slice A5 d5.length c5))
          have HR12 := Lib.hid hr12
          have HR22 := Lib.hid hr22
          have HOK3 := Lib.hid hok3
          have HSV3 := Lib.hid hsv3
          have m0 := hr1.cell
          have m1 := hr1.frozen
          have m2 := hr1.lt
          have n0 := hr21.cell
          have n1 := hr21.frozen
          have n2 := hr21.lt
          clear hk4 hk5 hr1 hr2 ho5 ho3' ho3 hok3 hsv3 hbl3 k41 k51 hr11 hr21 hr12 hr22
          dsimp only
          refine hK _ _ (fun _ => hS2) ?_; clear hK K
          refine wpSeq_heavy rfl rfl (fun K hK => ?_); go_simp
          refine hK _ _ (fun _ => hS1) ?_; clear hK K
          refine wpSeq_heavy rfl rfl (fun K hK => ?_); go_simp
          refine hK _ _ (fun h => by cases h) ?_; clear hK K
          refine wpSeq_end ?_
          clear hS hS1 hS2 m0 m1 m2 n0 n1 n2
          generalize (((w3.setCell ⟨w.heap.size + 1 + 1, 0, none⟩ (.bool b3)).setCell ⟨w.heap.size + 1 + 1, 1, none⟩ (.slice A3 d3.length c3)).setCell ⟨w.heap.size + 1 + 1 + 1, 0, none⟩ (.bool b5)).setCell ⟨w.heap.size + 1 + 1 + 1, 1, none⟩ (.slice A5 d5.length c5) = W4 at *
          go_wp2_with fail
          have y0 := HR12.out.cell 0
          have y1 := HR12.out.cell 1
          have y2 := HR22.out.cell 0
          have y3 := HR22.out.cell 1
          simp at y0 y1 y2 y3
          refine bodyPost_ret (v := .tuple #[.agg #[.bool b3, .slice A3 d3.length c3], .agg #[.bool b5, .slice A5 d5.length c5]]) (by simp [results, Try.results48, go_sem, y0, y1, y2, y3]) rfl ?_
          exact ⟨_, _, rfl, ⟨b3, A3, d3, c3, rfl, HO1.out, HOK3.out, by rw [HSV3.out, HQ1.out.1], by omega⟩, ⟨b5, A5, d5, c5, rfl, HO2.out, HOK5.out, by rw [HSV5.out, HQ1.out.2], by omega⟩, HF.out⟩

        · have hRz : R ≠ 0 := by
            intro e
            rw [e] at sv5
            have h1 := ok5.abs
            rw [sv5] at h1
            exact hz (List.length_eq_zero_iff.2 (ok5.zero.2 h1))
          have hzb : ((d5.length : Int) == 0) = false := by
            rw [beq_eq_false_iff_ne]
            omega
          clear hz
          go_upto_region 18 with fail
          obtain ⟨b6, A6, d6, c6, hk6, is6, -⟩ := Ho.out.is
          have hr10 := (HB3.out.below HBL.out (by omega)).drew
          have hr20 := (HB4.out.below HBL.out (by omega)).drew
          have hkb0 := (HB2.out.below HBL.out (by omega)).drew
          have hkq0 := hk4.drew
          have hkr0 := hk5.drew
          have hko0 := hk6.drew
          have hq1 : x / y = -(Q + 1) ∧ x % y = y + -R := by
            have h1 := HQR.out
            have h2 : x = (y + -R) + (-(Q + 1)) * y := by rw [HXV.out, h1, Int.neg_mul, Int.add_mul, Int.one_mul]; omega
            rw [h2, Int.add_mul_ediv_right _ _ (by omega), Int.ediv_eq_zero_of_lt (by omega) (by omega), Int.add_mul_emod_self_right, Int.emod_eq_of_lt (by omega) (by omega)]
            omega
          have HQ1 := Lib.hid hq1
          have i4 := is4.keep (Below.refl wr.heap.size wr).drew (Nat.le_refl _)
          have i6 := is6.keep (Below.refl wr.heap.size wr).drew (Nat.le_refl _)
          have h57 : d5.length ≤ c5 ∧ c5 ≤ maxLen := by
            obtain ⟨A5', c5', e5, h55, h56⟩ := own_form ho5
            injection e5 with _ _ e5
            subst e5
            exact ⟨h55, h56⟩
          have i5 : NumIs wr.drew wr.heap.size (.agg #[.bool b5, .slice A5 d5.length c5]) R nb := ⟨b5, A5, d5, c5, rfl, (Reads.of_own ho5).below (Below.refl wr.heap.size wr).drew (Nat.le_refl _), ok5, sv5, l5, h57.1, h57.2⟩
          have hRB := HR2.out.below HBL.out (by have := HG.out; have := HYZ.out; omega)
          have ib : NumIs wr.drew B (.agg #[.bool b2, .slice A2 nb c2]) y nb := ⟨b2, A2, d2, c2, by rw [HNB.out], hRB.keep fun _ _ => rfl, HOK2.out, HSV.out.2, by have := HNB.out; omega, by have := HNB.out; omega, hcc22⟩
          have hBw : B ≤ wr.drew.heap.size := by show B ≤ wr.heap.size; have := HBL.out.size; have := HG.out; omega
          have HBU := Lib.hid ((HYW.out.trans (HBL.out.mono (by omega))).drew)
          have hsU : w.heap.size ≤ wr.drew.heap.size := HBU.out.size
          have HI4 : Hid (NumIs wr.drew wr.drew.heap.size (.agg #[.bool b4, .slice A4 d4.length c4]) Q na) := Lib.hid i4
          have HI6 : Hid (NumIs wr.drew wr.drew.heap.size (.agg #[.bool b6, .slice A6 d6.length c6]) 1 4) := Lib.hid i6
          have HI5 : Hid (NumIs wr.drew wr.drew.heap.size (.agg #[.bool b5, .slice A5 d5.length c5]) R nb) := Lib.hid i5
          have HIB := Lib.hid (ib.keep (Below.refl B wr.drew) hBw)
          have hS : (fun w' : World => w'.cell? ⟨g, 0, none⟩ = some (.bool b4) ∧ w'.cell? ⟨g, 1, none⟩ = some (.slice A4 d4.length c4) ∧ w'.cell? ⟨g + 1, 0, none⟩ = some (.bool b5) ∧ w'.cell? ⟨g + 1, 1, none⟩ = some (.slice A5 d5.length c5) ∧ w'.cell? ⟨ob, 0, none⟩ = some (.bool b6) ∧ w'.cell? ⟨ob, 1, none⟩ = some (.slice A6 d6.length c6) ∧ w'.cell? ⟨w.heap.size + 1, 0, none⟩ = some (.bool b2) ∧ w'.cell? ⟨w.heap.size + 1, 1, none⟩ = some (.slice A2 nb c2)) wr.drew := ⟨by rw [hkq0.cell]; rfl, by rw [hkq0.cell]; rfl, by rw [hkr0.cell]; rfl, by rw [hkr0.cell]; rfl, by rw [hko0.cell]; rfl, by rw [hko0.cell]; rfl, by rw [hkb0.cell]; rfl, by rw [hkb0.cell]; rfl⟩
          have HKS := Lib.hid (And.intro hkq0 (And.intro hkr0 (And.intro hko0 (And.intro hkb0 (And.intro hr10 hr20)))))
          clear hq1 hk4 is4 hk5 ho5 ok5 sv5 hk6 is6 i4 i5 i6 ib hRB h57 hr10 hr20 hkb0 hkq0 hkr0 hko0 e0 el f1 fl
          refine wp_region_seqT (fun i => !([2, 3, 6, 7, 8, 9] : List Nat).contains i) (fun i => ([0, 1, 4, 5] : List Nat).contains i) (fun i => ([2, 3, 6] : List Nat).contains i) [0, 1, 4, 5, 2, 3, 6, 7, 8, 9] (fun w' : World => w'.cell? ⟨g, 0, none⟩ = some (.bool b4) ∧ w'.cell? ⟨g, 1, none⟩ = some (.slice A4 d4.length c4) ∧ w'.cell? ⟨g + 1, 0, none⟩ = some (.bool b5) ∧ w'.cell? ⟨g + 1, 1, none⟩ = some (.slice A5 d5.length c5) ∧ w'.cell? ⟨ob, 0, none⟩ = some (.bool b6) ∧ w'.cell? ⟨ob, 1, none⟩ = some (.slice A6 d6.length c6) ∧ w'.cell? ⟨w.heap.size + 1, 0, none⟩ = some (.bool b2) ∧ w'.cell? ⟨w.heap.size + 1, 1, none⟩ = some (.slice A2 nb c2)) (by kernel_rfl) (by kernel_rfl) (by kernel_rfl) (by kernel_rfl) ?_
          generalize wr.drew = U at *
          refine wpSeq_load (v := _) rfl rfl (by kernel_rfl) (fun _ _ _ h => h) hS rfl (fun wq hq => by obtain ⟨hq1, hq2, hq3, hq4, hq5, hq6, hq7, hq8⟩ := hq; first | (go_simp; done) | (go_simp; rfl)) ?_
          refine wpSeq_load (v := _) rfl rfl (by kernel_rfl) (fun _ _ _ h => h) hS rfl (fun wq hq => by obtain ⟨hq1, hq2, hq3, hq4, hq5, hq6, hq7, hq8⟩ := hq; first | (go_simp; done) | (go_simp; rfl)) ?_
          refine wpSeq_load (v := _) rfl rfl (by kernel_rfl) (fun _ _ _ h => h) hS rfl (fun wq hq => by obtain ⟨hq1, hq2, hq3, hq4, hq5, hq6, hq7, hq8⟩ := hq; first | (go_simp; done) | (go_simp; rfl)) ?_
          refine wpSeq_load (v := _) rfl rfl (by kernel_rfl) (fun _ _ _ h => h) hS rfl (fun wq hq => by obtain ⟨hq1, hq2, hq3, hq4, hq5, hq6, hq7, hq8⟩ := hq; first | (go_simp; done) | (go_simp; rfl)) ?_
          have HC1 := Lib.hid (plus_any _ _ _ _ _ _ U.heap.size U HI4.out HI6.out (Nat.le_refl _) (by omega) (by omega))
          refine wpSeq_heavy rfl rfl (fun K hK => ?_); go_simp
          refine HC1.out.mono ?_
          rintro e w3 ⟨v, rfl, ⟨b7, A7, d7, c7, rfl, ho7, ok7, sv7, l7⟩, hbl7⟩
          obtain ⟨hkq0, hkr0, hko0, hkb0, hr10, hr20⟩ := HKS.out
          have hkq3 := hkq0.below hbl7 hkq0.lt
          have hkr3 := hkr0.below hbl7 hkr0.lt
          have hko3 := hko0.below hbl7 hko0.lt
          have hkb3 := hkb0.below hbl7 hkb0.lt
          have hr13 := hr10.below hbl7 hr10.lt
          have hr23 := hr20.below hbl7 hr20.lt
          have hS3 : (fun w' : World => w'.cell? ⟨g, 0, none⟩ = some (.bool b4) ∧ w'.cell? ⟨g, 1, none⟩ = some (.slice A4 d4.length c4) ∧ w'.cell? ⟨g + 1, 0, none⟩ = some (.bool b5) ∧ w'.cell? ⟨g + 1, 1, none⟩ = some (.slice A5 d5.length c5) ∧ w'.cell? ⟨ob, 0, none⟩ = some (.bool b6) ∧ w'.cell? ⟨ob, 1, none⟩ = some (.slice A6 d6.length c6) ∧ w'.cell? ⟨w.heap.size + 1, 0, none⟩ = some (.bool b2) ∧ w'.cell? ⟨w.heap.size + 1, 1, none⟩ = some (.slice A2 nb c2)) w3 := ⟨by rw [hkq3.cell]; rfl, by rw [hkq3.cell]; rfl, by rw [hkr3.cell]; rfl, by rw [hkr3.cell]; rfl, by rw [hko3.cell]; rfl, by rw [hko3.cell]; rfl, by rw [hkb3.cell]; rfl, by rw [hkb3.cell]; rfl⟩
          have HKS3 := Lib.hid (And.intro hkq3 (And.intro hkr3 (And.intro hko3 (And.intro hkb3 (And.intro hr13 hr23)))))
          have HB3' := Lib.hid (HBU.out.trans (hbl7.mono hsU))
          have hs3 : w.heap.size ≤ w3.heap.size := HB3'.out.size
          have hO7 : NumO U.heap.size w3 (.agg #[.bool b7, .slice A7 d7.length c7]) (Q + 1) (max na 4 + 1) := ⟨b7, A7, d7, c7, rfl, ho7, ok7, sv7, l7⟩
          have HN1 := Lib.hid (neg_any _ _ _ w3.heap.size w3 hO7.is (Nat.le_refl _) (by omega))
          have HI53 := Lib.hid (HI5.out.keep hbl7 hbl7.size)
          have HIB3 := Lib.hid (HIB.out.keep hbl7 hbl7.size)
          clear hkq0 hkr0 hko0 hkb0 hr10 hr20 hkq3 hkr3 hko3 hkb3 hr13 hr23 ho7 ok7 sv7 l7 hO7 hbl7 HC1 HKS HI4 HI5 HI6 HIB
          dsimp only
          refine hK _ _ (fun _ => hS3) ?_; clear hK K
          refine wpSeq_heavy rfl rfl (fun K hK => ?_); go_simp
          refine HN1.out.mono ?_
          rintro e w4 ⟨v, rfl, ⟨bb, AA, dd, cc, rfl, ho8, ok8, sv8, l8⟩, hbl8⟩
          obtain ⟨hkq0, hkr0, hko0, hkb0, hr10, hr20⟩ := HKS3.out
          have hkq3 := hkq0.below hbl8 hkq0.lt
          have hkr3 := hkr0.below hbl8 hkr0.lt
          have hko3 := hko0.below hbl8 hko0.lt
          have hkb3 := hkb0.below hbl8 hkb0.lt
          have hr13 := hr10.below hbl8 hr10.lt
          have hr23 := hr20.below hbl8 hr20.lt
          have hS4 : (fun w' : World => w'.cell? ⟨g, 0, none⟩ = some (.bool b4) ∧ w'.cell? ⟨g, 1, none⟩ = some (.slice A4 d4.length c4) ∧ w'.cell? ⟨g + 1, 0, none⟩ = some (.bool b5) ∧ w'.cell? ⟨g + 1, 1, none⟩ = some (.slice A5 d5.length c5) ∧ w'.cell? ⟨ob, 0, none⟩ = some (.bool b6) ∧ w'.cell? ⟨ob, 1, none⟩ = some (.slice A6 d6.length c6) ∧ w'.cell? ⟨w.heap.size + 1, 0, none⟩ = some (.bool b2) ∧ w'.cell? ⟨w.heap.size + 1, 1, none⟩ = some (.slice A2 nb c2)) w4 := ⟨by rw [hkq3.cell]; rfl, by rw [hkq3.cell]; rfl, by rw [hkr3.cell]; rfl, by rw [hkr3.cell]; rfl, by rw [hko3.cell]; rfl, by rw [hko3.cell]; rfl, by rw [hkb3.cell]; rfl, by rw [hkb3.cell]; rfl⟩
          have HKS4 := Lib.hid (And.intro hkq3 (And.intro hkr3 (And.intro hko3 (And.intro hkb3 (And.intro hr13 hr23)))))
          have HB4' := Lib.hid (HB3'.out.trans (hbl8.mono hs3))
          have hs4 : w.heap.size ≤ w4.heap.size := HB4'.out.size
          have HO8 := Lib.hid (own_mono7 (base' := w.heap.size) ho8 hs3)
          have HOK8 := Lib.hid ok8
          have HSV8 := Lib.hid sv8
          have HI54 := Lib.hid (HI53.out.keep hbl8 hbl8.size)
          have HIB4 := Lib.hid (HIB3.out.keep hbl8 hbl8.size)
          have HN2 := Lib.hid (neg_any _ _ _ w4.heap.size w4 HI54.out (Nat.le_refl _) (by omega))
          clear hkq0 hkr0 hko0 hkb0 hr10 hr20 hkq3 hkr3 hko3 hkb3 hr13 hr23 ho8 ok8 sv8 hbl8 HN1 HKS3 HI53 HIB3 HI54
          dsimp only
          refine hK _ _ (fun _ => hS4) ?_; clear hK K
          refine wpSeq_heavy rfl rfl (fun K hK => ?_); go_simp
          refine HN2.out.mono ?_
          rintro e w5 ⟨v, rfl, ⟨b9, A9, d9, c9, rfl, ho9, ok9, sv9, l9⟩, hbl9⟩
          obtain ⟨hkq0, hkr0, hko0, hkb0, hr10, hr20⟩ := HKS4.out
          have hkq3 := hkq0.below hbl9 hkq0.lt
          have hkr3 := hkr0.below hbl9 hkr0.lt
          have hko3 := hko0.below hbl9 hko0.lt
          have hkb3 := hkb0.below hbl9 hkb0.lt
          have hr13 := hr10.below hbl9 hr10.lt
          have hr23 := hr20.below hbl9 hr20.lt
          have hS5 : (fun w' : World => w'.cell? ⟨g, 0, none⟩ = some (.bool b4) ∧ w'.cell? ⟨g, 1, none⟩ = some (.slice A4 d4.length c4) ∧ w'.cell? ⟨g + 1, 0, none⟩ = some (.bool b5) ∧ w'.cell? ⟨g + 1, 1, none⟩ = some (.slice A5 d5.length c5) ∧ w'.cell? ⟨ob, 0, none⟩ = some (.bool b6) ∧ w'.cell? ⟨ob, 1, none⟩ = some (.slice A6 d6.length c6) ∧ w'.cell? ⟨w.heap.size + 1, 0, none⟩ = some (.bool b2) ∧ w'.cell? ⟨w.heap.size + 1, 1, none⟩ = some (.slice A2 nb c2)) w5 := ⟨by rw [hkq3.cell]; rfl, by rw [hkq3.cell]; rfl, by rw [hkr3.cell]; rfl, by rw [hkr3.cell]; rfl, by rw [hko3.cell]; rfl, by rw [hko3.cell]; rfl, by rw [hkb3.cell]; rfl, by rw [hkb3.cell]; rfl⟩
          have HKS5 := Lib.hid (And.intro hr13 hr23)
          have HB5' := Lib.hid (HB4'.out.trans (hbl9.mono hs4))
          have hs5 : w.heap.size ≤ w5.heap.size := HB5'.out.size
          have HO85 := Lib.hid (own_keep HO8.out fun g hg => hbl9.block g (own_lt HO8.out hg))
          have hO9 : NumO w4.heap.size w5 (.agg #[.bool b9, .slice A9 d9.length c9]) (-R) nb := ⟨b9, A9, d9, c9, rfl, ho9, ok9, sv9, l9⟩
          have HC2 := Lib.hid (plus_any _ _ _ _ _ _ w5.heap.size w5 (HIB4.out.keep hbl9 hbl9.size) hO9.is (Nat.le_refl _) (by omega) (by omega))
          clear hkq0 hkr0 hko0 hkb0 hr10 hr20 hkq3 hkr3 hko3 hkb3 hr13 hr23 ho9 ok9 sv9 l9 hO9 hbl9 HN2 HKS4 HIB4 HO8
          dsimp only
          refine hK _ _ (fun _ => hS5) ?_; clear hK K
          refine wpSeq_heavy rfl rfl (fun K hK => ?_); go_simp
          refine HC2.out.mono ?_
          rintro e w6 ⟨v, rfl, ⟨b3, A3, d3, c3, rfl, ho3, hok3, hsv3, hl3⟩, hbl3⟩
          obtain ⟨hr10, hr20⟩ := HKS5.out
          have hr1 := hr10.below hbl3 hr10.lt
          have hr2 := hr20.below hbl3 hr20.lt
          have ho8 := own_keep HO85.out fun g hg => hbl3.block g (own_lt HO85.out hg)
          have ho3' := own_mono7 (base' := w.heap.size) ho3 hs5
          have hr11 := (hr1.set_ 0 (.bool bb)).set_ 1 (.slice AA dd.length cc)
          have hr21 := (hr2.far (p := ⟨w.heap.size + 1 + 1, 0, none⟩) (by show w.heap.size + 1 + 1 + 1 ≠ w.heap.size + 1 + 1; omega) (.bool bb)).far (p := ⟨w.heap.size + 1 + 1, 1, none⟩) (by show w.heap.size + 1 + 1 + 1 ≠ w.heap.size + 1 + 1; omega) (.slice AA dd.length cc)
          have hr12 := (hr11.far (p := ⟨w.heap.size + 1 + 1 + 1, 0, none⟩) (by show w.heap.size + 1 + 1 ≠ w.heap.size + 1 + 1 + 1; omega) (.bool b3)).far (p := ⟨w.heap.size + 1 + 1 + 1, 1, none⟩) (by show w.heap.size + 1 + 1 ≠ w.heap.size + 1 + 1 + 1; omega) (.slice A3 d3.length c3)
          have hr22 := (hr21.set_ 0 (.bool b3)).set_ 1 (.slice A3 d3.length c3)
          have HO1 := Lib.hid (own_set7 (i := 1) (u := .slice A3 d3.length c3) (own_set7 (i := 0) (u := .bool b3) (own_set7 (i := 1) (u := .slice AA dd.length cc) (own_set7 (i := 0) (u := .bool bb) ho8 hr1 (by decide)) (hr1.set_ 0 (.bool bb)) (by decide)) hr21 (by decide)) (hr21.set_ 0 (.bool b3)) (by decide))
          have HO2 := Lib.hid (own_set7 (i := 1) (u := .slice A3 d3.length c3) (own_set7 (i := 0) (u := .bool b3) (own_set7 (i := 1) (u := .slice AA dd.length cc) (own_set7 (i := 0) (u := .bool bb) ho3' hr1 (by decide)) (hr1.set_ 0 (.bool bb)) (by decide)) hr21 (by decide)) (hr21.set_ 0 (.bool b3)) (by decide))
          have HF := Lib.hid (((((HB5'.out.trans (hbl3.mono hs5)).setCell (p := ⟨w.heap.size + 1 + 1, 0, none⟩) (by show w.heap.size ≤ w.heap.size + 1 + 1; omega) (.bool bb)).setCell (p := ⟨w.heap.size + 1 + 1, 1, none⟩) (by show w.heap.size ≤ w.heap.size + 1 + 1; omega) (.slice AA dd.length cc)).setCell (p := ⟨w.heap.size + 1 + 1 + 1, 0, none⟩) (by show w.heap.size ≤ w.heap.size + 1 + 1 + 1; omega) (.bool b3)).setCell (p := ⟨w.heap.size + 1 + 1 + 1, 1, none⟩) (by show w.heap.size ≤ w.heap.size + 1 + 1 + 1; omega) (.slice A3 d3.length c3))
          have HR12 := Lib.hid hr12
          have HR22 := Lib.hid hr22
          have HOK3 := Lib.hid hok3
          have HSV3 := Lib.hid hsv3
          have m0 := hr1.cell
          have m1 := hr1.frozen
          have m2 := hr1.lt
          have n0 := hr21.cell
          have n1 := hr21.frozen
          have n2 := hr21.lt
          clear hr10 hr20 hr1 hr2 ho8 ho3' ho3 hok3 hsv3 hbl3 hr11 hr21 hr12 hr22 HC2
          dsimp only
          refine hK _ _ (fun h => by cases h) ?_; clear hK K
          refine wpSeq_heavy rfl rfl (fun K hK => ?_); go_simp
          refine hK _ _ (fun h => by cases h) ?_; clear hK K
          refine wpSeq_heavy rfl rfl (fun K hK => ?_); go_simp
          refine hK _ _ (fun h => by cases h) ?_; clear hK K
          refine wpSeq_end ?_
          clear hS hS3 hS4 hS5 m0 m1 m2 n0 n1 n2
          generalize (((w6.setCell ⟨w.heap.size + 1 + 1, 0, none⟩ (.bool bb)).setCell ⟨w.heap.size + 1 + 1, 1, none⟩ (.slice AA dd.length cc)).setCell ⟨w.heap.size + 1 + 1 + 1, 0, none⟩ (.bool b3)).setCell ⟨w.heap.size + 1 + 1 + 1, 1, none⟩ (.slice A3 d3.length c3) = W4 at *
          go_wp2_with fail
          have y0 := HR12.out.cell 0
          have y1 := HR12.out.cell 1
          have y2 := HR22.out.cell 0
          have y3 := HR22.out.cell 1
          simp at y0 y1 y2 y3
          refine bodyPost_ret (v := .tuple #[.agg #[.bool bb, .slice AA dd.length cc], .agg #[.bool b3, .slice A3 d3.length c3]]) (by simp [results, Try.results48, go_sem, y0, y1, y2, y3]) rfl ?_
          exact ⟨_, _, rfl, ⟨bb, AA, dd, cc, rfl, HO1.out, HOK8.out, by rw [HSV8.out, HQ1.out.1], by omega⟩, ⟨b3, A3, d3, c3, rfl, HO2.out, HOK3.out, by rw [HSV3.out, HQ1.out.2], by omega⟩, HF.out⟩

    | succ s =>
      rw [show ((s + 1 : Nat) : Int) - 1 = (s : Int) by omega]
      obtain ⟨b4, A4, d4, c4, hk1, is1, -⟩ := Hq.out.is
      have HC := Lib.hid (plus_any _ _ _ _ _ _ wr.heap.size wr is1 is1 (Nat.le_refl _) (by omega) (by omega))
      have e0 := hk1.cell 0
      have e1 := hk1.cell 1
      have el := hk1.lt
      have HK1 := Lib.hid hk1
      simp only [List.getElem?_toArray, List.getElem?_cons_zero, List.getElem?_cons_succ] at e0 e1
      clear is1 hk1
      go_wp2_with fail
      refine HC.out.mono ?_
      rintro e w3 ⟨v, rfl, ⟨b3, A3, d3, c3, rfl, ho3, hok3, hsv3, hl3⟩, hbl3⟩
      clear e0 e1 el
      have hk3 := HK1.out.below hbl3 HK1.out.lt
      have b0 := hk3.cell
      have b1 := hk3.frozen
      have b2 := hk3.lt
      have Nr := Lib.hid ((Hr.out.keep hbl3).set2 hk3 (by omega) (.bool b3) (.slice A3 d3.length c3))
      have No := Lib.hid ((Ho.out.keep hbl3).set2 hk3 (by omega) (.bool b3) (.slice A3 d3.length c3))
      have Nq := Lib.hid (NumV.put (N := na + 1) hk3 (own_mono7 (base' := w.heap.size) ho3 (by have := HBL.out.size; have := HG.out; omega)) hok3 hsv3 (by omega))
      have NBL := Lib.hid (((HBL.out.trans (hbl3.mono (by have := HBL.out.size; have := HG.out; omega))).setCell (p := ⟨g, 0, none⟩) (by show g ≤ g; omega) (.bool b3)).setCell (p := ⟨g, 1, none⟩) (by show g ≤ g; omega) (.slice A3 d3.length c3))
      clear hk3 ho3 hok3 hsv3 hbl3 hl3 Hq Hr Ho HBL HK1 HC
      dsimp only
      go_upto_region 8 with fail
      clear b0 b1 b2
      generalize (w3.setCell ⟨g, 0, none⟩ (.bool b3)).setCell ⟨g, 1, none⟩ (.slice A3 d3.length c3) = W4 at *
      have Hq := Nq
      have Hr := Nr
      have Ho := No
      have HBL := NBL
      clear Nq Nr No NBL
      obtain ⟨b4, A4, d4, c4, hk1, is1, -⟩ := Hr.out.is
      have HC := Lib.hid (plus_any _ _ _ _ _ _ W4.heap.size W4 is1 is1 (Nat.le_refl _) (by omega) (by omega))
      have e0 := hk1.cell 0
      have e1 := hk1.cell 1
      have el := hk1.lt
      have HK1 := Lib.hid hk1
      simp only [List.getElem?_toArray, List.getElem?_cons_zero, List.getElem?_cons_succ] at e0 e1
      clear is1 hk1
      go_wp2_with fail
      refine HC.out.mono ?_
      rintro e w3 ⟨v, rfl, ⟨b3, A3, d3, c3, rfl, ho3, hok3, hsv3, hl3⟩, hbl3⟩
      clear e0 e1 el
      have hk3 := HK1.out.below hbl3 HK1.out.lt
      have b0 := hk3.cell
      have b1 := hk3.frozen
      have b2 := hk3.lt
      have Nq := Lib.hid ((Hq.out.keep hbl3).set2 hk3 (by omega) (.bool b3) (.slice A3 d3.length c3))
      have No := Lib.hid ((Ho.out.keep hbl3).set2 hk3 (by omega) (.bool b3) (.slice A3 d3.length c3))
      have Nr := Lib.hid (NumV.put (N := nb + 1) hk3 (own_mono7 (base' := w.heap.size) ho3 (by have := HBL.out.size; have := HG.out; omega)) hok3 hsv3 (by omega))
      have NBL := Lib.hid (((HBL.out.trans (hbl3.mono (by have := HBL.out.size; have := HG.out; omega))).setCell (p := ⟨g + 1, 0, none⟩) (by show g ≤ g + 1; omega) (.bool b3)).setCell (p := ⟨g + 1, 1, none⟩) (by show g ≤ g + 1; omega) (.slice A3 d3.length c3))
      clear hk3 ho3 hok3 hsv3 hbl3 hl3 Hq Hr Ho HBL HK1 HC
      dsimp only
      go_upto_region 9 with fail
      clear b0 b1 b2
      generalize (w3.setCell ⟨g + 1, 0, none⟩ (.bool b3)).setCell ⟨g + 1, 1, none⟩ (.slice A3 d3.length c3) = W4 at *
      have Hq := Nq
      have Hr := Nr
      have Ho := No
      have HBL := NBL
      clear Nq Nr No NBL
      obtain ⟨m, hm⟩ : ∃ m, m = s / 16 := ⟨_, rfl⟩
      obtain ⟨t, ht⟩ : ∃ t, t = s % 16 := ⟨_, rfl⟩
      have hst : s = 16 * m + t := by omega
      have ht16 : t < 16 := by omega
      have hm1 : m ≤ 100000 := by omega
      have hbit := bit_at HOK.out.dig m t ht16
      rw [← hst, ← HVD.out] at hbit
      have hnx := half_next V s
      rw [HV.out] at hnx
      have hdg := HOK.out.dig.at m
      have HDG := Lib.hid (digit_any A c B d m W4 ((HR.out.below HBL.out (by have := HG.out; have := HYZ.out; omega))) (by have := HBL.out.size; have := HG.out; omega) (by have := HNA.out; omega) (by omega))
      rw [← HNA.out] at HDG
      have e1 : W4.cell? ⟨w.heap.size, 1, none⟩ = some (.slice A na c) := by rw [(HB1.out.below HBL.out (by omega)).cell]; rfl
      have el := (HB1.out.below HBL.out (by omega)).lt
      have hs1 : (s : Int) / 16 = (m : Int) := by omega
      have hs2 : (s : Int) % 16 = (t : Int) := by omega
      have hti : (t : Int) < 16 := by omega
      have HNX := Lib.hid hnx
      have HBIT := Lib.hid hbit
      have HST := Lib.hid hst
      clear hnx hbit hst hm ht HV
      generalize d.getD m 0 = dm at *
      obtain ⟨hdg0, hdg1⟩ := hdg
      have hbt : (dm / 2 ^ t).tmod 2 = (dm / 2 ^ t) % 2 := Int.tmod_eq_emod_of_nonneg (Int.ediv_nonneg hdg0 (Int.le_of_lt (p2 t)))
      have hbb : (dm / 2 ^ t) % 2 = 0 ∨ (dm / 2 ^ t) % 2 = 1 := by omega
      have hVs : V / 2 ^ s ≤ V := Int.ediv_le_self _ hV0
      have HVS := Lib.hid hVs
      clear hVs
      rcases hbb with hb | hb
      · have hb0 : ((dm / 2 ^ t).tmod 2 == 1) = false := by rw [hbt, hb]; rfl
        have hN2 : V / 2 ^ s = 2 * (Q * y + R) + 0 := by rw [← hb, ← HBIT.out]; exact HNX.out
        have HN2 := Lib.hid hN2
        clear hN2 hb hbt
        go_wp2_with fail
        refine HDG.out.mono ?_
        rintro e w3 ⟨rfl, rfl⟩
        clear e1 el HDG
        go_upto_region 11 with fail
        obtain ⟨R2, hR2⟩ : ∃ R2, R2 = R + R := ⟨_, rfl⟩
        rw [← hR2] at Hr
        have hR2b : 0 ≤ R2 ∧ R2 < y + y := by omega
        have hE2 : V / 2 ^ s = (Q + Q) * y + R2 := by rw [HN2.out, Int.add_mul]; omega
        have HE2 := Lib.hid hE2
        have Hr := Lib.hid (Hr.out.more (show nb + 1 ≤ nb + 6 by omega))
        clear hR2 hE2 HN2 HNX HBIT hb0
        obtain ⟨b4, A4, d4, c4, hk1, -, rd1, ok1, sv1, hl1, hcc1, hcc2⟩ := Hr.out.is
        have hRv : val d4 = R2 := by rw [ok1.abs, sv1]; omega
        have hyv : val d2 = y := by rw [HOK2.out.abs, HSV.out.2]; omega
        have hl4 : d4.length ≤ 100000 := by omega
        have hl5 : d2.length ≤ 100000 := by have := HNB.out; omega
        have rd2 := (HR2.out.below HBL.out (by have := HG.out; have := HYZ.out; omega)).more (show B ≤ W4.heap.size by have := HBL.out.size; have := HG.out; omega)
        have HCM := Lib.hid (compare_any A4 A2 c4 c2 W4.heap.size d4 d2 W4 rd1 rd2 (Nat.le_refl _) ok1.dig HOK2.out.dig hl4 hl5)
        rw [hRv, hyv, ← HNB.out] at HCM
        have hles : y ≤ R2 → Calls Try.prog 57 #[.slice A4 d4.length c4, .slice A2 nb c2] W4 (RowP W4 (R2 - y) d4.length) := fun hle => by
          have h1 := nless_any A4 A2 c4 c2 W4.heap.size d4 d2 W4 rd1 rd2 (Nat.le_refl _) ok1.dig HOK2.out.dig hl4 (HOK2.out.len (by have h5 := val_lt ok1.dig; rw [hRv] at h5; rw [hyv]; omega)) (by rw [hRv, hyv]; exact hle)
          rw [hRv, hyv, ← HNB.out] at h1
          exact h1
        have HLES := Lib.hid hles
        have e0 := hk1.cell 0
        have e1 := hk1.cell 1
        have el := hk1.lt
        have HK1 := Lib.hid hk1
        have f1 : W4.cell? ⟨w.heap.size + 1, 1, none⟩ = some (.slice A2 nb c2) := by rw [(HB2.out.below HBL.out (by omega)).cell]; rfl
        have fl := (HB2.out.below HBL.out (by omega)).lt
        simp only [List.getElem?_toArray, List.getElem?_cons_zero, List.getElem?_cons_succ] at e0 e1
        clear rd1 rd2 ok1 sv1 hk1 hles hRv hyv hl5
        go_wp2_with fail
        refine HCM.out.mono ?_
        rintro e w1 ⟨zz, rfl, ⟨z1, z2⟩, rfl⟩
        dsimp only
        clear HCM z2
        by_cases hz : 0 ≤ zz
        · have hge : y ≤ R2 := Int.not_lt.1 fun hh => by have := z1.2 hh; omega
          have HLS := Lib.hid (HLES.out hge)
          clear z1 HLES
          go_wp2_with fail
          refine HLS.out.mono ?_
          rintro e w5 ⟨A6, c6, d6, rfl, hr6, hc61, hc62, hdig6, hval6, hlen6, hbl6⟩
          have HC := Lib.hid (whole_any false A6 c6 w5.heap.size d6 w5 hr6 (Nat.le_refl _) hdig6 (by omega) hc61 hc62)
          have hlb6 : d6.length ≤ nb + 6 := by omega
          have HVL := Lib.hid hval6
          have HBL6 := Lib.hid hbl6
          have hs6 := hbl6.size
          clear hr6 hc62 hdig6 hval6 hbl6 hlen6 e0 e1 el f1 fl HLS
          dsimp only
          go_wp2_with fail
          refine HC.out.mono ?_
          rintro e w3 ⟨v, rfl, ⟨b3, A3, d3, c3, rfl, ho3, hok3, hsv30, hl3⟩, hbl30⟩
          have hbl3 : Below W4.heap.size W4 w3 := HBL6.out.trans (hbl30.mono HBL6.out.size)
          have hsv3 : sv b3 d3 = R2 - y := by rw [hsv30, ← HVL.out]; rfl
          clear hsv30 HVL
          have hk3 := HK1.out.below hbl3 HK1.out.lt
          have b0 := hk3.cell
          have b1 := hk3.frozen
          have b2 := hk3.lt
          have Nq := Lib.hid ((Hq.out.keep hbl3).set2 hk3 (by omega) (.bool b3) (.slice A3 d3.length c3))
          have No := Lib.hid ((Ho.out.keep hbl3).set2 hk3 (by omega) (.bool b3) (.slice A3 d3.length c3))
          have Nr := Lib.hid (NumV.put (N := nb + 6) hk3 (own_mono7 (base' := w.heap.size) ho3 (by have := HBL.out.size; have := HG.out; omega)) hok3 hsv3 (by omega))
          have NBL := Lib.hid (((HBL.out.trans (hbl3.mono (by have := HBL.out.size; have := HG.out; omega))).setCell (p := ⟨g + 1, 0, none⟩) (by show g ≤ g + 1; omega) (.bool b3)).setCell (p := ⟨g + 1, 1, none⟩) (by show g ≤ g + 1; omega) (.slice A3 d3.length c3))
          clear hbl30 HBL6 hs6 hlb6 hk3 ho3 hok3 hsv3 hbl3 hl3 Hq Hr Ho HBL HK1 HC
          dsimp only
          go_upto_region 13 with fail
          clear b0 b1 b2
          generalize (w3.setCell ⟨g + 1, 0, none⟩ (.bool b3)).setCell ⟨g + 1, 1, none⟩ (.slice A3 d3.length c3) = W4 at *
          have Hq := Nq
          have Hr := Nr
          have Ho := No
          have HBL := NBL
          clear Nq Nr No NBL
          obtain ⟨b4, A4, d4, c4, hk1, is1, -⟩ := Hq.out.is
          obtain ⟨b5, A5, d5, c5, hk2, is2, -⟩ := Ho.out.is
          have HC := Lib.hid (plus_any _ _ _ _ _ _ W4.heap.size W4 is1 is2 (Nat.le_refl _) (by omega) (by omega))
          have e0 := hk1.cell 0
          have e1 := hk1.cell 1
          have el := hk1.lt
          have HK1 := Lib.hid hk1
          have f0 := hk2.cell 0
          have f1 := hk2.cell 1
          have fl := hk2.lt
          simp only [List.getElem?_toArray, List.getElem?_cons_zero, List.getElem?_cons_succ] at e0 e1 f0 f1
          clear is1 hk1 is2 hk2
          go_wp2_with fail
          refine HC.out.mono ?_
          rintro e w3 ⟨v, rfl, ⟨b3, A3, d3, c3, rfl, ho3, hok3, hsv3, hl3⟩, hbl3⟩
          clear e0 e1 el f0 f1 fl
          have hk3 := HK1.out.below hbl3 HK1.out.lt
          have b0 := hk3.cell
          have b1 := hk3.frozen
          have b2 := hk3.lt
          have Nr := Lib.hid ((Hr.out.keep hbl3).set2 hk3 (by omega) (.bool b3) (.slice A3 d3.length c3))
          have No := Lib.hid ((Ho.out.keep hbl3).set2 hk3 (by omega) (.bool b3) (.slice A3 d3.length c3))
          have Nq := Lib.hid (NumV.put (N := na + 6) hk3 (own_mono7 (base' := w.heap.size) ho3 (by have := HBL.out.size; have := HG.out; omega)) hok3 hsv3 (by omega))
          have NBL := Lib.hid (((HBL.out.trans (hbl3.mono (by have := HBL.out.size; have := HG.out; omega))).setCell (p := ⟨g, 0, none⟩) (by show g ≤ g; omega) (.bool b3)).setCell (p := ⟨g, 1, none⟩) (by show g ≤ g; omega) (.slice A3 d3.length c3))
          clear hk3 ho3 hok3 hsv3 hbl3 hl3 Hq Hr Ho HBL HK1 HC
          dsimp only
          go_wp2_with fail
          clear b0 b1 b2
          generalize (w3.setCell ⟨g, 0, none⟩ (.bool b3)).setCell ⟨g, 1, none⟩ (.slice A3 d3.length c3) = W4 at *
          have Hq := Nq
          have Hr := Nr
          have Ho := No
          have HBL := NBL
          clear Nq Nr No NBL
          refine ⟨⟨s, Q + Q + 1, R2 - y, by first | rfl | simp, by omega, by rw [HE2.out, Int.add_mul (Q + Q), Int.one_mul]; omega, by omega, by omega, by omega, Hq.out.len (by have := pw_pos na; omega) ?_, Hr.out.len (by have := pw_pos nb; omega) (by have := HYN.out; omega), Ho.out, HBL.out⟩, by simp [intOf]⟩
          have h1 : (Q + Q + 1) * 1 ≤ (Q + Q + 1) * y := Int.mul_le_mul_of_nonneg_left (by omega) (by omega)
          have h2 := HE2.out
          have h3 := HVS.out
          have h4 := HVN.out
          rw [show (Q + Q + 1) * y = (Q + Q) * y + y by rw [Int.add_mul, Int.one_mul]] at h1
          omega
        · have hge : R2 < y := z1.1 (by omega)
          clear z1 HLES
          go_wp2_with fail
          refine ⟨⟨s, Q + Q, R2, by first | rfl | simp, by omega, HE2.out, by omega, by omega, by omega, Hq.out.len (by have := pw_pos na; omega) ?_, Hr.out.len (by have := pw_pos nb; omega) (by have := HYN.out; omega), Ho.out, HBL.out⟩, by simp [intOf]⟩
          have h1 : (Q + Q) * 1 ≤ (Q + Q) * y := Int.mul_le_mul_of_nonneg_left (by omega) (by omega)
          have h2 := HE2.out
          have h3 := HVS.out
          have h4 := HVN.out
          omega
      · have hb1 : ((dm / 2 ^ t).tmod 2 == 1) = true := by rw [hbt, hb]; rfl
        have hN2 : V / 2 ^ s = 2 * (Q * y + R) + 1 := by rw [← hb, ← HBIT.out]; exact HNX.out
        have HN2 := Lib.hid hN2
        clear hN2 hb hbt
        go_wp2_with fail
        refine HDG.out.mono ?_
        rintro e w3 ⟨rfl, rfl⟩
        clear e1 el HDG
        go_upto_region 10 with fail
        obtain ⟨b4, A4, d4, c4, hk1, is1, -⟩ := Hr.out.is
        obtain ⟨b5, A5, d5, c5, hk2, is2, -⟩ := Ho.out.is
        have HC := Lib.hid (plus_any _ _ _ _ _ _ W4.heap.size W4 is1 is2 (Nat.le_refl _) (by omega) (by omega))
        have e0 := hk1.cell 0
        have e1 := hk1.cell 1
        have el := hk1.lt
        have HK1 := Lib.hid hk1
        have f0 := hk2.cell 0
        have f1 := hk2.cell 1
        have fl := hk2.lt
        simp only [List.getElem?_toArray, List.getElem?_cons_zero, List.getElem?_cons_succ] at e0 e1 f0 f1
        clear is1 hk1 is2 hk2
        go_wp2_with fail
        refine HC.out.mono ?_
        rintro e w3 ⟨v, rfl, ⟨b3, A3, d3, c3, rfl, ho3, hok3, hsv3, hl3⟩, hbl3⟩
        clear e0 e1 el f0 f1 fl
        have hk3 := HK1.out.below hbl3 HK1.out.lt
        have b0 := hk3.cell
        have b1 := hk3.frozen
        have b2 := hk3.lt
        have Nq := Lib.hid ((Hq.out.keep hbl3).set2 hk3 (by omega) (.bool b3) (.slice A3 d3.length c3))
        have No := Lib.hid ((Ho.out.keep hbl3).set2 hk3 (by omega) (.bool b3) (.slice A3 d3.length c3))
        have Nr := Lib.hid (NumV.put (N := nb + 6) hk3 (own_mono7 (base' := w.heap.size) ho3 (by have := HBL.out.size; have := HG.out; omega)) hok3 hsv3 (by omega))
        have NBL := Lib.hid (((HBL.out.trans (hbl3.mono (by have := HBL.out.size; have := HG.out; omega))).setCell (p := ⟨g + 1, 0, none⟩) (by show g ≤ g + 1; omega) (.bool b3)).setCell (p := ⟨g + 1, 1, none⟩) (by show g ≤ g + 1; omega) (.slice A3 d3.length c3))
        clear hk3 ho3 hok3 hsv3 hbl3 hl3 Hq Hr Ho HBL HK1 HC
        dsimp only
        go_upto_region 11 with fail
        clear b0 b1 b2
        generalize (w3.setCell ⟨g + 1, 0, none⟩ (.bool b3)).setCell ⟨g + 1, 1, none⟩ (.slice A3 d3.length c3) = W4 at *
        have Hq := Nq
        have Hr := Nr
        have Ho := No
        have HBL := NBL
        clear Nq Nr No NBL
        obtain ⟨R2, hR2⟩ : ∃ R2, R2 = R + R + 1 := ⟨_, rfl⟩
        rw [← hR2] at Hr
        have hR2b : 0 ≤ R2 ∧ R2 < y + y := by omega
        have hE2 : V / 2 ^ s = (Q + Q) * y + R2 := by rw [HN2.out, Int.add_mul]; omega
        have HE2 := Lib.hid hE2
        clear hR2 hE2 HN2 HNX HBIT hb1
        obtain ⟨b4, A4, d4, c4, hk1, -, rd1, ok1, sv1, hl1, hcc1, hcc2⟩ := Hr.out.is
        have hRv : val d4 = R2 := by rw [ok1.abs, sv1]; omega
        have hyv : val d2 = y := by rw [HOK2.out.abs, HSV.out.2]; omega
        have hl4 : d4.length ≤ 100000 := by omega
        have hl5 : d2.length ≤ 100000 := by have := HNB.out; omega
        have rd2 := (HR2.out.below HBL.out (by have := HG.out; have := HYZ.out; omega)).more (show B ≤ W4.heap.size by have := HBL.out.size; have := HG.out; omega)
        have HCM := Lib.hid (compare_any A4 A2 c4 c2 W4.heap.size d4 d2 W4 rd1 rd2 (Nat.le_refl _) ok1.dig HOK2.out.dig hl4 hl5)
        rw [hRv, hyv, ← HNB.out] at HCM
        have hles : y ≤ R2 → Calls Try.prog 57 #[.slice A4 d4.length c4, .slice A2 nb c2] W4 (RowP W4 (R2 - y) d4.length) := fun hle => by
          have h1 := nless_any A4 A2 c4 c2 W4.heap.size d4 d2 W4 rd1 rd2 (Nat.le_refl _) ok1.dig HOK2.out.dig hl4 (HOK2.out.len (by have h5 := val_lt ok1.dig; rw [hRv] at h5; rw [hyv]; omega)) (by rw [hRv, hyv]; exact hle)
          rw [hRv, hyv, ← HNB.out] at h1
          exact h1
        have HLES := Lib.hid hles
        have e0 := hk1.cell 0
        have e1 := hk1.cell 1
        have el := hk1.lt
        have HK1 := Lib.hid hk1
        have f1 : W4.cell? ⟨w.heap.size + 1, 1, none⟩ = some (.slice A2 nb c2) := by rw [(HB2.out.below HBL.out (by omega)).cell]; rfl
        have fl := (HB2.out.below HBL.out (by omega)).lt
        simp only [List.getElem?_toArray, List.getElem?_cons_zero, List.getElem?_cons_succ] at e0 e1
        clear rd1 rd2 ok1 sv1 hk1 hles hRv hyv hl5
        go_wp2_with fail
        refine HCM.out.mono ?_
        rintro e w1 ⟨zz, rfl, ⟨z1, z2⟩, rfl⟩
        dsimp only
        clear HCM z2
        by_cases hz : 0 ≤ zz
        · have hge : y ≤ R2 := Int.not_lt.1 fun hh => by have := z1.2 hh; omega
          have HLS := Lib.hid (HLES.out hge)
          clear z1 HLES
          go_wp2_with fail
          refine HLS.out.mono ?_
          rintro e w5 ⟨A6, c6, d6, rfl, hr6, hc61, hc62, hdig6, hval6, hlen6, hbl6⟩
          have HC := Lib.hid (whole_any false A6 c6 w5.heap.size d6 w5 hr6 (Nat.le_refl _) hdig6 (by omega) hc61 hc62)
          have hlb6 : d6.length ≤ nb + 6 := by omega
          have HVL := Lib.hid hval6
          have HBL6 := Lib.hid hbl6
          have hs6 := hbl6.size
          clear hr6 hc62 hdig6 hval6 hbl6 hlen6 e0 e1 el f1 fl HLS
          dsimp only
          go_wp2_with fail
          refine HC.out.mono ?_
          rintro e w3 ⟨v, rfl, ⟨b3, A3, d3, c3, rfl, ho3, hok3, hsv30, hl3⟩, hbl30⟩
          have hbl3 : Below W4.heap.size W4 w3 := HBL6.out.trans (hbl30.mono HBL6.out.size)
          have hsv3 : sv b3 d3 = R2 - y := by rw [hsv30, ← HVL.out]; rfl
          clear hsv30 HVL
          have hk3 := HK1.out.below hbl3 HK1.out.lt
          have b0 := hk3.cell
          have b1 := hk3.frozen
          have b2 := hk3.lt
          have Nq := Lib.hid ((Hq.out.keep hbl3).set2 hk3 (by omega) (.bool b3) (.slice A3 d3.length c3))
          have No := Lib.hid ((Ho.out.keep hbl3).set2 hk3 (by omega) (.bool b3) (.slice A3 d3.length c3))
          have Nr := Lib.hid (NumV.put (N := nb + 6) hk3 (own_mono7 (base' := w.heap.size) ho3 (by have := HBL.out.size; have := HG.out; omega)) hok3 hsv3 (by omega))
          have NBL := Lib.hid (((HBL.out.trans (hbl3.mono (by have := HBL.out.size; have := HG.out; omega))).setCell (p := ⟨g + 1, 0, none⟩) (by show g ≤ g + 1; omega) (.bool b3)).setCell (p := ⟨g + 1, 1, none⟩) (by show g ≤ g + 1; omega) (.slice A3 d3.length c3))
          clear hbl30 HBL6 hs6 hlb6 hk3 ho3 hok3 hsv3 hbl3 hl3 Hq Hr Ho HBL HK1 HC
          dsimp only
          go_upto_region 13 with fail
          clear b0 b1 b2
          generalize (w3.setCell ⟨g + 1, 0, none⟩ (.bool b3)).setCell ⟨g + 1, 1, none⟩ (.slice A3 d3.length c3) = W4 at *
          have Hq := Nq
          have Hr := Nr
          have Ho := No
          have HBL := NBL
          clear Nq Nr No NBL
          obtain ⟨b4, A4, d4, c4, hk1, is1, -⟩ := Hq.out.is
          obtain ⟨b5, A5, d5, c5, hk2, is2, -⟩ := Ho.out.is
          have HC := Lib.hid (plus_any _ _ _ _ _ _ W4.heap.size W4 is1 is2 (Nat.le_refl _) (by omega) (by omega))
          have e0 := hk1.cell 0
          have e1 := hk1.cell 1
          have el := hk1.lt
          have HK1 := Lib.hid hk1
          have f0 := hk2.cell 0
          have f1 := hk2.cell 1
          have fl := hk2.lt
          simp only [List.getElem?_toArray, List.getElem?_cons_zero, List.getElem?_cons_succ] at e0 e1 f0 f1
          clear is1 hk1 is2 hk2
          go_wp2_with fail
          refine HC.out.mono ?_
          rintro e w3 ⟨v, rfl, ⟨b3, A3, d3, c3, rfl, ho3, hok3, hsv3, hl3⟩, hbl3⟩
          clear e0 e1 el f0 f1 fl
          have hk3 := HK1.out.below hbl3 HK1.out.lt
          have b0 := hk3.cell
          have b1 := hk3.frozen
          have b2 := hk3.lt
          have Nr := Lib.hid ((Hr.out.keep hbl3).set2 hk3 (by omega) (.bool b3) (.slice A3 d3.length c3))
          have No := Lib.hid ((Ho.out.keep hbl3).set2 hk3 (by omega) (.bool b3) (.slice A3 d3.length c3))
          have Nq := Lib.hid (NumV.put (N := na + 6) hk3 (own_mono7 (base' := w.heap.size) ho3 (by have := HBL.out.size; have := HG.out; omega)) hok3 hsv3 (by omega))
          have NBL := Lib.hid (((HBL.out.trans (hbl3.mono (by have := HBL.out.size; have := HG.out; omega))).setCell (p := ⟨g, 0, none⟩) (by show g ≤ g; omega) (.bool b3)).setCell (p := ⟨g, 1, none⟩) (by show g ≤ g; omega) (.slice A3 d3.length c3))
          clear hk3 ho3 hok3 hsv3 hbl3 hl3 Hq Hr Ho HBL HK1 HC
          dsimp only
          go_wp2_with fail
          clear b0 b1 b2
          generalize (w3.setCell ⟨g, 0, none⟩ (.bool b3)).setCell ⟨g, 1, none⟩ (.slice A3 d3.length c3) = W4 at *
          have Hq := Nq
          have Hr := Nr
          have Ho := No
          have HBL := NBL
          clear Nq Nr No NBL
          refine ⟨⟨s, Q + Q + 1, R2 - y, by first | rfl | simp, by omega, by rw [HE2.out, Int.add_mul (Q + Q), Int.one_mul]; omega, by omega, by omega, by omega, Hq.out.len (by have := pw_pos na; omega) ?_, Hr.out.len (by have := pw_pos nb; omega) (by have := HYN.out; omega), Ho.out, HBL.out⟩, by simp [intOf]⟩
          have h1 : (Q + Q + 1) * 1 ≤ (Q + Q + 1) * y := Int.mul_le_mul_of_nonneg_left (by omega) (by omega)
          have h2 := HE2.out
          have h3 := HVS.out
          have h4 := HVN.out
          rw [show (Q + Q + 1) * y = (Q + Q) * y + y by rw [Int.add_mul, Int.one_mul]] at h1
          omega
        · have hge : R2 < y := z1.1 (by omega)
          clear z1 HLES
          go_wp2_with fail
          refine ⟨⟨s, Q + Q, R2, by first | rfl | simp, by omega, HE2.out, by omega, by omega, by omega, Hq.out.len (by have := pw_pos na; omega) ?_, Hr.out.len (by have := pw_pos nb; omega) (by have := HYN.out; omega), Ho.out, HBL.out⟩, by simp [intOf]⟩
          have h1 : (Q + Q) * 1 ≤ (Q + Q) * y := Int.mul_le_mul_of_nonneg_left (by omega) (by omega)
          have h2 := HE2.out
          have h3 := HVS.out
          have h4 := HVN.out
          omega
  
end Go.Proofs.Ytnalbkjbidaojaa

/- fleuronref02: Plus: its contract. -/
import Derived.Test.YtnalbkjbidaojaaNumC
import Derived.Test.YtnalbkjbidaojaaSeqs
namespace Go.Proofs.Ytnalbkjbidaojaa
open Go.RowKit Nm

set_option maxHeartbeats 1000000 in
set_option maxRecDepth 100000 in
theorem plus_any (v v2 : Value) (x y : Int) (N M B : Nat) (w : World) (h : NumIs w B v x N) (h2 : NumIs w B v2 y M) (hB : B ≤ w.heap.size) (hN : N ≤ 10000) (hM : M ≤ 10000) :
    Calls Try.prog 49 #[v, v2] w (NumP w (x + y) (max N M + 1)) := by
  obtain ⟨b, A, d, c, rfl, hr, hok, hsv, hl, hc1, hc2⟩ := h
  obtain ⟨b2, A2, d2, c2, rfl, hr2, hok2, hsv2, hl2, hc12, hc22⟩ := h2
  obtain ⟨X, hX⟩ : ∃ X, X = ((w.alloc (.cells #[.bool b, .slice A d.length c] 89)).alloc (.cells #[.bool b2, .slice A2 d2.length c2] 89)).alloc (.cells #[.bool false, .slice none 0 0] 89) := ⟨_, rfl⟩
  have hX1 : Blk X w.heap.size 89 #[.bool b, .slice A d.length c] := by rw [hX]; exact ((Blk.new _ _ _).alloc _).alloc _
  have hX2 : Blk X (w.heap.size + 1) 89 #[.bool b2, .slice A2 d2.length c2] := by rw [hX]; exact (Blk.new_at _ _ _ (by simp)).alloc _
  have hX3 : Blk X (w.heap.size + 1 + 1) 89 #[.bool false, .slice none 0 0] := by rw [hX]; exact Blk.new_at _ _ _ (by simp)
  have hXw : Below w.heap.size w X := by rw [hX]; exact (((Below.refl _ _).alloc (Nat.le_refl _) _).alloc (by simp) _).alloc (by simp; omega) _
  have HB1 := Lib.hid hX1
  have HB2 := Lib.hid hX2
  have HB3 := Lib.hid hX3
  have HW := Lib.hid hXw
  have HX := Lib.hid hX
  have Hd := Lib.hid (hr.below hXw hB)
  have Hd2 := Lib.hid (hr2.below hXw hB)
  have HOd := Lib.hid hok
  have HOd2 := Lib.hid hok2
  have HSV := Lib.hid (And.intro hsv hsv2)
  have hBX : B ≤ X.drew.heap.size := by have h0 := hXw.size; have h1 : X.drew.heap.size = X.heap.size := rfl; omega
  have HBX := Lib.hid hBX
  have HBX0 := Lib.hid (show B ≤ X.heap.size from hBX)
  have p0 := hX1.cell 0
  have p1 := hX1.cell 1
  have q0 := hX2.cell 0
  have q1 := hX2.cell 1
  simp only [List.getElem?_toArray, List.getElem?_cons_zero, List.getElem?_cons_succ] at p0 p1 q0 q1
  have pl := hX1.lt
  have ql := hX2.lt
  have hcmp := fun W (hW : Below X.heap.size X W) => compare_any A A2 c c2 B d d2 W ((hr.below hXw hB).below hW (by have := hXw.size; omega)) ((hr2.below hXw hB).below hW (by have := hXw.size; omega)) (by have h1 := hXw.size; have h2 := hW.size; omega) hok.dig hok2.dig (by omega) (by omega)
  have HCMP := Lib.hid hcmp
  clear hX hX1 hX2 hX3 hXw hr hr2 hok hok2 hsv hsv2 hBX hcmp hc2 hc22
  go_enter Try.func49, Try.ntmps49
  go_upto_region 1 with fail
  rw [← HX.out]
  clear HX
  cases b <;> cases b2
  · go_wp2_with fail
    have hS : (fun w' : World => w'.cell? ⟨w.heap.size, 0, none⟩ = some (.bool false) ∧ w'.cell? ⟨w.heap.size, 1, none⟩ = some (.slice A d.length c) ∧ w'.cell? ⟨w.heap.size + 1, 1, none⟩ = some (.slice A2 d2.length c2)) X.drew := ⟨by rw [HB1.out.drew.cell]; rfl, by rw [HB1.out.drew.cell]; rfl, by rw [HB2.out.drew.cell]; rfl⟩
    refine wp_region_seqT (fun i => !([6, 7, 8] : List Nat).contains i) (fun i => ([1, 3, 5] : List Nat).contains i) (fun i => ([6] : List Nat).contains i) [0, 1, 2, 3, 4, 5, 6, 7, 8] (fun w' : World => w'.cell? ⟨w.heap.size, 0, none⟩ = some (.bool false) ∧ w'.cell? ⟨w.heap.size, 1, none⟩ = some (.slice A d.length c) ∧ w'.cell? ⟨w.heap.size + 1, 1, none⟩ = some (.slice A2 d2.length c2)) (by kernel_rfl) (by kernel_rfl) (by kernel_rfl) (by kernel_rfl) ?_
    clear p0 p1 q0 q1
    refine wpSeq_pure (v := _) rfl rfl rfl (by kernel_rfl) (fun _ _ _ h => h) (fun wq => by first | (go_simp; done) | (go_simp; rfl)) ?_
    refine wpSeq_load (v := _) rfl rfl (by kernel_rfl) (fun _ _ _ h => h) hS rfl (fun wq hq => by obtain ⟨hq1, hq2, hq3⟩ := hq; first | (go_simp; done) | (go_simp; rfl)) ?_
    refine wpSeq_pure (v := _) rfl rfl rfl (by kernel_rfl) (fun _ _ _ h => h) (fun wq => by first | (go_simp; done) | (go_simp; rfl)) ?_
    refine wpSeq_load (v := _) rfl rfl (by kernel_rfl) (fun _ _ _ h => h) hS rfl (fun wq hq => by obtain ⟨hq1, hq2, hq3⟩ := hq; first | (go_simp; done) | (go_simp; rfl)) ?_
    refine wpSeq_pure (v := _) rfl rfl rfl (by kernel_rfl) (fun _ _ _ h => h) (fun wq => by first | (go_simp; done) | (go_simp; rfl)) ?_
    refine wpSeq_load (v := _) rfl rfl (by kernel_rfl) (fun _ _ _ h => h) hS rfl (fun wq hq => by obtain ⟨hq1, hq2, hq3⟩ := hq; first | (go_simp; done) | (go_simp; rfl)) ?_
    have HPP := Lib.hid (nplus_any A A2 c c2 B d d2 X.drew (Hd.out.below (Below.refl X.heap.size X).drew HBX0.out) (Hd2.out.below (Below.refl X.heap.size X).drew HBX0.out) HBX.out HOd.out.dig HOd2.out.dig (by omega) (by omega))
    refine wpSeq_heavy rfl rfl (fun K hK => ?_); go_simp
    refine HPP.out.mono ?_
    rintro e w2 ⟨A5, c5, d5, rfl, hr5, hc51, hc52, hdig5, hval5, hlen5, hbl5⟩
    have hX2 : Below X.heap.size X w2 := (Below.refl X.heap.size X).drew.trans hbl5
    have HB12 := Lib.hid (HB1.out.below hX2 HB1.out.lt)
    have HB22 := Lib.hid (HB2.out.below hX2 HB2.out.lt)
    have HB32 := Lib.hid (HB3.out.below hX2 HB3.out.lt)
    have HW2 := Lib.hid (HW.out.trans (hX2.mono HW.out.size))
    have hS2 : w2.cell? ⟨w.heap.size, 0, none⟩ = some (.bool false) ∧ w2.cell? ⟨w.heap.size, 1, none⟩ = some (.slice A d.length c) ∧ w2.cell? ⟨w.heap.size + 1, 1, none⟩ = some (.slice A2 d2.length c2) := ⟨by rw [HB12.out.cell]; rfl, by rw [HB12.out.cell]; rfl, by rw [HB22.out.cell]; rfl⟩
    have hlb : d5.length ≤ max N M + 1 := by omega
    have hvl : sv false d5 = x + y := by obtain ⟨s1, s2⟩ := HSV.out; unfold sv at s1 s2 ⊢; simp only [Bool.false_eq_true, if_false] at s1 s2 ⊢; omega
    have HVL := Lib.hid hvl
    have HC5 := Lib.hid (whole_any false A5 c5 w2.heap.size d5 w2 hr5 (Nat.le_refl _) hdig5 (by omega) hc51 hc52)
    clear hX2 hbl5 hr5 hdig5 hval5 hvl hc52 hlen5
    dsimp only
    refine hK _ _ (fun _ => hS2) ?_; clear hK K
    refine wpSeq_heavy rfl rfl (fun K hK => ?_); go_simp
    refine HC5.out.mono ?_
    rintro e w3 ⟨v, rfl, ⟨b3, A3, d3, c3, rfl, ho3, hok3, hsv3, hl3⟩, hbl3⟩
    have hb3 := HB32.out.below hbl3 HB32.out.lt
    have b0 := hb3.cell
    have b1 := hb3.frozen
    have b2 := hb3.lt
    have hgeB : w.heap.size ≤ w.heap.size + 1 + 1 := by omega
    have HB4 := Lib.hid ((hb3.set_ 0 (.bool b3)).set_ 1 (.slice A3 d3.length c3))
    have HE := Lib.hid (((HW2.out.trans (hbl3.mono HW2.out.size)).setCell (p := ⟨w.heap.size + 1 + 1, 0, none⟩) hgeB (.bool b3)).setCell (p := ⟨w.heap.size + 1 + 1, 1, none⟩) hgeB (.slice A3 d3.length c3))
    have HO4 := Lib.hid (own_mono7 (base' := w.heap.size) (own_keep (w' := (w3.setCell ⟨w.heap.size + 1 + 1, 0, none⟩ (.bool b3)).setCell ⟨w.heap.size + 1 + 1, 1, none⟩ (.slice A3 d3.length c3)) ho3 fun g hg => by
      have hge := own_ge ho3 hg
      have hne : g ≠ w.heap.size + 1 + 1 := by have := HB32.out.lt; omega
      rw [Below.heap_setCell _ _ _ _ hne, Below.heap_setCell _ _ _ _ hne]) (by have := HW2.out.size; omega))
    have HOK3 := Lib.hid hok3
    have HS3 := Lib.hid hsv3
    clear hb3 ho3 hok3 hsv3 hbl3
    dsimp only
    refine hK _ _ (fun h => by cases h) ?_; clear hK K
    refine wpSeq_heavy rfl rfl (fun K hK => ?_); go_simp
    refine hK _ _ (fun h => by cases h) ?_; clear hK K
    refine wpSeq_end ?_
    go_wp2_with fail
    clear b0 b1 b2
    generalize (w3.setCell ⟨w.heap.size + 1 + 1, 0, none⟩ (.bool b3)).setCell ⟨w.heap.size + 1 + 1, 1, none⟩ (.slice A3 d3.length c3) = W4 at *
    have y0 := HB4.out.cell 0
    have y1 := HB4.out.cell 1
    simp at y0 y1
    refine bodyPost_ret (v := .agg #[.bool b3, .slice A3 d3.length c3]) (by simp [results, Try.results49, go_sem, y0, y1]) rfl ?_
    exact ⟨_, rfl, ⟨b3, A3, d3, c3, rfl, HO4.out, HOK3.out, by rw [HS3.out, HVL.out], by omega⟩, HE.out⟩
  · go_wp2_with fail
    refine (HCMP.out X (Below.refl _ _)).mono ?_
    rintro e w1 ⟨zz, rfl, ⟨z1, z2⟩, rfl⟩
    dsimp only
    by_cases hz : 0 ≤ zz
    · have hle : val d2 ≤ val d := by
        by_cases e : zz = 0
        · have := z2.1 e; omega
        · have h5 : ¬ val d < val d2 := fun hh => by have := z1.2 hh; omega
          omega
      clear z1 z2 HCMP
      go_wp2_with fail
      have hS : (fun w' : World => w'.cell? ⟨w.heap.size, 0, none⟩ = some (.bool false) ∧ w'.cell? ⟨w.heap.size, 1, none⟩ = some (.slice A d.length c) ∧ w'.cell? ⟨w.heap.size + 1, 1, none⟩ = some (.slice A2 d2.length c2)) X.drew := ⟨by rw [HB1.out.drew.cell]; rfl, by rw [HB1.out.drew.cell]; rfl, by rw [HB2.out.drew.cell]; rfl⟩
      refine wp_region_seqT (fun i => !([6, 7, 8] : List Nat).contains i) (fun i => ([1, 3, 5] : List Nat).contains i) (fun i => ([6] : List Nat).contains i) [0, 1, 2, 3, 4, 5, 6, 7, 8] (fun w' : World => w'.cell? ⟨w.heap.size, 0, none⟩ = some (.bool false) ∧ w'.cell? ⟨w.heap.size, 1, none⟩ = some (.slice A d.length c) ∧ w'.cell? ⟨w.heap.size + 1, 1, none⟩ = some (.slice A2 d2.length c2)) (by kernel_rfl) (by kernel_rfl) (by kernel_rfl) (by kernel_rfl) ?_
      clear p0 p1 q0 q1
      refine wpSeq_pure (v := _) rfl rfl rfl (by kernel_rfl) (fun _ _ _ h => h) (fun wq => by first | (go_simp; done) | (go_simp; rfl)) ?_
      refine wpSeq_load (v := _) rfl rfl (by kernel_rfl) (fun _ _ _ h => h) hS rfl (fun wq hq => by obtain ⟨hq1, hq2, hq3⟩ := hq; first | (go_simp; done) | (go_simp; rfl)) ?_
      refine wpSeq_pure (v := _) rfl rfl rfl (by kernel_rfl) (fun _ _ _ h => h) (fun wq => by first | (go_simp; done) | (go_simp; rfl)) ?_
      refine wpSeq_load (v := _) rfl rfl (by kernel_rfl) (fun _ _ _ h => h) hS rfl (fun wq hq => by obtain ⟨hq1, hq2, hq3⟩ := hq; first | (go_simp; done) | (go_simp; rfl)) ?_
      refine wpSeq_pure (v := _) rfl rfl rfl (by kernel_rfl) (fun _ _ _ h => h) (fun wq => by first | (go_simp; done) | (go_simp; rfl)) ?_
      refine wpSeq_load (v := _) rfl rfl (by kernel_rfl) (fun _ _ _ h => h) hS rfl (fun wq hq => by obtain ⟨hq1, hq2, hq3⟩ := hq; first | (go_simp; done) | (go_simp; rfl)) ?_
      have HPP := Lib.hid (nless_any A A2 c c2 B d d2 X.drew (Hd.out.below (Below.refl X.heap.size X).drew HBX0.out) (Hd2.out.below (Below.refl X.heap.size X).drew HBX0.out) HBX.out HOd.out.dig HOd2.out.dig (by omega) (HOd2.out.len (Int.lt_of_le_of_lt hle (val_lt HOd.out.dig))) hle)
      refine wpSeq_heavy rfl rfl (fun K hK => ?_); go_simp
      refine HPP.out.mono ?_
      rintro e w2 ⟨A5, c5, d5, rfl, hr5, hc51, hc52, hdig5, hval5, hlen5, hbl5⟩
      have hX2 : Below X.heap.size X w2 := (Below.refl X.heap.size X).drew.trans hbl5
      have HB12 := Lib.hid (HB1.out.below hX2 HB1.out.lt)
      have HB22 := Lib.hid (HB2.out.below hX2 HB2.out.lt)
      have HB32 := Lib.hid (HB3.out.below hX2 HB3.out.lt)
      have HW2 := Lib.hid (HW.out.trans (hX2.mono HW.out.size))
      have hS2 : w2.cell? ⟨w.heap.size, 0, none⟩ = some (.bool false) ∧ w2.cell? ⟨w.heap.size, 1, none⟩ = some (.slice A d.length c) ∧ w2.cell? ⟨w.heap.size + 1, 1, none⟩ = some (.slice A2 d2.length c2) := ⟨by rw [HB12.out.cell]; rfl, by rw [HB12.out.cell]; rfl, by rw [HB22.out.cell]; rfl⟩
      have hlb : d5.length ≤ max N M + 1 := by omega
      have hvl : sv false d5 = x + y := by obtain ⟨s1, s2⟩ := HSV.out; unfold sv at s1 s2 ⊢; simp only [Bool.false_eq_true, if_true, if_false] at s1 s2 ⊢; omega
      have HVL := Lib.hid hvl
      have HC5 := Lib.hid (whole_any false A5 c5 w2.heap.size d5 w2 hr5 (Nat.le_refl _) hdig5 (by omega) hc51 hc52)
      clear hX2 hbl5 hr5 hdig5 hval5 hvl hc52 hlen5
      dsimp only
      refine hK _ _ (fun _ => hS2) ?_; clear hK K
      refine wpSeq_heavy rfl rfl (fun K hK => ?_); go_simp
      refine HC5.out.mono ?_
      rintro e w3 ⟨v, rfl, ⟨b3, A3, d3, c3, rfl, ho3, hok3, hsv3, hl3⟩, hbl3⟩
      have hb3 := HB32.out.below hbl3 HB32.out.lt
      have b0 := hb3.cell
      have b1 := hb3.frozen
      have b2 := hb3.lt
      have hgeB : w.heap.size ≤ w.heap.size + 1 + 1 := by omega
      have HB4 := Lib.hid ((hb3.set_ 0 (.bool b3)).set_ 1 (.slice A3 d3.length c3))
      have HE := Lib.hid (((HW2.out.trans (hbl3.mono HW2.out.size)).setCell (p := ⟨w.heap.size + 1 + 1, 0, none⟩) hgeB (.bool b3)).setCell (p := ⟨w.heap.size + 1 + 1, 1, none⟩) hgeB (.slice A3 d3.length c3))
      have HO4 := Lib.hid (own_mono7 (base' := w.heap.size) (own_keep (w' := (w3.setCell ⟨w.heap.size + 1 + 1, 0, none⟩ (.bool b3)).setCell ⟨w.heap.size + 1 + 1, 1, none⟩ (.slice A3 d3.length c3)) ho3 fun g hg => by
        have hge := own_ge ho3 hg
        have hne : g ≠ w.heap.size + 1 + 1 := by have := HB32.out.lt; omega
        rw [Below.heap_setCell _ _ _ _ hne, Below.heap_setCell _ _ _ _ hne]) (by have := HW2.out.size; omega))
      have HOK3 := Lib.hid hok3
      have HS3 := Lib.hid hsv3
      clear hb3 ho3 hok3 hsv3 hbl3
      dsimp only
      refine hK _ _ (fun h => by cases h) ?_; clear hK K
      refine wpSeq_heavy rfl rfl (fun K hK => ?_); go_simp
      refine hK _ _ (fun h => by cases h) ?_; clear hK K
      refine wpSeq_end ?_
      go_wp2_with fail
      clear b0 b1 b2
      generalize (w3.setCell ⟨w.heap.size + 1 + 1, 0, none⟩ (.bool b3)).setCell ⟨w.heap.size + 1 + 1, 1, none⟩ (.slice A3 d3.length c3) = W4 at *
      have y0 := HB4.out.cell 0
      have y1 := HB4.out.cell 1
      simp at y0 y1
      refine bodyPost_ret (v := .agg #[.bool b3, .slice A3 d3.length c3]) (by simp [results, Try.results49, go_sem, y0, y1]) rfl ?_
      exact ⟨_, rfl, ⟨b3, A3, d3, c3, rfl, HO4.out, HOK3.out, by rw [HS3.out, HVL.out], by omega⟩, HE.out⟩
    · have hle : val d ≤ val d2 := by
        have := z1.1 (by omega)
        omega
      clear z1 z2 HCMP
      go_wp2_with fail
      have hS : (fun w' : World => w'.cell? ⟨w.heap.size + 1, 0, none⟩ = some (.bool true) ∧ w'.cell? ⟨w.heap.size + 1, 1, none⟩ = some (.slice A2 d2.length c2) ∧ w'.cell? ⟨w.heap.size, 1, none⟩ = some (.slice A d.length c)) X.drew := ⟨by rw [HB2.out.drew.cell]; rfl, by rw [HB2.out.drew.cell]; rfl, by rw [HB1.out.drew.cell]; rfl⟩
      refine wp_region_seqT (fun i => !([6, 7, 8] : List Nat).contains i) (fun i => ([1, 3, 5] : List Nat).contains i) (fun i => ([6] : List Nat).contains i) [0, 1, 2, 3, 4, 5, 6, 7, 8] (fun w' : World => w'.cell? ⟨w.heap.size + 1, 0, none⟩ = some (.bool true) ∧ w'.cell? ⟨w.heap.size + 1, 1, none⟩ = some (.slice A2 d2.length c2) ∧ w'.cell? ⟨w.heap.size, 1, none⟩ = some (.slice A d.length c)) (by kernel_rfl) (by kernel_rfl) (by kernel_rfl) (by kernel_rfl) ?_
      clear p0 p1 q0 q1
      refine wpSeq_pure (v := _) rfl rfl rfl (by kernel_rfl) (fun _ _ _ h => h) (fun wq => by first | (go_simp; done) | (go_simp; rfl)) ?_
      refine wpSeq_load (v := _) rfl rfl (by kernel_rfl) (fun _ _ _ h => h) hS rfl (fun wq hq => by obtain ⟨hq1, hq2, hq3⟩ := hq; first | (go_simp; done) | (go_simp; rfl)) ?_
      refine wpSeq_pure (v := _) rfl rfl rfl (by kernel_rfl) (fun _ _ _ h => h) (fun wq => by first | (go_simp; done) | (go_simp; rfl)) ?_
      refine wpSeq_load (v := _) rfl rfl (by kernel_rfl) (fun _ _ _ h => h) hS rfl (fun wq hq => by obtain ⟨hq1, hq2, hq3⟩ := hq; first | (go_simp; done) | (go_simp; rfl)) ?_
      refine wpSeq_pure (v := _) rfl rfl rfl (by kernel_rfl) (fun _ _ _ h => h) (fun wq => by first | (go_simp; done) | (go_simp; rfl)) ?_
      refine wpSeq_load (v := _) rfl rfl (by kernel_rfl) (fun _ _ _ h => h) hS rfl (fun wq hq => by obtain ⟨hq1, hq2, hq3⟩ := hq; first | (go_simp; done) | (go_simp; rfl)) ?_
      have HPP := Lib.hid (nless_any A2 A c2 c B d2 d X.drew (Hd2.out.below (Below.refl X.heap.size X).drew HBX0.out) (Hd.out.below (Below.refl X.heap.size X).drew HBX0.out) HBX.out HOd2.out.dig HOd.out.dig (by omega) (HOd.out.len (Int.lt_of_le_of_lt hle (val_lt HOd2.out.dig))) hle)
      refine wpSeq_heavy rfl rfl (fun K hK => ?_); go_simp
      refine HPP.out.mono ?_
      rintro e w2 ⟨A5, c5, d5, rfl, hr5, hc51, hc52, hdig5, hval5, hlen5, hbl5⟩
      have hX2 : Below X.heap.size X w2 := (Below.refl X.heap.size X).drew.trans hbl5
      have HB12 := Lib.hid (HB1.out.below hX2 HB1.out.lt)
      have HB22 := Lib.hid (HB2.out.below hX2 HB2.out.lt)
      have HB32 := Lib.hid (HB3.out.below hX2 HB3.out.lt)
      have HW2 := Lib.hid (HW.out.trans (hX2.mono HW.out.size))
      have hS2 : w2.cell? ⟨w.heap.size + 1, 0, none⟩ = some (.bool true) ∧ w2.cell? ⟨w.heap.size + 1, 1, none⟩ = some (.slice A2 d2.length c2) ∧ w2.cell? ⟨w.heap.size, 1, none⟩ = some (.slice A d.length c) := ⟨by rw [HB22.out.cell]; rfl, by rw [HB22.out.cell]; rfl, by rw [HB12.out.cell]; rfl⟩
      have hlb : d5.length ≤ max N M + 1 := by omega
      have hvl : sv true d5 = x + y := by obtain ⟨s1, s2⟩ := HSV.out; unfold sv at s1 s2 ⊢; simp only [Bool.false_eq_true, if_true, if_false] at s1 s2 ⊢; omega
      have HVL := Lib.hid hvl
      have HC5 := Lib.hid (whole_any true A5 c5 w2.heap.size d5 w2 hr5 (Nat.le_refl _) hdig5 (by omega) hc51 hc52)
      clear hX2 hbl5 hr5 hdig5 hval5 hvl hc52 hlen5
      dsimp only
      refine hK _ _ (fun _ => hS2) ?_; clear hK K
      refine wpSeq_heavy rfl rfl (fun K hK => ?_); go_simp
      refine HC5.out.mono ?_
      rintro e w3 ⟨v, rfl, ⟨b3, A3, d3, c3, rfl, ho3, hok3, hsv3, hl3⟩, hbl3⟩
      have hb3 := HB32.out.below hbl3 HB32.out.lt
      have b0 := hb3.cell
      have b1 := hb3.frozen
      have b2 := hb3.lt
      have hgeB : w.heap.size ≤ w.heap.size + 1 + 1 := by omega
      have HB4 := Lib.hid ((hb3.set_ 0 (.bool b3)).set_ 1 (.slice A3 d3.length c3))
      have HE := Lib.hid (((HW2.out.trans (hbl3.mono HW2.out.size)).setCell (p := ⟨w.heap.size + 1 + 1, 0, none⟩) hgeB (.bool b3)).setCell (p := ⟨w.heap.size + 1 + 1, 1, none⟩) hgeB (.slice A3 d3.length c3))
      have HO4 := Lib.hid (own_mono7 (base' := w.heap.size) (own_keep (w' := (w3.setCell ⟨w.heap.size + 1 + 1, 0, none⟩ (.bool b3)).setCell ⟨w.heap.size + 1 + 1, 1, none⟩ (.slice A3 d3.length c3)) ho3 fun g hg => by
        have hge := own_ge ho3 hg
        have hne : g ≠ w.heap.size + 1 + 1 := by have := HB32.out.lt; omega
        rw [Below.heap_setCell _ _ _ _ hne, Below.heap_setCell _ _ _ _ hne]) (by have := HW2.out.size; omega))
      have HOK3 := Lib.hid hok3
      have HS3 := Lib.hid hsv3
      clear hb3 ho3 hok3 hsv3 hbl3
      dsimp only
      refine hK _ _ (fun h => by cases h) ?_; clear hK K
      refine wpSeq_heavy rfl rfl (fun K hK => ?_); go_simp
      refine hK _ _ (fun h => by cases h) ?_; clear hK K
      refine wpSeq_end ?_
      go_wp2_with fail
      clear b0 b1 b2
      generalize (w3.setCell ⟨w.heap.size + 1 + 1, 0, none⟩ (.bool b3)).setCell ⟨w.heap.size + 1 + 1, 1, none⟩ (.slice A3 d3.length c3) = W4 at *
      have y0 := HB4.out.cell 0
      have y1 := HB4.out.cell 1
      simp at y0 y1
      refine bodyPost_ret (v := .agg #[.bool b3, .slice A3 d3.length c3]) (by simp [results, Try.results49, go_sem, y0, y1]) rfl ?_
      exact ⟨_, rfl, ⟨b3, A3, d3, c3, rfl, HO4.out, HOK3.out, by rw [HS3.out, HVL.out], by omega⟩, HE.out⟩
  · go_wp2_with fail
    refine (HCMP.out X (Below.refl _ _)).mono ?_
    rintro e w1 ⟨zz, rfl, ⟨z1, z2⟩, rfl⟩
    dsimp only
    by_cases hz : 0 ≤ zz
    · have hle : val d2 ≤ val d := by
        by_cases e : zz = 0
        · have := z2.1 e; omega
        · have h5 : ¬ val d < val d2 := fun hh => by have := z1.2 hh; omega
          omega
      clear z1 z2 HCMP
      go_wp2_with fail
      have hS : (fun w' : World => w'.cell? ⟨w.heap.size, 0, none⟩ = some (.bool true) ∧ w'.cell? ⟨w.heap.size, 1, none⟩ = some (.slice A d.length c) ∧ w'.cell? ⟨w.heap.size + 1, 1, none⟩ = some (.slice A2 d2.length c2)) X.drew := ⟨by rw [HB1.out.drew.cell]; rfl, by rw [HB1.out.drew.cell]; rfl, by rw [HB2.out.drew.cell]; rfl⟩
      refine wp_region_seqT (fun i => !([6, 7, 8] : List Nat).contains i) (fun i => ([1, 3, 5] : List Nat).contains i) (fun i => ([6] : List Nat).contains i) [0, 1, 2, 3, 4, 5, 6, 7, 8] (fun w' : World => w'.cell? ⟨w.heap.size, 0, none⟩ = some (.bool true) ∧ w'.cell? ⟨w.heap.size, 1, none⟩ = some (.slice A d.length c) ∧ w'.cell? ⟨w.heap.size + 1, 1, none⟩ = some (.slice A2 d2.length c2)) (by kernel_rfl) (by kernel_rfl) (by kernel_rfl) (by kernel_rfl) ?_
      clear p0 p1 q0 q1
      refine wpSeq_pure (v := _) rfl rfl rfl (by kernel_rfl) (fun _ _ _ h => h) (fun wq => by first | (go_simp; done) | (go_simp; rfl)) ?_
      refine wpSeq_load (v := _) rfl rfl (by kernel_rfl) (fun _ _ _ h => h) hS rfl (fun wq hq => by obtain ⟨hq1, hq2, hq3⟩ := hq; first | (go_simp; done) | (go_simp; rfl)) ?_
      refine wpSeq_pure (v := _) rfl rfl rfl (by kernel_rfl) (fun _ _ _ h => h) (fun wq => by first | (go_simp; done) | (go_simp; rfl)) ?_
      refine wpSeq_load (v := _) rfl rfl (by kernel_rfl) (fun _ _ _ h => h) hS rfl (fun wq hq => by obtain ⟨hq1, hq2, hq3⟩ := hq; first | (go_simp; done) | (go_simp; rfl)) ?_
      refine wpSeq_pure (v := _) rfl rfl rfl (by kernel_rfl) (fun _ _ _ h => h) (fun wq => by first | (go_simp; done) | (go_simp; rfl)) ?_
      refine wpSeq_load (v := _) rfl rfl (by kernel_rfl) (fun _ _ _ h => h) hS rfl (fun wq hq => by obtain ⟨hq1, hq2, hq3⟩ := hq; first | (go_simp; done) | (go_simp; rfl)) ?_
      have HPP := Lib.hid (nless_any A A2 c c2 B d d2 X.drew (Hd.out.below (Below.refl X.heap.size X).drew HBX0.out) (Hd2.out.below (Below.refl X.heap.size X).drew HBX0.out) HBX.out HOd.out.dig HOd2.out.dig (by omega) (HOd2.out.len (Int.lt_of_le_of_lt hle (val_lt HOd.out.dig))) hle)
      refine wpSeq_heavy rfl rfl (fun K hK => ?_); go_simp
      refine HPP.out.mono ?_
      rintro e w2 ⟨A5, c5, d5, rfl, hr5, hc51, hc52, hdig5, hval5, hlen5, hbl5⟩
      have hX2 : Below X.heap.size X w2 := (Below.refl X.heap.size X).drew.trans hbl5
      have HB12 := Lib.hid (HB1.out.below hX2 HB1.out.lt)
      have HB22 := Lib.hid (HB2.out.below hX2 HB2.out.lt)
      have HB32 := Lib.hid (HB3.out.below hX2 HB3.out.lt)
      have HW2 := Lib.hid (HW.out.trans (hX2.mono HW.out.size))
      have hS2 : w2.cell? ⟨w.heap.size, 0, none⟩ = some (.bool true) ∧ w2.cell? ⟨w.heap.size, 1, none⟩ = some (.slice A d.length c) ∧ w2.cell? ⟨w.heap.size + 1, 1, none⟩ = some (.slice A2 d2.length c2) := ⟨by rw [HB12.out.cell]; rfl, by rw [HB12.out.cell]; rfl, by rw [HB22.out.cell]; rfl⟩
      have hlb : d5.length ≤ max N M + 1 := by omega
      have hvl : sv true d5 = x + y := by obtain ⟨s1, s2⟩ := HSV.out; unfold sv at s1 s2 ⊢; simp only [Bool.false_eq_true, if_true, if_false] at s1 s2 ⊢; omega
      have HVL := Lib.hid hvl
      have HC5 := Lib.hid (whole_any true A5 c5 w2.heap.size d5 w2 hr5 (Nat.le_refl _) hdig5 (by omega) hc51 hc52)
      clear hX2 hbl5 hr5 hdig5 hval5 hvl hc52 hlen5
      dsimp only
      refine hK _ _ (fun _ => hS2) ?_; clear hK K
      refine wpSeq_heavy rfl rfl (fun K hK => ?_); go_simp
      refine HC5.out.mono ?_
      rintro e w3 ⟨v, rfl, ⟨b3, A3, d3, c3, rfl, ho3, hok3, hsv3, hl3⟩, hbl3⟩
      have hb3 := HB32.out.below hbl3 HB32.out.lt
      have b0 := hb3.cell
      have b1 := hb3.frozen
      have b2 := hb3.lt
      have hgeB : w.heap.size ≤ w.heap.size + 1 + 1 := by omega
      have HB4 := Lib.hid ((hb3.set_ 0 (.bool b3)).set_ 1 (.slice A3 d3.length c3))
      have HE := Lib.hid (((HW2.out.trans (hbl3.mono HW2.out.size)).setCell (p := ⟨w.heap.size + 1 + 1, 0, none⟩) hgeB (.bool b3)).setCell (p := ⟨w.heap.size + 1 + 1, 1, none⟩) hgeB (.slice A3 d3.length c3))
      have HO4 := Lib.hid (own_mono7 (base' := w.heap.size) (own_keep (w' := (w3.setCell ⟨w.heap.size + 1 + 1, 0, none⟩ (.bool b3)).setCell ⟨w.heap.size + 1 + 1, 1, none⟩ (.slice A3 d3.length c3)) ho3 fun g hg => by
        have hge := own_ge ho3 hg
        have hne : g ≠ w.heap.size + 1 + 1 := by have := HB32.out.lt; omega
        rw [Below.heap_setCell _ _ _ _ hne, Below.heap_setCell _ _ _ _ hne]) (by have := HW2.out.size; omega))
      have HOK3 := Lib.hid hok3
      have HS3 := Lib.hid hsv3
      clear hb3 ho3 hok3 hsv3 hbl3
      dsimp only
      refine hK _ _ (fun h => by cases h) ?_; clear hK K
      refine wpSeq_heavy rfl rfl (fun K hK => ?_); go_simp
      refine hK _ _ (fun h => by cases h) ?_; clear hK K
      refine wpSeq_end ?_
      go_wp2_with fail
      clear b0 b1 b2
      generalize (w3.setCell ⟨w.heap.size + 1 + 1, 0, none⟩ (.bool b3)).setCell ⟨w.heap.size + 1 + 1, 1, none⟩ (.slice A3 d3.length c3) = W4 at *
      have y0 := HB4.out.cell 0
      have y1 := HB4.out.cell 1
      simp at y0 y1
      refine bodyPost_ret (v := .agg #[.bool b3, .slice A3 d3.length c3]) (by simp [results, Try.results49, go_sem, y0, y1]) rfl ?_
      exact ⟨_, rfl, ⟨b3, A3, d3, c3, rfl, HO4.out, HOK3.out, by rw [HS3.out, HVL.out], by omega⟩, HE.out⟩
    · have hle : val d ≤ val d2 := by
        have := z1.1 (by omega)
        omega
      clear z1 z2 HCMP
      go_wp2_with fail
      have hS : (fun w' : World => w'.cell? ⟨w.heap.size + 1, 0, none⟩ = some (.bool false) ∧ w'.cell? ⟨w.heap.size + 1, 1, none⟩ = some (.slice A2 d2.length c2) ∧ w'.cell? ⟨w.heap.size, 1, none⟩ = some (.slice A d.length c)) X.drew := ⟨by rw [HB2.out.drew.cell]; rfl, by rw [HB2.out.drew.cell]; rfl, by rw [HB1.out.drew.cell]; rfl⟩
      refine wp_region_seqT (fun i => !([6, 7, 8] : List Nat).contains i) (fun i => ([1, 3, 5] : List Nat).contains i) (fun i => ([6] : List Nat).contains i) [0, 1, 2, 3, 4, 5, 6, 7, 8] (fun w' : World => w'.cell? ⟨w.heap.size + 1, 0, none⟩ = some (.bool false) ∧ w'.cell? ⟨w.heap.size + 1, 1, none⟩ = some (.slice A2 d2.length c2) ∧ w'.cell? ⟨w.heap.size, 1, none⟩ = some (.slice A d.length c)) (by kernel_rfl) (by kernel_rfl) (by kernel_rfl) (by kernel_rfl) ?_
      clear p0 p1 q0 q1
      refine wpSeq_pure (v := _) rfl rfl rfl (by kernel_rfl) (fun _ _ _ h => h) (fun wq => by first | (go_simp; done) | (go_simp; rfl)) ?_
      refine wpSeq_load (v := _) rfl rfl (by kernel_rfl) (fun _ _ _ h => h) hS rfl (fun wq hq => by obtain ⟨hq1, hq2, hq3⟩ := hq; first | (go_simp; done) | (go_simp; rfl)) ?_
      refine wpSeq_pure (v := _) rfl rfl rfl (by kernel_rfl) (fun _ _ _ h => h) (fun wq => by first | (go_simp; done) | (go_simp; rfl)) ?_
      refine wpSeq_load (v := _) rfl rfl (by kernel_rfl) (fun _ _ _ h => h) hS rfl (fun wq hq => by obtain ⟨hq1, hq2, hq3⟩ := hq; first | (go_simp; done) | (go_simp; rfl)) ?_
      refine wpSeq_pure (v := _) rfl rfl rfl (by kernel_rfl) (fun _ _ _ h => h) (fun wq => by first | (go_simp; done) | (go_simp; rfl)) ?_
      refine wpSeq_load (v := _) rfl rfl (by kernel_rfl) (fun _ _ _ h => h) hS rfl (fun wq hq => by obtain ⟨hq1, hq2, hq3⟩ := hq; first | (go_simp; done) | (go_simp; rfl)) ?_
      have HPP := Lib.hid (nless_any A2 A c2 c B d2 d X.drew (Hd2.out.below (Below.refl X.heap.size X).drew HBX0.out) (Hd.out.below (Below.refl X.heap.size X).drew HBX0.out) HBX.out HOd2.out.dig HOd.out.dig (by omega) (HOd.out.len (Int.lt_of_le_of_lt hle (val_lt HOd2.out.dig))) hle)
      refine wpSeq_heavy rfl rfl (fun K hK => ?_); go_simp
      refine HPP.out.mono ?_
      rintro e w2 ⟨A5, c5, d5, rfl, hr5, hc51, hc52, hdig5, hval5, hlen5, hbl5⟩
      have hX2 : Below X.heap.size X w2 := (Below.refl X.heap.size X).drew.trans hbl5
      have HB12 := Lib.hid (HB1.out.below hX2 HB1.out.lt)
      have HB22 := Lib.hid (HB2.out.below hX2 HB2.out.lt)
      have HB32 := Lib.hid (HB3.out.below hX2 HB3.out.lt)
      have HW2 := Lib.hid (HW.out.trans (hX2.mono HW.out.size))
      have hS2 : w2.cell? ⟨w.heap.size + 1, 0, none⟩ = some (.bool false) ∧ w2.cell? ⟨w.heap.size + 1, 1, none⟩ = some (.slice A2 d2.length c2) ∧ w2.cell? ⟨w.heap.size, 1, none⟩ = some (.slice A d.length c) := ⟨by rw [HB22.out.cell]; rfl, by rw [HB22.out.cell]; rfl, by rw [HB12.out.cell]; rfl⟩
      have hlb : d5.length ≤ max N M + 1 := by omega
      have hvl : sv false d5 = x + y := by obtain ⟨s1, s2⟩ := HSV.out; unfold sv at s1 s2 ⊢; simp only [Bool.false_eq_true, if_true, if_false] at s1 s2 ⊢; omega
      have HVL := Lib.hid hvl
      have HC5 := Lib.hid (whole_any false A5 c5 w2.heap.size d5 w2 hr5 (Nat.le_refl _) hdig5 (by omega) hc51 hc52)
      clear hX2 hbl5 hr5 hdig5 hval5 hvl hc52 hlen5
      dsimp only
      refine hK _ _ (fun _ => hS2) ?_; clear hK K
      refine wpSeq_heavy rfl rfl (fun K hK => ?_); go_simp
      refine HC5.out.mono ?_
      rintro e w3 ⟨v, rfl, ⟨b3, A3, d3, c3, rfl, ho3, hok3, hsv3, hl3⟩, hbl3⟩
      have hb3 := HB32.out.below hbl3 HB32.out.lt
      have b0 := hb3.cell
      have b1 := hb3.frozen
      have b2 := hb3.lt
      have hgeB : w.heap.size ≤ w.heap.size + 1 + 1 := by omega
      have HB4 := Lib.hid ((hb3.set_ 0 (.bool b3)).set_ 1 (.slice A3 d3.length c3))
      have HE := Lib.hid (((HW2.out.trans (hbl3.mono HW2.out.size)).setCell (p := ⟨w.heap.size + 1 + 1, 0, none⟩) hgeB (.bool b3)).setCell (p := ⟨w.heap.size + 1 + 1, 1, none⟩) hgeB (.slice A3 d3.length c3))
      have HO4 := Lib.hid (own_mono7 (base' := w.heap.size) (own_keep (w' := (w3.setCell ⟨w.heap.size + 1 + 1, 0, none⟩ (.bool b3)).setCell ⟨w.heap.size + 1 + 1, 1, none⟩ (.slice A3 d3.length c3)) ho3 fun g hg => by
        have hge := own_ge ho3 hg
        have hne : g ≠ w.heap.size + 1 + 1 := by have := HB32.out.lt; omega
        rw [Below.heap_setCell _ _ _ _ hne, Below.heap_setCell _ _ _ _ hne]) (by have := HW2.out.size; omega))
      have HOK3 := Lib.hid hok3
      have HS3 := Lib.hid hsv3
      clear hb3 ho3 hok3 hsv3 hbl3
      dsimp only
      refine hK _ _ (fun h => by cases h) ?_; clear hK K
      refine wpSeq_heavy rfl rfl (fun K hK => ?_); go_simp
      refine hK _ _ (fun h => by cases h) ?_; clear hK K
      refine wpSeq_end ?_
      go_wp2_with fail
      clear b0 b1 b2
      generalize (w3.setCell ⟨w.heap.size + 1 + 1, 0, none⟩ (.bool b3)).setCell ⟨w.heap.size + 1 + 1, 1, none⟩ (.slice A3 d3.length c3) = W4 at *
      have y0 := HB4.out.cell 0
      have y1 := HB4.out.cell 1
      simp at y0 y1
      refine bodyPost_ret (v := .agg #[.bool b3, .slice A3 d3.length c3]) (by simp [results, Try.results49, go_sem, y0, y1]) rfl ?_
      exact ⟨_, rfl, ⟨b3, A3, d3, c3, rfl, HO4.out, HOK3.out, by rw [HS3.out, HVL.out], by omega⟩, HE.out⟩
  · go_wp2_with fail
    have hS : (fun w' : World => w'.cell? ⟨w.heap.size, 0, none⟩ = some (.bool true) ∧ w'.cell? ⟨w.heap.size, 1, none⟩ = some (.slice A d.length c) ∧ w'.cell? ⟨w.heap.size + 1, 1, none⟩ = some (.slice A2 d2.length c2)) X.drew := ⟨by rw [HB1.out.drew.cell]; rfl, by rw [HB1.out.drew.cell]; rfl, by rw [HB2.out.drew.cell]; rfl⟩
    refine wp_region_seqT (fun i => !([6, 7, 8] : List Nat).contains i) (fun i => ([1, 3, 5] : List Nat).contains i) (fun i => ([6] : List Nat).contains i) [0, 1, 2, 3, 4, 5, 6, 7, 8] (fun w' : World => w'.cell? ⟨w.heap.size, 0, none⟩ = some (.bool true) ∧ w'.cell? ⟨w.heap.size, 1, none⟩ = some (.slice A d.length c) ∧ w'.cell? ⟨w.heap.size + 1, 1, none⟩ = some (.slice A2 d2.length c2)) (by kernel_rfl) (by kernel_rfl) (by kernel_rfl) (by kernel_rfl) ?_
    clear p0 p1 q0 q1
    refine wpSeq_pure (v := _) rfl rfl rfl (by kernel_rfl) (fun _ _ _ h => h) (fun wq => by first | (go_simp; done) | (go_simp; rfl)) ?_
    refine wpSeq_load (v := _) rfl rfl (by kernel_rfl) (fun _ _ _ h => h) hS rfl (fun wq hq => by obtain ⟨hq1, hq2, hq3⟩ := hq; first | (go_simp; done) | (go_simp; rfl)) ?_
    refine wpSeq_pure (v := _) rfl rfl rfl (by kernel_rfl) (fun _ _ _ h => h) (fun wq => by first | (go_simp; done) | (go_simp; rfl)) ?_
    refine wpSeq_load (v := _) rfl rfl (by kernel_rfl) (fun _ _ _ h => h) hS rfl (fun wq hq => by obtain ⟨hq1, hq2, hq3⟩ := hq; first | (go_simp; done) | (go_simp; rfl)) ?_
    refine wpSeq_pure (v := _) rfl rfl rfl (by kernel_rfl) (fun _ _ _ h => h) (fun wq => by first | (go_simp; done) | (go_simp; rfl)) ?_
    refine wpSeq_load (v := _) rfl rfl (by kernel_rfl) (fun _ _ _ h => h) hS rfl (fun wq hq => by obtain ⟨hq1, hq2, hq3⟩ := hq; first | (go_simp; done) | (go_simp; rfl)) ?_
    have HPP := Lib.hid (nplus_any A A2 c c2 B d d2 X.drew (Hd.out.below (Below.refl X.heap.size X).drew HBX0.out) (Hd2.out.below (Below.refl X.heap.size X).drew HBX0.out) HBX.out HOd.out.dig HOd2.out.dig (by omega) (by omega))
    refine wpSeq_heavy rfl rfl (fun K hK => ?_); go_simp
    refine HPP.out.mono ?_
    rintro e w2 ⟨A5, c5, d5, rfl, hr5, hc51, hc52, hdig5, hval5, hlen5, hbl5⟩
    have hX2 : Below X.heap.size X w2 := (Below.refl X.heap.size X).drew.trans hbl5
    have HB12 := Lib.hid (HB1.out.below hX2 HB1.out.lt)
    have HB22 := Lib.hid (HB2.out.below hX2 HB2.out.lt)
    have HB32 := Lib.hid (HB3.out.below hX2 HB3.out.lt)
    have HW2 := Lib.hid (HW.out.trans (hX2.mono HW.out.size))
    have hS2 : w2.cell? ⟨w.heap.size, 0, none⟩ = some (.bool true) ∧ w2.cell? ⟨w.heap.size, 1, none⟩ = some (.slice A d.length c) ∧ w2.cell? ⟨w.heap.size + 1, 1, none⟩ = some (.slice A2 d2.length c2) := ⟨by rw [HB12.out.cell]; rfl, by rw [HB12.out.cell]; rfl, by rw [HB22.out.cell]; rfl⟩
    have hlb : d5.length ≤ max N M + 1 := by omega
    have hvl : sv true d5 = x + y := by obtain ⟨s1, s2⟩ := HSV.out; unfold sv at s1 s2 ⊢; simp only [if_true] at s1 s2 ⊢; omega
    have HVL := Lib.hid hvl
    have HC5 := Lib.hid (whole_any true A5 c5 w2.heap.size d5 w2 hr5 (Nat.le_refl _) hdig5 (by omega) hc51 hc52)
    clear hX2 hbl5 hr5 hdig5 hval5 hvl hc52 hlen5
    dsimp only
    refine hK _ _ (fun _ => hS2) ?_; clear hK K
    refine wpSeq_heavy rfl rfl (fun K hK => ?_); go_simp
    refine HC5.out.mono ?_
    rintro e w3 ⟨v, rfl, ⟨b3, A3, d3, c3, rfl, ho3, hok3, hsv3, hl3⟩, hbl3⟩
    have hb3 := HB32.out.below hbl3 HB32.out.lt
    have b0 := hb3.cell
    have b1 := hb3.frozen
    have b2 := hb3.lt
    have hgeB : w.heap.size ≤ w.heap.size + 1 + 1 := by omega
    have HB4 := Lib.hid ((hb3.set_ 0 (.bool b3)).set_ 1 (.slice A3 d3.length c3))
    have HE := Lib.hid (((HW2.out.trans (hbl3.mono HW2.out.size)).setCell (p := ⟨w.heap.size + 1 + 1, 0, none⟩) hgeB (.bool b3)).setCell (p := ⟨w.heap.size + 1 + 1, 1, none⟩) hgeB (.slice A3 d3.length c3))
    have HO4 := Lib.hid (own_mono7 (base' := w.heap.size) (own_keep (w' := (w3.setCell ⟨w.heap.size + 1 + 1, 0, none⟩ (.bool b3)).setCell ⟨w.heap.size + 1 + 1, 1, none⟩ (.slice A3 d3.length c3)) ho3 fun g hg => by
      have hge := own_ge ho3 hg
      have hne : g ≠ w.heap.size + 1 + 1 := by have := HB32.out.lt; omega
      rw [Below.heap_setCell _ _ _ _ hne, Below.heap_setCell _ _ _ _ hne]) (by have := HW2.out.size; omega))
    have HOK3 := Lib.hid hok3
    have HS3 := Lib.hid hsv3
    clear hb3 ho3 hok3 hsv3 hbl3
    dsimp only
    refine hK _ _ (fun h => by cases h) ?_; clear hK K
    refine wpSeq_heavy rfl rfl (fun K hK => ?_); go_simp
    refine hK _ _ (fun h => by cases h) ?_; clear hK K
    refine wpSeq_end ?_
    go_wp2_with fail
    clear b0 b1 b2
    generalize (w3.setCell ⟨w.heap.size + 1 + 1, 0, none⟩ (.bool b3)).setCell ⟨w.heap.size + 1 + 1, 1, none⟩ (.slice A3 d3.length c3) = W4 at *
    have y0 := HB4.out.cell 0
    have y1 := HB4.out.cell 1
    simp at y0 y1
    refine bodyPost_ret (v := .agg #[.bool b3, .slice A3 d3.length c3]) (by simp [results, Try.results49, go_sem, y0, y1]) rfl ?_
    exact ⟨_, rfl, ⟨b3, A3, d3, c3, rfl, HO4.out, HOK3.out, by rw [HS3.out, HVL.out], by omega⟩, HE.out⟩
end Go.Proofs.Ytnalbkjbidaojaa

/- compose.down, compose.Deep: their contracts. Expanded from XCoQ.src by expand.py. -/
import Derived.Test.YtoklllbaihccnaaCoN
import Derived.Test.YtoklllbaihccnaaCqB
set_option linter.unusedVariables false
set_option linter.unusedSimpArgs false
namespace Go.Proofs.Ytoklllbaihccnaa
open Go.RowKit Go.Shelf
namespace Dp
theorem learn_bd (gl : List Gl) : ∀ (n : Nat) (os : List Int), os.length = n → ∀ x, 0 ≤ learn (most gl) os x ∧ learn (most gl) os x ≤ n
  | 0, os, h, x => by
    have : os = [] := List.eq_nil_of_length_eq_zero h
    subst this
    simp [learn]
  | n + 1, os, h, x => by
    rcases List.eq_nil_or_concat os with rfl | ⟨l, g, rfl⟩
    · cases h
    · have hl : l.length = n := by simpa using h
      have ih := learn_bd gl n l hl
      have e : l ++ [g] = l.concat g := by simp
      rw [← e] at *
      rw [learn_snoc]
      unfold upd
      split
      · have : ∀ (ps : List Prt) (m : Int), 0 ≤ m ∧ m ≤ n + 1 → 0 ≤ ps.foldl (fun m p => max m (learn (most gl) l p.1 + 1)) m ∧ ps.foldl (fun m p => max m (learn (most gl) l p.1 + 1)) m ≤ n + 1 := by
          intro ps
          induction ps with
          | nil => intro m h; exact h
          | cons p ps ihp => intro m h; rw [List.foldl_cons]; exact ihp _ (by have := ih p.1; omega)
        exact this _ 0 (by omega)
      · have := ih x; omega
/-- what down tells: in which order, how deep, what is wrong -/
def down (gl : List Gl) (g : Int) : List Int × Int × Int :=
  if thereB gl.length g = true then
    if (Ln.line gl ((Wk.all gl g).map Int.toNat)).length < (Wk.all gl g).length then ([], 0, 33)
    else if 4 < learn (most gl) (Ln.line gl ((Wk.all gl g).map Int.toNat)) g then ([], 0, 34)
    else (Ln.line gl ((Wk.all gl g).map Int.toNat), learn (most gl) (Ln.line gl ((Wk.all gl g).map Int.toNat)) g, 0)
  else ([], 0, 32)
end Dp
theorem all_nat {gl : List Gl} (hp : ∀ g, (partsOf gl g).length ≤ 1000) {g : Int} (hg : thereB gl.length g = true) : ((Wk.all gl g).map Int.toNat).map (Nat.cast : Nat → Int) = Wk.all gl g ∧ (∀ x ∈ (Wk.all gl g).map Int.toNat, x < gl.length) ∧ ((Wk.all gl g).map Int.toNat).Nodup := by
  have hg' : 0 ≤ g ∧ g < gl.length := by simpa [thereB] using hg
  obtain ⟨h1, h2⟩ := Wk.all_ok hp hg'
  have h3 : ∀ x ∈ Wk.all gl g, 0 ≤ x ∧ x < gl.length := fun x hx => ((h2 x).1 hx).inR hg'
  refine ⟨?_, fun x hx => ?_, ?_⟩
  · rw [List.map_map]
    conv => rhs; rw [← List.map_id (Wk.all gl g)]
    exact List.map_congr_left fun x hx => by have := h3 x hx; simp only [Function.comp, id]; omega
  · obtain ⟨y, hy, rfl⟩ := List.mem_map.1 hx
    have := h3 y hy; omega
  · have h4 : (Wk.all gl g).Pairwise (fun a b => a < b ∧ 0 ≤ a) := List.Pairwise.imp_of_mem (fun ha _ h => ⟨h, (h3 _ ha).1⟩) h1
    exact List.Pairwise.map _ (fun a b h => by omega) h4
theorem CMap.drew {w : World} {b : Nat} {c : Int → Int} (h : CMap w b c) : CMap w.drew b c := h
theorem FAt.same {w w' : World} {A : Option Addr} {gl : List Gl} (h : FAt w w.heap.size A gl) (hb : Below w.heap.size w w') : FAt w' w'.heap.size A gl := (h.below hb (Nat.le_refl _)).more hb.size
set_option maxRecDepth 100000 in
set_option maxHeartbeats 4000000 in
theorem down_any (fv : Fv) (gl : List Gl) (g : Int) (w : World) (hv : fv.n = gl.length) (hf : FAt w w.heap.size fv.A gl) (h12 : gl.length ≤ 12) (hgi : I64 g) (h1 : fv.One) :
    Calls Try.prog 30 #[.agg fv.cs, .int .i64 g] w fun e w' => ∃ tv, e = .returned (.tuple #[tv, .int .i64 (Dp.down gl g).2.1, .int .i64 (Dp.down gl g).2.2]) ∧ w'.ownsRow w.heap.size 3 1 tv (Dp.down gl g).1.length (ints (Dp.down gl g).1) ∧ Below w.heap.size w w' := by
  have hpf := parts_few hf
  have HONE := Lib.hid h1
  obtain ⟨fu, fA, fn, fc, d2, d3, d4, d5, d6, d7, d8⟩ := fv
  obtain ⟨⟨xu, k0⟩, ⟨A2, n2, c2, k2⟩, ⟨A3, n3, c3, k3⟩, ⟨A4, n4, c4, k4⟩, ⟨A5, n5, c5, k5⟩, ⟨A6, n6, c6, k6⟩, ⟨A7, n7, c7, k7⟩, ⟨A8, n8, c8, k8⟩⟩ := h1
  simp only at k0 k2 k3 k4 k5 k6 k7 k8 hf hv
  subst k0 k2 k3 k4 k5 k6 k7 k8
  have HF := Lib.hid hf
  have HV := Lib.hid hv
  have HP := Lib.hid hpf
  have hfn : fn ≤ 1000000 := by omega
  clear hf hv hpf
  go_enter Try.func30, Try.ntmps30
  go_wp2_with fail
  refine (there_any ⟨.int .i64 xu, fA, fn, fc, .slice A2 n2 c2, .slice A3 n3 c3, .slice A4 n4 c4, .slice A5 n5 c5, .slice A6 n6 c6, .slice A7 n7 c7, .slice A8 n8 c8⟩ g _ hfn hgi).mono ?_
  rintro e w' ⟨rfl, rfl⟩
  rw [show thereB (Fv.n ⟨.int .i64 xu, fA, fn, fc, .slice A2 n2 c2, .slice A3 n3 c3, .slice A4 n4 c4, .slice A5 n5 c5, .slice A6 n6 c6, .slice A7 n7 c7, .slice A8 n8 c8⟩) g = thereB gl.length g by rw [← HV.out]]
  obtain ⟨W0, hW0⟩ : ∃ W0, ((w.alloc (.cells (Fv.cs ⟨.int .i64 xu, fA, fn, fc, .slice A2 n2 c2, .slice A3 n3 c3, .slice A4 n4 c4, .slice A5 n5 c5, .slice A6 n6 c6, .slice A7 n7 c7, .slice A8 n8 c8⟩) 32)).alloc (.cells (Fv.cs ⟨.int .i64 xu, fA, fn, fc, .slice A2 n2 c2, .slice A3 n3 c3, .slice A4 n4 c4, .slice A5 n5 c5, .slice A6 n6 c6, .slice A7 n7 c7, .slice A8 n8 c8⟩) 32)) = W0 := ⟨_, rfl⟩
  have hB0 : Below w.heap.size w W0 := by rw [← hW0]; exact ((Below.refl _ _).alloc (Nat.le_refl _) _).alloc (by simp) _
  have hX0 : Blk W0 w.heap.size 32 (Fv.cs ⟨.int .i64 xu, fA, fn, fc, .slice A2 n2 c2, .slice A3 n3 c3, .slice A4 n4 c4, .slice A5 n5 c5, .slice A6 n6 c6, .slice A7 n7 c7, .slice A8 n8 c8⟩) := by rw [← hW0]; exact (Blk.new _ _ _).alloc _
  have hs0 : W0.heap.size = w.heap.size + 2 := by rw [← hW0]; simp
  by_cases ht : thereB gl.length g = true
  · rw [ht]
    have HB0 := Lib.hid hB0
    have HS0 := Lib.hid hs0
    rw [hW0]
    have y0 := hX0.cell 0
    have y1 := hX0.cell 1
    have y2 := hX0.cell 2
    have y3 := hX0.cell 3
    have y4 := hX0.cell 4
    have y5 := hX0.cell 5
    have y6 := hX0.cell 6
    have y7 := hX0.cell 7
    have y8 := hX0.cell 8
    have yl := hX0.lt
    simp only [List.getElem?_toArray, List.getElem?_cons_zero, List.getElem?_cons_succ] at y0 y1 y2 y3 y4 y5 y6 y7 y8
    have HX0 := Lib.hid hX0
    clear hW0 hB0 hX0 hs0
    go_wp2_with fail
    have hf0 : FAt W0 W0.heap.size fA gl := HF.out.same HB0.out
    refine (all_any ⟨.int .i64 xu, fA, fn, fc, .slice A2 n2 c2, .slice A3 n3 c3, .slice A4 n4 c4, .slice A5 n5 c5, .slice A6 n6 c6, .slice A7 n7 c7, .slice A8 n8 c8⟩ gl g W0 HV.out hf0 h12 hgi HONE.out).mono ?_
    rintro e W1 ⟨av, rfl, hro, hB1⟩
    obtain ⟨aA, ac, rfl, hac, ham⟩ := owns_form hro
    have hX1 : Blk W1 w.heap.size 32 (Fv.cs ⟨.int .i64 xu, fA, fn, fc, .slice A2 n2 c2, .slice A3 n3 c3, .slice A4 n4 c4, .slice A5 n5 c5, .slice A6 n6 c6, .slice A7 n7 c7, .slice A8 n8 c8⟩) := HX0.out.below hB1 yl
    clear y0 y1 y2 y3 y4 y5 y6 y7 y8 yl hf0
    have y0 := hX1.cell 0
    have y1 := hX1.cell 1
    have y2 := hX1.cell 2
    have y3 := hX1.cell 3
    have y4 := hX1.cell 4
    have y5 := hX1.cell 5
    have y6 := hX1.cell 6
    have y7 := hX1.cell 7
    have y8 := hX1.cell 8
    have yl := hX1.lt
    simp only [List.getElem?_toArray, List.getElem?_cons_zero, List.getElem?_cons_succ] at y0 y1 y2 y3 y4 y5 y6 y7 y8
    have HX1 := Lib.hid hX1
    have HB1 := Lib.hid hB1
    have HRO := Lib.hid hro
    obtain ⟨hm1, hm2, hm3⟩ := all_nat HP.out ht
    obtain ⟨gs, hgs⟩ : ∃ gs, (Wk.all gl g).map Int.toNat = gs := ⟨_, rfl⟩
    rw [hgs] at hm1 hm2 hm3
    have hgl : gs.length = (Wk.all gl g).length := by rw [← hgs, List.length_map]
    obtain ⟨al, hal⟩ : ∃ al, Wk.all gl g = al := ⟨_, rfl⟩
    rw [hal] at hm1 hgl hro hac
    have hall : al.length ≤ 12 := by
      have := List.Nodup.length_le_of_subset hm3 (l₂ := List.range gl.length) fun x hx => List.mem_range.2 (hm2 x hx)
      rw [List.length_range] at this
      omega
    have HRO := Lib.hid hro
    have HGL := Lib.hid hgl
    have HM1 := Lib.hid hm1
    have HM2 := Lib.hid hm2
    have HM3 := Lib.hid hm3
    have HGS := Lib.hid hgs
    have HAL := Lib.hid hal
    rw [hal]
    clear hX1 hB1 hro hm1 hm2 hm3 hgs hgl hal
    go_wp2_with fail
    have hB01 : Below w.heap.size w W1 := HB0.out.trans (HB1.out.mono (by have := HS0.out; omega))
    rw [show al.length = gs.length from HGL.out.symm]
    refine (line_any ⟨.int .i64 xu, fA, fn, fc, .slice A2 n2 c2, .slice A3 n3 c3, .slice A4 n4 c4, .slice A5 n5 c5, .slice A6 n6 c6, .slice A7 n7 c7, .slice A8 n8 c8⟩ gl gs aA ac W1 HV.out (HF.out.same hB01) (by have := Reads.of_own HRO.out; rw [HM1.out, HGL.out]; exact this) HM2.out (by have := HGL.out; omega) (by have := HGL.out; omega)).mono ?_
    rintro e W2 ⟨lv, rfl, hrl, hB2⟩
    obtain ⟨lA, lc, rfl, hlc, hlm⟩ := owns_form hrl
    obtain ⟨ol, hol⟩ : ∃ ol, Ln.line gl gs = ol := ⟨_, rfl⟩
    rw [hol] at hrl hlc ⊢
    have htold := Ln.line_told (gl := gl) HM3.out
    rw [hol, show Ln.asI gs = al from HM1.out] at htold
    have hdn : Dp.down gl g = if ol.length < al.length then ([], 0, 33) else if 4 < Dp.learn (Dp.most gl) ol g then ([], 0, 34) else (ol, Dp.learn (Dp.most gl) ol g, 0) := by unfold Dp.down; rw [if_pos ht, HGS.out, hol, HAL.out]
    have hol12 : ol.length ≤ 12 := by
      have := List.Nodup.length_le_of_subset htold.nd (l₂ := al) fun x hx => htold.sub x hx
      omega
    have HB01 := Lib.hid hB01
    have HB2 := Lib.hid hB2
    have HRL := Lib.hid hrl
    have HT := Lib.hid htold
    have HDN := Lib.hid hdn
    have hX2 : Blk W2 w.heap.size 32 (Fv.cs ⟨.int .i64 xu, fA, fn, fc, .slice A2 n2 c2, .slice A3 n3 c3, .slice A4 n4 c4, .slice A5 n5 c5, .slice A6 n6 c6, .slice A7 n7 c7, .slice A8 n8 c8⟩) := HX1.out.below hB2 yl
    have HX2 := Lib.hid hX2
    have HGL := HGL.out
    clear hrl hB2 hol htold hdn hB01 hX2 y0 y1 y2 y3 y4 y5 y6 y7 y8 yl
    by_cases hlt : ol.length < al.length
    · go_wp2_with fail
      have e0 : Dp.down gl g = ([], 0, 33) := by rw [HDN.out, if_pos hlt]
      rw [e0]
      exact bodyPost_ret (v := .tuple #[.slice none 0 0, .int .i64 0, .int .i64 33]) (by simp [results, Try.results30, go_sem]) rfl ⟨_, rfl, owns_nil _ _ _ _, HB01.out.trans (HB2.out.mono HB01.out.size)⟩
    · have HLT := Lib.hid hlt
      go_wp2_with fail
      have hin : ∀ x ∈ ol, 0 ≤ x ∧ x < (gl.length : Int) := fun x hx => by
        have h1 := HT.out.sub x hx
        rw [← HM1.out] at h1
        obtain ⟨n, hn, rfl⟩ := List.mem_map.1 h1
        have := HM2.out n hn
        omega
      have HIN := Lib.hid hin
      have hB02 : Below w.heap.size w W2 := HB01.out.trans (HB2.out.mono HB01.out.size)
      have HB02 := Lib.hid hB02
      clear hin hB02
      refine (learn_any 0 52 #[.pointer (some ⟨w.heap.size, 0, none⟩)] (Dp.most gl) ol W2.heap.size lA lc W2 (Reads.of_own HRL.out) (Nat.le_refl _) hlc (by omega) (fun x hx => by have := HIN.out x hx; unfold I64; omega) (fun pre x post hsp W M hM hMs hBW => ?_) (enters_of Try.func52 (by kernel_rfl) rfl)).mono ?_
      · have hx := HIN.out x (by rw [hsp]; simp)
        have hpl : pre.length ≤ 12 := by rw [hsp, List.length_append] at hol12; omega
        obtain ⟨n, rfl⟩ := Int.eq_ofNat_of_zero_le hx.1
        refine (down1_any ⟨.int .i64 xu, fA, fn, fc, .slice A2 n2 c2, .slice A3 n3 c3, .slice A4 n4 c4, .slice A5 n5 c5, .slice A6 n6 c6, .slice A7 n7 c7, .slice A8 n8 c8⟩ gl n M w.heap.size w.heap.size (Dp.learn (Dp.most gl) pre) W HV.out (HX2.out.below hBW HX2.out.lt) ((HF.out.below (HB02.out.trans (hBW.mono HB02.out.size)) (Nat.le_refl _))) (by have := HB02.out.size; have := hBW.size; omega) (by omega) hM (fun y => by have := Dp.learn_bd gl _ pre rfl y; omega)).mono ?_
        rintro e W' ⟨rfl, hg⟩
        exact ⟨rfl, hg⟩
      · rintro e W3 ⟨M, rfl, hM, _, hB3⟩
        have hlk := hM.look g hgi
        have hlk2 := hM.drew.look g hgi
        have hdb := Dp.learn_bd gl _ ol rfl g
        obtain ⟨d, hd⟩ : ∃ d, Dp.learn (Dp.most gl) ol g = d := ⟨_, rfl⟩
        rw [hd] at hlk hlk2 hdb
        have hrl3 : W3.ownsRow w.heap.size 3 1 (.slice lA ol.length lc) ol.length (ints ol) := owns_mono (owns_keep HRL.out fun k hk => hB3.block k (owns_block HRL.out hk).2.1) HB01.out.size
        have hdn := HDN.out
        rw [if_neg HLT.out, hd] at hdn
        have HDN2 := Lib.hid hdn
        have HB3 := Lib.hid (HB02.out.trans (hB3.mono HB02.out.size))
        have HRL3 := Lib.hid hrl3
        clear hM hB3 hd hrl3 hdn
        by_cases h4 : 4 < d
        · go_wp2_with fail
          have e0 := HDN2.out
          rw [if_pos h4] at e0
          rw [e0]
          exact bodyPost_ret (v := .tuple #[.slice none 0 0, .int .i64 0, .int .i64 34]) (by simp [results, Try.results30, go_sem]) rfl ⟨_, rfl, owns_nil _ _ _ _, HB3.out⟩
        · have H4 := Lib.hid h4
          go_wp2_with fail
          go_region
          all_goals
            go_wp2_with fail
            have e0 := HDN2.out
            rw [if_neg (by have := H4.out; omega)] at e0
            rw [e0]
            exact bodyPost_ret (v := .tuple #[.slice lA ol.length lc, .int .i64 d, .int .i64 0]) (by simp [results, Try.results30, go_sem]) rfl ⟨_, rfl, owns_keep HRL3.out (fun _ _ => rfl), HB3.out.drew⟩
  · simp only [Bool.not_eq_true] at ht
    rw [ht, hW0]
    have e0 : Dp.down gl g = ([], 0, 32) := by unfold Dp.down; rw [if_neg (by rw [ht]; decide)]
    have HB0 := Lib.hid hB0
    clear hW0 hB0 hX0 hs0
    go_wp2_with fail
    rw [e0]
    exact bodyPost_ret (v := .tuple #[.slice none 0 0, .int .i64 0, .int .i64 32]) (by simp [results, Try.results30, go_sem]) rfl ⟨_, rfl, owns_nil _ _ _ _, HB0.out⟩
set_option maxRecDepth 100000 in
set_option maxHeartbeats 4000000 in
theorem deep_any (fv : Fv) (gl : List Gl) (g : Int) (w : World) (hv : fv.n = gl.length) (hf : FAt w w.heap.size fv.A gl) (h12 : gl.length ≤ 12) (hgi : I64 g) (h1 : fv.One) :
    Calls Try.prog 17 #[.agg fv.cs, .int .i64 g] w fun e w' => e = .returned (.tuple #[.int .i64 (Dp.down gl g).2.1, .int .i64 (Dp.down gl g).2.2]) ∧ Below w.heap.size w w' := by
  have HONE := Lib.hid h1
  obtain ⟨fu, fA, fn, fc, d2, d3, d4, d5, d6, d7, d8⟩ := fv
  obtain ⟨⟨xu, k0⟩, ⟨A2, n2, c2, k2⟩, ⟨A3, n3, c3, k3⟩, ⟨A4, n4, c4, k4⟩, ⟨A5, n5, c5, k5⟩, ⟨A6, n6, c6, k6⟩, ⟨A7, n7, c7, k7⟩, ⟨A8, n8, c8, k8⟩⟩ := h1
  simp only at k0 k2 k3 k4 k5 k6 k7 k8 hf hv
  subst k0 k2 k3 k4 k5 k6 k7 k8
  have HF := Lib.hid hf
  have HV := Lib.hid hv
  clear hf hv
  go_enter Try.func17, Try.ntmps17
  go_wp2_with fail
  have hB0 : Below w.heap.size w (w.alloc (.cells (Fv.cs ⟨.int .i64 xu, fA, fn, fc, .slice A2 n2 c2, .slice A3 n3 c3, .slice A4 n4 c4, .slice A5 n5 c5, .slice A6 n6 c6, .slice A7 n7 c7, .slice A8 n8 c8⟩) 32)) := (Below.refl _ _).alloc (Nat.le_refl _) _
  have HB0 := Lib.hid hB0
  refine (down_any ⟨.int .i64 xu, fA, fn, fc, .slice A2 n2 c2, .slice A3 n3 c3, .slice A4 n4 c4, .slice A5 n5 c5, .slice A6 n6 c6, .slice A7 n7 c7, .slice A8 n8 c8⟩ gl g _ HV.out (HF.out.same hB0) h12 hgi HONE.out).mono ?_
  clear hB0
  rintro e W ⟨tv, rfl, hro, hB⟩
  obtain ⟨lA, lc, rfl, _, _⟩ := owns_form hro
  have HB := Lib.hid hB
  clear hro hB
  go_wp2_with fail
  exact bodyPost_ret (v := .tuple #[.int .i64 (Dp.down gl g).2.1, .int .i64 (Dp.down gl g).2.2]) (by simp [results, Try.results17, go_sem]) rfl ⟨rfl, HB0.out.trans (HB.out.mono HB0.out.size)⟩
end Go.Proofs.Ytoklllbaihccnaa

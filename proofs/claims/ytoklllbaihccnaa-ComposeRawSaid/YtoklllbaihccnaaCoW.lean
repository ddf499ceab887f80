/- compose.Flat: its contract. Expanded from XCoW.src by expand.py. -/
import Derived.Test.YtoklllbaihccnaaCoV
set_option linter.unusedVariables false
set_option linter.unusedSimpArgs false
namespace Go.Proofs.Ytoklllbaihccnaa
open Go.RowKit Go.Shelf
namespace Dp
def flat (gl : List Gl) (g : Int) : Ol × Int :=
  if (down gl g).2.2 = 0 then if 1001 ≤ learn (many gl) (down gl g).1 g then (([], []), 2) else (learnO (flatF gl) (down gl g).1 g, 0) else (([], []), (down gl g).2.2)
theorem down_in {gl : List Gl} (hp : ∀ g, (partsOf gl g).length ≤ 1000) {g : Int} : ∀ x ∈ (down gl g).1, 0 ≤ x ∧ x < (gl.length : Int) := by
  intro x hx
  unfold down at hx
  split at hx
  · rename_i ht
    split at hx
    · cases hx
    · split at hx
      · cases hx
      · obtain ⟨h1, h2, h3⟩ := all_nat hp ht
        have h4 := (Ln.line_told (gl := gl) h3).sub x hx
        obtain ⟨n, hn, rfl⟩ := Ln.mem_asI.1 h4
        have := h2 n hn
        omega
  · cases hx
theorem down_len {gl : List Gl} (hp : ∀ g, (partsOf gl g).length ≤ 1000) {g : Int} : (down gl g).1.length ≤ gl.length := by
  unfold down
  split
  · rename_i ht
    split
    · exact Nat.zero_le _
    · split
      · exact Nat.zero_le _
      · obtain ⟨h1, h2, h3⟩ := all_nat hp ht
        have h4 := Ln.line_told (gl := gl) h3
        have h5 := List.Nodup.length_le_of_subset h4.nd (l₂ := Ln.asI (List.range gl.length)) fun x hx => by
          obtain ⟨n, hn, rfl⟩ := Ln.mem_asI.1 (h4.sub x hx)
          exact Ln.mem_asI.2 ⟨n, List.mem_range.2 (h2 n hn), rfl⟩
        simpa using h5
  · exact Nat.zero_le _
theorem down_err (gl : List Gl) (g : Int) : 0 ≤ (down gl g).2.2 ∧ (down gl g).2.2 ≤ 34 := by
  unfold down
  split
  · split
    · simp
    · split <;> simp
  · simp
end Dp
set_option maxRecDepth 100000 in
set_option maxHeartbeats 4000000 in
theorem flat_any (fv : Fv) (gl : List Gl) (g : Int) (w : World) (hv : fv.n = gl.length) (hf : FAt w w.heap.size fv.A gl) (h12 : gl.length ≤ 12) (hgi : I64 g) (h1 : fv.One)
    (hbd : (Dp.down gl g).2.2 = 0 → Dp.learn (Dp.many gl) (Dp.down gl g).1 g ≤ 1000 → ∀ pre x post, (Dp.down gl g).1 = pre ++ x :: post → ∀ y, (Dp.learnO (Dp.flatF gl) pre y).1.length ≤ 90000 ∧ (Dp.learnO (Dp.flatF gl) pre y).2.length ≤ 90000) :
    Calls Try.prog 16 #[.agg fv.cs, .int .i64 g] w fun e w' => ∃ pv ev, e = .returned (.tuple #[.agg #[pv, ev], .int .i64 (Dp.flat gl g).2]) ∧ OlOwn w' w.heap.size pv ev (Dp.flat gl g).1 ∧ Below w.heap.size w w' := by
  have hpf := parts_few hf
  have HONE := Lib.hid h1
  have HBD := Lib.hid hbd
  clear hbd
  obtain ⟨fu, fA, fn, fc, d2, d3, d4, d5, d6, d7, d8⟩ := fv
  obtain ⟨⟨xu, k0⟩, ⟨A2, n2, c2, k2⟩, ⟨A3, n3, c3, k3⟩, ⟨A4, n4, c4, k4⟩, ⟨A5, n5, c5, k5⟩, ⟨A6, n6, c6, k6⟩, ⟨A7, n7, c7, k7⟩, ⟨A8, n8, c8, k8⟩⟩ := h1
  simp only at k0 k2 k3 k4 k5 k6 k7 k8 hf hv
  subst k0 k2 k3 k4 k5 k6 k7 k8
  have HF := Lib.hid hf
  have HV := Lib.hid hv
  have HP := Lib.hid hpf
  clear hf hv hpf
  go_enter Try.func16, Try.ntmps16
  go_wp2_with fail
  obtain ⟨W0, hW0⟩ : ∃ W0, ((w.alloc (.cells (Fv.cs ⟨.int .i64 xu, fA, fn, fc, .slice A2 n2 c2, .slice A3 n3 c3, .slice A4 n4 c4, .slice A5 n5 c5, .slice A6 n6 c6, .slice A7 n7 c7, .slice A8 n8 c8⟩) 32)).alloc (.cells #[.slice none 0 0, .slice none 0 0] 39)) = W0 := ⟨_, rfl⟩
  have hg0 : Grow w W0 := by rw [← hW0]; exact ((Fr.refl _ _).alloc _).alloc _
  have hB0 : Below w.heap.size w W0 := hg0.below (Nat.le_refl _)
  have hX0 : Blk W0 w.heap.size 32 (Fv.cs ⟨.int .i64 xu, fA, fn, fc, .slice A2 n2 c2, .slice A3 n3 c3, .slice A4 n4 c4, .slice A5 n5 c5, .slice A6 n6 c6, .slice A7 n7 c7, .slice A8 n8 c8⟩) := by rw [← hW0]; exact (Blk.new _ _ _).alloc _
  have hR0 : Blk W0 (w.heap.size + 1) 39 #[.slice none 0 0, .slice none 0 0] := by rw [← hW0]; exact Blk.new_at _ _ _ (by simp)
  have hs0 : W0.heap.size = w.heap.size + 2 := by rw [← hW0]; simp
  rw [hW0]
  refine (down_any ⟨.int .i64 xu, fA, fn, fc, .slice A2 n2 c2, .slice A3 n3 c3, .slice A4 n4 c4, .slice A5 n5 c5, .slice A6 n6 c6, .slice A7 n7 c7, .slice A8 n8 c8⟩ gl g W0 HV.out (HF.out.same hB0) h12 hgi HONE.out).mono ?_
  rintro e W1 ⟨tv, rfl, hro, hB1⟩
  obtain ⟨ord, deep, err, hdn⟩ : ∃ ord deep err, Dp.down gl g = (ord, deep, err) := ⟨_, _, _, rfl⟩
  have hbd := HBD.out
  have hin := Dp.down_in HP.out (g := g)
  have hln := Dp.down_len HP.out (g := g)
  have her := Dp.down_err gl g
  rw [hdn] at hro hbd hin hln her
  simp only at hro hbd hin hln her
  rw [hdn]
  simp only
  obtain ⟨lA, lc, rfl, hlc, hlm⟩ := owns_form hro
  have hB01 : Below w.heap.size w W1 := hB0.trans (hB1.mono (by omega))
  have hX1 := hX0.below hB1 hX0.lt
  have hR1 := hR0.below hB1 hR0.lt
  have HB01 := Lib.hid hB01
  have HB1 := Lib.hid hB1
  have HX1 := Lib.hid hX1
  have HR1 := Lib.hid hR1
  have HRO := Lib.hid hro
  have HS0 := Lib.hid hs0
  have HBD2 := Lib.hid hbd
  have HIN := Lib.hid hin
  have HDN := Lib.hid hdn
  have r0 := hR1.cell 0
  have r1 := hR1.cell 1
  have rf0 := hR1.frozen 0
  have rf1 := hR1.frozen 1
  have rl := hR1.lt
  simp only [List.getElem?_toArray, List.getElem?_cons_zero, List.getElem?_cons_succ] at r0 r1
  clear hbd hin hdn hro hB0 hB1 hB01 hX0 hX1 hR0 hR1 hg0 hW0 hs0 HBD
  by_cases h0 : err = 0
  · subst h0
    have hrd := Reads.of_own HRO.out
    go_wp2_with fail
    refine (learn_any 0 32 #[.pointer (some ⟨w.heap.size, 0, none⟩)] (Dp.many gl) ord W1.heap.size lA lc W1 hrd (Nat.le_refl _) hlc (by omega) (fun x hx => by have := HIN.out x hx; unfold I64; omega) (fun pre x post hsp W M hM hMs hBW => ?_) (enters_of Try.func32 (by kernel_rfl) rfl)).mono ?_
    · have hx := HIN.out x (by rw [hsp]; simp)
      obtain ⟨n, rfl⟩ := Int.eq_ofNat_of_zero_le hx.1
      refine (flat1_any ⟨.int .i64 xu, fA, fn, fc, .slice A2 n2 c2, .slice A3 n3 c3, .slice A4 n4 c4, .slice A5 n5 c5, .slice A6 n6 c6, .slice A7 n7 c7, .slice A8 n8 c8⟩ gl n M w.heap.size w.heap.size (Dp.learn (Dp.many gl) pre) W HV.out (HX1.out.below hBW HX1.out.lt) (HF.out.below (HB01.out.trans (hBW.mono HB01.out.size)) (Nat.le_refl _)) (by have := HB01.out.size; have := hBW.size; omega) (by omega) hM (fun y => Dp.many_bd gl _ pre rfl y)).mono ?_
      rintro e W' ⟨rfl, hg⟩
      exact ⟨rfl, hg⟩
    rintro e W2 ⟨M, rfl, hM, _, hB2⟩
    have hlk := hM.look g hgi
    obtain ⟨pn, hpn⟩ : ∃ pn, Dp.learn (Dp.many gl) ord g = pn := ⟨_, rfl⟩
    rw [hpn] at hlk
    have hR2 := HR1.out.below hB2 rl
    have HR2 := Lib.hid hR2
    have HX2 := Lib.hid (HX1.out.below hB2 HX1.out.lt)
    have HB02 := Lib.hid (HB01.out.trans (hB2.mono HB01.out.size))
    have HRO2 := Lib.hid (owns_keep HRO.out fun k hk => hB2.block k (owns_block HRO.out hk).2.1)
    have HPN := Lib.hid hpn
    clear r0 r1 rf0 rf1 rl hM hB2 hpn hrd
    have r0 := hR2.cell 0
    have r1 := hR2.cell 1
    have rf0 := hR2.frozen 0
    have rf1 := hR2.frozen 1
    have rl := hR2.lt
    simp only [List.getElem?_toArray, List.getElem?_cons_zero, List.getElem?_cons_succ] at r0 r1
    clear hR2
    by_cases hge : 1001 ≤ pn
    · have HGE := Lib.hid hge
      go_wp2_with fail
      have e0 : Dp.flat gl g = (([], []), 2) := by unfold Dp.flat; rw [HDN.out]; simp only; rw [if_pos trivial, HPN.out, if_pos HGE.out]
      rw [e0]
      have hb7 := (HR2.out.set_ 0 (.slice none 0 0)).set_ 1 (.slice none 0 0)
      have k0 := hb7.cell 0
      have k1 := hb7.cell 1
      simp at k0 k1
      have hBf : Below w.heap.size W2 ((W2.setCell ⟨w.heap.size + 1, 0, none⟩ (.slice none 0 0)).setCell ⟨w.heap.size + 1, 1, none⟩ (.slice none 0 0)) := ⟨rfl, rfl, rfl, by simp, fun j hj => (Below.heap_setCell _ _ _ _ (by simp only; omega)).trans (Below.heap_setCell _ _ _ _ (by simp only; omega))⟩
      exact bodyPost_ret (v := .tuple #[.agg #[.slice none 0 0, .slice none 0 0], .int .i64 2]) (by simp [results, Try.results16, go_sem, k0, k1]) rfl ⟨_, _, rfl, OlOwn.nil _ _, HB02.out.trans hBf⟩
    · have HGE := Lib.hid hge
      have hrd := Reads.of_own HRO2.out
      go_wp2_with fail
      refine (learnO_any 35 #[.pointer (some ⟨w.heap.size, 0, none⟩)] (Dp.flatF gl) ord W2.heap.size lA lc W2 hrd (Nat.le_refl _) hlc (by omega) (fun x hx => by have := HIN.out x hx; unfold I64; omega) (fun pre x post hsp W M hM hMs hBW => ?_) (enters_of Try.func35 (by kernel_rfl) rfl)).mono ?_
      · have hx := HIN.out x (by rw [hsp]; simp)
        obtain ⟨n, rfl⟩ := Int.eq_ofNat_of_zero_le hx.1
        exact flat2_any ⟨.int .i64 xu, fA, fn, fc, .slice A2 n2 c2, .slice A3 n3 c3, .slice A4 n4 c4, .slice A5 n5 c5, .slice A6 n6 c6, .slice A7 n7 c7, .slice A8 n8 c8⟩ gl n M w.heap.size w.heap.size (Dp.learnO (Dp.flatF gl) pre) W HV.out (HX2.out.below hBW HX2.out.lt) (HF.out.below (HB02.out.trans (hBW.mono HB02.out.size)) (Nat.le_refl _)) (by have := HB02.out.size; have := hBW.size; omega) (by omega) W2.heap.size hM hBW.size (HBD2.out trivial (by have := HPN.out; have := HGE.out; omega) pre _ post hsp)
      rintro e W3 ⟨M2, rfl, hM2, _, hB3⟩
      obtain ⟨pv, ev, how, hlk2⟩ := hM2.look g hgi
      have hlk3 := hlk2 W3 (fun _ _ => rfl)
      obtain ⟨R, hR⟩ : ∃ R, Dp.learnO (Dp.flatF gl) ord g = R := ⟨_, rfl⟩
      rw [hR] at how
      obtain ⟨pA, pc, eA, ec, rfl, rfl, _, _⟩ := how.ne
      have hR3 := HR2.out.below hB3 rl
      have HR3 := Lib.hid hR3
      have HOW := Lib.hid how
      have HRR := Lib.hid hR
      have HB03 := Lib.hid (HB02.out.trans (hB3.mono HB02.out.size))
      have HS2 := Lib.hid HB02.out.size
      clear r0 r1 rf0 rf1 rl hM2 hB3 hR hrd how hlk2
      have r0 := hR3.cell 0
      have r1 := hR3.cell 1
      have rf0 := hR3.frozen 0
      have rf1 := hR3.frozen 1
      have rl := hR3.lt
      simp only [List.getElem?_toArray, List.getElem?_cons_zero, List.getElem?_cons_succ] at r0 r1
      clear hR3
      go_wp2_with fail
      have e0 : Dp.flat gl g = (R, 0) := by unfold Dp.flat; rw [HDN.out]; simp only; rw [if_pos trivial, HPN.out, if_neg (by have := HGE.out; omega), HRR.out]
      rw [e0]
      have hb6 := HR3.out.set_ 0 (.slice pA R.1.length pc)
      have hb7 := hb6.set_ 1 (.slice eA R.2.length ec)
      have k0 := hb7.cell 0
      have k1 := hb7.cell 1
      simp at k0 k1
      have hBf : Below w.heap.size W3 ((W3.setCell ⟨w.heap.size + 1, 0, none⟩ (.slice pA R.1.length pc)).setCell ⟨w.heap.size + 1, 1, none⟩ (.slice eA R.2.length ec)) := ⟨rfl, rfl, rfl, by simp, fun j hj => (Below.heap_setCell _ _ _ _ (by simp only; omega)).trans (Below.heap_setCell _ _ _ _ (by simp only; omega))⟩
      exact bodyPost_ret (v := .tuple #[.agg #[.slice pA R.1.length pc, .slice eA R.2.length ec], .int .i64 0]) (by simp [results, Try.results16, go_sem, k0, k1]) rfl ⟨_, _, rfl, ⟨owns_mono (owns_set (owns_set HOW.out.pts HR3.out (by decide) 0 _) hb6 (by decide) 1 _) HS2.out, owns_mono (owns_set (owns_set HOW.out.ends HR3.out (by decide) 0 _) hb6 (by decide) 1 _) HS2.out⟩, HB03.out.trans hBf⟩
  · have H0 := Lib.hid h0
    have h0' : (err == 0) = false := by simpa using h0
    go_wp2_with fail
    have e0 : Dp.flat gl g = (([], []), err) := by unfold Dp.flat; rw [HDN.out]; simp only; rw [if_neg H0.out]
    rw [e0]
    have hb7 := (HR1.out.set_ 0 (.slice none 0 0)).set_ 1 (.slice none 0 0)
    have k0 := hb7.cell 0
    have k1 := hb7.cell 1
    simp at k0 k1
    have hBf : Below w.heap.size W1 ((W1.setCell ⟨w.heap.size + 1, 0, none⟩ (.slice none 0 0)).setCell ⟨w.heap.size + 1, 1, none⟩ (.slice none 0 0)) := ⟨rfl, rfl, rfl, by simp, fun j hj => (Below.heap_setCell _ _ _ _ (by simp only; omega)).trans (Below.heap_setCell _ _ _ _ (by simp only; omega))⟩
    exact bodyPost_ret (v := .tuple #[.agg #[.slice none 0 0, .slice none 0 0], .int .i64 err]) (by simp [results, Try.results16, go_sem, k0, k1]) rfl ⟨_, _, rfl, OlOwn.nil _ _, HB01.out.trans hBf⟩
end Go.Proofs.Ytoklllbaihccnaa

/- fleuronref02: Of, Neg, Plus: their contracts. -/
import Derived.Test.YtnalbkjbidaojaaNumB
namespace Go.Proofs.Ytnalbkjbidaojaa
open Go.RowKit Nm

theorem reads_blk {W : World} {g : Nat} {d : List Int} (hb : Blk W g 3 (dints d).toArray) : Reads W W.heap.size 1 (some ⟨g, 0, none⟩) d.length (dints d) :=
  ⟨by simp [dints], fun _ => ⟨g, 0, rfl, hb.lt, fun j u hu => by rw [Nat.zero_add, hb.cell]; simpa using hu⟩⟩
/-- the digits of a number below 2^64 -/
def ofD (m : Int) : List Int := [m % 65536, m / 65536 % 65536, m / 4294967296 % 65536, m / 281474976710656]
theorem ofD_dig {m : Int} (h0 : 0 ≤ m) (h1 : m < 18446744073709551616) : Dig (ofD m) := by
  intro x hx
  simp only [ofD, List.mem_cons, List.not_mem_nil, or_false] at hx
  rcases hx with rfl | rfl | rfl | rfl <;> omega
theorem ofD_val (m : Int) : val (ofD m) = m := by
  simp only [ofD, val]
  omega
set_option maxHeartbeats 1000000 in
theorem of_any (n : Int) (w : World) (h0 : -9223372036854775808 ≤ n) (h1 : n ≤ 9223372036854775807) :
    Calls Try.prog 33 #[.int .i64 n] w (NumP w n 4) := by
  obtain ⟨m, hm⟩ : ∃ m : Int, m = (n.natAbs : Int) := ⟨_, rfl⟩
  have hm0 : 0 ≤ m ∧ m < 18446744073709551616 := by omega
  have HDG := Lib.hid (ofD_dig hm0.1 hm0.2)
  have HVL := Lib.hid (ofD_val m)
  obtain ⟨X, hX⟩ : ∃ X, X = (w.alloc (.cells #[.bool false, .slice none 0 0] 89)).alloc (.cells #[.int .i64 (m % 65536), .int .i64 (m / 65536 % 65536), .int .i64 (m / 4294967296 % 65536), .int .i64 (m / 281474976710656)] 3) := ⟨_, rfl⟩
  have hXb : Blk X w.heap.size 89 #[.bool false, .slice none 0 0] := by rw [hX]; exact (Blk.new _ _ _).alloc _
  have hXr : Blk X (w.heap.size + 1) 3 (dints (ofD m)).toArray := by rw [hX]; exact Blk.new_at _ _ _ (by simp)
  have hXw : Below w.heap.size w X := by rw [hX]; exact ((Below.refl _ _).alloc (Nat.le_refl _) _).alloc (by simp) _
  have HB := Lib.hid hXb
  have HR := Lib.hid (reads_blk hXr)
  have HW := Lib.hid hXw
  have HX := Lib.hid hX
  have HMM := Lib.hid hm
  clear hX hXb hXr hXw
  by_cases hneg : n < 0
  · have hu : IntKind.u64.wrap (-IntKind.u64.wrap n) = m := by rw [hm]; exact u64_neg n h0 hneg
    clear hm
    go_enter Try.func33, Try.ntmps33
    go_wp2_with fail
    rw [← HX.out]
    refine (whole_any true _ _ X.heap.size (ofD m) X HR.out (Nat.le_refl _) HDG.out (by simp [ofD]) (by simp [ofD]) (by simp [maxLen])).mono ?_
    rintro e w3 ⟨v, rfl, ⟨b3, A3, d3, c3, rfl, ho3, hok3, hsv3, hl3⟩, hbl3⟩
    have hb3 := HB.out.below hbl3 HB.out.lt
    have b0 := hb3.cell
    have b1 := hb3.frozen
    have b2 := hb3.lt
    have hgeB : w.heap.size ≤ w.heap.size := Nat.le_refl _
    have HB4 := Lib.hid ((hb3.set_ 0 (.bool b3)).set_ 1 (.slice A3 d3.length c3))
    have HE := Lib.hid (((HW.out.trans (hbl3.mono HW.out.size)).setCell (p := ⟨w.heap.size, 0, none⟩) hgeB (.bool b3)).setCell (p := ⟨w.heap.size, 1, none⟩) hgeB (.slice A3 d3.length c3))
    have HO4 := Lib.hid (own_mono7 (base' := w.heap.size) (own_keep (w' := (w3.setCell ⟨w.heap.size, 0, none⟩ (.bool b3)).setCell ⟨w.heap.size, 1, none⟩ (.slice A3 d3.length c3)) ho3 fun g hg => by
      have hge := own_ge ho3 hg
      have hne : g ≠ w.heap.size := by have := HB.out.lt; omega
      rw [Below.heap_setCell _ _ _ _ hne, Below.heap_setCell _ _ _ _ hne]) (by have := HW.out.size; omega))
    have HOK3 := Lib.hid hok3
    have HS3 := Lib.hid hsv3
    clear hb3 ho3 hok3 hsv3 hbl3
    dsimp only
    go_wp2_with fail
    clear b0 b1 b2
    generalize (w3.setCell ⟨w.heap.size, 0, none⟩ (.bool b3)).setCell ⟨w.heap.size, 1, none⟩ (.slice A3 d3.length c3) = W4 at *
    have y0 := HB4.out.cell 0
    have y1 := HB4.out.cell 1
    simp at y0 y1
    refine bodyPost_ret (v := .agg #[.bool b3, .slice A3 d3.length c3]) (by simp [results, Try.results33, go_sem, y0, y1]) rfl ?_
    exact ⟨_, rfl, ⟨b3, A3, d3, c3, rfl, HO4.out, HOK3.out, by rw [HS3.out]; unfold sv; rw [HVL.out, HMM.out]; simp; omega, by simpa [ofD] using hl3⟩, HE.out⟩
  · have hu : IntKind.u64.wrap n = m := by rw [IntKind.wrap_u64]; omega
    clear hm
    go_enter Try.func33, Try.ntmps33
    go_wp2_with fail
    rw [← HX.out]
    refine (whole_any false _ _ X.heap.size (ofD m) X HR.out (Nat.le_refl _) HDG.out (by simp [ofD]) (by simp [ofD]) (by simp [maxLen])).mono ?_
    rintro e w3 ⟨v, rfl, ⟨b3, A3, d3, c3, rfl, ho3, hok3, hsv3, hl3⟩, hbl3⟩
    have hb3 := HB.out.below hbl3 HB.out.lt
    have b0 := hb3.cell
    have b1 := hb3.frozen
    have b2 := hb3.lt
    have hgeB : w.heap.size ≤ w.heap.size := Nat.le_refl _
    have HB4 := Lib.hid ((hb3.set_ 0 (.bool b3)).set_ 1 (.slice A3 d3.length c3))
    have HE := Lib.hid (((HW.out.trans (hbl3.mono HW.out.size)).setCell (p := ⟨w.heap.size, 0, none⟩) hgeB (.bool b3)).setCell (p := ⟨w.heap.size, 1, none⟩) hgeB (.slice A3 d3.length c3))
    have HO4 := Lib.hid (own_mono7 (base' := w.heap.size) (own_keep (w' := (w3.setCell ⟨w.heap.size, 0, none⟩ (.bool b3)).setCell ⟨w.heap.size, 1, none⟩ (.slice A3 d3.length c3)) ho3 fun g hg => by
      have hge := own_ge ho3 hg
      have hne : g ≠ w.heap.size := by have := HB.out.lt; omega
      rw [Below.heap_setCell _ _ _ _ hne, Below.heap_setCell _ _ _ _ hne]) (by have := HW.out.size; omega))
    have HOK3 := Lib.hid hok3
    have HS3 := Lib.hid hsv3
    clear hb3 ho3 hok3 hsv3 hbl3
    dsimp only
    go_wp2_with fail
    clear b0 b1 b2
    generalize (w3.setCell ⟨w.heap.size, 0, none⟩ (.bool b3)).setCell ⟨w.heap.size, 1, none⟩ (.slice A3 d3.length c3) = W4 at *
    have y0 := HB4.out.cell 0
    have y1 := HB4.out.cell 1
    simp at y0 y1
    refine bodyPost_ret (v := .agg #[.bool b3, .slice A3 d3.length c3]) (by simp [results, Try.results33, go_sem, y0, y1]) rfl ?_
    exact ⟨_, rfl, ⟨b3, A3, d3, c3, rfl, HO4.out, HOK3.out, by rw [HS3.out]; unfold sv; rw [HVL.out, HMM.out]; simp; omega, by simpa [ofD] using hl3⟩, HE.out⟩
set_option maxHeartbeats 1000000 in
theorem neg_any (v : Value) (x : Int) (N B : Nat) (w : World) (h : NumIs w B v x N) (hB : B ≤ w.heap.size) (hN : N ≤ 1000000) :
    Calls Try.prog 34 #[v] w (NumP w (-x) N) := by
  obtain ⟨b, A, d, c, rfl, hr, hok, hsv, hl, hc1, hc2⟩ := h
  obtain ⟨X, hX⟩ : ∃ X, X = (w.alloc (.cells #[.bool b, .slice A d.length c] 89)).alloc (.cells #[.bool false, .slice none 0 0] 89) := ⟨_, rfl⟩
  have hXz : X.heap.size = w.heap.size + 1 + 1 := by rw [hX]; simp
  have hX0 : Blk X w.heap.size 89 #[.bool b, .slice A d.length c] := by rw [hX]; exact (Blk.new _ _ _).alloc _
  have hXb : Blk X (w.heap.size + 1) 89 #[.bool false, .slice none 0 0] := by rw [hX]; exact Blk.new_at _ _ _ (by simp)
  have hXw : Below w.heap.size w X := by rw [hX]; exact ((Below.refl _ _).alloc (Nat.le_refl _) _).alloc (by simp) _
  have HB := Lib.hid hXb
  have HW := Lib.hid hXw
  have HX := Lib.hid hX
  have c0 := hX0.cell 0
  have c1 := hX0.cell 1
  simp only [List.getElem?_toArray, List.getElem?_cons_zero, List.getElem?_cons_succ] at c0 c1
  have cl := hX0.lt
  have HC := Lib.hid (whole_any (!b) A c B d X (hr.below hXw hB) (by omega) hok.dig (by omega) hc1 hc2)
  have hs2 : sv (!b) d = -x := by rw [← hsv]; unfold sv; cases b <;> simp
  have HS2 := Lib.hid hs2
  clear hX hXb hXw hX0 hr hok hsv hs2 hc2 hXz
  go_enter Try.func34, Try.ntmps34
  go_upto_region 1 with fail
  rw [← HX.out]
  go_wp2_with fail
  refine HC.out.mono ?_
  rintro e w3 ⟨v, rfl, ⟨b3, A3, d3, c3, rfl, ho3, hok3, hsv3, hl3⟩, hbl3⟩
  have hb3 := HB.out.below hbl3 HB.out.lt
  have b0 := hb3.cell
  have b1 := hb3.frozen
  have b2 := hb3.lt
  have hgeB : w.heap.size ≤ w.heap.size + 1 := by omega
  have HB4 := Lib.hid ((hb3.set_ 0 (.bool b3)).set_ 1 (.slice A3 d3.length c3))
  have HE := Lib.hid (((HW.out.trans (hbl3.mono HW.out.size)).setCell (p := ⟨w.heap.size + 1, 0, none⟩) hgeB (.bool b3)).setCell (p := ⟨w.heap.size + 1, 1, none⟩) hgeB (.slice A3 d3.length c3))
  have HO4 := Lib.hid (own_mono7 (base' := w.heap.size) (own_keep (w' := (w3.setCell ⟨w.heap.size + 1, 0, none⟩ (.bool b3)).setCell ⟨w.heap.size + 1, 1, none⟩ (.slice A3 d3.length c3)) ho3 fun g hg => by
    have hge := own_ge ho3 hg
    have hne : g ≠ w.heap.size + 1 := by have := HB.out.lt; omega
    rw [Below.heap_setCell _ _ _ _ hne, Below.heap_setCell _ _ _ _ hne]) (by have := HW.out.size; omega))
  have HOK3 := Lib.hid hok3
  have HS3 := Lib.hid hsv3
  clear hb3 ho3 hok3 hsv3 hbl3
  dsimp only
  go_wp2_with fail
  clear b0 b1 b2
  generalize (w3.setCell ⟨w.heap.size + 1, 0, none⟩ (.bool b3)).setCell ⟨w.heap.size + 1, 1, none⟩ (.slice A3 d3.length c3) = W4 at *
  have y0 := HB4.out.cell 0
  have y1 := HB4.out.cell 1
  simp at y0 y1
  refine bodyPost_ret (v := .agg #[.bool b3, .slice A3 d3.length c3]) (by simp [results, Try.results34, go_sem, y0, y1]) rfl ?_
  exact ⟨_, rfl, ⟨b3, A3, d3, c3, rfl, HO4.out, HOK3.out, by rw [HS3.out, HS2.out], by omega⟩, HE.out⟩
end Go.Proofs.Ytnalbkjbidaojaa

/- compose.Order: its contract. Expanded from XCpC.src by expand.py. -/
import Derived.Test.YtoklllbaihccnaaCpB
set_option linter.unusedVariables false
set_option linter.unusedSimpArgs false
namespace Go.Proofs.Ytoklllbaihccnaa
open Go.RowKit Go.Shelf
theorem owns_made {W : World} {B size n : Nat} {t : TypeId} {xs : List Value} (hl : xs.length = n * size) (hB : B ≤ W.heap.size) (hn : n ≤ maxLen) : (W.alloc (.cells xs.toArray t)).ownsRow B t size (.slice (some ⟨W.heap.size, 0, none⟩) n n) n xs :=
  ⟨hl, .inr ⟨W.heap.size, n, xs.toArray, rfl, hB, Blk.new _ _ _, Nat.le_refl _, hn, by simpa using hl, by simp [← hl]⟩⟩
theorem made_ints (n : Nat) : madeCells #[Value.int .i64 0] n = (ints (List.replicate n 0)).toArray := by
  unfold madeCells
  apply Array.toList_inj.1
  simp only [Array.toList_map, Array.toList_range, ints, List.map_replicate]
  rw [List.eq_replicate_iff]
  exact ⟨by simp, by intro b hb; simp at hb; obtain ⟨a, ha, rfl⟩ := hb; rw [show a % 1 = 0 by omega]; rfl⟩
theorem make_rowN {P : Program} (t e : TypeId) (i : TypeInfo) (z : Value) (ht : P.underlying t = some (.slice e)) (hi : P.info? e = some i) (hz : i.zero = some z)
    (n : Nat) (hbytes : i.bytes * n ≤ 281474976710656) (h63 : n ≤ 9223372036854775807) (w : World) :
    (Instr.makeSlice t (.int .i64 (n : Int)) (.int .i64 (n : Int))).run P w = .ok (.slice (some ⟨w.heap.size, 0, none⟩) n n) (w.alloc (.cells (madeCells z.cells (n * i.size)) e)) := by
  have hb : (i.bytes : Int) * (n : Int) ≤ 281474976710656 := by
    have h : ((i.bytes * n : Nat) : Int) ≤ 281474976710656 := by omega
    rwa [Int.natCast_mul] at h
  have hr := run_make (P := P) w t e i z ht hi hz .i64 .i64 n n (by omega) (by omega) hb (by omega)
  simp only [Int.toNat_natCast] at hr
  exact hr
theorem make_ints (n : Nat) (hn : n ≤ 1000000) (w : World) : (Instr.makeSlice 22 (.int .i64 (n : Int)) (.int .i64 (n : Int))).run Try.prog w = .ok (.slice (some ⟨w.heap.size, 0, none⟩) n n) (w.alloc (.cells (ints (List.replicate n 0)).toArray 3)) := by
  obtain ⟨i, hi, hz0, hz1, hz2⟩ := info_m info_int
  have := make_rowN (P := Try.prog) 22 3 i _ Try.underlying22 hi hz0 n (by rw [hz2]; omega) (by omega) w
  rw [hz1, Nat.mul_one, show (Value.int .i64 0).cells = #[.int .i64 0] from rfl, made_ints] at this
  exact this
namespace Fo
def order (gl : List Gl) : List Int × Int × Int :=
  if (Ln.line gl (List.range gl.length)).length < gl.length then ([], Fi.first gl, 33) else (Ln.line gl (List.range gl.length), 0, 0)
/-- i rounds of numbering n places -/
def num (n i : Nat) : List Int := (List.range i).map (Nat.cast : Nat → Int) ++ List.replicate (n - i) 0
theorem num_len {n i : Nat} (h : i ≤ n) : (num n i).length = n := by simp [num]; omega
theorem num_set {n i : Nat} (h : i < n) : (num n i).set i (i : Int) = num n (i + 1) := by
  unfold num
  obtain ⟨m, hm⟩ : ∃ m, n - i = m + 1 := ⟨n - i - 1, by omega⟩
  rw [hm, List.replicate_succ, List.set_append_right _ _ (by simp), List.length_map, List.length_range, Nat.sub_self, List.set_cons_zero, List.range_succ, List.map_append, List.append_assoc]
  rw [show n - (i + 1) = m by omega]
  rfl
theorem num_end (n : Nat) : num n n = (List.range n).map (Nat.cast : Nat → Int) := by simp [num]
end Fo
set_option maxRecDepth 100000 in
set_option maxHeartbeats 4000000 in
theorem order_any (fv : Fv) (gl : List Gl) (w : World) (hv : fv.n = gl.length) (hf : FAt w w.heap.size fv.A gl) (h12 : gl.length ≤ 12) (h1 : fv.One) :
    Calls Try.prog 12 #[.agg fv.cs] w fun e w' => ∃ tv, e = .returned (.tuple #[tv, .int .i64 (Fo.order gl).2.1, .int .i64 (Fo.order gl).2.2]) ∧ w'.ownsRow w.heap.size 3 1 tv (Fo.order gl).1.length (ints (Fo.order gl).1) ∧ Below w.heap.size w w' := by
  have HONE := Lib.hid h1
  obtain ⟨fu, fA, fn, fc, d2, d3, d4, d5, d6, d7, d8⟩ := fv
  obtain ⟨⟨xu, k0⟩, ⟨A2, n2, c2, k2⟩, ⟨A3, n3, c3, k3⟩, ⟨A4, n4, c4, k4⟩, ⟨A5, n5, c5, k5⟩, ⟨A6, n6, c6, k6⟩, ⟨A7, n7, c7, k7⟩, ⟨A8, n8, c8, k8⟩⟩ := h1
  simp only at k0 k2 k3 k4 k5 k6 k7 k8 hf hv
  subst k0 k2 k3 k4 k5 k6 k7 k8
  have HF := Lib.hid hf
  have HV := Lib.hid hv
  have hfn : fn ≤ 12 := by omega
  have hmk := make_ints fn (by omega)
  clear hf hv
  go_enter Try.func12, Try.ntmps12
  go_wp2_with fail
  go_loopw [14] (fun i wr => ∃ k : Nat, k ≤ fn ∧ i = .int .i64 k ∧ Blk wr w.heap.size 32 (Fv.cs ⟨.int .i64 xu, fA, fn, fc, .slice A2 n2 c2, .slice A3 n3 c3, .slice A4 n4 c4, .slice A5 n5 c5, .slice A6 n6 c6, .slice A7 n7 c7, .slice A8 n8 c8⟩) ∧ wr.ownsRow w.heap.size 3 1 (.slice (some ⟨w.heap.size + 1, 0, none⟩) fn fn) fn (ints (Fo.num fn k)) ∧ Below w.heap.size w wr) (fun i _ => fn - (intOf i).toNat)
  case atStart =>
    refine ⟨0, Nat.zero_le _, rfl, (Blk.new _ _ _).alloc _, ?_, ((Below.refl _ _).alloc (Nat.le_refl _) _).alloc (by simp) _⟩
    have := owns_made (W := w.alloc (.cells (Fv.cs ⟨.int .i64 xu, fA, fn, fc, .slice A2 n2 c2, .slice A3 n3 c3, .slice A4 n4 c4, .slice A5 n5 c5, .slice A6 n6 c6, .slice A7 n7 c7, .slice A8 n8 c8⟩) 32)) (B := w.heap.size) (size := 1) (n := fn) (t := 3) (xs := ints (List.replicate fn 0)) (by simp [ints]) (by simp) (by unfold maxLen; omega)
    simpa [Fo.num] using this
  case round =>
    obtain ⟨k, hk, rfl, hX, hro, hB⟩ := hrel
    by_cases hlt : k < fn
    · obtain ⟨_, hbl, cs, hb⟩ := owns_block hro rfl
      have hst := owns_setRow hro k (.int .i64 (k : Int))
      rw [← ints_set, Fo.num_set hlt] at hst
      have zf := hb.frozen k
      have hcl : wr.cell? ⟨w.heap.size + 1, k, none⟩ = some (.int .i64 (Hp.at_ (Fo.num fn k) k)) := by
        obtain ⟨g, c, hv, _, _, _, hcell⟩ := owns_at hro (by omega)
        injection hv with hv1
        injection hv1 with hv1
        injection hv1 with hv1
        subst hv1
        exact hcell k _ (ints_at _ _ _ (by simp [Hp.at_, List.getElem?_eq_getElem (show k < (Fo.num fn k).length by rw [Fo.num_len hk]; exact hlt)]))
      have HX := Lib.hid hX
      have HST := Lib.hid hst
      have HB := Lib.hid hB
      clear hX hst hB hro hb
      simp only at zf hbl
      go_wp2_with fail
      go_roundw
      case rel => exact ⟨k + 1, by omega, by go_num, HX.out.far (p := ⟨w.heap.size + 1, k, none⟩) (by simp only; omega) _, HST.out, HB.out.trans ⟨rfl, rfl, rfl, by simp, fun j hj => Below.heap_setCell _ _ _ _ (by simp only; omega)⟩⟩
      case measure => simp [intOf]; omega
    · have hke : fn = k := by omega
      subst hke
      rw [Fo.num_end] at hro
      have y0 := hX.cell 0
      have y1 := hX.cell 1
      have y2 := hX.cell 2
      have y3 := hX.cell 3
      have y4 := hX.cell 4
      have y5 := hX.cell 5
      have y6 := hX.cell 6
      have y7 := hX.cell 7
      have y8 := hX.cell 8
      have yl := hX.lt
      simp only [List.getElem?_toArray, List.getElem?_cons_zero, List.getElem?_cons_succ] at y0 y1 y2 y3 y4 y5 y6 y7 y8
      have HX := Lib.hid hX
      have HRO := Lib.hid hro
      have HB := Lib.hid hB
      clear hX hro hB hmk
      go_wp2_with fail
      have hl := line_any ⟨.int .i64 xu, fA, fn, fc, .slice A2 n2 c2, .slice A3 n3 c3, .slice A4 n4 c4, .slice A5 n5 c5, .slice A6 n6 c6, .slice A7 n7 c7, .slice A8 n8 c8⟩ gl (List.range fn) (some ⟨w.heap.size + 1, 0, none⟩) fn wr HV.out (HF.out.same HB.out) (by have := Reads.of_own HRO.out; rw [List.length_range]; exact this) (fun g hg => by have := List.mem_range.1 hg; have := HV.out; omega) (by rw [List.length_range]; omega) (by rw [List.length_range]; exact Nat.le_refl _)
      rw [List.length_range] at hl
      refine hl.mono ?_
      rintro e W2 ⟨lv, rfl, hrl, hB2⟩
      clear hl
      obtain ⟨lA, lc, rfl, hlc, _⟩ := owns_form hrl
      have hord : Fo.order gl = if (Ln.line gl (List.range fn)).length < fn then ([], Fi.first gl, 33) else (Ln.line gl (List.range fn), 0, 0) := by unfold Fo.order; rw [show gl.length = fn from HV.out.symm]
      obtain ⟨ol, hol⟩ : ∃ ol, Ln.line gl (List.range fn) = ol := ⟨_, rfl⟩
      rw [hol] at hord hrl hlc ⊢
      have hX2 := HX.out.below hB2 HX.out.lt
      have hB02 := HB.out.trans (hB2.mono HB.out.size)
      have hol12 : ol.length ≤ 1000000 := by
        have h3 := Ln.line_told (gl := gl) (gs := List.range fn) List.nodup_range
        rw [hol] at h3
        have := List.Nodup.length_le_of_subset h3.nd (l₂ := Ln.asI (List.range fn)) fun x hx => h3.sub x hx
        simp at this
        omega
      clear y0 y1 y2 y3 y4 y5 y6 y7 y8 yl
      have y0 := hX2.cell 0
      have y1 := hX2.cell 1
      have y2 := hX2.cell 2
      have y3 := hX2.cell 3
      have y4 := hX2.cell 4
      have y5 := hX2.cell 5
      have y6 := hX2.cell 6
      have y7 := hX2.cell 7
      have y8 := hX2.cell 8
      have yl := hX2.lt
      simp only [List.getElem?_toArray, List.getElem?_cons_zero, List.getElem?_cons_succ] at y0 y1 y2 y3 y4 y5 y6 y7 y8
      have HRL := Lib.hid hrl
      have HORD := Lib.hid hord
      have HB02 := Lib.hid hB02
      have HB1 := Lib.hid HB.out.size
      clear hrl hord hX2 hB02 hol hB2
      by_cases hlt2 : ol.length < fn
      · have HLT := Lib.hid hlt2
        go_wp2_with fail
        refine (first_any ⟨.int .i64 xu, fA, fn, fc, .slice A2 n2 c2, .slice A3 n3 c3, .slice A4 n4 c4, .slice A5 n5 c5, .slice A6 n6 c6, .slice A7 n7 c7, .slice A8 n8 c8⟩ gl W2 HV.out (HF.out.same HB02.out) h12 HONE.out).mono ?_
        rintro e W3 ⟨rfl, hB3⟩
        have HB3 := Lib.hid hB3
        clear hB3
        go_wp2_with fail
        have e0 := HORD.out
        rw [if_pos HLT.out] at e0
        rw [e0]
        exact bodyPost_ret (v := .tuple #[.slice none 0 0, .int .i64 (Fi.first gl), .int .i64 33]) (by simp [results, Try.results12, go_sem]) rfl ⟨_, rfl, owns_nil _ _ _ _, HB02.out.trans (HB3.out.mono HB02.out.size)⟩
      · have HLT := Lib.hid hlt2
        go_wp2_with fail
        have e0 := HORD.out
        rw [if_neg HLT.out] at e0
        rw [e0]
        exact bodyPost_ret (v := .tuple #[.slice lA ol.length lc, .int .i64 0, .int .i64 0]) (by simp [results, Try.results12, go_sem]) rfl ⟨_, rfl, owns_mono HRL.out HB1.out, HB02.out⟩
end Go.Proofs.Ytoklllbaihccnaa

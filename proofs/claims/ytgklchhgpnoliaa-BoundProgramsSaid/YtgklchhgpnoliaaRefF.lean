/- BoundPrograms' walk. -/
import Derived.Test.YtgklchhgpnoliaaRefE
namespace Go.Proofs.Ytgklchhgpnoliaa
open Go.RowKit

theorem cutLl_small (ll : List (List (Int × Int))) : ∀ l ∈ cutLl ll, l.length ≤ 1000000000000 := by
  intro l hl
  simp only [cutLl, List.mem_map] at hl
  obtain ⟨l', _, rfl⟩ := hl
  have := List.length_take_le 60 l'
  omega

set_option maxHeartbeats 2000000 in
theorem boundPrograms_walk (A A2 : Option Addr) (c c2 : Nat) (ll : List (List (Int × Int))) (l : List (Int × Int)) (w : World) (h1 : ll.length ≤ c) (h2 : c ≤ maxLen) (hr : RowAt (codeR w.heap.size) 22 w w.heap.size A ll)
    (k1 : l.length ≤ c2) (k2 : c2 ≤ maxLen) (kr : RowAt (insR w.heap.size) 25 w w.heap.size A2 l) :
    Calls Try.prog 6 #[.slice A ll.length c, .slice A2 l.length c2] w fun e w' => e = .returned (.bool true) ∧ Below w.heap.size w w' := by
  have HR := Lib.hid hr
  have KR := Lib.hid kr
  clear hr kr
  have HM := Lib.hid (fun W hN hr => many_any w.heap.size A c ll W hN h1 h2 hr)
  have HF := Lib.hid (fun W hr => few_any w.heap.size A2 c2 l W k1 k2 hr)
  have hsmall := cutLl_small (ll.take 22)
  have hsm2 : (l.take 60).length ≤ 1000000000000 := by have := List.length_take_le 60 l; omega
  have HF1 := Lib.hid (fun A c B W hR hB => funcs_any A c B (cutLl (ll.take 22)) W hR hB hsmall)
  have HF2 := Lib.hid (fun A c B W hR hB => rfuncs_any A c B (cutLl (ll.take 22)) W hR hB hsmall)
  have HP1 := Lib.hid (fun A Am c cm B W hR hl hB => program_any A Am c cm B (.slice none 0 0) 0 (cutLl (ll.take 22)) (l.take 60) W ⟨_, _, _, rfl⟩ hR hl hB hsmall hsm2)
  have HP2 := Lib.hid (fun A Am c cm B W hR hl hB => rprogram_any A Am c cm B (.slice none 0 0) 0 (cutLl (ll.take 22)) (l.take 60) W ⟨_, _, _, rfl⟩ hR hl hB hsmall hsm2)
  have hfl := Bd.funcs_len (cutLl (ll.take 22))
  clear hsmall hsm2 h1 h2 k1 k2
  generalize cutLl (ll.take 22) = ll' at *
  generalize l.take 60 = l' at *
  generalize Bd.program ll' l' = pr at *
  generalize Bd.funcs ll' = fr at *
  obtain ⟨⟨p0, p1, p2, p3⟩, pe⟩ := pr
  obtain ⟨cs, fi, fe⟩ := fr
  simp only at hfl
  generalize ll.length = n at *
  generalize l.length = n2 at *
  go_enter Try.func6, Try.ntmps6
  go_wp2_with fail
  refine (shown_any _).mono ?_
  rintro e w1 ⟨rfl, hb1⟩
  go_wp2_with fail
  refine (HM.out w1 hb1.size ((HR.out.below hb1 (Nat.le_refl _)).more hb1.size)).mono ?_
  rintro e w2 ⟨A3, c3, rfl, _, _, hr2, hb2⟩
  have hb2' := hb1.trans (hb2.mono hb1.size)
  have HR2 := Lib.hid hr2
  clear hr2
  go_wp2_with fail
  refine (HF.out w2 ((KR.out.below hb2' (Nat.le_refl _)).more hb2'.size)).mono ?_
  rintro e w3 ⟨A4, c4, rfl, _, _, hr3, hb3⟩
  have hb3' := hb2'.trans (hb3.mono hb2'.size)
  obtain ⟨X, hX⟩ : ∃ X, X = w3.alloc (.cells #[.slice A3 ll'.length c3, .slice A4 l'.length c4, .slice none 0 0, .int .i64 0] 45) := ⟨_, rfl⟩
  have hXb : Blk X w3.heap.size 45 #[.slice A3 ll'.length c3, .slice A4 l'.length c4, .slice none 0 0, .int .i64 0] := by rw [hX]; exact Blk.new _ _ _
  have hXw : Below w3.heap.size w3 X := by rw [hX]; exact (Below.refl _ _).alloc (Nat.le_refl _) _
  have hXz : X.heap.size = w3.heap.size + 1 := by rw [hX]; simp
  have hrows : RowsAt X X.heap.size A3 ll' := (rowsR_at (((HR2.out.below hb3 (Nat.le_refl _)).more hb3.size).below hXw (Nat.le_refl _))).more hXw.size
  have hcode : Reads X X.heap.size 2 A4 l'.length (insCells l') := (codeR_reads (hr3.below hXw (Nat.le_refl _))).more hXw.size
  have hb4 : Below w.heap.size w X := hb3'.trans (hXw.mono hb3'.size)
  have HROWS := Lib.hid hrows
  have HCODE := Lib.hid hcode
  have HXB := Lib.hid hXb
  have hc0 := hXb.cell
  have HX := Lib.hid hX
  clear hX hXb hrows hcode hr3
  clear hc0
  go_wp2_with fail
  rw [← HX.out]
  refine (HF1.out A3 c3 X.heap.size X HROWS.out (Nat.le_refl _)).mono ?_
  rintro e w4 ⟨Aa, ca, rfl, hra, hb5⟩
  have hz5 := hb5.size
  have hc4 := (HXB.out.below hb5 (by omega)).cell
  have hl4 : w3.heap.size < w4.heap.size := by omega
  have HRA := Lib.hid hra
  clear hra
  simp only
  go_wp2_with fail
  refine (HF2.out A3 c3 X.heap.size w4 (HROWS.out.below hb5 (Nat.le_refl _)) hz5).mono ?_
  rintro e w5 ⟨Ab, cb, rfl, hrb, hb6⟩
  have hb6' := hb5.trans (hb6.mono hz5)
  have hz6 := hb6'.size
  have hz6a := hb6.size
  clear hc4
  have hc5 := (HXB.out.below hb6' (by omega)).cell
  have hl5 : w3.heap.size < w5.heap.size := by omega
  have HRB := Lib.hid hrb
  clear hrb
  simp only
  go_wp2_with fail
  refine (HP1.out A3 A4 c3 c4 X.heap.size w5 (HROWS.out.below hb6' (Nat.le_refl _)) (HCODE.out.below hb6' (Nat.le_refl _)) hz6).mono ?_
  rintro e w6 ⟨rfl, hb7⟩
  have hz7 := hb7.size
  clear hc5
  simp only [costV]
  have hb7' := hb6'.trans (hb7.mono hz6)
  obtain ⟨Y, hY⟩ : ∃ Y, Y = w6.alloc (.cells #[.int .i64 p0, .int .i64 p1, .int .i64 p2, .int .i64 p3] 28) := ⟨_, rfl⟩
  have hYz : Y.heap.size = w6.heap.size + 1 := by rw [hY]; simp
  have hYw : Below w6.heap.size w6 Y := by rw [hY]; exact (Below.refl _ _).alloc (Nat.le_refl _) _
  have hYb : Blk Y w6.heap.size 28 #[.int .i64 p0, .int .i64 p1, .int .i64 p2, .int .i64 p3] := by rw [hY]; exact Blk.new _ _ _
  have hbY := hb7'.trans (hYw.mono hb7'.size)
  have hzY := hbY.size
  have hc6 := (HXB.out.below hb7' (by omega)).cell
  have hl6 : w3.heap.size < w6.heap.size := by omega
  have HY := Lib.hid hY
  have HYB := Lib.hid hYb
  clear hY hYb
  go_wp2_with fail
  rw [← HY.out]
  refine (HP2.out A3 A4 c3 c4 X.heap.size Y (HROWS.out.below hbY (Nat.le_refl _)) (HCODE.out.below hbY (Nat.le_refl _)) hzY).mono ?_
  rintro e w7 ⟨rfl, hb8⟩
  have hz8 := hb8.size
  clear hc6
  simp only [costV]
  have hy7 := HYB.out.below hb8 (by omega)
  have q := hy7.cell
  have hl7 : w6.heap.size < w7.heap.size := by omega
  have hb56 : Below w5.heap.size w5 w7 := hb7.trans ((hYw.mono hz7).trans (hb8.mono (by omega)))
  have hb46 : Below w4.heap.size w4 w7 := hb6.trans (hb56.mono hz6a)
  have hsame := same_any Aa Ab ca cb w7.heap.size cs (w7.alloc (.cells #[.int .i64 p0, .int .i64 p1, .int .i64 p2, .int .i64 p3] 28)) (((HRA.out.below hb46 (Nat.le_refl _)).more hb46.size).alloc (Nat.le_refl _) _) (((HRB.out.below hb56 (Nat.le_refl _)).more hb56.size).alloc (Nat.le_refl _) _) (by omega)
  have HSAME := Lib.hid hsame
  have hend : Below w.heap.size w w7 := hb4.trans ((hbY.mono hb4.size).trans (hb8.mono (by have := hb4.size; omega)))
  clear hsame hy7 HP1 HP2 HF1 HF2
  go_wp2_with fail
  refine HSAME.out.mono ?_
  rintro e w8 ⟨rfl, hb9⟩
  have hz9 := hb9.size
  simp at hz9
  have hend2 : Below w.heap.size w w8 := (hend.alloc hend.size _).trans (hb9.mono (by simp; have := hend.size; omega))
  have q8 : ∀ i, w8.cell? ⟨w6.heap.size, i, none⟩ = #[.int .i64 p0, .int .i64 p1, .int .i64 p2, .int .i64 p3][i]? := fun i => by rw [hb9.cell (by simp; omega), World.cell?_alloc_lt _ _ _ (by exact hl7)]; exact q i
  have r8 := ((Blk.new w7 28 #[.int .i64 p0, .int .i64 p1, .int .i64 p2, .int .i64 p3]).below hb9 (by simp)).cell
  have hl8 : w6.heap.size < w8.heap.size := by omega
  have hl9 : w7.heap.size < w8.heap.size := by omega
  clear q hb9
  go_wp2
  go_ret
  exact ⟨rfl, hend2⟩
end Go.Proofs.Ytgklchhgpnoliaa

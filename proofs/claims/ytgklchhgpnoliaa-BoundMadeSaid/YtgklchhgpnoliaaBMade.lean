/- BoundMade's walk. -/
import Derived.Test.YtgklchhgpnoliaaMadeN
import Derived.Test.YtgklchhgpnoliaaSpoilB
import Derived.Test.YtgklchhgpnoliaaRefE
namespace Go.Proofs.Ytgklchhgpnoliaa
open Go.RowKit

set_option maxHeartbeats 4000000 in
set_option maxRecDepth 100000 in
theorem boundMade_walk (A A2 : Option Addr) (c c2 : Nat) (xs : List Int) (qs : List (Int × Int × Int × Int)) (w : World) (h1 : xs.length ≤ c) (h2 : c ≤ maxLen) (hr : RowAt (Repr.int (N0 := w.heap.size)) 3 w w.heap.size A xs)
    (k1 : qs.length ≤ c2) (k2 : c2 ≤ maxLen) (kr : RowAt (fourR w.heap.size) 53 w w.heap.size A2 qs) :
    Calls Try.prog 7 #[.slice A xs.length c, .slice A2 qs.length c2] w fun e w' => e = .returned (.bool true) ∧ Below w.heap.size w w' := by
  have hrd : Reads w w.heap.size 1 A xs.length (xs.map (Value.int .i64)) := by
    have := hr.reads (fun x => [.int .i64 x]) fun _ _ h => h.1
    rw [List.map_eq_flatMap]
    exact this
  have hxi : ∀ x ∈ xs, I64 x := by
    intro x hx
    obtain ⟨i, hi⟩ := List.getElem?_of_mem hx
    obtain ⟨_, _, _, _, _, hrel, _⟩ := hr.get hi
    exact hrel.2
  obtain ⟨m, hm⟩ : ∃ m, m = min xs.length 100 := ⟨_, rfl⟩
  have hml : m ≤ xs.length ∧ m ≤ 100 := by omega
  have hmi : (if (100 : Int) < (xs.length : Int) then (100 : Int) else (xs.length : Int)) = (m : Int) := by split <;> omega
  have hr2 := hrd.take hml.1
  rw [Nat.mul_one, ← List.map_take] at hr2
  have hxi2 : ∀ x ∈ xs.take m, I64 x := fun x hx => hxi x (List.mem_of_mem_take hx)
  have HR := Lib.hid hr2
  have HX := Lib.hid hxi2
  have KR := Lib.hid kr
  unfold maxLen at h2 k2
  have _h2i : (c : Int) ≤ 9223372036854775807 := by omega
  have _k2i : (c2 : Int) ≤ 9223372036854775807 := by omega
  clear hr hrd hm hr2 hxi hxi2 h2 kr
  generalize xs.length = n at *
  generalize xs.take m = ys at *
  go_enter Try.func7, Try.ntmps7
  go_wp2_with fail
  refine (shown_any _).mono ?_
  rintro e w1 ⟨rfl, hb1⟩
  go_wp2_with fail
  refine (made18_any w.heap.size w1 A m _ ys hb1.size ((HR.out.below hb1 (Nat.le_refl _)).more hb1.size) HX.out (by omega)).mono ?_
  rintro e w2 ⟨A0, A1, A3, c0, c1, c3, fl, ml, cl, size, rfl, hpr, hf, hfb, hm', hb2⟩
  have hbw2 : Below w.heap.size w w2 := hb1.trans (hb2.mono hb1.size)
  have hP0 : PBox w.heap.size w w2.heap.size (w2.alloc (.cells #[.slice A0 fl.length c0, .slice A1 ml.length c1, .slice A3 cl.length c3, .int .i64 size] 45)) := ⟨A0, A1, A3, c0, c1, c3, fl, ml, cl, size, Blk.new _ _ _, (hpr.below ((Below.refl _ _).alloc (Nat.le_refl _) _) (Nat.le_refl _)).more (by simp), hf, hfb, hm', hbw2.alloc hbw2.size _⟩
  have HP0 := Lib.hid hP0
  have hbxw : w.heap.size ≤ w2.heap.size := hbw2.size
  obtain ⟨bx, hbxe⟩ : ∃ bx, bx = w2.heap.size := ⟨_, rfl⟩
  clear hP0 hpr hf hfb hm' hbw2 hb1 hb2
  go_upto_block 0 with (fail)
  obtain ⟨wq, hwq⟩ : ∃ wq, wq = w2.alloc (.cells #[.slice A0 fl.length c0, .slice A1 ml.length c1, .slice A3 cl.length c3, .int .i64 size] 45) := ⟨_, rfl⟩
  rw [← hwq, ← hbxe] at HP0
  rw [← hwq, ← hbxe]
  rw [← hbxe] at hbxw
  clear hwq hbxe
  go_cut [] (fun wx => PBox w.heap.size w bx wx)
  case first =>
    go_wp2_with fail
    go_loopw [7] (fun i wr => ∃ k : Nat, i = .int .i64 k ∧ k ≤ 4 ∧ k ≤ qs.length ∧ PBox w.heap.size w bx wr) (fun i _ => 4 - (intOf i).toNat)
    case atStart => exact ⟨0, rfl, by omega, by omega, HP0.out⟩
    case round =>
      clear HP0
      obtain ⟨k, rfl, hk4, hkq, hP⟩ := hrel
      obtain ⟨A0, A1, A3, c0, c1, c3, fl, ml, cl, size, hpb, hpr, hf, hfb, hm', hbl⟩ := hP
      have HPB := Lib.hid hpb
      have HPR := Lib.hid hpr
      have HFB := Lib.hid hfb
      have HBL := Lib.hid hbl
      clear hpb hpr hfb hbl
      by_cases hlt : (k : Int) < (qs.length : Int)
      · by_cases hlt4 : (k : Int) < 4
        · obtain ⟨⟨q0, q1, q2, q3⟩, hqk⟩ : ∃ q, qs[k]? = some q := ⟨_, List.getElem?_eq_getElem (by omega)⟩
          obtain ⟨b2, o2, cs, hA2, hb2l, ⟨_, _, rfl, ⟨rfl, hq0⟩, _, _, rfl, ⟨rfl, hq1⟩, _, _, rfl, ⟨rfl, hq2⟩, rfl, hq3⟩, hcells⟩ := (KR.out.below (HBL.out.drew) (Nat.le_refl _)).get hqk
          subst hA2
          have z0 := hcells 0 _ rfl
          have z1 := hcells 1 _ rfl
          have z2 := hcells 2 _ rfl
          have z3 := hcells 3 _ rfl
          simp only [show (fourR w.heap.size).size = 4 from rfl, Nat.add_zero] at z0 z1 z2 z3
          have _hb2w : b2 < wr.heap.size := by have := HBL.out.size; omega
          have hS : (fun w' : World => (∀ i, w'.cell? ⟨bx, i, none⟩ = (#[.slice A0 fl.length c0, .slice A1 ml.length c1, .slice A3 cl.length c3, .int .i64 size] : Array Value)[i]?) ∧ w'.cell? ⟨b2, o2 + k * 4, none⟩ = some (.int .i64 q0) ∧ w'.cell? ⟨b2, o2 + k * 4 + 1, none⟩ = some (.int .i64 q1) ∧ w'.cell? ⟨b2, o2 + k * 4 + 2, none⟩ = some (.int .i64 q2) ∧ w'.cell? ⟨b2, o2 + k * 4 + 3, none⟩ = some (.int .i64 q3)) wr.drew := ⟨HPB.out.cell, z0, z1, z2, z3⟩
          clear hcells hqk
          go_wp2_with fail
          refine wp_region_seq (fun i => !([5, 6] : List Nat).contains i) (fun i => ([0, 4] : List Nat).contains i) (fun i => ([] : List Nat).contains i) [0, 1, 2, 3, 4, 5, 6] (fun w' : World => (∀ i, w'.cell? ⟨bx, i, none⟩ = (#[.slice A0 fl.length c0, .slice A1 ml.length c1, .slice A3 cl.length c3, .int .i64 size] : Array Value)[i]?) ∧ w'.cell? ⟨b2, o2 + k * 4, none⟩ = some (.int .i64 q0) ∧ w'.cell? ⟨b2, o2 + k * 4 + 1, none⟩ = some (.int .i64 q1) ∧ w'.cell? ⟨b2, o2 + k * 4 + 2, none⟩ = some (.int .i64 q2) ∧ w'.cell? ⟨b2, o2 + k * 4 + 3, none⟩ = some (.int .i64 q3)) (by kernel_rfl) (by kernel_rfl) (by kernel_rfl) (by kernel_rfl) ?_
          refine wpSeq_load (v := _) rfl rfl (by kernel_rfl) (fun _ _ _ h => h) hS rfl (fun wq hq => by obtain ⟨hq1, hq2, hq3, hq4, hq5⟩ := hq; first | (go_simp; done) | (go_simp; rfl)) ?_
          refine wpSeq_pure (v := _) rfl rfl rfl (by kernel_rfl) (fun _ _ _ h => h) (fun wq => by first | (go_simp; done) | (go_simp; rfl)) ?_
          refine wpSeq_pure (v := _) rfl rfl rfl (by kernel_rfl) (fun _ _ _ h => h) (fun wq => by first | (go_simp; done) | (go_simp; rfl)) ?_
          refine wpSeq_pure (v := _) rfl rfl rfl (by kernel_rfl) (fun _ _ _ h => h) (fun wq => by first | (go_simp; done) | (go_simp; rfl)) ?_
          refine wpSeq_load (v := _) rfl rfl (by kernel_rfl) (fun _ _ _ h => h) hS rfl (fun wq hq => by obtain ⟨hq1, hq2, hq3, hq4, hq5⟩ := hq; first | (go_simp; done) | (go_simp; rfl)) ?_
          refine wpSeq_heavy rfl rfl (fun K hK => ?_); go_simp
          refine (spoilt_any w.heap.size wr.drew A0 A1 A3 c0 c1 c3 fl ml cl size q0 q1 q2 q3 HBL.out.size (HPR.out.below (Below.refl wr.heap.size wr).drew (Nat.le_refl _)) hq0 hq1 hq2 hq3 hf HFB.out hm').mono ?_
          rintro e w5 ⟨B0, B1, B2, d0, d1, d2, fl', ml', cl', size', rfl, hpr', hf', hfb', hm'', hbl'⟩
          have hbl2 : Below wr.heap.size wr w5 := (Below.refl wr.heap.size wr).drew.trans hbl'
          have hpb' := HPB.out.below hbl2 HPB.out.lt
          have hbw5 : Below w.heap.size w w5 := HBL.out.trans (hbl2.mono HBL.out.size)
          have _b0 := hpb'.cell
          have _b1 := hpb'.frozen
          have _b2' := hpb'.lt
          have hfin : PBox w.heap.size w bx ((((w5.setCell ⟨bx, 0, none⟩ (.slice B0 fl'.length d0)).setCell ⟨bx, 1, none⟩ (.slice B1 ml'.length d1)).setCell ⟨bx, 2, none⟩ (.slice B2 cl'.length d2)).setCell ⟨bx, 3, none⟩ (.int .i64 size')) := by
            refine ⟨B0, B1, B2, d0, d1, d2, fl', ml', cl', size', by simpa using (((hpb'.set_ 0 (.slice B0 fl'.length d0)).set_ 1 (.slice B1 ml'.length d1)).set_ 2 (.slice B2 cl'.length d2)).set_ 3 (.int .i64 size'), ?_, hf', hfb', hm'', (((hbw5.setCell (p := ⟨bx, 0, none⟩) hbxw _).setCell (p := ⟨bx, 1, none⟩) hbxw _).setCell (p := ⟨bx, 2, none⟩) hbxw _).setCell (p := ⟨bx, 3, none⟩) hbxw _⟩
            simp only [size_setCell]
            exact (((hpr'.setCell hpb' hbxw 0 _).setCell (hpb'.set_ 0 _) hbxw 1 _).setCell ((hpb'.set_ 0 _).set_ 1 _) hbxw 2 _).setCell (((hpb'.set_ 0 _).set_ 1 _).set_ 2 _) hbxw 3 _
          have HF := Lib.hid hfin
          clear hfin hpr' hfb' hpb'
          dsimp only
          refine hK _ _ (fun h => by cases h) ?_; clear hK K
          refine wpSeq_heavy rfl rfl (fun K hK => ?_); go_simp
          refine hK _ _ (fun h => by cases h) ?_; clear hK K
          refine wpSeq_end ?_
          go_wp2_with fail
          go_roundw
          case rel => exact ⟨k + 1, by go_num, by omega, by omega, HF.out⟩
          case measure => simp [intOf]; omega
        · have hPk : PBox w.heap.size w bx wr := ⟨A0, A1, A3, c0, c1, c3, fl, ml, cl, size, HPB.out, HPR.out, hf, HFB.out, hm', HBL.out⟩
          have HPK := Lib.hid hPk
          clear hPk
          go_wp2_with fail
          go_meet
          exact HPK.out
      · have hPk : PBox w.heap.size w bx wr := ⟨A0, A1, A3, c0, c1, c3, fl, ml, cl, size, HPB.out, HPR.out, hf, HFB.out, hm', HBL.out⟩
        have HPK := Lib.hid hPk
        clear hPk
        go_wp2_with fail
        go_meet
        exact HPK.out
  case rest =>
    clear HP0
    obtain ⟨A3, A4, A5, c3, c4, c5, ll', l', cl', sz, hXb, hprX, hllc, hllb, hl', hb4⟩ := hcut
    have hsmall : ∀ l ∈ ll', l.length ≤ 1000000000000 := fun l hl => by have := hllb l hl; omega
    have hsm2 : l'.length ≤ 1000000000000 := by omega
    have HF1 := Lib.hid (fun A c B W hR hB => funcs_any A c B ll' W hR hB hsmall)
    have HF2 := Lib.hid (fun A c B W hR hB => rfuncs_any A c B ll' W hR hB hsmall)
    have HP1 := Lib.hid (fun A Am c cm B W hR hl hB => program_any A Am c cm B (.slice A5 cl'.length c5) sz ll' l' W ⟨_, _, _, rfl⟩ hR hl hB hsmall hsm2)
    have HP2 := Lib.hid (fun A Am c cm B W hR hl hB => rprogram_any A Am c cm B (.slice A5 cl'.length c5) sz ll' l' W ⟨_, _, _, rfl⟩ hR hl hB hsmall hsm2)
    have hfl := Bd.funcs_len ll'
    have hrows : RowsAt wc wc.heap.size A3 ll' := rowsR_at hprX.f.2.2
    have hcode : Reads wc wc.heap.size 2 A4 l'.length (insCells l') := codeR_reads hprX.m.2.2
    have _hllc' : (ll'.length : Int) ≤ 30 := by omega
    have hl'' : (l'.length : Int) ≤ 300 := by omega
    have HROWS := Lib.hid hrows
    have HCODE := Lib.hid hcode
    have HXB := Lib.hid hXb
    have hbxl := hXb.lt
    have hc0 := hXb.cell
    clear hsmall hsm2 hrows hcode hXb hprX hllb hllc hl' h1 hml hmi HR HX KR
    generalize Bd.program ll' l' = pr at *
    generalize Bd.funcs ll' = fr at *
    obtain ⟨⟨p0, p1, p2, p3⟩, pe⟩ := pr
    obtain ⟨cs, fi, fe⟩ := fr
    simp only at hfl
    obtain ⟨X, hX⟩ : ∃ X, X = wc := ⟨_, rfl⟩
    rw [← hX] at HROWS HCODE HXB hbxl hc0 hb4 ⊢
    clear hX
    go_wp2_with fail
    refine (HF1.out A3 c3 X.heap.size X HROWS.out (Nat.le_refl _)).mono ?_
    rintro e w4 ⟨Aa, ca, rfl, hra, hb5⟩
    have hz5 := hb5.size
    have hc4 := (HXB.out.below hb5 (by omega)).cell
    have _hl4 : bx < w4.heap.size := by omega
    have HRA := Lib.hid hra
    clear hra
    simp only
    go_wp2_with fail
    refine (HF2.out A3 c3 X.heap.size w4 (HROWS.out.below hb5 (Nat.le_refl _)) hz5).mono ?_
    rintro e w5 ⟨Ab, cb, rfl, hrb, hb6⟩
    have hb6' := hb5.trans (hb6.mono hz5)
    have hz6 := hb6'.size
    have hz6a := hb6.size
    clear hc4
    have hc5 := (HXB.out.below hb6' (by omega)).cell
    have _hl5 : bx < w5.heap.size := by omega
    have HRB := Lib.hid hrb
    clear hrb
    simp only
    go_wp2_with fail
    refine (HP1.out A3 A4 c3 c4 X.heap.size w5 (HROWS.out.below hb6' (Nat.le_refl _)) (HCODE.out.below hb6' (Nat.le_refl _)) hz6).mono ?_
    rintro e w6 ⟨rfl, hb7⟩
    have hz7 := hb7.size
    clear hc5
    simp only [costV]
    have hb7' := hb6'.trans (hb7.mono hz6)
    obtain ⟨Y, hY⟩ : ∃ Y, Y = w6.alloc (.cells #[.int .i64 p0, .int .i64 p1, .int .i64 p2, .int .i64 p3] 28) := ⟨_, rfl⟩
    have _hYz : Y.heap.size = w6.heap.size + 1 := by rw [hY]; simp
    have hYw : Below w6.heap.size w6 Y := by rw [hY]; exact (Below.refl _ _).alloc (Nat.le_refl _) _
    have hYb : Blk Y w6.heap.size 28 #[.int .i64 p0, .int .i64 p1, .int .i64 p2, .int .i64 p3] := by rw [hY]; exact Blk.new _ _ _
    have hbY := hb7'.trans (hYw.mono hb7'.size)
    have hzY := hbY.size
    have hc6 := (HXB.out.below hb7' (by omega)).cell
    have _hl6 : bx < w6.heap.size := by omega
    have HY := Lib.hid hY
    have HYB := Lib.hid hYb
    clear hY hYb
    go_wp2_with fail
    rw [← HY.out]
    refine (HP2.out A3 A4 c3 c4 X.heap.size Y (HROWS.out.below hbY (Nat.le_refl _)) (HCODE.out.below hbY (Nat.le_refl _)) hzY).mono ?_
    rintro e w7 ⟨rfl, hb8⟩
    have _hz8 := hb8.size
    clear hc6
    simp only [costV]
    have hy7 := HYB.out.below hb8 (by omega)
    have q := hy7.cell
    have hl7 : w6.heap.size < w7.heap.size := by omega
    have hb56 : Below w5.heap.size w5 w7 := hb7.trans ((hYw.mono hz7).trans (hb8.mono (by omega)))
    have hb46 : Below w4.heap.size w4 w7 := hb6.trans (hb56.mono hz6a)
    have hsame := same_any Aa Ab ca cb w7.heap.size cs (w7.alloc (.cells #[.int .i64 p0, .int .i64 p1, .int .i64 p2, .int .i64 p3] 28)) (((HRA.out.below hb46 (Nat.le_refl _)).more hb46.size).alloc (Nat.le_refl _) _) (((HRB.out.below hb56 (Nat.le_refl _)).more hb56.size).alloc (Nat.le_refl _) _) (by omega)
    have HSAME := Lib.hid hsame
    have hend : Below w.heap.size w w7 := hb4.trans ((hbY.mono hb4.size).trans (hb8.mono (by have := hb4.size; omega)))
    clear hsame hy7 HP1 HP2 HF1 HF2
    go_wp2_with fail
    refine HSAME.out.mono ?_
    rintro e w8 ⟨rfl, hb9⟩
    have hz9 := hb9.size
    simp at hz9
    have hend2 : Below w.heap.size w w8 := (hend.alloc hend.size _).trans (hb9.mono (by simp; have := hend.size; omega))
    have _q8 : ∀ i, w8.cell? ⟨w6.heap.size, i, none⟩ = #[.int .i64 p0, .int .i64 p1, .int .i64 p2, .int .i64 p3][i]? := fun i => by rw [hb9.cell (by simp; omega), World.cell?_alloc_lt _ _ _ (by exact hl7)]; exact q i
    have _r8 := ((Blk.new w7 28 #[.int .i64 p0, .int .i64 p1, .int .i64 p2, .int .i64 p3]).below hb9 (by simp)).cell
    have _hl8 : w6.heap.size < w8.heap.size := by omega
    have _hl9 : w7.heap.size < w8.heap.size := by omega
    clear q hb9
    go_wp2
    go_ret
    exact ⟨rfl, hend2⟩
end Go.Proofs.Ytgklchhgpnoliaa

/- Parts of the proof, joined: StA StC StP StB. -/
import Derived.Test.YtnhebmgibiomnaaGreatPa18
import Derived.Test.YtnhebmgibiomnaaGreatPa21
import Derived.Test.YtnhebmgibiomnaaGreatPa28
set_option linter.unusedVariables false
set_option linter.unusedSimpArgs false
namespace Go.Proofs.YtnhebmgibiomnaaGreat
open Go.RowKit Mc
theorem Grow.trans20 {w w1 w2 : World} (h : Grow w w1) (k : Grow w1 w2) : Grow w w2 := Fr.trans h (k.mono fun _ _ x => x)
set_option maxHeartbeats 4000000 in
set_option maxRecDepth 100000 in
theorem rsame20_true (w : World) (B : Nat) (hB : B ≤ w.heap.size) (z : Zn) (cv st sk : List Int) (n p n' p' r : Int) (A1 A2 A3 A4 A5 A6 A7 B1 B2 B3 B4 B5 B6 B7 : Option Addr) (c1 c2 c3 c4 c5 c6 c7 d1 d2 d3 d4 d5 d6 d7 : Nat) (hz : ZnOk z) (hcv : cv.length ≤ 1000000) (hst : st.length ≤ 1000000) (hsk : sk.length ≤ 1000000)
    (h : ZnAt w B z A1 A2 A3 A4) (h5 : Reads w B 1 A5 cv.length (ints cv)) (h6 : Reads w B 1 A6 st.length (ints st)) (h7 : Reads w B 1 A7 sk.length (ints sk)) (k : ZnAt w B z B1 B2 B3 B4) (k5 : Reads w B 1 B5 cv.length (ints cv)) (k6 : Reads w B 1 B6 st.length (ints st)) (k7 : Reads w B 1 B7 sk.length (ints sk)) :
    Calls Tryz.prog 18 #[.agg #[.slice A1 z.org.length c1, .slice A2 z.cur.length c2, .slice A3 z.touch.length c3, .slice A4 z.ends.length c4, .slice A5 cv.length c5, .slice A6 st.length c6, .slice A7 sk.length c7, .int .i64 n, .int .i64 p, .int .i64 r], .agg #[.slice B1 z.org.length d1, .slice B2 z.cur.length d2, .slice B3 z.touch.length d3, .slice B4 z.ends.length d4, .slice B5 cv.length d5, .slice B6 st.length d6, .slice B7 sk.length d7, .int .i64 n', .int .i64 p', .int .i64 r]] w fun e w' => e = .returned (.bool true) ∧ Grow w w' := by
  obtain ⟨X, hX⟩ : ∃ X, X = (w.alloc (.cells #[.slice A1 z.org.length c1, .slice A2 z.cur.length c2, .slice A3 z.touch.length c3, .slice A4 z.ends.length c4, .slice A5 cv.length c5, .slice A6 st.length c6, .slice A7 sk.length c7, .int .i64 n, .int .i64 p, .int .i64 r] 39)).alloc (.cells #[.slice B1 z.org.length d1, .slice B2 z.cur.length d2, .slice B3 z.touch.length d3, .slice B4 z.ends.length d4, .slice B5 cv.length d5, .slice B6 st.length d6, .slice B7 sk.length d7, .int .i64 n', .int .i64 p', .int .i64 r] 39) := ⟨_, rfl⟩
  have hXG : Grow w X := by rw [hX]; exact ((Fr.refl _ w).alloc _).alloc _
  have hb0 : Blk X w.heap.size 39 #[.slice A1 z.org.length c1, .slice A2 z.cur.length c2, .slice A3 z.touch.length c3, .slice A4 z.ends.length c4, .slice A5 cv.length c5, .slice A6 st.length c6, .slice A7 sk.length c7, .int .i64 n, .int .i64 p, .int .i64 r] := by rw [hX]; exact (Blk.new _ _ _).alloc _
  have hb1 : Blk X (w.heap.size + 1) 39 #[.slice B1 z.org.length d1, .slice B2 z.cur.length d2, .slice B3 z.touch.length d3, .slice B4 z.ends.length d4, .slice B5 cv.length d5, .slice B6 st.length d6, .slice B7 sk.length d7, .int .i64 n', .int .i64 p', .int .i64 r] := by rw [hX]; exact Blk.new_at _ _ _ (by simp)
  have key : ∀ q : Addr, q.block < B → X.cell? q = w.cell? q := fun q hq => hXG.cell (by omega) (fun x => x)
  have H := Lib.hid (h.keep key)
  have K := Lib.hid (k.keep key)
  have H5 := Lib.hid (h5.keep key)
  have H6 := Lib.hid (h6.keep key)
  have H7 := Lib.hid (h7.keep key)
  have K5 := Lib.hid (k5.keep key)
  have K6 := Lib.hid (k6.keep key)
  have K7 := Lib.hid (k7.keep key)
  have HXG := Lib.hid hXG
  have HX := Lib.hid hX
  have HO := Lib.hid hz
  have HB := Lib.hid hB
  have HB0 := Lib.hid hb0
  have HB1 := Lib.hid hb1
  have hxB : B ≤ X.heap.size := Nat.le_trans hB hXG.size
  have HCV := Lib.hid hcv
  have HST := Lib.hid hst
  have HSK := Lib.hid hsk
  clear h h5 h6 h7 k k5 k6 k7 hX hXG hb0 hb1 hB key hz hcv hst hsk
  go_enter Tryz.func18, Tryz.ntmps18
  go_upto_region 1 with fail
  rw [← HX.out]
  have p0 := HB0.out.cell 0
  have p1 := HB0.out.cell 1
  have p2 := HB0.out.cell 2
  have p3 := HB0.out.cell 3
  have q0 := HB1.out.cell 0
  have q1 := HB1.out.cell 1
  have q2 := HB1.out.cell 2
  have q3 := HB1.out.cell 3
  simp only [List.getElem?_toArray, List.getElem?_cons_zero, List.getElem?_cons_succ] at p0 p1 p2 p3 q0 q1 q2 q3
  have l0 := HB0.out.lt
  have l1 := HB1.out.lt
  go_wp2_with fail
  have hsz := rsameZone_any z z B A1 A2 A3 A4 B1 B2 B3 B4 c1 c2 c3 c4 d1 d2 d3 d4 X hxB H.out K.out HO.out HO.out
  rw [decide_eq_true ⟨rfl, rfl, rfl, rfl⟩] at hsz
  refine hsz.mono ?_
  rintro e w1 ⟨rfl, hg1⟩
  clear hsz p0 p1 p2 p3 q0 q1 q2 q3 l0 l1 HX
  have G1 := Lib.hid (Grow.trans20 HXG.out hg1)
  have V := Lib.hid hg1
  clear hg1
  have a5 := (V.out.blk HB0.out (fun x => x)).cell 4
  have b5 := (V.out.blk HB1.out (fun x => x)).cell 4
  simp only [List.getElem?_toArray, List.getElem?_cons_zero, List.getElem?_cons_succ] at a5 b5
  have m0 := (V.out.blk HB0.out (fun x => x)).lt
  have m1 := (V.out.blk HB1.out (fun x => x)).lt
  go_wp2_with fail
  have hn := rnums_any A5 B5 c5 d5 B B cv cv w1 (H5.out.keep fun q hq => V.out.cell (by omega) (fun x => x)) (K5.out.keep fun q hq => V.out.cell (by omega) (fun x => x)) HCV.out HCV.out
  rw [decide_eq_true rfl] at hn
  refine hn.mono ?_
  rintro e w2 ⟨rfl, hg⟩
  have V2 := Lib.hid (Grow.trans20 V.out hg)
  clear hn hg a5 b5 m0 m1 V
  obtain ⟨V, _⟩ : Hid _ ∧ True := ⟨V2, trivial⟩
  clear V2
  have a6 := (V.out.blk HB0.out (fun x => x)).cell 5
  have b6 := (V.out.blk HB1.out (fun x => x)).cell 5
  simp only [List.getElem?_toArray, List.getElem?_cons_zero, List.getElem?_cons_succ] at a6 b6
  have m0 := (V.out.blk HB0.out (fun x => x)).lt
  have m1 := (V.out.blk HB1.out (fun x => x)).lt
  go_wp2_with fail
  have hn := rnums_any A6 B6 c6 d6 B B st st w2 (H6.out.keep fun q hq => V.out.cell (by omega) (fun x => x)) (K6.out.keep fun q hq => V.out.cell (by omega) (fun x => x)) HST.out HST.out
  rw [decide_eq_true rfl] at hn
  refine hn.mono ?_
  rintro e w3 ⟨rfl, hg⟩
  have V2 := Lib.hid (Grow.trans20 V.out hg)
  clear hn hg a6 b6 m0 m1 V
  obtain ⟨V, _⟩ : Hid _ ∧ True := ⟨V2, trivial⟩
  clear V2
  have a7 := (V.out.blk HB0.out (fun x => x)).cell 6
  have b7 := (V.out.blk HB1.out (fun x => x)).cell 6
  simp only [List.getElem?_toArray, List.getElem?_cons_zero, List.getElem?_cons_succ] at a7 b7
  have m0 := (V.out.blk HB0.out (fun x => x)).lt
  have m1 := (V.out.blk HB1.out (fun x => x)).lt
  go_wp2_with fail
  have hn := rnums_any A7 B7 c7 d7 B B sk sk w3 (H7.out.keep fun q hq => V.out.cell (by omega) (fun x => x)) (K7.out.keep fun q hq => V.out.cell (by omega) (fun x => x)) HSK.out HSK.out
  rw [decide_eq_true rfl] at hn
  refine hn.mono ?_
  rintro e w4 ⟨rfl, hg⟩
  have V2 := Lib.hid (Grow.trans20 V.out hg)
  clear hn hg a7 b7 m0 m1 V
  obtain ⟨V, _⟩ : Hid _ ∧ True := ⟨V2, trivial⟩
  clear V2
  have f0 := V.out.blk HB0.out (fun x => x)
  have f1 := V.out.blk HB1.out (fun x => x)
  have a7 := f0.cell 7
  have a8 := f0.cell 8
  have a9 := f0.cell 9
  have b7 := f1.cell 7
  have b8 := f1.cell 8
  have b9 := f1.cell 9
  simp only [List.getElem?_toArray, List.getElem?_cons_zero, List.getElem?_cons_succ] at a7 a8 a9 b7 b8 b9
  have m0 := f0.lt
  have m1 := f1.lt
  have HE := Lib.hid (Grow.trans20 HXG.out V.out)
  clear f0 f1 V
  go_wp2_with fail
  go_ret
  exact ⟨rfl, HE.out⟩
def smallV (n o u t e : Nat) : Bool := decide (n ≤ 200) && decide (u ≤ 60) && decide (o ≤ 80) && decide (t ≤ 80) && decide (e ≤ 60)
set_option maxRecDepth 100000 in
set_option maxHeartbeats 2000000 in
theorem small_any (A oA uA tA eA : Option Addr) (n o u t e c oc uc tc ec : Nat) (w : World) :
    Calls Tryz.prog 22 #[.slice A n c, .agg #[.slice oA o oc, .slice uA u uc, .slice tA t tc, .slice eA e ec]] w fun e' w' => e' = .returned (.bool (smallV n o u t e)) ∧ Grow w w' := by
  have hb := Blk.new w 30 #[.slice oA o oc, .slice uA u uc, .slice tA t tc, .slice eA e ec]
  have h0 := hb.cell 0
  have h1 := hb.cell 1
  have h2 := hb.cell 2
  have h3 := hb.cell 3
  simp only [List.getElem?_toArray, List.getElem?_cons_zero, List.getElem?_cons_succ] at h0 h1 h2 h3
  have hl := hb.lt
  have HG := Lib.hid (show Grow w (w.alloc (.cells #[.slice oA o oc, .slice uA u uc, .slice tA t tc, .slice eA e ec] 30)) from (Fr.refl _ w).alloc _)
  clear hb
  obtain ⟨v, hv⟩ : ∃ v, v = smallV n o u t e := ⟨_, rfl⟩
  rw [← hv]
  have HV := Lib.hid hv
  clear hv
  go_enter Tryz.func22, Tryz.ntmps22
  go_upto_region 1 with fail
  generalize w.alloc (.cells #[.slice oA o oc, .slice uA u uc, .slice tA t tc, .slice eA e ec] 30) = X at *
  by_cases c0 : (n : Int) ≤ 200
  · have d0 : decide ((n : Int) ≤ 200) = true := by simpa using c0
    by_cases c1 : (u : Int) ≤ 60
    · have d1 : decide ((u : Int) ≤ 60) = true := by simpa using c1
      by_cases c2 : (o : Int) ≤ 80
      · have d2 : decide ((o : Int) ≤ 80) = true := by simpa using c2
        by_cases c3 : (t : Int) ≤ 80
        · have d3 : decide ((t : Int) ≤ 80) = true := by simpa using c3
          by_cases c4 : (e : Int) ≤ 60
          · have d4 : decide ((e : Int) ≤ 60) = true := by simpa using c4
            have hv : v = true := by rw [HV.out]; unfold smallV; simp; omega
            subst hv
            clear HV
            go_wp2_with fail
            go_ret
            exact ⟨rfl, HG.out⟩
          · have d4 : decide ((e : Int) ≤ 60) = false := by simpa using c4
            have hv : v = false := by rw [HV.out]; unfold smallV; simp; omega
            subst hv
            clear HV
            go_wp2_with fail
            go_ret
            exact ⟨rfl, HG.out⟩
        · have d3 : decide ((t : Int) ≤ 80) = false := by simpa using c3
          have hv : v = false := by rw [HV.out]; unfold smallV; simp; omega
          subst hv
          clear HV
          go_wp2_with fail
          go_ret
          exact ⟨rfl, HG.out⟩
      · have d2 : decide ((o : Int) ≤ 80) = false := by simpa using c2
        have hv : v = false := by rw [HV.out]; unfold smallV; simp; omega
        subst hv
        clear HV
        go_wp2_with fail
        go_ret
        exact ⟨rfl, HG.out⟩
    · have d1 : decide ((u : Int) ≤ 60) = false := by simpa using c1
      have hv : v = false := by rw [HV.out]; unfold smallV; simp; omega
      subst hv
      clear HV
      go_wp2_with fail
      go_ret
      exact ⟨rfl, HG.out⟩
  · have d0 : decide ((n : Int) ≤ 200) = false := by simpa using c0
    have hv : v = false := by rw [HV.out]; unfold smallV; simp; omega
    subst hv
    clear HV
    go_wp2_with fail
    go_ret
    exact ⟨rfl, HG.out⟩
end Go.Proofs.YtnhebmgibiomnaaGreat
namespace Go.Proofs.YtnhebmgibiomnaaGreat
open Go.RowKit Mc
def sumIns : List (Int × Int) := [(1, 5), (1, 7), (5, 0)]
def sumRegs : List Sr.Reg := [⟨1, 0, 0, 0, 5⟩, ⟨1, 1, 0, 0, 7⟩, ⟨5, 0, 0, 1, 0⟩, ⟨42, 0, 0, 0, 1⟩]
set_option maxRecDepth 100000 in
set_option maxHeartbeats 2000000 in
theorem sum_any (w : World) : Calls Tryz.prog 37 #[] w fun e w' => ∃ g k, e = .returned (.tuple #[.agg #[.slice none 0 0, .slice (some ⟨g, 0, none⟩) 3 3, .slice none 0 0, .int .i64 0], .slice (some ⟨k, 0, none⟩) 4 4]) ∧
    Below w.heap.size w w' ∧ Reads w' w'.heap.size 2 (some ⟨g, 0, none⟩) 3 (insCells sumIns) ∧ Reads w' w'.heap.size 5 (some ⟨k, 0, none⟩) 4 (regCells sumRegs) := by
  go_enter Tryz.func37, Tryz.ntmps37
  go_wp2_with fail
  refine bodyPost_ret (v := .tuple #[.agg #[.slice none 0 0, .slice (some ⟨w.heap.size + 1, 0, none⟩) 3 3, .slice none 0 0, .int .i64 0], .slice (some ⟨w.heap.size + 1 + 1, 0, none⟩) 4 4]) (by simp [results, Tryz.results37, go_sem]) rfl ⟨w.heap.size + 1, w.heap.size + 1 + 1, rfl, ((((Below.refl _ _).alloc (Nat.le_refl _) _).alloc (by simp) _).alloc (by simp; omega) _), ?_, ?_⟩
  · exact Reads.blk (cs := insCells sumIns) ((Blk.new_at _ _ _ (by simp)).alloc _) 2 3 rfl
  · exact Reads.blk (cs := regCells sumRegs) (Blk.new_at _ _ _ (by simp)) 5 4 rfl
end Go.Proofs.YtnhebmgibiomnaaGreat
namespace Go.Proofs.YtnhebmgibiomnaaGreat
open Mc
namespace Sr
theorem right_parts {code : List Reg} (h : right code = true) : 1 ≤ code.length ∧ code.length ≤ 80000 ∧ fitsAll code = true ∧ 0 ≤ (code.getD (code.length - 1) nop).n ∧ (code.getD (code.length - 1) nop).n ≤ 64 := by
  have ht := right_top h
  unfold right at h
  simp only [Bool.and_eq_true, decide_eq_true_eq] at h
  obtain ⟨⟨⟨h1, h2⟩, h3⟩, h4⟩ := h
  rw [List.getLast?_eq_getElem?] at h4
  obtain ⟨r, hr, _⟩ := ht
  rw [hr] at h4
  simp only [decide_eq_true_eq] at h4
  exact ⟨h1, h2, h3, by rw [List.getD_eq_getElem?_getD, hr]; exact h4⟩
theorem fits_end {r : Reg} {b : Int} (h : fits r b = true) : r.op = 42 ↔ b = 0 := by
  unfold fits at h
  simp only [Bool.and_eq_true] at h
  have h2 := h.1.1.2
  by_cases h1 : r.op = 42
  · rw [decide_eq_true h1] at h2
    have : b = 0 := by simpa using h2
    exact ⟨fun _ => this, fun _ => h1⟩
  · rw [decide_eq_false h1] at h2
    have : ¬ b = 0 := by simpa using h2
    exact ⟨fun e => absurd e h1, fun e => absurd e this⟩
theorem op_last {code : List Reg} (hf : fitsAll code = true) {i : Nat} (hi : i < code.length) : (code.getD i nop).op = 42 ↔ i + 1 = code.length := by
  obtain ⟨r, hr⟩ : ∃ r, code[i]? = some r := ⟨_, List.getElem?_eq_getElem hi⟩
  rw [List.getD_eq_getElem?_getD, hr, Option.getD_some, fits_end (fitsAll_at hf hr)]
  omega
theorem runs_in {code : List Reg} (hf : fitsAll code = true) : ∀ (n : Nat) (s : St), s.pc < code.length → s.steps ≤ s.pc → (runs n code s).steps ≤ (runs n code s).pc ∧ (runs n code s).pc < code.length
  | 0, s, h, k => ⟨k, h⟩
  | n + 1, s, h, k => by
    by_cases h42 : (code.getD s.pc nop).op = 42
    · rw [runs_end h42]
      exact ⟨k, h⟩
    · rw [runs_step h42]
      obtain ⟨r, hr⟩ : ∃ r, code[s.pc]? = some r := ⟨_, List.getElem?_eq_getElem h⟩
      rw [List.getD_eq_getElem?_getD, hr, Option.getD_some] at h42
      obtain ⟨a1, a2, a3, _⟩ := step_in hf hr h42
      exact runs_in hf n _ a3 (by omega)
theorem runs_done {code : List Reg} (hf : fitsAll code = true) : ∀ (n : Nat) (s : St), s.pc < code.length → code.length ≤ s.pc + 1 + n → (code.getD (runs n code s).pc nop).op = 42
  | 0, s, h, k => (op_last hf h).2 (by omega)
  | n + 1, s, h, k => by
    by_cases h42 : (code.getD s.pc nop).op = 42
    · rw [runs_end h42]
      exact h42
    · rw [runs_step h42]
      obtain ⟨r, hr⟩ : ∃ r, code[s.pc]? = some r := ⟨_, List.getElem?_eq_getElem h⟩
      rw [List.getD_eq_getElem?_getD, hr, Option.getD_some] at h42
      obtain ⟨a1, a2, a3, _⟩ := step_in hf hr h42
      exact runs_done hf n _ a3 (by omega)
theorem runs_more {code : List Reg} (k : Nat) : ∀ (n : Nat) (s : St), (code.getD (runs n code s).pc nop).op = 42 → runs (n + k) code s = runs n code s
  | 0, s, h => by
    rw [Nat.zero_add]
    exact runs_end h
  | n + 1, s, h => by
    rw [show n + 1 + k = n + k + 1 by omega]
    by_cases h42 : (code.getD s.pc nop).op = 42
    · rw [runs_end h42, runs_end h42]
    · rw [runs_step h42] at h ⊢
      rw [runs_step h42]
      exact runs_more k n _ h
theorem deed_regs (r : Reg) (s : St) : (deed r s).regs.length = s.regs.length := by
  unfold deed
  split
  all_goals first | rfl | (simp only [put, List.length_set]; done) | (simp only [pass]; split <;> rfl) | (split <;> rfl)
theorem runs_regs (code : List Reg) : ∀ (n : Nat) (s : St), (runs n code s).regs.length = s.regs.length
  | 0, s => rfl
  | n + 1, s => by
    unfold runs
    split
    · rfl
    · rw [runs_regs code n]
      unfold step
      rw [deed_regs]
theorem run_regs (code : List Reg) (cvt : List Int) (size : Int) (z : Zn) : (run code cvt size z).regs.length = 64 := by
  unfold run
  rw [runs_regs]
  simp [begin_]
theorem run_steps {code : List Reg} (h : right code = true) (cvt : List Int) (size : Int) (z : Zn) : (run code cvt size z).steps < code.length := by
  obtain ⟨h1, h2, h3, _⟩ := right_parts h
  obtain ⟨a, b⟩ := runs_in h3 code.length (begin_ cvt size z) (by show 0 < code.length; omega) (Nat.le_refl _)
  unfold run
  omega
theorem told_stack {code : List Reg} (h : right code = true) (cvt : List Int) (size : Int) (z : Zn) : ((told (run code cvt size z) (top code)).stack.length : Int) = (code.getD (code.length - 1) nop).n := by
  obtain ⟨r, hr, hn, ht⟩ := right_top h
  unfold told
  simp only [List.length_reverse, List.length_take, run_regs]
  rw [List.getD_eq_getElem?_getD, hr, Option.getD_some]
  omega
theorem right_less {code : List Reg} (h : right code = true) : right (code.take (code.length - 1)) = false := by
  obtain ⟨h1, h2, h3, _⟩ := right_parts h
  rw [Bool.eq_false_iff]
  intro k
  obtain ⟨k1, k2, k3, _⟩ := right_parts k
  rw [List.length_take] at k1
  have hl : (code.take (code.length - 1)).length = code.length - 1 := by rw [List.length_take]; omega
  have a := (op_last k3 (i := code.length - 2) (by omega)).2 (by omega)
  rw [List.getD_eq_getElem?_getD, List.getElem?_take, if_pos (by omega), ← List.getD_eq_getElem?_getD] at a
  have := (op_last h3 (i := code.length - 2) (by omega)).1 a
  omega
def ahead : List Reg := [⟨35, 0, 0, 0, 2⟩, ⟨34, 0, 0, 0, 0⟩, ⟨1, 3, 0, 0, 9⟩]
def sh (s : St) : St := { s with pc := s.pc + 3, steps := s.steps + 1 }
theorem pass_sh (s : St) (n : Int) (b : Bool) : pass (sh s) n b = sh (pass s n b) := by
  cases b
  · rfl
  · simp only [pass, sh, if_true, St.mk.injEq, true_and, and_true]
    omega
theorem ite_sh {c : Prop} [Decidable c] {A B A' B' : St} (h1 : A = sh A') (h2 : B = sh B') : (if c then A else B) = sh (if c then A' else B') := by
  split
  · exact h1
  · exact h2
theorem deed_sh (r : Reg) (s : St) : deed r (sh s) = sh (deed r s) := by
  unfold deed
  dsimp only
  split
  all_goals first | rfl | exact pass_sh s _ _ | exact ite_sh rfl rfl
theorem ahead_get (code : List Reg) (i : Nat) : (ahead ++ code).getD (i + 3) nop = code.getD i nop := by
  rw [List.getD_eq_getElem?_getD, List.getD_eq_getElem?_getD, List.getElem?_append_right (by simp [ahead])]
  simp [ahead]
theorem runs_sh (code : List Reg) : ∀ (n : Nat) (s : St), runs n (ahead ++ code) (sh s) = sh (runs n code s)
  | 0, s => rfl
  | n + 1, s => by
    have hg : (ahead ++ code).getD (sh s).pc nop = code.getD s.pc nop := ahead_get code s.pc
    by_cases h42 : (code.getD s.pc nop).op = 42
    · rw [runs_end h42, runs_end (by rw [hg]; exact h42)]
    · rw [runs_step h42, runs_step (by rw [hg]; exact h42), ← runs_sh code n]
      congr 1
      unfold step
      rw [hg, ← deed_sh]
      congr 1
theorem ahead_right {code : List Reg} (h : right code = true) (hl : code.length ≤ 200) : right (ahead ++ code) = true := by
  obtain ⟨h1, h2, h3, h4, h5⟩ := right_parts h
  have hf : fitsAll (ahead ++ code) = true := by
    show fitsAll (_ :: _ :: _ :: code) = true
    simp only [fitsAll, Bool.and_eq_true]
    have l1 : ((code.length : Nat) : Int) ≠ 0 := by omega
    refine ⟨?_, ?_, ?_, h3⟩
    · unfold fits
      simp only [List.length_cons, Bool.and_eq_true, Bool.or_eq_true, decide_eq_true_eq]
      exact ⟨⟨⟨rfl, by simp; omega⟩, rfl⟩, .inr ⟨by decide, by omega⟩⟩
    · unfold fits
      simp only [List.length_cons, Bool.and_eq_true]
      exact ⟨⟨⟨rfl, by simp; omega⟩, rfl⟩, rfl⟩
    · unfold fits
      simp only [Bool.and_eq_true]
      exact ⟨⟨⟨rfl, by rw [decide_eq_false l1]; rfl⟩, rfl⟩, rfl⟩
  have hlast : (ahead ++ code).getLast? = code[code.length - 1]? := by
    rw [List.getLast?_eq_getElem?, List.getElem?_append_right (by simp [ahead]; omega)]
    congr 1
  obtain ⟨r, hr, _⟩ := right_top h
  rw [List.getD_eq_getElem?_getD, hr, Option.getD_some] at h4 h5
  unfold right
  rw [hf, hlast, hr]
  simp only [Bool.and_eq_true, Bool.and_true, decide_eq_true_eq]
  exact ⟨⟨by simp [ahead], by simp [ahead]; omega⟩, h4, h5⟩
theorem ahead_top {code : List Reg} (h : 1 ≤ code.length) : top (ahead ++ code) = top code := by
  unfold top
  rw [show (ahead ++ code).length - 1 = (code.length - 1) + 3 by simp [ahead]; omega, ahead_get]
theorem ahead_run {code : List Reg} (h : right code = true) (cvt : List Int) (size : Int) (z : Zn) : run (ahead ++ code) cvt size z = sh (run code cvt size z) := by
  obtain ⟨h1, h2, h3, _⟩ := right_parts h
  have hd := runs_done h3 code.length (begin_ cvt size z) (by show 0 < code.length; omega) (by omega)
  have e : run (ahead ++ code) cvt size z = runs (code.length + 2) (ahead ++ code) (sh (begin_ cvt size z)) := by
    unfold run
    rw [show (ahead ++ code).length = code.length + 2 + 1 by simp [ahead], runs_step (by show (35 : Int) ≠ 42; decide)]
    rfl
  rw [e, runs_sh, runs_more 2 code.length _ hd]
  rfl
theorem ahead_told {code : List Reg} (h : right code = true) (cvt : List Int) (size : Int) (z : Zn) :
    told (run (ahead ++ code) cvt size z) (top (ahead ++ code)) = { told (run code cvt size z) (top code) with steps := (run code cvt size z).steps + 1 } := by
  rw [ahead_run h, ahead_top (right_parts h).1]
  rfl
end Sr
end Go.Proofs.YtnhebmgibiomnaaGreat
namespace Go.Proofs.YtnhebmgibiomnaaGreat
open Go.RowKit Mc
def addIns : List (Int × Int) := [(5, 0)]
theorem sum_build : Bu.build [] sumIns = (sumRegs, 0) := by kernel_rfl
theorem add_build : Bu.build [] addIns = ([], 51) := by kernel_rfl
theorem sum_right : Sr.right sumRegs = true := by kernel_rfl
theorem sum_less : Sr.right (sumRegs.take 3) = false := by kernel_rfl
theorem nil_right : Sr.right [] = false := by kernel_rfl
theorem sum_told : (Sr.told (Sr.run sumRegs [] 0 ⟨[], [], [], []⟩) (Sr.top sumRegs)).stack = [12] ∧ (Sr.told (Sr.run sumRegs [] 0 ⟨[], [], [], []⟩) (Sr.top sumRegs)).steps = 3 := ⟨by kernel_rfl, by kernel_rfl⟩
structure BtA (w : World) (pb g k : Nat) (X : World) : Prop where
  p : Blk X pb 26 #[.slice none 0 0, .slice (some ⟨g, 0, none⟩) 3 3, .slice none 0 0, .int .i64 0]
  i : Reads X X.heap.size 2 (some ⟨g, 0, none⟩) 3 (insCells sumIns)
  r : Reads X X.heap.size 5 (some ⟨k, 0, none⟩) 4 (regCells sumRegs)
  b : Below w.heap.size w X
theorem Blk.go {X Y : World} {g : Nat} {t : TypeId} {cs : Array Value} (h : Blk X g t cs) (hb : Below X.heap.size X Y) : Blk Y g t cs := (hb.block g h.lt).trans h
theorem Reads.go {X Y : World} {size : Nat} {A : Option Addr} {n : Nat} {xs : List Value} (h : Reads X X.heap.size size A n xs) (hb : Below X.heap.size X Y) : Reads Y Y.heap.size size A n xs := (h.below hb (Nat.le_refl _)).more hb.size
theorem below_new (X : World) (o : Obj) : Below X.heap.size X (X.alloc o) := (Below.refl _ _).alloc (Nat.le_refl _) _
theorem BtA.go {w : World} {pb g k : Nat} {X Y : World} (h : BtA w pb g k X) (hb : Below X.heap.size X Y) : BtA w pb g k Y :=
  ⟨Blk.go h.p hb, Reads.go h.i hb, Reads.go h.r hb, h.b.trans (hb.mono h.b.size)⟩
structure BtR (rb : Nat) (cs : Array Value) (kA ko : Nat) (X : World) : Prop where
  blk : Blk X rb 39 cs
  lt : kA < X.heap.size
  at_ : X.cell? ⟨kA, ko, none⟩ = some (.int .i64 12)
theorem BtR.go {rb : Nat} {cs : Array Value} {kA ko : Nat} {X Y : World} (h : BtR rb cs kA ko X) (hb : Below X.heap.size X Y) : BtR rb cs kA ko Y :=
  ⟨Blk.go h.blk hb, by have := hb.size; have := h.lt; omega, (hb.cell (p := ⟨kA, ko, none⟩) h.lt).trans h.at_⟩
structure BtE (w : World) (pb g k : Nat) (A : Option Addr) (rb : Nat) (cs : Array Value) (kA ko sb : Nat) (cs' : Array Value) (kA' ko' nb : Nat) (cs'' : Array Value) (X : World) : Prop where
  a : BtA w pb g k X
  v : Reads X X.heap.size 5 A 4 (regCells sumRegs)
  r : BtR rb cs kA ko X
  s : BtR sb cs' kA' ko' X
  n : Blk X nb 39 cs''
theorem BtE.go {w : World} {pb g k : Nat} {A : Option Addr} {rb : Nat} {cs : Array Value} {kA ko sb : Nat} {cs' : Array Value} {kA' ko' nb : Nat} {cs'' : Array Value} {X Y : World} (h : BtE w pb g k A rb cs kA ko sb cs' kA' ko' nb cs'' X) (hb : Below X.heap.size X Y) : BtE w pb g k A rb cs kA ko sb cs' kA' ko' nb cs'' Y :=
  ⟨h.a.go hb, Reads.go h.v hb, h.r.go hb, h.s.go hb, Blk.go h.n hb⟩
theorem zn_none (X : World) : ZnAt X X.heap.size ⟨[], [], [], []⟩ none none none none := ⟨Reads.none_, Reads.none_, Reads.none_, Reads.none_⟩
theorem zn_none_ok : ZnOk ⟨[], [], [], []⟩ := ⟨by simp, by simp, by simp, by simp⟩
theorem sum_run (X : World) (A : Option Addr) (c g : Nat) (h : Reads X X.heap.size 5 A 4 (regCells sumRegs)) :
    Calls Tryz.prog 17 #[.slice A 4 c, .agg #[.slice none 0 0, .slice (some ⟨g, 0, none⟩) 3 3, .slice none 0 0, .int .i64 0], .agg #[.slice none 0 0, .slice none 0 0, .slice none 0 0, .slice none 0 0]] X fun e Y =>
      ∃ (v0 : Option Addr) (vn0 vc0 : Nat) (v1 : Option Addr) (vn1 vc1 : Nat) (v2 : Option Addr) (vn2 vc2 : Nat) (v3 : Option Addr) (vn3 vc3 : Nat) (v4 : Option Addr) (vn4 vc4 : Nat) (sA : Option Addr) (sc kA ko kc : Nat), e = .returned (.agg #[.slice v0 vn0 vc0, .slice v1 vn1 vc1, .slice v2 vn2 vc2, .slice v3 vn3 vc3, .slice v4 vn4 vc4, .slice sA 32 sc, .slice (some ⟨kA, ko, none⟩) 1 kc, .int .i64 3, .int .i64 0, .int .i64 0]) ∧ Below X.heap.size X Y ∧ kA < Y.heap.size ∧ Y.cell? ⟨kA, ko, none⟩ = some (.int .i64 12) := by
  refine (runs_yes X sumRegs A c [] 0 ⟨[], [], [], []⟩ (by simp) zn_none_ok (by decide) none (some ⟨g, 0, none⟩) none none none none none 0 0 3 3 0 0 0 0 0 h Reads.none_ (zn_none X) sum_right).mono ?_
  rintro e Y ⟨og, cu, tu, en, cv, st, sk, rfl, hr, hb⟩
  obtain ⟨s1, s2⟩ := sum_told
  have h1 := hr.og
  have h2 := hr.cu
  have h3 := hr.to
  have h4 := hr.en
  have h5 := hr.cv
  have h6 := hr.st
  have h7 : Y.ownsRow X.heap.size 3 1 sk 1 [.int .i64 12] := by have := hr.sk; rw [s1] at this; exact this
  obtain ⟨v0, vc0, rfl, _⟩ := own_form h1
  obtain ⟨v1, vc1, rfl, _⟩ := own_form h2
  obtain ⟨v2, vc2, rfl, _⟩ := own_form h3
  obtain ⟨v3, vc3, rfl, _⟩ := own_form h4
  obtain ⟨v4, vc4, rfl, _⟩ := own_form h5
  obtain ⟨sA, sc, rfl, _⟩ := own_form h6
  obtain ⟨kA, kc, rfl, hk⟩ := own_form h7
  obtain ⟨b, off, rfl, hbB, hcells⟩ := hk.2 (by decide)
  exact ⟨v0, _, vc0, v1, _, vc1, v2, _, vc2, v3, _, vc3, v4, _, vc4, sA, sc, b, off, kc, by rw [s2]; rfl, hb, hbB, hcells 0 _ rfl⟩
theorem sum_cut {X : World} {k : Nat} (h : Reads X X.heap.size 5 (some ⟨k, 0, none⟩) 4 (regCells sumRegs)) : Reads X X.heap.size 5 (some ⟨k, 0, none⟩) (sumRegs.take 3).length (regCells (sumRegs.take 3)) := by
  obtain ⟨_, h2⟩ := h
  obtain ⟨b, off, e, hb, hc⟩ := h2 (by decide)
  refine ⟨rfl, fun _ => ⟨b, off, e, hb, fun j u hu => hc j u ?_⟩⟩
  have hp : regCells sumRegs = regCells (sumRegs.take 3) ++ [.int .i64 42, .int .i64 0, .int .i64 0, .int .i64 0, .int .i64 1] := rfl
  rw [hp, List.getElem?_append_left (List.getElem?_eq_some_iff.1 hu).1]
  exact hu
theorem rows_none (X : World) (B : Nat) : RowsAt X B none [] := ⟨[], Reads.none_, fun i l h => by simp at h⟩
theorem sum_built (X : World) (g : Nat) (h : Reads X X.heap.size 2 (some ⟨g, 0, none⟩) 3 (insCells sumIns)) :
    Calls Tryz.prog 14 #[.agg #[.slice none 0 0, .slice (some ⟨g, 0, none⟩) 3 3, .slice none 0 0, .int .i64 0]] X fun e Y => ∃ A c, e = .returned (.tuple #[.slice A 4 c, .int .i64 0]) ∧ Below X.heap.size X Y ∧ Reads Y Y.heap.size 5 A 4 (regCells sumRegs) := by
  refine (build_any none (some ⟨g, 0, none⟩) 0 3 (.slice none 0 0) 0 [] sumIns X ⟨_, _, _, rfl⟩ (rows_none X _) h (by simp) (by decide) (by simp) (by unfold I64 sumIns; simp)).mono ?_
  rintro e Y ⟨v, rfl, hb, ho⟩
  rw [sum_build] at ho ⊢
  obtain ⟨A, c, rfl, hr⟩ := own_form ho
  exact ⟨A, c, rfl, hb, hr⟩
theorem add_built (X : World) (g : Nat) (h : Reads X X.heap.size 2 (some ⟨g, 0, none⟩) 1 (insCells addIns)) :
    Calls Tryz.prog 14 #[.agg #[.slice none 0 0, .slice (some ⟨g, 0, none⟩) 1 1, .slice none 0 0, .int .i64 0]] X fun e Y => ∃ v, e = .returned (.tuple #[v, .int .i64 51]) ∧ Below X.heap.size X Y := by
  refine (build_any none (some ⟨g, 0, none⟩) 0 1 (.slice none 0 0) 0 [] addIns X ⟨_, _, _, rfl⟩ (rows_none X _) h (by simp) (by decide) (by simp) (by unfold I64 addIns; simp)).mono ?_
  rintro e Y ⟨v, rfl, hb, ho⟩
  rw [add_build]
  exact ⟨v, rfl, hb⟩
theorem nil_run (X : World) (g : Nat) :
    Calls Tryz.prog 17 #[.slice none 0 0, .agg #[.slice none 0 0, .slice (some ⟨g, 0, none⟩) 3 3, .slice none 0 0, .int .i64 0], .agg #[.slice none 0 0, .slice none 0 0, .slice none 0 0, .slice none 0 0]] X (NoRun X) :=
  runs_no X [] none 0 [] 0 ⟨[], [], [], []⟩ (by simp) zn_none_ok (by simp) none (some ⟨g, 0, none⟩) none none none none none 0 0 3 3 0 0 0 0 0 Reads.none_ Reads.none_ (zn_none X) nil_right
set_option maxRecDepth 100000 in
set_option maxHeartbeats 8000000 in
theorem built_any (w : World) : Calls Tryz.prog 15 #[] w fun e w' => e = .returned (.bool true) ∧ Below w.heap.size w w' := by
  go_enter Tryz.func15, Tryz.ntmps15
  go_wp2_with fail
  refine (sum_any w).mono ?_
  rintro e w1 ⟨g, k, rfl, hb, hg, hk⟩
  go_upto_region 2 with fail
  have h1 : BtA w w1.heap.size g k (w1.alloc (.cells #[.slice none 0 0, .slice (some ⟨g, 0, none⟩) 3 3, .slice none 0 0, .int .i64 0] 26)) := ⟨Blk.new _ _ _, Reads.go hg (below_new _ _), Reads.go hk (below_new _ _), hb.alloc hb.size _⟩
  have H1 := Lib.hid h1
  clear h1 hb hg hk
  generalize w1.alloc (.cells #[.slice none 0 0, .slice (some ⟨g, 0, none⟩) 3 3, .slice none 0 0, .int .i64 0] 26) = X at *
  generalize w1.heap.size = pb at *
  have c0 := H1.out.p.cell 0
  have c1 := H1.out.p.cell 1
  have c2 := H1.out.p.cell 2
  have c3 := H1.out.p.cell 3
  simp only [List.getElem?_toArray, List.getElem?_cons_zero, List.getElem?_cons_succ] at c0 c1 c2 c3
  have hl := H1.out.p.lt
  go_wp2_with fail
  refine (sum_built X g H1.out.i).mono ?_
  rintro e w2 ⟨A, c, rfl, hb, hv⟩
  go_upto_region 3 with fail
  have H2 := Lib.hid (H1.out.go hb)
  have HV2 := Lib.hid hv
  clear c0 c1 c2 c3 hl H1 hb hv
  have c0 := H2.out.p.cell 0
  have c1 := H2.out.p.cell 1
  have c2 := H2.out.p.cell 2
  have c3 := H2.out.p.cell 3
  simp only [List.getElem?_toArray, List.getElem?_cons_zero, List.getElem?_cons_succ] at c0 c1 c2 c3
  have hl := H2.out.p.lt
  go_wp2_with fail
  refine (sum_run w2 A c g HV2.out).mono ?_
  rintro e w3 ⟨a0, an0, ac0, a1, an1, ac1, a2, an2, ac2, a3, an3, ac3, a4, an4, ac4, a5, a6, kA, ko, kc, rfl, hb, hk1, hk2⟩
  go_upto_region 4 with fail
  have hb' := hb.alloc hb.size (.cells #[.slice a0 an0 ac0, .slice a1 an1 ac1, .slice a2 an2 ac2, .slice a3 an3 ac3, .slice a4 an4 ac4, .slice a5 32 a6, .slice (some ⟨kA, ko, none⟩) 1 kc, .int .i64 3, .int .i64 0, .int .i64 0] 39)
  have H3 := Lib.hid (H2.out.go hb')
  have HV3 := Lib.hid (Reads.go HV2.out hb')
  have HR3 : Hid (BtR w3.heap.size #[.slice a0 an0 ac0, .slice a1 an1 ac1, .slice a2 an2 ac2, .slice a3 an3 ac3, .slice a4 an4 ac4, .slice a5 32 a6, .slice (some ⟨kA, ko, none⟩) 1 kc, .int .i64 3, .int .i64 0, .int .i64 0] kA ko (w3.alloc (.cells #[.slice a0 an0 ac0, .slice a1 an1 ac1, .slice a2 an2 ac2, .slice a3 an3 ac3, .slice a4 an4 ac4, .slice a5 32 a6, .slice (some ⟨kA, ko, none⟩) 1 kc, .int .i64 3, .int .i64 0, .int .i64 0] 39))) := Lib.hid ⟨Blk.new _ _ _, by simp; omega, (World.cell?_alloc_lt _ _ _ hk1).trans hk2⟩
  clear c0 c1 c2 c3 hl H2 HV2 hb hb' hk1 hk2
  generalize w3.alloc (.cells #[.slice a0 an0 ac0, .slice a1 an1 ac1, .slice a2 an2 ac2, .slice a3 an3 ac3, .slice a4 an4 ac4, .slice a5 32 a6, .slice (some ⟨kA, ko, none⟩) 1 kc, .int .i64 3, .int .i64 0, .int .i64 0] 39) = X3 at *
  generalize w3.heap.size = rb at *
  have c0 := H3.out.p.cell 0
  have c1 := H3.out.p.cell 1
  have c2 := H3.out.p.cell 2
  have c3 := H3.out.p.cell 3
  simp only [List.getElem?_toArray, List.getElem?_cons_zero, List.getElem?_cons_succ] at c0 c1 c2 c3
  have hl := H3.out.p.lt
  go_wp2_with fail
  refine (sum_run X3 (some ⟨k, 0, none⟩) 4 g H3.out.r).mono ?_
  rintro e w4 ⟨b0, bn0, bc0, b1, bn1, bc1, b2, bn2, bc2, b3, bn3, bc3, b4, bn4, bc4, b5, b6, lA, lo, lc, rfl, hb, hk1, hk2⟩
  go_upto_region 5 with fail
  have hb' := hb.alloc hb.size (.cells #[.slice b0 bn0 bc0, .slice b1 bn1 bc1, .slice b2 bn2 bc2, .slice b3 bn3 bc3, .slice b4 bn4 bc4, .slice b5 32 b6, .slice (some ⟨lA, lo, none⟩) 1 lc, .int .i64 3, .int .i64 0, .int .i64 0] 39)
  have H4 := Lib.hid (H3.out.go hb')
  have HV4 := Lib.hid (Reads.go HV3.out hb')
  have HR4 := Lib.hid (HR3.out.go hb')
  have HS4 : Hid (BtR w4.heap.size #[.slice b0 bn0 bc0, .slice b1 bn1 bc1, .slice b2 bn2 bc2, .slice b3 bn3 bc3, .slice b4 bn4 bc4, .slice b5 32 b6, .slice (some ⟨lA, lo, none⟩) 1 lc, .int .i64 3, .int .i64 0, .int .i64 0] lA lo (w4.alloc (.cells #[.slice b0 bn0 bc0, .slice b1 bn1 bc1, .slice b2 bn2 bc2, .slice b3 bn3 bc3, .slice b4 bn4 bc4, .slice b5 32 b6, .slice (some ⟨lA, lo, none⟩) 1 lc, .int .i64 3, .int .i64 0, .int .i64 0] 39))) := Lib.hid ⟨Blk.new _ _ _, by simp; omega, (World.cell?_alloc_lt _ _ _ hk1).trans hk2⟩
  clear c0 c1 c2 c3 hl H3 HV3 HR3 hb hb' hk1 hk2
  generalize w4.alloc (.cells #[.slice b0 bn0 bc0, .slice b1 bn1 bc1, .slice b2 bn2 bc2, .slice b3 bn3 bc3, .slice b4 bn4 bc4, .slice b5 32 b6, .slice (some ⟨lA, lo, none⟩) 1 lc, .int .i64 3, .int .i64 0, .int .i64 0] 39) = X4 at *
  generalize w4.heap.size = sb at *
  go_wp2_with fail
  refine (add_built _ X4.heap.size (Reads.blk (cs := insCells addIns) (Blk.new X4 96 _) 2 1 rfl)).mono ?_
  rintro e w5 ⟨av, rfl, hb⟩
  go_upto_region 6 with fail
  have hb' := (below_new X4 (.cells (insCells addIns).toArray 96)).trans (hb.mono (by simp))
  have H5 := Lib.hid (H4.out.go hb')
  have HV5 := Lib.hid (Reads.go HV4.out hb')
  have HR5 := Lib.hid (HR4.out.go hb')
  have HS5 := Lib.hid (HS4.out.go hb')
  clear H4 HV4 HR4 HS4 hb hb'
  have c0 := H5.out.p.cell 0
  have c1 := H5.out.p.cell 1
  have c2 := H5.out.p.cell 2
  have c3 := H5.out.p.cell 3
  simp only [List.getElem?_toArray, List.getElem?_cons_zero, List.getElem?_cons_succ] at c0 c1 c2 c3
  have hl := H5.out.p.lt
  go_wp2_with fail
  refine (nil_run w5 g).mono ?_
  rintro e w6 ⟨rfl, hb⟩
  go_upto_region 7 with fail
  have hb' := hb.alloc hb.size (.cells #[.slice none 0 0, .slice none 0 0, .slice none 0 0, .slice none 0 0, .slice none 0 0, .slice none 0 0, .slice none 0 0, .int .i64 0, .int .i64 0, .int .i64 50] 39)
  have HE : Hid (BtE w pb g k A rb _ kA ko sb _ lA lo w6.heap.size _ _) := Lib.hid ⟨H5.out.go hb', Reads.go HV5.out hb', HR5.out.go hb', HS5.out.go hb', Blk.new _ _ _⟩
  clear H5 HV5 HR5 HS5 hb hb' c0 c1 c2 c3 hl
  generalize w6.alloc (.cells #[.slice none 0 0, .slice none 0 0, .slice none 0 0, .slice none 0 0, .slice none 0 0, .slice none 0 0, .slice none 0 0, .int .i64 0, .int .i64 0, .int .i64 50] 39) = X6 at *
  generalize w6.heap.size = nb at *
  have r5 := HE.out.r.blk.cell 6
  have r9 := HE.out.r.blk.cell 9
  have s5 := HE.out.s.blk.cell 5
  have s6 := HE.out.s.blk.cell 6
  have s7 := HE.out.s.blk.cell 7
  have n9 := HE.out.n.cell 9
  simp only [List.getElem?_toArray, List.getElem?_cons_zero, List.getElem?_cons_succ] at r5 r9 s5 s6 s7 n9
  have rl := HE.out.r.blk.lt
  have sl := HE.out.s.blk.lt
  have nl := HE.out.n.lt
  have kl := HE.out.r.lt
  have ll := HE.out.s.lt
  have k12 := HE.out.r.at_
  have l12 := HE.out.s.at_
  go_wp2_with fail
  refine (right_any A c _ sumRegs _ HE.out.v (Nat.le_refl _) (by decide)).mono ?_
  rintro e w7 ⟨rfl, hb⟩
  rw [sum_right]
  have HE2 := Lib.hid (HE.out.go hb)
  clear r5 r9 s5 s6 s7 n9 rl sl nl kl ll k12 l12 HE hb
  obtain ⟨HE, _⟩ : Hid _ ∧ True := ⟨HE2, trivial⟩
  clear HE2
  have r5 := HE.out.r.blk.cell 6
  have r9 := HE.out.r.blk.cell 9
  have s5 := HE.out.s.blk.cell 5
  have s6 := HE.out.s.blk.cell 6
  have s7 := HE.out.s.blk.cell 7
  have n9 := HE.out.n.cell 9
  simp only [List.getElem?_toArray, List.getElem?_cons_zero, List.getElem?_cons_succ] at r5 r9 s5 s6 s7 n9
  have rl := HE.out.r.blk.lt
  have sl := HE.out.s.blk.lt
  have nl := HE.out.n.lt
  have kl := HE.out.r.lt
  have ll := HE.out.s.lt
  have k12 := HE.out.r.at_
  have l12 := HE.out.s.at_
  go_wp2_with fail
  refine (right_any (some ⟨k, 0, none⟩) 4 _ sumRegs _ HE.out.a.r (Nat.le_refl _) (by decide)).mono ?_
  rintro e w8 ⟨rfl, hb⟩
  rw [sum_right]
  have HE2 := Lib.hid (HE.out.go hb)
  clear r5 r9 s5 s6 s7 n9 rl sl nl kl ll k12 l12 HE hb
  obtain ⟨HE, _⟩ : Hid _ ∧ True := ⟨HE2, trivial⟩
  clear HE2
  have r5 := HE.out.r.blk.cell 6
  have r9 := HE.out.r.blk.cell 9
  have s5 := HE.out.s.blk.cell 5
  have s6 := HE.out.s.blk.cell 6
  have s7 := HE.out.s.blk.cell 7
  have n9 := HE.out.n.cell 9
  simp only [List.getElem?_toArray, List.getElem?_cons_zero, List.getElem?_cons_succ] at r5 r9 s5 s6 s7 n9
  have rl := HE.out.r.blk.lt
  have sl := HE.out.s.blk.lt
  have nl := HE.out.n.lt
  have kl := HE.out.r.lt
  have ll := HE.out.s.lt
  have k12 := HE.out.r.at_
  have l12 := HE.out.s.at_
  go_wp2_with fail
  refine (right_any none 0 _ [] _ Reads.none_ (Nat.le_refl _) (by decide)).mono ?_
  rintro e w9 ⟨rfl, hb⟩
  rw [nil_right]
  have HE2 := Lib.hid (HE.out.go hb)
  clear r5 r9 s5 s6 s7 n9 rl sl nl kl ll k12 l12 HE hb
  obtain ⟨HE, _⟩ : Hid _ ∧ True := ⟨HE2, trivial⟩
  clear HE2
  have r5 := HE.out.r.blk.cell 6
  have r9 := HE.out.r.blk.cell 9
  have s5 := HE.out.s.blk.cell 5
  have s6 := HE.out.s.blk.cell 6
  have s7 := HE.out.s.blk.cell 7
  have n9 := HE.out.n.cell 9
  simp only [List.getElem?_toArray, List.getElem?_cons_zero, List.getElem?_cons_succ] at r5 r9 s5 s6 s7 n9
  have rl := HE.out.r.blk.lt
  have sl := HE.out.s.blk.lt
  have nl := HE.out.n.lt
  have kl := HE.out.r.lt
  have ll := HE.out.s.lt
  have k12 := HE.out.r.at_
  have l12 := HE.out.s.at_
  go_wp2_with fail
  refine (right_any (some ⟨k, 0, none⟩) 4 _ (sumRegs.take 3) _ (sum_cut HE.out.a.r) (Nat.le_refl _) (by decide)).mono ?_
  rintro e w10 ⟨rfl, hb⟩
  rw [sum_less]
  have HE2 := Lib.hid (HE.out.go hb)
  clear r5 r9 s5 s6 s7 n9 rl sl nl kl ll k12 l12 HE hb
  obtain ⟨HE, _⟩ : Hid _ ∧ True := ⟨HE2, trivial⟩
  clear HE2
  have hbw := HE.out.a.b
  go_wp2_with fail
  go_ret
  exact ⟨rfl, hbw⟩
end Go.Proofs.YtnhebmgibiomnaaGreat

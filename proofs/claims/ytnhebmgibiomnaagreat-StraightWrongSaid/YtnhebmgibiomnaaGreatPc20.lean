/- Parts of the proof, joined: BuF BuG. -/
import Derived.Test.YtnhebmgibiomnaaGreatPc19
set_option linter.unusedVariables false
set_option linter.unusedSimpArgs false
namespace Go.Proofs.YtnhebmgibiomnaaGreat
open Go.RowKit Mc
namespace Bu
def blk (body : List Sr.Reg) (loops : Int) (u k : Nat) : List Sr.Reg := ⟨41, 0, 32 + loops, (k : Int), if k < u then (16 - (k : Int)) * (1 + body.length) - 1 else 0⟩ :: body
def lp (body : List Sr.Reg) (top loops : Int) (t u : Nat) : List Sr.Reg := ⟨40, 32 + loops, top, 0, 0⟩ :: ((List.range t).map (blk body loops u)).flatten
theorem lp_done (body : List Sr.Reg) (top loops : Int) : lp body top loops 16 16 = loopE body top loops := by
  unfold lp loopE
  rw [List.flatMap_def]
  congr 2
theorem lp_succ (body : List Sr.Reg) (top loops : Int) (t : Nat) : lp body top loops (t + 1) 0 = lp body top loops t 0 ++ [⟨41, 0, 32 + loops, (t : Int), 0⟩] ++ body := by
  unfold lp
  rw [List.range_succ, List.map_append, List.flatten_append]
  simp [blk]
theorem blks_len (body : List Sr.Reg) (loops : Int) (u : Nat) : ∀ (l : List Nat), ((l.map (blk body loops u)).flatten).length = l.length * (1 + body.length)
  | [] => by simp
  | k :: l => by
    rw [List.map_cons, List.flatten_cons, List.length_append, blks_len body loops u l, List.length_cons, Nat.succ_mul]
    unfold blk
    rw [List.length_cons]
    omega
theorem lp_len (body : List Sr.Reg) (top loops : Int) (t u : Nat) : (lp body top loops t u).length = 1 + t * (1 + body.length) := by
  unfold lp
  rw [List.length_cons, blks_len, List.length_range]
  omega
theorem lp_set (body : List Sr.Reg) (top loops : Int) (t u : Nat) (h : u < t) : (lp body top loops t u)[1 + u * (1 + body.length)]? = some ⟨41, 0, 32 + loops, (u : Int), 0⟩ ∧
    (lp body top loops t u).set (1 + u * (1 + body.length)) ⟨41, 0, 32 + loops, (u : Int), (16 - (u : Int)) * (1 + body.length) - 1⟩ = lp body top loops t (u + 1) := by
  have hg : ((List.range t).map (blk body loops u))[u]? = some (⟨41, 0, 32 + loops, (u : Int), 0⟩ :: body) := by
    rw [List.getElem?_map, List.getElem?_range h]
    simp [blk]
  obtain ⟨h1, h2⟩ := flat_at _ u _ _ hg
  have hb : (((List.range t).map (blk body loops u)).take u).flatten.length = u * (1 + body.length) := by
    rw [← List.map_take, blks_len, List.length_take, List.length_range, Nat.min_eq_left (by omega)]
  rw [hb] at h1 h2
  unfold lp
  rw [show 1 + u * (1 + body.length) = u * (1 + body.length) + 1 by omega]
  refine ⟨by simpa using h1, ?_⟩
  rw [List.set_cons_succ, h2]
  congr 2
  refine List.ext_getElem? fun k => ?_
  rw [List.getElem?_set]
  by_cases hk : u = k
  · subst hk
    rw [if_pos rfl, if_pos (by simpa using h), List.getElem?_map, List.getElem?_range h]
    simp [blk]
  · rw [if_neg hk, List.getElem?_map, List.getElem?_map]
    cases hr : (List.range t)[k]? with
    | none => rfl
    | some j =>
      have hj : j = k := by
        have hl := (List.getElem?_eq_some_iff.1 hr).1
        rw [List.length_range] at hl
        rw [List.getElem?_range hl] at hr
        injection hr with hr
        exact hr.symm
      subst hj
      simp only [Option.map_some, Option.some.injEq, blk]
      have : (j < u) = (j < u + 1) := by
        apply propext
        omega
      simp only [this]
def tests (n0 m : Nat) (t : Nat) : List Int := (List.range t).map fun k => ((n0 + 1 + k * (1 + m) : Nat) : Int)
theorem tests_succ (n0 m t : Nat) : tests n0 m (t + 1) = tests n0 m t ++ [((n0 + 1 + t * (1 + m) : Nat) : Int)] := by unfold tests; rw [List.range_succ, List.map_append]; rfl
theorem tests_at (n0 m t k : Nat) (h : k < t) : (tests n0 m t)[k]? = some ((n0 + 1 + k * (1 + m) : Nat) : Int) := by unfold tests; rw [List.getElem?_map, List.getElem?_range h]; rfl
end Bu
def LoI (w : World) (B bb : Nat) (pv : Value) (ps : List Bu.Plan) (code body : List Sr.Reg) (top loops : Int) (A : Option Addr) (n c : Nat) (z : Int) (v i : Value) (wr : World) : Prop :=
  ∃ (t : Nat) (cv : Value), t ≤ 16 ∧ i = .int .i64 (t : Int) ∧ wr.ownsRow w.heap.size 3 1 v t (ints (Bu.tests code.length body.length t)) ∧ BuL wr B bb pv cv ps (code ++ Bu.lp body top loops t 0) ∧ FrT B w wr ∧ Blk wr w.heap.size 89 #[.slice A n c, .int .i64 z]
def LoJ (w : World) (B bb : Nat) (pv : Value) (ps : List Bu.Plan) (code body : List Sr.Reg) (top loops : Int) (v i : Value) (wr : World) : Prop :=
  ∃ (u : Nat) (cv : Value), u ≤ 16 ∧ i = .int .i64 (u : Int) ∧ wr.ownsRow w.heap.size 3 1 v 16 (ints (Bu.tests code.length body.length 16)) ∧ BuL wr B bb pv cv ps (code ++ Bu.lp body top loops 16 u) ∧ FrT B w wr
set_option maxRecDepth 100000 in
set_option maxHeartbeats 4000000 in
theorem bloop_any (es : List Bu.Emit) (ps : List Bu.Plan) (j : Nat) (hE : EmitOk es ps j) : LoopOk es ps j := by
  intro w B bb pv cv code p A c top loops hp h hB hst heb hl0 hlen
  generalize hbody : Bu.em es j top (loops + 1) = body at *
  have hll := Bu.lp_len body top loops 16 16
  rw [Bu.lp_done] at hll
  have HDONE := Lib.hid (Bu.lp_done body top loops)
  have HST := Lib.hid hst
  have HE := Lib.hid (fun W cv' code' hB' hW hr hl => hE W B bb pv cv' code' p A c top (loops + 1) hp hB' hW hr heb hl)
  have HBODY := Lib.hid hbody
  have HA := Lib.hid (h.alloc (.cells #[.slice A p.steps.length c, .int .i64 p.size] 89))
  have FA := Lib.hid ((FrT.refl B w).alloc hB (.cells #[.slice A p.steps.length c, .int .i64 p.size] 89))
  have HPB := Lib.hid (Blk.new w 89 #[.slice A p.steps.length c, .int .i64 p.size])
  obtain ⟨i0, hi0, hi1, hi2, hi3⟩ := info_m info_int
  obtain ⟨heb1, heb2, heb3, heb4⟩ := heb
  have hz := h.blk.lt
  rw [hll] at hlen
  clear h hst hE hp hbody hll
  go_enter Tryz.func89, Tryz.ntmps89
  go_wp2_with fail
  refine (bput_any _ B bb pv cv ps code HA.out (by simp; omega) (by omega) ⟨40, 32 + loops, top, 0, 0⟩).mono ?_
  rintro e w1 ⟨rfl, ⟨cv1, hl1⟩, hf1⟩
  have HI0 : Hid (LoI w B bb pv ps code body top loops A p.steps.length c p.size (.slice none 0 0) (.int .i64 0) w1) := Lib.hid ⟨0, cv1, by omega, rfl, owns_nil _ _ _ _, by simpa [Bu.lp] using hl1, FA.out.trans hf1, hf1.blk HPB.out (by decide) (by decide)⟩
  clear hl1 hf1 HA FA HPB
  go_wp2_with fail
  go_loopw [9, 20] (fun v i wr => LoI w B bb pv ps code body top loops A p.steps.length c p.size v i wr) (fun _ i _ => 16 - (intOf i).toNat)
  case atStart => exact HI0.out
  case round =>
    clear HI0
    obtain ⟨t, cv2, ht, rfl, htr, hL, hF, hPB⟩ := hrel
    have hlpl := Bu.lp_len body top loops t 0
    by_cases hlt : t < 16
    · obtain ⟨Ac, cc, hcv, hcc, _⟩ := owns_form hL.code
      subst hcv
      obtain ⟨At, ct, hvt, _, _⟩ := owns_form htr
      subst hvt
      have hll : (code ++ Bu.lp body top loops t 0).length = code.length + 1 + t * (1 + body.length) := by rw [List.length_append, hlpl]; omega
      have hmul : t * (1 + body.length) + (1 + body.length) ≤ 16 * (1 + body.length) := by
        rw [← Nat.succ_mul]
        exact Nat.mul_le_mul_right _ (by omega)
      have c1 := hL.blk.cell 1
      simp only [List.getElem?_toArray, List.getElem?_cons_zero, List.getElem?_cons_succ] at c1
      rw [hll] at c1
      have hlb := hL.blk.lt
      have HTR := Lib.hid (htr.alloc (.cells #[.int .i64 ((code.length + 1 + t * (1 + body.length) : Nat) : Int)] 3))
      have HL := Lib.hid (hL.alloc (.cells #[.int .i64 ((code.length + 1 + t * (1 + body.length) : Nat) : Int)] 3))
      have HF := Lib.hid (hF.alloc (by have := hF.below.size; omega) (.cells #[.int .i64 ((code.length + 1 + t * (1 + body.length) : Nat) : Int)] 3))
      have HPB := Lib.hid (hPB.alloc (.cells #[.int .i64 ((code.length + 1 + t * (1 + body.length) : Nat) : Int)] 3))
      have HLL := Lib.hid hll
      have hzw := hF.below.size
      generalize hM : code.length + 1 + t * (1 + body.length) = M at *
      have HM := Lib.hid hM
      have hM2 : M + (1 + body.length) ≤ 1000000 := by omega
      clear hll htr hL hF hPB hlpl hmul hM
      go_wp2_with (at_builtin; refine wpList_append_any _ rfl (.tmp 23) (.tmp 29) _ rfl w.heap.size 3 i0 _ 1 8 Tryz.underlying22 hi0 hi1 hi2 hi3 rfl (show 0 < 1 by decide) (.slice At t ct) t _ rfl HTR.out _ _ 1 1 [.int .i64 (M : Int)] rfl (Reads.blk (cs := [.int .i64 (M : Int)]) (Blk.new _ _ _) 1 1 rfl) (by simp [Value.oneCell']) (by unfold maxLen; omega) (by omega) (by simp; omega) ?_; intro v' w2 ho2 hg2 hn2)
      have hL2 := HL.out.grown HTR.out hg2 (by decide)
      have hF2 := HF.out.grown hg2 hB (fun r e => (owns_block HTR.out e).1)
      have hP2 := HPB.out.grown hg2 fun e => by have := (owns_block HTR.out e.symm).2.2; obtain ⟨cs, hb⟩ := this; exact HPB.out.ne_ hb (by decide) rfl
      obtain ⟨Av, cv3, hv3, _⟩ := owns_form ho2
      subst hv3
      have hts : (ints (Bu.tests code.length body.length t) ++ [.int .i64 (M : Int)] : List Value) = ints (Bu.tests code.length body.length (t + 1)) := by
        rw [Bu.tests_succ, HM.out]
        unfold ints
        simp
      rw [hts] at ho2
      have HO2 := Lib.hid ho2
      have HF2 := Lib.hid hF2
      have HP2 := Lib.hid hP2
      have hzw2 := hF2.below.size
      refine (bput_any _ B bb pv _ ps _ hL2 (by omega) (by rw [HLL.out]; omega) ⟨41, 0, 32 + loops, (t : Int), 0⟩).mono ?_
      rintro e w3 ⟨rfl, ⟨cv4, hl4⟩, hf4⟩
      have hF3 := HF2.out.trans hf4
      have hP3 := hf4.blk HP2.out (by decide) (by decide)
      have ho3 : w3.ownsRow w.heap.size 3 1 (.slice Av (t + 1) cv3) (t + 1) (ints (Bu.tests code.length body.length (t + 1))) := owns_keep HO2.out fun g e => by
        obtain ⟨_, _, cs, hb⟩ := owns_block HO2.out e
        exact (hf4.blk hb (by decide) (by decide)).trans hb.symm
      have HC := Lib.hid (HE.out w3 _ _ hl4 (by have := hF3.below.size; omega) (HST.out.frT hF3 rfl (by decide) (by decide)) (by rw [HBODY.out, List.length_append, HLL.out, List.length_singleton]; omega))
      have HF3 := Lib.hid hF3
      have HO3 := Lib.hid ho3
      have HP3 := Lib.hid hP3
      have p0 := hP3.cell 0
      have p1 := hP3.cell 1
      simp only [List.getElem?_toArray, List.getElem?_cons_zero, List.getElem?_cons_succ] at p0 p1
      have hlp3 := hP3.lt
      clear hL2 hF2 hP2 ho2 hg2 hn2 hts hl4 hf4 hF3 ho3 hP3 HL HF HPB HTR HO2 HF2 HP2 c1 hlb
      go_wp2_with fail
      refine HC.out.mono ?_
      rintro e w4 ⟨rfl, ⟨cv5, hl5⟩, hf5⟩
      have HR : Hid (LoI w B bb pv ps code body top loops A p.steps.length c p.size (.slice Av (t + 1) cv3) (.int .i64 ((t : Int) + 1)) w4) := Lib.hid ⟨t + 1, cv5, by omega, by simp, owns_keep HO3.out fun g e => by
        obtain ⟨_, _, cs, hb⟩ := owns_block HO3.out e
        exact (hf5.blk hb (by decide) (by decide)).trans hb.symm, by
        rw [Bu.lp_succ]
        rw [HBODY.out] at hl5
        simpa using hl5, HF3.out.trans hf5, hf5.blk HP3.out (by decide) (by decide)⟩
      clear hl5 hf5 HC HF3 HO3 HP3 p0 p1 hlp3
      go_wp2
      go_roundw
      case rel => exact HR.out
      case measure => simp [intOf]; omega
    · obtain rfl : t = 16 := by omega
      obtain ⟨At, ct, hvt, _, _⟩ := owns_form htr
      subst hvt
      have HJ0 : Hid (LoJ w B bb pv ps code body top loops (.slice At 16 ct) (.int .i64 0) wr) := Lib.hid ⟨0, cv2, by omega, rfl, htr, hL, hF⟩
      clear htr hL hF hPB hlpl hlt ht HE HST
      go_wp2_with fail
      rw [show ((16 : Nat) : Int) = 16 from rfl]
      go_loopw [45] (fun i wr => LoJ w B bb pv ps code body top loops (.slice At 16 ct) i wr) (fun i _ => 16 - (intOf i).toNat)
      case atStart => exact HJ0.out
      case round =>
        clear HJ0
        obtain ⟨u, cv6, hu, rfl, htr, hL, hF⟩ := hrel
        by_cases hlt : u < 16
        · have hlpl := Bu.lp_len body top loops 16 u
          obtain ⟨hs1, hs2⟩ := Bu.lp_set body top loops 16 u hlt
          have hmul : u * (1 + body.length) + (1 + body.length) ≤ 16 * (1 + body.length) := by
            rw [← Nat.succ_mul]
            exact Nat.mul_le_mul_right _ (by omega)
          have hval : ((code.length + (1 + 16 * (1 + body.length)) : Nat) : Int) - ((code.length + (1 + u * (1 + body.length)) : Nat) : Int) - 1 = (16 - (u : Int)) * (1 + body.length) - 1 := by
            have hI : (u : Int) * (1 + (body.length : Int)) = ((u * (1 + body.length) : Nat) : Int) := by simp
            rw [Int.sub_mul, hI]
            generalize u * (1 + body.length) = X
            omega
          have hll : (code ++ Bu.lp body top loops 16 u).length = code.length + (1 + 16 * (1 + body.length)) := by rw [List.length_append, hlpl]
          obtain ⟨g, cc, hcv, hcc, _, hgl, hcells⟩ := owns_at hL.code (by omega)
          subst hcv
          have hr : (code ++ Bu.lp body top loops 16 u)[code.length + (1 + u * (1 + body.length))]? = some ⟨41, 0, 32 + loops, (u : Int), 0⟩ := by
            rw [List.getElem?_append_right (by omega), Nat.add_sub_cancel_left]
            exact hs1
          obtain ⟨hN, hNF⟩ := hL.setN rfl hr ((16 - (u : Int)) * (1 + body.length) - 1)
          have hset : (code ++ Bu.lp body top loops 16 u).set (code.length + (1 + u * (1 + body.length))) ⟨41, 0, 32 + loops, (u : Int), (16 - (u : Int)) * (1 + body.length) - 1⟩ = code ++ Bu.lp body top loops 16 (u + 1) := by
            rw [List.set_append_right _ _ (by omega), Nat.add_sub_cancel_left, hs2]
          simp only at hN
          rw [hset] at hN
          obtain ⟨gt, ct', hvt, _, _, htl, htc⟩ := owns_at htr (by omega)
          have x0 := htc _ _ (ints_get (Bu.tests_at code.length body.length 16 u hlt))
          obtain ⟨rfl, rfl⟩ : At = some ⟨gt, 0, none⟩ ∧ ct = ct' := by simpa using hvt
          clear hvt
          have c1 := hL.blk.cell 1
          simp only [List.getElem?_toArray, List.getElem?_cons_zero, List.getElem?_cons_succ] at c1
          rw [hll] at c1
          have d4 := hcells _ _ (regCells_at _ _ _ hr).2.2.2.2
          have fz : wr.frozen? ⟨g, (code.length + (1 + u * (1 + body.length))) * 5 + 4, none⟩ = false := by
            obtain ⟨_, _, cs, hb⟩ := owns_block hL.code (g := g) rfl
            exact hb.frozen _
          rw [show code.length + 1 + u * (1 + body.length) = code.length + (1 + u * (1 + body.length)) by omega] at x0
          have HRD : Hid (LoJ w B bb pv ps code body top loops (.slice (some ⟨gt, 0, none⟩) 16 ct) (.int .i64 ((u : Int) + 1)) (wr.drew.setCell ⟨g, (code.length + (1 + u * (1 + body.length))) * 5 + 4, none⟩ (.int .i64 ((16 - (u : Int)) * (1 + body.length) - 1)))) := by
            obtain ⟨hN', hNF'⟩ := hL.drew.setN rfl hr ((16 - (u : Int)) * (1 + body.length) - 1)
            simp only at hN'
            rw [hset] at hN'
            refine Lib.hid ⟨u + 1, _, by omega, by simp, owns_keep htr fun g' e => ?_, hN', hF.trans (((FrT.refl B wr).drew).trans hNF')⟩
            obtain ⟨_, _, cs, hb⟩ := owns_block htr e
            exact (hNF'.blk (w := wr.drew) hb (by decide) (by decide)).trans hb.symm
          have hlb := hL.blk.lt
          clear hN hNF hset hs1 hs2 hll hr hcells htc htr hL hF hlpl
          generalize hat : code.length + (1 + u * (1 + body.length)) = at_ at *
          generalize hto : code.length + (1 + 16 * (1 + body.length)) = to_ at *
          have hle : at_ < to_ ∧ to_ ≤ 1000000 := by omega
          obtain ⟨hle1, hle2⟩ := hle
          have HAT := Lib.hid hat
          have HTO := Lib.hid hto
          clear hat hto hmul
          generalize (16 - (u : Int)) * (1 + body.length) - 1 = vv at *
          have HVV := Lib.hid hval
          have hw1 : IntKind.i64.wrap ((to_ : Int) - (at_ : Int)) = (to_ : Int) - at_ := IntWalk.i64_in _ (by omega)
          have hw2 : IntKind.i64.wrap ((to_ : Int) - (at_ : Int) - 1) = vv := by rw [IntWalk.i64_in _ (by omega)]; exact hval
          clear hval
          go_wp2_with fail
          have hS : wr.drew.cell? ⟨bb, 1, none⟩ = some (.slice (some ⟨g, 0, none⟩) to_ cc) := c1
          refine wp_region_seqT (fun i => !([15] : List Nat).contains i) (fun i => ([3, 8] : List Nat).contains i) (fun i => ([] : List Nat).contains i) [0, 1, 2, 3, 4, 5, 6, 7, 8, 9, 10, 11, 12, 13, 14, 15] (fun wq : World => wq.cell? ⟨bb, 1, none⟩ = some (.slice (some ⟨g, 0, none⟩) to_ cc)) (by kernel_rfl) (by kernel_rfl) (by kernel_rfl) (by kernel_rfl) ?_
          iterate 15 (first | refine wpSeq_pureA (v := _) rfl rfl rfl ?_ | refine wpSeq_loadA (v := _) rfl rfl hS rfl ?_)
          refine wpSeq_heavy rfl rfl (fun K hK => ?_); go_simp
          refine hK _ _ (fun h => by cases h) ?_; clear hK K
          refine wpSeq_end ?_
          go_wp2
          go_roundw
          case rel => first | exact HRD.out | ((repeat apply Exists.intro); exact ⟨HRD.out, rfl⟩)
          case measure => simp [intOf]; omega
        · obtain rfl : u = 16 := by omega
          have HP : Hid (BuPost w B bb pv ps (code ++ Bu.loopE body top loops) (.returned (.tuple #[])) wr) := Lib.hid ⟨rfl, ⟨cv6, by rw [← HDONE.out]; exact hL⟩, hF⟩
          clear htr hL hF
          go_wp2
          go_end0
          exact HP.out
end Go.Proofs.YtnhebmgibiomnaaGreat
namespace Go.Proofs.YtnhebmgibiomnaaGreat
namespace Bu
section
variable (ls : List (List Sr.Reg)) (st : List PS)
def fl (P : Nat → Bool) : List (List Sr.Reg) := (List.range st.length).map fun k => if P k then fixed ls st k else ls.getD k []
theorem setN_len (l : List Sr.Reg) (n : Int) : (setN l n).length = l.length := by cases l <;> rfl
theorem fixed_len (k : Nat) : (fixed ls st k).length = (ls.getD k []).length := by
  unfold fixed
  simp only
  split
  · split
    · exact setN_len _ _
    · rfl
  · rfl
theorem fl_none (h : ls.length = st.length) : fl ls st (fun _ => false) = ls := by
  unfold fl
  refine List.ext_getElem? fun k => ?_
  rw [List.getElem?_map]
  by_cases hk : k < st.length
  · rw [List.getElem?_range hk, List.getElem?_eq_getElem (by omega)]
    simp [List.getD_eq_getElem?_getD, List.getElem?_eq_getElem (show k < ls.length by omega)]
  · rw [List.getElem?_eq_none (by simpa using hk), List.getElem?_eq_none (by omega)]
    rfl
theorem fl_lens (P : Nat → Bool) : (fl ls st P).map List.length = (fl ls st fun _ => false).map List.length := by
  unfold fl
  rw [List.map_map, List.map_map]
  refine List.map_congr_left fun k _ => ?_
  simp only [Function.comp]
  split
  · rw [fixed_len]; rfl
  · rfl
theorem flat_len_map {α : Type} : ∀ (a : List (List α)), a.flatten.length = (a.map List.length).sum
  | [] => rfl
  | x :: a => by rw [List.flatten_cons, List.length_append, List.map_cons, List.sum_cons, flat_len_map a]
theorem fl_begin (h : ls.length = st.length) (P : Nat → Bool) (u : Nat) : ((fl ls st P).take u).flatten.length = begins ls u := by
  unfold begins
  rw [flat_len_map, flat_len_map, List.map_take, List.map_take, fl_lens, fl_none ls st h]
theorem fl_len (h : ls.length = st.length) (P : Nat → Bool) : (fl ls st P).flatten.length = ls.flatten.length := by
  rw [flat_len_map, flat_len_map, fl_lens, fl_none ls st h]
theorem fl_set (P : Nat → Bool) (i : Nat) (hi : i < st.length) : (fl ls st P).set i (fixed ls st i) = fl ls st fun k => P k || k == i := by
  unfold fl
  refine List.ext_getElem? fun k => ?_
  rw [List.getElem?_set, List.getElem?_map]
  by_cases hk : i = k
  · subst hk
    rw [if_pos rfl, if_pos (by simpa using hi), List.getElem?_map, List.getElem?_range hi]
    simp
  · rw [if_neg hk, List.getElem?_map]
    cases hr : (List.range st.length)[k]? with
    | none => rfl
    | some j =>
      have hj : j = k := by
        have hl := (List.getElem?_eq_some_iff.1 hr).1
        rw [List.length_range] at hl
        rw [List.getElem?_range hl] at hr
        injection hr with hr
        exact hr.symm
      subst hj
      have : ¬ j = i := fun e => hk e.symm
      simp [this]
theorem begins_le (a b : Nat) (h : a ≤ b) : begins ls a ≤ begins ls b := by
  unfold begins
  have : ls.take a = (ls.take b).take a := by rw [List.take_take, Nat.min_eq_left h]
  rw [this]
  have h2 := congrArg (fun l => l.flatten.length) (List.take_append_drop a (ls.take b))
  simp only [List.flatten_append, List.length_append] at h2
  omega
theorem begins_all (b : Nat) : begins ls b ≤ ls.flatten.length := by
  unfold begins
  have h2 := congrArg (fun l => l.flatten.length) (List.take_append_drop b ls)
  simp only [List.flatten_append, List.length_append] at h2
  omega
theorem begins_succ {i : Nat} {l : List Sr.Reg} (h : ls[i]? = some l) : begins ls (i + 1) = begins ls i + l.length ∧ (ls.take (i + 1)).flatten = (ls.take i).flatten ++ l := by
  have e : ls.take (i + 1) = ls.take i ++ [l] := by rw [List.take_add_one, h]; rfl
  unfold begins
  rw [e, List.flatten_append]
  exact ⟨by simp, by simp⟩
def jumps (i : Nat) : List Nat := (List.range i).filter fun k => match st[k]? with | some s => isJump s.op | none => false
theorem jumps_succ (i : Nat) {s : PS} (h : st[i]? = some s) : jumps st (i + 1) = jumps st i ++ (if isJump s.op then [i] else []) := by
  unfold jumps
  rw [List.range_succ, List.filter_append]
  simp only [List.filter_cons, List.filter_nil, h]
theorem jumps_mem {i k : Nat} : k ∈ jumps st i ↔ k < i ∧ ∃ s, st[k]? = some s ∧ isJump s.op = true := by
  unfold jumps
  rw [List.mem_filter, List.mem_range]
  refine and_congr_right fun _ => ?_
  cases st[k]? with
  | none => simp
  | some s => simp
theorem jumps_len (i : Nat) : (jumps st i).length ≤ i := by
  unfold jumps
  have := List.length_filter_le (fun k => match st[k]? with | some s => isJump s.op | none => false) (List.range i)
  simpa using this
theorem jumps_nodup (i : Nat) : (jumps st i).Nodup := List.Pairwise.filter _ List.nodup_range
def fixups (n0 : Nat) (i : Nat) : List (Nat × Nat) := (jumps st i).map fun k => (n0 + begins ls k, (st.getD k ⟨0, 0, 0, 0⟩).go)
theorem fixups_succ (n0 i : Nat) {s : PS} (h : st[i]? = some s) : fixups ls st n0 (i + 1) = fixups ls st n0 i ++ (if isJump s.op then [(n0 + begins ls i, s.go)] else []) := by
  unfold fixups
  rw [jumps_succ st i h, List.map_append]
  split
  · simp [List.getD_eq_getElem?_getD, h]
  · simp
theorem fl_done (h : ls.length = st.length) : (fl ls st fun k => (jumps st st.length).contains k).flatten = (List.range st.length).flatMap (fixed ls st) := by
  rw [List.flatMap_def]
  congr 1
  unfold fl
  refine List.map_congr_left fun k hk => ?_
  have hk := List.mem_range.1 hk
  split
  · rfl
  · rename_i hc
    unfold fixed
    rw [List.getElem?_eq_getElem hk]
    simp only
    have hn : ¬ isJump (st[k]).op = true := fun hj => hc (by
      rw [List.contains_iff_mem]
      exact (jumps_mem st).2 ⟨hk, _, List.getElem?_eq_getElem hk, hj⟩)
    rw [if_neg hn]
end
theorem piece_jump {es : List Emit} {p : Plan} {high loops : Int} {i : Nat} {s : PS} (h : p.steps[i]? = some s) (hj : isJump s.op = true) :
    ∃ r, (pieces es p high loops)[i]? = some [r] ∧ fixed (pieces es p high loops) p.steps i = [{ r with n := (begins (pieces es p high loops) s.go : Int) - begins (pieces es p high loops) i - 1 }] := by
  have hp : (pieces es p high loops)[i]? = some (stepE es (s.op, s.a) (high + s.high) loops) := by
    unfold pieces
    rw [List.getElem?_map, h]
    rfl
  have h1 : ∃ r, stepE es (s.op, s.a) (high + s.high) loops = [r] := by
    unfold isJump at hj
    simp only [decide_eq_true_eq] at hj
    rcases hj with hj | hj
    · rw [hj]; exact ⟨_, rfl⟩
    · rw [hj]; exact ⟨_, rfl⟩
  obtain ⟨r, hr⟩ := h1
  rw [hr] at hp
  refine ⟨r, hp, ?_⟩
  unfold fixed
  simp only [h, hj, if_true, List.getD_eq_getElem?_getD, hp, Option.getD_some]
  rfl
theorem pieces_len (es : List Emit) (p : Plan) (high loops : Int) : (pieces es p high loops).length = p.steps.length := by unfold pieces; simp
theorem emitE_len (es : List Emit) (p : Plan) (high loops : Int) : (emitE es p high loops).length = (pieces es p high loops).flatten.length := by
  unfold emitE
  simp only
  rw [← fl_done _ _ (pieces_len es p high loops)]
  exact fl_len _ _ (pieces_len es p high loops) _
end Bu
end Go.Proofs.YtnhebmgibiomnaaGreat

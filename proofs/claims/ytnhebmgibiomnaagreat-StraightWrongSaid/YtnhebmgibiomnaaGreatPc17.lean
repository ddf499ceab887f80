/- Parts of the proof, joined: SrO. -/
import Derived.Deep.CutBlock
import Derived.Test.YtnhebmgibiomnaaGreatPc16
set_option linter.unusedVariables false
set_option linter.unusedSimpArgs false
namespace Go.Proofs.YtnhebmgibiomnaaGreat
open Go.RowKit Mc
def SrB (B : Nat) (L : SLay) (sb : Nat) : Prop := ∀ k, (k = sb ∨ L.og.ownBlock = some k ∨ L.cu.ownBlock = some k ∨ L.tq.ownBlock = some k ∨ L.en.ownBlock = some k ∨ L.co.ownBlock = some k ∨ L.cv.ownBlock = some k ∨ L.st.ownBlock = some k) → B ≤ k
theorem SrL.tour {w w1 : World} {sb : Nat} {L : SLay} {s : Sr.St} (h : SrL w sb L s) {v' : Value} {c : Nat × Nat} (hc : c.1 ≤ c.2 ∧ c.2 < s.m.cur.length) (hl : s.m.cont.length < 1000000)
    (ho : w1.ownsRow 0 157 2 v' (s.m.cont.length + 1) (cts s.m.cont ++ [.int .i64 c.1, .int .i64 c.2])) (hg : w.grownBy w1 L.co.ownBlock) :
    Blk w1 sb 104 (stCells L s) ∧ SrL (w1.setCell ⟨sb, 68, none⟩ v') sb { L with co := v' } { s with m := { s.m with cont := s.m.cont ++ [c] } } := by
  have hb : Blk w1 sb 104 (stCells L s) := h.blk.grown hg fun e => by
    obtain ⟨_, _, _, hb'⟩ := owns_block h.co e.symm
    exact h.blk.ne_ hb' (by decide) rfl
  refine ⟨hb, ?_⟩
  have ap : ∀ {t : TypeId} {size n : Nat} {v : Value} {xs : List Value}, w.ownsRow 0 t size v n xs → t ≠ 157 → t ≠ 104 → (w1.setCell ⟨sb, 68, none⟩ v').ownsRow 0 t size v n xs := fun hv h1 h2 =>
    owns_set (owns_grownBy hv hg (apart_types hv h.co h1)) hb (fun e => h2 e.symm) 68 v'
  refine ⟨?_, ap h.og (by decide) (by decide), ap h.cu (by decide) (by decide), ap h.tq (by decide) (by decide), ap h.en (by decide) (by decide), ?_, ap h.cv (by decide) (by decide), ap h.st (by decide) (by decide), h.ap_cu_og, h.ap_tq_en, h.ap_tq_cv, h.ap_tq_st, h.ap_en_cv, h.ap_en_st, h.ap_cv_st, ⟨h.ok.rl, h.ok.rk, h.ok.m.cont_ (fun y hy => ?_) (by simp; omega)⟩⟩
  · rw [← stc_set (L := L) (L' := { L with co := v' }) (s := s) (s' := { s with m := { s.m with cont := s.m.cont ++ [c] } }) h.ok.rl rfl 4 v' rfl]
    exact hb.set_ 68 v'
  · have := owns_set ho hb (by decide) 68 v'
    simpa [cts] using this
  · rcases List.mem_append.1 hy with hy | hy
    · exact h.ok.m.cont y hy
    · simp only [List.mem_singleton] at hy
      subst hy
      exact hc
theorem ZnAt.mor {w : World} {B B' : Nat} {z : Zn} {oA uA tA eA : Option Addr} (h : ZnAt w B z oA uA tA eA) (hB : B ≤ B') : ZnAt w B' z oA uA tA eA := ⟨h.org.more hB, h.cur.more hB, h.touch.more hB, h.ends.more hB⟩
theorem PgAt.cvt_ {w : World} {B : Nat} {cvt : List Int} {cA : Option Addr} (h : Reads w B 1 cA cvt.length (ints cvt)) : PgAt w B ⟨[], [], cvt, 0⟩ none none cA := ⟨⟨[], Reads.none_, fun i c hc => by simp at hc⟩, Reads.none_, h⟩
theorem info_scont : (Tryz.prog.info? 157).map (fun i => (i.zero, i.size, i.bytes)) = some (some (.agg #[.int .i64 0, .int .i64 0]), 2, 16) := by kernel_rfl
def s0 (cvt : List Int) (size : Int) (z : Zn) (cs : List (Nat × Nat)) : Sr.St := { Sr.begin_ cvt size z with m := { (Sr.begin_ cvt size z).m with cont := cs } }
def BInv (w : World) (sb : Nat) (cvt : List Int) (size : Int) (z : Zn) (eA : Option Addr) (l i : Value) (wr : World) : Prop :=
  ∃ (j : Nat) (la : Int) (L : SLay) (cs : List (Nat × Nat)), j ≤ z.ends.length ∧ i = .int .i64 j ∧ l = .int .i64 la ∧ -1 ≤ la ∧ la ≤ z.cur.length ∧ SrL wr sb L (s0 cvt size z cs) ∧ SrB w.heap.size L sb ∧ Below w.heap.size w wr ∧ Reads wr w.heap.size 1 eA z.ends.length (ints z.ends) ∧ cs ++ Mc.conts z.cur.length la (z.ends.drop j) = Mc.conts z.cur.length (-1) z.ends ∧ cs.length ≤ j
def BegPost (w : World) (cvt : List Int) (size : Int) (z : Zn) (e : Ending) (w' : World) : Prop := ∃ sb L, e = .returned (.pointer (some ⟨sb, 0, none⟩)) ∧ SrL w' sb L (Sr.begin_ cvt size z) ∧ SrB w.heap.size L sb ∧ Below w.heap.size w w'
set_option maxRecDepth 100000 in
set_option maxHeartbeats 4000000 in
theorem begin_any (w : World) (cvt : List Int) (size : Int) (z : Zn) (hcv : cvt.length ≤ 1000000) (hz : ZnOk z) (fA mA cA oA tA eA uA : Option Addr) (fn fc mn mc cc oc tc ec uc : Nat) (hcr : Reads w w.heap.size 1 cA cvt.length (ints cvt)) (hza : ZnAt w w.heap.size z oA uA tA eA) :
    Calls Tryz.prog 40 #[.agg #[.slice fA fn fc, .slice mA mn mc, .slice cA cvt.length cc, .int .i64 size], .agg #[.slice oA z.org.length oc, .slice uA z.cur.length uc, .slice tA z.touch.length tc, .slice eA z.ends.length ec]] w (BegPost w cvt size z) := by
  obtain ⟨X, hX⟩ : ∃ X, X = (w.alloc (.cells #[.slice fA fn fc, .slice mA mn mc, .slice cA cvt.length cc, .int .i64 size] 26)).alloc (.cells #[.slice oA z.org.length oc, .slice uA z.cur.length uc, .slice tA z.touch.length tc, .slice eA z.ends.length ec] 30) := ⟨_, rfl⟩
  have hXz : X.heap.size = w.heap.size + 1 + 1 := by rw [hX]; simp
  have hXG : Grow w X := by rw [hX]; exact ((Fr.refl _ w).alloc _).alloc _
  have hbp : Blk X w.heap.size 26 #[.slice fA fn fc, .slice mA mn mc, .slice cA cvt.length cc, .int .i64 size] := by rw [hX]; exact (Blk.new _ _ _).alloc _
  have hbz : Blk X (w.heap.size + 1) 30 #[.slice oA z.org.length oc, .slice uA z.cur.length uc, .slice tA z.touch.length tc, .slice eA z.ends.length ec] := by rw [hX]; exact Blk.new_at _ _ _ (by simp)
  have hcX := hcr.keep (w' := X) fun q hq => hXG.cell hq (fun x => x)
  have hzX := hza.keep (W' := X) fun q hq => hXG.cell hq (fun x => x)
  have hnew := new_any X ⟨[], [], cvt, 0⟩ z ⟨by simp, by simp, by simp, by simpa using hcv⟩ hz none none cA oA tA eA uA 0 0 cc oc tc ec uc (PgAt.cvt_ (hcX.more hXG.size)) (hzX.mor hXG.size)
  have HNEW := Lib.hid hnew
  have HXG := Lib.hid hXG
  have HX := Lib.hid hX
  have HZK := Lib.hid hz
  have HCX := Lib.hid hcX
  have HZX := Lib.hid hzX
  have HBP := Lib.hid hbp
  have HBZ := Lib.hid hbz
  have p2 := hbp.cell 2
  have q0 := hbz.cell 0
  have q1 := hbz.cell 1
  have q2 := hbz.cell 2
  have q3 := hbz.cell 3
  simp only [List.getElem?_toArray, List.getElem?_cons_zero, List.getElem?_cons_succ] at p2 q0 q1 q2 q3
  clear hX hnew hcr hza hXG hbp hbz hcX hzX hz
  go_enter Tryz.func40, Tryz.ntmps40
  go_upto_region 1 with fail
  rw [← HX.out]
  go_wp2_with fail
  refine HNEW.out.mono ?_
  rintro e w1 ⟨mb, O1, L1, rfl, hm1, hO1, hb1⟩
  have HC := Lib.hid (ran_anyD w1 mb O1 L1 _ hm1)
  have HOK := Lib.hid hm1.ok
  have HB1 := Lib.hid hb1
  clear hm1 hO1 hb1 HNEW p2 q0 q1 q2 q3
  go_wp2_with fail
  refine HC.out.mono ?_
  rintro e w2 ⟨og, cu, tq, en, cv, st, sk, rfl, hra, hb2, hap⟩
  clear HC
  have HRA := Lib.hid hra
  have HAP := Lib.hid hap
  have HRW := Lib.hid HB1.out.size
  have HB2 := Lib.hid ((HB1.out).trans (hb2.mono HB1.out.size))
  obtain ⟨A1, c1, hf1, _⟩ := owns_form hra.og
  obtain ⟨A2, c2, hf2, _⟩ := owns_form hra.cu
  obtain ⟨A3, c3, hf3, _⟩ := owns_form hra.to
  obtain ⟨A4, c4, hf4, _⟩ := owns_form hra.en
  obtain ⟨A5, c5, hf5, _⟩ := owns_form hra.cv
  obtain ⟨A6, c6, hf6, _⟩ := owns_form hra.st
  obtain ⟨A7, c7, hf7, _⟩ := owns_form hra.sk
  subst hf1 hf2 hf3 hf4 hf5 hf6 hf7
  clear hra hb2 hap HB1
  generalize hsb : begin_ ⟨[], [], cvt, 0⟩ z = sB at *
  have HSB := Lib.hid hsb
  clear hsb
  have hz2 : X.heap.size ≤ w2.heap.size := HB2.out.size
  have hra := ((HRA.out.grow ((Fr.refl _ _).alloc (.cells #[.slice A1 sB.org.length c1, .slice A2 sB.cur.length c2, .slice A3 sB.touch.length c3, .slice A4 sB.ends.length c4, .slice A5 sB.cvt.length c5, .slice A6 32 c6, .slice A7 sB.stack.length c7, .int .i64 sB.steps, .int .i64 sB.peak, .int .i64 sB.err] 39))).mono HRW.out)
  have hbl := HB2.out.alloc hz2 (.cells #[.slice A1 sB.org.length c1, .slice A2 sB.cur.length c2, .slice A3 sB.touch.length c3, .slice A4 sB.ends.length c4, .slice A5 sB.cvt.length c5, .slice A6 32 c6, .slice A7 sB.stack.length c7, .int .i64 sB.steps, .int .i64 sB.peak, .int .i64 sB.err] 39)
  have hbk := Blk.new w2 39 #[.slice A1 sB.org.length c1, .slice A2 sB.cur.length c2, .slice A3 sB.touch.length c3, .slice A4 sB.ends.length c4, .slice A5 sB.cvt.length c5, .slice A6 32 c6, .slice A7 sB.stack.length c7, .int .i64 sB.steps, .int .i64 sB.peak, .int .i64 sB.err]
  have hWz : X.heap.size ≤ (w2.alloc (.cells #[.slice A1 sB.org.length c1, .slice A2 sB.cur.length c2, .slice A3 sB.touch.length c3, .slice A4 sB.ends.length c4, .slice A5 sB.cvt.length c5, .slice A6 32 c6, .slice A7 sB.stack.length c7, .int .i64 sB.steps, .int .i64 sB.peak, .int .i64 sB.err] 39)).heap.size := by simp; omega
  have HRA := Lib.hid hra
  have HBL := Lib.hid hbl
  have k0 := hbk.cell 0
  have k1 := hbk.cell 1
  have k2 := hbk.cell 2
  have k3 := hbk.cell 3
  have k4 := hbk.cell 4
  have k5 := hbk.cell 5
  simp only [List.getElem?_toArray, List.getElem?_cons_zero, List.getElem?_cons_succ] at k0 k1 k2 k3 k4 k5
  have hp3 := (HBP.out.below hbl HBP.out.lt).cell 3
  simp only [List.getElem?_toArray, List.getElem?_cons_zero, List.getElem?_cons_succ] at hp3
  clear hra hbl hbk
  go_wp2_with fail
  generalize (w2.alloc (.cells #[.slice A1 sB.org.length c1, .slice A2 sB.cur.length c2, .slice A3 sB.touch.length c3, .slice A4 sB.ends.length c4, .slice A5 sB.cvt.length c5, .slice A6 32 c6, .slice A7 sB.stack.length c7, .int .i64 sB.steps, .int .i64 sB.peak, .int .i64 sB.err] 39)) = W at *
  have hS : W.drew.cell? ⟨w2.heap.size, 0, none⟩ = some (.slice A1 sB.org.length c1) ∧ W.drew.cell? ⟨w2.heap.size, 1, none⟩ = some (.slice A2 sB.cur.length c2) ∧ W.drew.cell? ⟨w2.heap.size, 2, none⟩ = some (.slice A3 sB.touch.length c3) ∧ W.drew.cell? ⟨w2.heap.size, 3, none⟩ = some (.slice A4 sB.ends.length c4) ∧ W.drew.cell? ⟨w2.heap.size, 4, none⟩ = some (.slice A5 sB.cvt.length c5) ∧ W.drew.cell? ⟨w2.heap.size, 5, none⟩ = some (.slice A6 32 c6) ∧ W.drew.cell? ⟨w.heap.size, 3, none⟩ = some (.int .i64 size) := ⟨k0, k1, k2, k3, k4, k5, hp3⟩
  refine wp_region_seqT (fun i => !([8, 10] : List Nat).contains i) (fun i => ([1, 3, 5, 7] : List Nat).contains i) (fun i => ([8] : List Nat).contains i) [0, 1, 2, 3, 4, 5, 6, 7, 8, 9, 10, 11] (fun wq : World => wq.cell? ⟨w2.heap.size, 0, none⟩ = some (.slice A1 sB.org.length c1) ∧ wq.cell? ⟨w2.heap.size, 1, none⟩ = some (.slice A2 sB.cur.length c2) ∧ wq.cell? ⟨w2.heap.size, 2, none⟩ = some (.slice A3 sB.touch.length c3) ∧ wq.cell? ⟨w2.heap.size, 3, none⟩ = some (.slice A4 sB.ends.length c4) ∧ wq.cell? ⟨w2.heap.size, 4, none⟩ = some (.slice A5 sB.cvt.length c5) ∧ wq.cell? ⟨w2.heap.size, 5, none⟩ = some (.slice A6 32 c6) ∧ wq.cell? ⟨w.heap.size, 3, none⟩ = some (.int .i64 size)) (by kernel_rfl) (by kernel_rfl) (by kernel_rfl) (by kernel_rfl) ?_
  iterate 8 (first | refine wpSeq_pureA (v := _) rfl rfl rfl ?_ | refine wpSeq_loadA (v := _) rfl rfl hS rfl ?_)
  refine wpSeq_heavy rfl rfl (fun K hK => ?_); go_simp
  refine (skept_any _ _).mono ?_
  rintro e w5 ⟨rfl, rfl⟩
  dsimp only
  refine hK _ _ (fun _ => hS) ?_; clear hK K
  iterate 1 (first | refine wpSeq_pureA (v := _) rfl rfl rfl ?_ | refine wpSeq_loadA (v := _) rfl rfl hS rfl ?_)
  refine wpSeq_heavy rfl rfl (fun K hK => ?_); go_simp
  refine hK _ _ (fun h => by cases h) ?_; clear hK K
  iterate 1 (first | refine wpSeq_pureA (v := _) rfl rfl rfl ?_ | refine wpSeq_loadA (v := _) rfl rfl hS rfl ?_)
  refine wpSeq_end ?_
  clear hS k0 k1 k2 k3 k4 k5 hp3
  have HS : Hid (SrL (W.alloc (.cells ((((((((Tryz.zeroCells104.setIfInBounds 64 (.slice A1 sB.org.length c1)).setIfInBounds 65 (.slice A2 sB.cur.length c2)).setIfInBounds 66 (.slice A3 sB.touch.length c3)).setIfInBounds 67 (.slice A4 sB.ends.length c4)).setIfInBounds 69 (.slice A5 sB.cvt.length c5)).setIfInBounds 70 (.slice A6 32 c6)).setIfInBounds 71 (.int .i64 (k32 size))).setIfInBounds 74 (.int .i64 1)) 104)).drew W.heap.size ⟨.slice A1 sB.org.length c1, .slice A2 sB.cur.length c2, .slice A3 sB.touch.length c3, .slice A4 sB.ends.length c4, .slice none 0 0, .slice A5 sB.cvt.length c5, .slice A6 32 c6⟩ (s0 cvt size z [])) := Lib.hid (by
    have es : s0 cvt size z [] = ⟨List.replicate 64 0, { sB with size := k32 size, look := 0, move := 0, mode := 1, cont := [] }, 0, 0⟩ := by
      rw [← HSB.out]
      rfl
    rw [es]
    have gr : Grow W (W.alloc (.cells ((((((((Tryz.zeroCells104.setIfInBounds 64 (.slice A1 sB.org.length c1)).setIfInBounds 65 (.slice A2 sB.cur.length c2)).setIfInBounds 66 (.slice A3 sB.touch.length c3)).setIfInBounds 67 (.slice A4 sB.ends.length c4)).setIfInBounds 69 (.slice A5 sB.cvt.length c5)).setIfInBounds 70 (.slice A6 32 c6)).setIfInBounds 71 (.int .i64 (k32 size))).setIfInBounds 74 (.int .i64 1)) 104)).drew := ((Fr.refl _ _).alloc _).drew
    have hap := HAP.out
    have hok := HOK.out
    refine ⟨?_, owns_mono (owns_grow HRA.out.og gr) (Nat.zero_le _), owns_mono (owns_grow HRA.out.cu gr) (Nat.zero_le _), owns_mono (owns_grow HRA.out.to gr) (Nat.zero_le _), owns_mono (owns_grow HRA.out.en gr) (Nat.zero_le _), owns_nil _ _ _ _, owns_mono (owns_grow HRA.out.cv gr) (Nat.zero_le _), ?_, hap.p1.symm, hap.p2, hap.p3, hap.p4, hap.p6, hap.p7, hap.p9, ⟨rfl, fun x hx => ?_, { hok with size := k32_in _, mode := (show (0 : Int) ≤ 1 ∧ (1 : Int) ≤ 5 by decide), look := (show (0 : Int) ≤ 0 ∧ (0 : Int) ≤ 1 by decide), move := (show (0 : Int) ≤ 0 ∧ (0 : Int) ≤ 1 by decide), cont := fun c hc => by simp at hc, contl := by simp }⟩⟩
    · have hc : ((((((((Tryz.zeroCells104.setIfInBounds 64 (.slice A1 sB.org.length c1)).setIfInBounds 65 (.slice A2 sB.cur.length c2)).setIfInBounds 66 (.slice A3 sB.touch.length c3)).setIfInBounds 67 (.slice A4 sB.ends.length c4)).setIfInBounds 69 (.slice A5 sB.cvt.length c5)).setIfInBounds 70 (.slice A6 32 c6)).setIfInBounds 71 (.int .i64 (k32 size))).setIfInBounds 74 (.int .i64 1)) = stCells ⟨.slice A1 sB.org.length c1, .slice A2 sB.cur.length c2, .slice A3 sB.touch.length c3, .slice A4 sB.ends.length c4, .slice none 0 0, .slice A5 sB.cvt.length c5, .slice A6 32 c6⟩ ⟨List.replicate 64 0, { sB with size := k32 size, look := 0, move := 0, mode := 1, cont := [] }, 0, 0⟩ := rfl
      rw [hc]
      exact (Blk.new W 104 _).drew
    · show World.ownsRow _ 0 3 1 (.slice A6 32 c6) sB.store.length (ints sB.store)
      rw [hok.stl]
      exact owns_mono (owns_grow HRA.out.st gr) (Nat.zero_le _)
    · have : x ∈ List.replicate 64 (0 : Int) := hx
      rw [List.eq_of_mem_replicate this]
      exact ⟨by decide, by decide⟩)
  have HSRB : Hid (SrB w.heap.size ⟨.slice A1 sB.org.length c1, .slice A2 sB.cur.length c2, .slice A3 sB.touch.length c3, .slice A4 sB.ends.length c4, .slice none 0 0, .slice A5 sB.cvt.length c5, .slice A6 32 c6⟩ W.heap.size) := Lib.hid (fun k hk => by
    have hx := HXG.out.size
    rcases hk with e | e | e | e | e | e | e | e
    · omega
    · have := (owns_block HRA.out.og e).1; omega
    · have := (owns_block HRA.out.cu e).1; omega
    · have := (owns_block HRA.out.to e).1; omega
    · have := (owns_block HRA.out.en e).1; omega
    · simp [Value.ownBlock] at e
    · have := (owns_block HRA.out.cv e).1; omega
    · have := (owns_block HRA.out.st e).1; omega)
  have hBL2 : Below w.heap.size w (W.alloc (.cells ((((((((Tryz.zeroCells104.setIfInBounds 64 (.slice A1 sB.org.length c1)).setIfInBounds 65 (.slice A2 sB.cur.length c2)).setIfInBounds 66 (.slice A3 sB.touch.length c3)).setIfInBounds 67 (.slice A4 sB.ends.length c4)).setIfInBounds 69 (.slice A5 sB.cvt.length c5)).setIfInBounds 70 (.slice A6 32 c6)).setIfInBounds 71 (.int .i64 (k32 size))).setIfInBounds 74 (.int .i64 1)) 104)).drew := (((Grow.below HXG.out (Nat.le_refl _)).trans (HBL.out.mono (by omega))).alloc (by omega) _).drew
  have HBL2 := Lib.hid hBL2
  have HREAD := Lib.hid ((HZX.out.ends).keep (w' := (W.alloc (.cells ((((((((Tryz.zeroCells104.setIfInBounds 64 (.slice A1 sB.org.length c1)).setIfInBounds 65 (.slice A2 sB.cur.length c2)).setIfInBounds 66 (.slice A3 sB.touch.length c3)).setIfInBounds 67 (.slice A4 sB.ends.length c4)).setIfInBounds 69 (.slice A5 sB.cvt.length c5)).setIfInBounds 70 (.slice A6 32 c6)).setIfInBounds 71 (.int .i64 (k32 size))).setIfInBounds 74 (.int .i64 1)) 104)).drew) fun q hq => (hBL2.cell hq).trans (HXG.out.cell hq (fun x => x)).symm)
  have y3 := ((HBZ.out.below HBL.out HBZ.out.lt).alloc (.cells ((((((((Tryz.zeroCells104.setIfInBounds 64 (.slice A1 sB.org.length c1)).setIfInBounds 65 (.slice A2 sB.cur.length c2)).setIfInBounds 66 (.slice A3 sB.touch.length c3)).setIfInBounds 67 (.slice A4 sB.ends.length c4)).setIfInBounds 69 (.slice A5 sB.cvt.length c5)).setIfInBounds 70 (.slice A6 32 c6)).setIfInBounds 71 (.int .i64 (k32 size))).setIfInBounds 74 (.int .i64 1)) 104)).drew.cell 3
  simp only [List.getElem?_toArray, List.getElem?_cons_zero, List.getElem?_cons_succ] at y3
  have yl : w.heap.size + 1 < (W.alloc (.cells ((((((((Tryz.zeroCells104.setIfInBounds 64 (.slice A1 sB.org.length c1)).setIfInBounds 65 (.slice A2 sB.cur.length c2)).setIfInBounds 66 (.slice A3 sB.touch.length c3)).setIfInBounds 67 (.slice A4 sB.ends.length c4)).setIfInBounds 69 (.slice A5 sB.cvt.length c5)).setIfInBounds 70 (.slice A6 32 c6)).setIfInBounds 71 (.int .i64 (k32 size))).setIfInBounds 74 (.int .i64 1)) 104)).drew.heap.size := by simp; omega
  clear hBL2
  generalize (W.alloc (.cells ((((((((Tryz.zeroCells104.setIfInBounds 64 (.slice A1 sB.org.length c1)).setIfInBounds 65 (.slice A2 sB.cur.length c2)).setIfInBounds 66 (.slice A3 sB.touch.length c3)).setIfInBounds 67 (.slice A4 sB.ends.length c4)).setIfInBounds 69 (.slice A5 sB.cvt.length c5)).setIfInBounds 70 (.slice A6 32 c6)).setIfInBounds 71 (.int .i64 (k32 size))).setIfInBounds 74 (.int .i64 1)) 104)).drew = W2 at *
  generalize W.heap.size = sb at *
  generalize (⟨.slice A1 sB.org.length c1, .slice A2 sB.cur.length c2, .slice A3 sB.touch.length c3, .slice A4 sB.ends.length c4, .slice none 0 0, .slice A5 sB.cvt.length c5, .slice A6 32 c6⟩ : SLay) = L0 at *
  have H0 : Hid (BInv w sb cvt size z eA (.int .i64 (-1)) (.int .i64 0) W2) := Lib.hid ⟨0, -1, L0, [], Nat.zero_le _, rfl, rfl, by omega, by omega, HS.out, HSRB.out, HBL2.out, HREAD.out, by simp, Nat.le_refl _⟩
  have hel := HZK.out.ends
  have hcl := HZK.out.cur
  clear HS HSRB HBL2 HREAD HBL HRA HAP HSB HOK hWz hz2
  go_wp2_with fail
  clear y3 yl
  go_loopw [7, 30] (fun la i wr => BInv w sb cvt size z eA la i wr) (fun _ i _ => z.ends.length - (intOf i).toNat)
  case atStart => exact H0.out
  case round =>
    clear H0
    obtain ⟨j, la, L, cs, hj, rfl, rfl, hla1, hla2, hS, hB, hbl, hrd, hcs, hcl2⟩ := hrel
    have HSL := Lib.hid hS
    have HB := Lib.hid hB
    have HBL := Lib.hid hbl
    have HRD := Lib.hid hrd
    have HCL2 := Lib.hid hcl2
    by_cases hjl : (j : Int) < z.ends.length
    · obtain ⟨e, he⟩ : ∃ e, z.ends[j]? = some e := ⟨_, List.getElem?_eq_getElem (by omega)⟩
      obtain ⟨eb, eo, heA, heb, hec⟩ := hrd.at_ (by omega)
      subst heA
      have x6 := hec _ _ (ints_get he)
      have hebl : eb < wr.heap.size := by have := hbl.size; omega
      have hdr : z.ends.drop j = e :: z.ends.drop (j + 1) := by rw [List.drop_eq_getElem_cons (by omega)]; congr 1; have := List.getElem?_eq_getElem (l := z.ends) (i := j) (by omega); rw [this] at he; exact Option.some.inj he
      rw [hdr, Mc.conts] at hcs
      have hcu : (s0 cvt size z cs).m.cur.length = z.cur.length := by simp [s0, Sr.begin_, begin_]
      obtain ⟨Au, cu, hvu, _, _⟩ := owns_form hS.cu
      have c65 := hS.c65
      rw [hvu, hcu] at c65
      have hlb := hS.blk.lt
      by_cases hge : la < e ∧ e < (z.cur.length : Int)
      · obtain ⟨hg1, hg2⟩ := hge
        rw [if_pos ⟨hg1, hg2⟩] at hcs
        obtain ⟨Ac, kc, hco, _, _⟩ := owns_form hS.co
        have c68 := hS.c68
        rw [hco] at c68
        have HMA := Lib.hid (hS.alloc (.cells #[.int .i64 (la + 1), .int .i64 e] 157))
        have HRD2 := Lib.hid (hrd.keep (w' := wr.alloc (.cells #[.int .i64 (la + 1), .int .i64 e] 157)) fun q hq => by have := hbl.size; exact World.cell?_alloc_lt _ _ _ (by omega))
        have HBL2 := Lib.hid (hbl.alloc hbl.size (.cells #[.int .i64 (la + 1), .int .i64 e] 157))
        have HCO := Lib.hid hco
        have HCS := Lib.hid hcs
        have HCU := Lib.hid hcu
        have hOW := HMA.out.co
        rw [hco] at hOW
        have HOW := Lib.hid hOW
        have HRB := Lib.hid (Reads.blk (cs := [.int .i64 (la + 1), .int .i64 e]) (Blk.new wr 157 #[.int .i64 (la + 1), .int .i64 e]) 2 1 rfl)
        have hw1 : IntKind.i64.wrap (la + 1) = la + 1 := by rw [IntWalk.i64_in _ (by omega)]
        obtain ⟨i0, hi0, hi1, hi2, hi3⟩ := info_m info_scont
        have hsl : (s0 cvt size z cs).m.cont.length = cs.length := rfl
        have HSLN := Lib.hid hsl
        rw [hsl] at c68
        clear hS hB hbl hrd hcs he hdr hec hvu hcu hOW hco hsl
        go_wp2_with (at_builtin; refine wpList_append_any _ rfl (.tmp 51) (.tmp 56) _ rfl 0 157 i0 _ 2 16 Tryz.underlying102 hi0 hi1 hi2 hi3 rfl (show 0 < 2 by decide) (.slice Ac cs.length kc) cs.length (cts cs) rfl HOW.out _ _ 1 1 [.int .i64 (la + 1), .int .i64 e] rfl HRB.out (by simp [Value.oneCell']) (by unfold maxLen; omega) (by omega) (Nat.zero_le _) ?_; intro v' w1 ho1 hg1' hnb; obtain ⟨hbk, hm4⟩ := HMA.out.tour (c := ((la + 1).toNat, e.toNat)) (v' := v') (w1 := w1) (by simp only [HCU.out]; omega) (by simp only [HSLN.out]; omega) (by simp only [HSLN.out]; rw [Int.toNat_of_nonneg (by omega), Int.toNat_of_nonneg (by omega)]; exact ho1) (by rw [HCO.out]; exact hg1'); have HM4 := Lib.hid hm4; have HG1 := Lib.hid hg1'; have HNB := Lib.hid hnb; have HBK := Lib.hid hbk; obtain ⟨Av, cv, hvv, _⟩ := owns_form ho1; subst hvv; have f68 := hbk.frozen 68; have b68 : ∃ u, w1.cell? ⟨sb, 68, none⟩ = some u := ⟨_, (hbk.cell 68).trans (stc_at HMA.out.ok.rl 4)⟩; obtain ⟨u68, b68⟩ := b68; have l68 := hbk.lt; clear hm4 hg1' hnb hbk ho1)
        have hb3 : Below w.heap.size w (w1.setCell ⟨sb, 68, none⟩ (.slice Av (cs.length + 1) cv)) := (HBL2.out.grown HG1.out (by have := HBL2.out.size; exact this) (fun b hb => by
          exact HB.out b (.inr (.inr (.inr (.inr (.inr (.inl (by rw [HCO.out]; exact hb))))))))).setCell (p := ⟨sb, 68, none⟩) (HB.out sb (.inl rfl)) _
        have hbw := HBL.out.size
        refine ⟨⟨j + 1, e, _, _, by omega, by simp, rfl, by omega, by omega, HM4.out, fun k hk => ?_, hb3, HRD2.out.keep fun q hq => (hb3.cell hq).trans ((HBL2.out.cell hq).symm), by rw [List.append_assoc]; exact HCS.out, by rw [List.length_append]; exact Nat.succ_le_succ HCL2.out⟩, by simp [intOf]; omega⟩
        rcases hk with hk | hk | hk | hk | hk | hk | hk | hk
        · exact HB.out k (.inl hk)
        · exact HB.out k (.inr (.inl hk))
        · exact HB.out k (.inr (.inr (.inl hk)))
        · exact HB.out k (.inr (.inr (.inr (.inl hk))))
        · exact HB.out k (.inr (.inr (.inr (.inr (.inl hk)))))
        · rcases HNB.out with h | h
          · exact HB.out k (.inr (.inr (.inr (.inr (.inr (.inl (by rw [HCO.out]; exact h ▸ hk)))))))
          · rw [h] at hk
            injection hk with hk
            simp at hk
            omega
        · exact HB.out k (.inr (.inr (.inr (.inr (.inr (.inr (.inl hk)))))))
        · exact HB.out k (.inr (.inr (.inr (.inr (.inr (.inr (.inr hk)))))))
      · rw [if_neg hge] at hcs
        have HCE : Hid (BInv w sb cvt size z (some ⟨eb, eo, none⟩) (.int .i64 la) (.int .i64 ((j : Int) + 1)) wr) := Lib.hid ⟨j + 1, la, L, cs, by omega, by simp, rfl, hla1, hla2, hS, hB, hbl, hrd, hcs, by omega⟩
        clear hS hB hbl hrd hcs he hdr hec hvu hcu
        by_cases hg1 : la < e
        · have hg2 : ¬ e < (z.cur.length : Int) := fun h => hge ⟨hg1, h⟩
          go_wp2_with fail
          refine ⟨HCE.out, by simp [intOf]; omega⟩
        · go_wp2_with fail
          refine ⟨HCE.out, by simp [intOf]; omega⟩
    · have hje : j = z.ends.length := by omega
      subst hje
      have hq : s0 cvt size z cs = Sr.begin_ cvt size z := by
        rw [List.drop_length, Mc.conts, List.append_nil] at hcs
        unfold s0
        rw [hcs]
        rfl
      have HE : Hid (BegPost w cvt size z (.returned (.pointer (some ⟨sb, 0, none⟩))) wr) := Lib.hid ⟨sb, L, rfl, hq ▸ hS, hB, hbl⟩
      clear hS hB hbl hrd hcs hq
      go_wp2
      go_ret
      exact HE.out
end Go.Proofs.YtnhebmgibiomnaaGreat

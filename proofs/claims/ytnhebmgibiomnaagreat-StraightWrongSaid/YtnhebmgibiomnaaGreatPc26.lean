/- Parts of the proof, joined: BuK. -/
import Derived.Test.YtnhebmgibiomnaaGreatPc25
set_option linter.unusedVariables false
set_option linter.unusedSimpArgs false
namespace Go.Proofs.YtnhebmgibiomnaaGreat
open Go.RowKit Mc
def PlI (l : List (Int × Int)) (fs : List Bd.Cost) (ps : List Bu.Plan) (w : World) (i : Value) (W : World) : Prop :=
  ∃ (j : Nat) (vs : Value), j ≤ l.length ∧ i = .int .i64 (j : Int) ∧ PlL w l.length (Bu.planGo fs ps (l.take j) 0 (Bu.start l.length)) vs W
def PlJ (w : World) (n : Nat) (s : Bu.PSt) (vs : Value) (i : Value) (W : World) : Prop :=
  ∃ (k : Nat), k ≤ s.steps.length ∧ i = .int .i64 (k : Int) ∧ PlL w n { s with steps := goes s.index s.steps k } vs W
theorem info_step : (Tryz.prog.info? 145).map (fun i => (i.zero, i.size, i.bytes)) = some (some (.agg #[.int .i64 0, .int .i64 0, .int .i64 0, .int .i64 0]), 4, 32) := by kernel_rfl
set_option maxRecDepth 100000 in
set_option maxHeartbeats 8000000 in
theorem planned_any (l : List (Int × Int)) (fs : List Bd.Cost) (ps : List Bu.Plan) (w : World) (B : Nat) (Al Af Ap : Option Addr) (cl cf cp : Nat) (hB : B ≤ w.heap.size) (hl : Reads w B 2 Al l.length (pts l)) (hf : Reads w B 4 Af fs.length (costCells fs)) (hp : RowAt (planR 0) 89 w B Ap ps) (hfine : Bu.CodeFine fs ps ps.length l) (hps : ps.length ≤ fs.length) (hn : l.length ≤ 100000) (hfn : fs.length ≤ 1000000) (hm : fs.all Bd.mayBe = true) (hs : ∀ p ∈ ps, 0 ≤ p.size ∧ p.size ≤ 20001) :
    Calls Tryz.prog 34 #[.slice Al l.length cl, .slice Af fs.length cf, .slice Ap ps.length cp] w fun e w' => ∃ v, e = .returned (.agg #[v, .int .i64 (Bu.planned l fs ps).size]) ∧ Below w.heap.size w w' ∧ w'.ownsRow w.heap.size 145 4 v (Bu.planned l fs ps).steps.length (psCells (Bu.planned l fs ps).steps) := by
  have HL := Lib.hid hl
  have HF := Lib.hid hf
  have HP := Lib.hid hp
  have HFINE := Lib.hid hfine
  have HM := Lib.hid hm
  have HS := Lib.hid hs
  have hmk : ∀ W : World, (Instr.makeSlice 22 (.int .i64 ((l.length : Int) + 1)) (.int .i64 ((l.length : Int) + 1))).run Tryz.prog W = .ok (.slice (some ⟨W.heap.size, 0, none⟩) (l.length + 1) (l.length + 1)) (W.alloc (.cells (ints (List.replicate (l.length + 1) 0)).toArray 3)) := fun W => by
    have := make_ints (l.length + 1) (by omega) W
    rwa [show ((l.length + 1 : Nat) : Int) = (l.length : Int) + 1 by omega] at this
  have hmb : ∀ W : World, (Instr.makeSlice 142 (.int .i64 ((l.length : Int) + 1)) (.int .i64 ((l.length : Int) + 1))).run Tryz.prog W = .ok (.slice (some ⟨W.heap.size, 0, none⟩) (l.length + 1) (l.length + 1)) (W.alloc (.cells (bools (List.replicate (l.length + 1) false)).toArray 4)) := fun W => by
    have := make_bools (l.length + 1) (by omega) W
    rwa [show ((l.length + 1 : Nat) : Int) = (l.length : Int) + 1 by omega] at this
  have hw1 : IntKind.i64.wrap ((l.length : Int) + 1) = (l.length : Int) + 1 := IntWalk.i64_in _ (by omega)
  obtain ⟨i0, hi0, hi1, hi2, hi3⟩ := info_m info_step
  clear hl hf hp hfine hm hs
  go_enter Tryz.func34, Tryz.ntmps34
  go_wp2_with fail
  go_loopw [34] (fun i W => PlI l fs ps w i W) (fun i _ => l.length - (intOf i).toNat)
  case atStart => exact ⟨0, _, Nat.zero_le _, rfl, PlL.start w l.length (by omega)⟩
  case round =>
    obtain ⟨j, vs, hj, rfl, hW⟩ := hrel
    by_cases hlt : j < l.length
    · obtain ⟨x, hx⟩ : ∃ x, l[j]? = some x := ⟨_, List.getElem?_eq_getElem hlt⟩
      have hs1 := Bu.planGo_take fs ps l hx (Bu.start l.length)
      have hok := Bu.planGo_ok fs ps l ps.length HFINE.out j hj
      generalize Bu.planGo fs ps (l.take j) 0 (Bu.start l.length) = s at *
      obtain ⟨b, off, rfl, hb, hcell⟩ := HL.out.2 (by omega)
      obtain ⟨y0, y1⟩ := pts_get hx
      have d0 := (hW.below.cell (p := ⟨b, off + 2 * j, none⟩) (by show b < w.heap.size; omega)).trans (hcell _ _ y0)
      have d1 := (hW.below.cell (p := ⟨b, off + (2 * j + 1), none⟩) (by show b < w.heap.size; omega)).trans (hcell _ _ y1)
      rw [Nat.mul_comm 2 j] at d0 d1
      rw [← Nat.add_assoc] at d1
      have hji : (j : Int) < l.length := by omega
      have hji1 : (j : Int) < (l.length : Int) + 1 := by omega
      have k0 := hW.known
      obtain ⟨g', c', hg', _, _, hkl, hkc⟩ := owns_at k0 (by omega)
      obtain ⟨rfl, rfl⟩ : w.heap.size + 1 + 1 = g' ∧ l.length + 1 = c' := by simpa using hg'
      have e0 := hkc j _ (bools_get (by rw [hok.known]; omega))
      have hbl : b < wr.heap.size := by have := hW.below.size; omega
      have HW := Lib.hid hW
      have HOK := Lib.hid hok
      have HS1 := Lib.hid hs1
      clear hW hok hs1 hkc hg' hcell y0 y1 k0
      cases hkn : s.known.getD j false
      · rw [hkn] at e0
        go_wp2_with fail
        go_roundw
        case rel =>
          refine ⟨j + 1, vs, by omega, by simp, ?_⟩
          rw [HS1.out, show Bu.plan1 fs ps j x s = s by unfold Bu.plan1; rw [if_pos hkn]]
          exact HW.out.alloc _
        case measure => simp [intOf]; omega
      · rw [hkn] at e0
        obtain ⟨op, a⟩ := x
        simp only at d0 d1
        obtain ⟨Av, cv, hvs, hcv, _⟩ := owns_form HW.out.steps
        subst hvs
        have hst := HOK.out.steps
        have hbx := HW.out.box.lt
        have c0 := HW.out.box.cell 0
        have c1 := HW.out.box.cell 1
        simp only [List.getElem?_toArray, List.getElem?_cons_zero, List.getElem?_cons_succ] at c0 c1
        obtain ⟨_, hil, ci, hbi⟩ := owns_block HW.out.index (g := w.heap.size + 1 + 1 + 1 + 1) rfl
        have fzi := hbi.frozen j
        obtain ⟨g', c', hg', _, _, _, hic⟩ := owns_at HW.out.index (by omega)
        obtain ⟨rfl, rfl⟩ : w.heap.size + 1 + 1 + 1 + 1 = g' ∧ l.length + 1 = c' := by simpa using hg'
        have i0 := hic j _ (List.getElem?_eq_getElem (by rw [nats_len, HOK.out.index]; omega))
        clear hic hg'
        have hxm := List.mem_of_getElem? hx
        have HW4 := Lib.hid ((HW.out.setIndex (i := j) (by rw [HOK.out.index]; omega) s.steps.length).alloc (.cells #[.int .i64 op, .int .i64 a] 96))
        have HSZ := Lib.hid (sizeOf_any op a ps _ B Ap cp (Nat.le_trans hB HW4.out.below.size) (HP.out.below HW4.out.below hB) (by omega) (fun h => HFINE.out.calls _ hxm h) HS.out)
        have hjm := HFINE.out.jumps j _ hx
        have hah := HFINE.out.ahead _ hxm
        simp only at hah
        have hgb := HFINE.out.grows _ hxm
        have hzb := HFINE.out.sizes _ hxm
        have n0 := fun (W : World) (h : Blk W wr.heap.size 96 #[.int .i64 op, .int .i64 a]) => (h.cell 0 : W.cell? ⟨wr.heap.size, 0, none⟩ = _)
        have n1 := fun (W : World) (h : Blk W wr.heap.size 96 #[.int .i64 op, .int .i64 a]) => (h.cell 1 : W.cell? ⟨wr.heap.size, 1, none⟩ = _)
        have HBX4 := Lib.hid (Blk.new_at (wr.setCell ⟨w.heap.size + 1 + 1 + 1 + 1, j, none⟩ (.int .i64 (s.steps.length : Int))) 96 #[.int .i64 op, .int .i64 a] (g := wr.heap.size) (by simp [World.setCell]))
        have HN0 := Lib.hid n0
        have HN1 := Lib.hid n1
        clear n0 n1
        obtain ⟨t, ht⟩ : ∃ t, t = j + 1 + Bu.jump (op, a) := ⟨_, rfl⟩
        have HT := Lib.hid ht
        have htl : t ≤ l.length := by rw [ht]; exact hjm
        have HCA := Lib.hid (HFINE.out.calls _ hxm)
        obtain ⟨G, hG⟩ : ∃ G, G = Bu.growth (op, a) fs := ⟨_, rfl⟩
        rw [← hG] at hgb
        have HGE := Lib.hid hG
        have HGB := Lib.hid hgb
        obtain ⟨Z, hZ⟩ : ∃ Z, Z = Bu.sizeOf (op, a) ps := ⟨_, rfl⟩
        rw [← hZ] at HSZ hzb
        have HZE := Lib.hid hZ
        have HZB := Lib.hid hzb
        clear hjm hgb hzb hx hxm ht hZ hG
        obtain ⟨t1, ht1⟩ : ∃ t1, t1 = j + 1 := ⟨_, rfl⟩
        have hT1 : (j : Int) + 1 = (t1 : Int) := by omega
        have HT1 := Lib.hid ht1
        clear ht1
        by_cases h3536 : op = 35 ∨ op = 36
        · have hz : 0 < Z := by
            rw [HZE.out]
            unfold Bu.sizeOf
            rw [if_neg (by simp only; omega), if_neg (by simp only; omega), if_neg (by simp only; omega)]
            decide
          have hwt : IntKind.i64.wrap ((t1 : Int) + a) = (t : Int) := by
            have h1 := HT.out
            have h2 := HT1.out
            have h3 := hah h3536
            unfold Bu.jump at h1
            rw [if_pos h3536] at h1
            simp only at h1
            exact (IntWalk.i64_in _ (by omega)).trans (by omega)
          obtain ⟨zz, hzz⟩ : ∃ x, x = min (s.size + Z) 20001 := ⟨_, rfl⟩
          have HZZ := Lib.hid hzz
          have hmn1 : (if (20001 : Int) < s.size + Z then (20001 : Int) else s.size + Z) = zz := by rw [hzz]; omega
          have hmn2 : (if s.size + Z < (20001 : Int) then s.size + Z else (20001 : Int)) = zz := by rw [hzz]; omega
          have hwz : IntKind.i64.wrap (s.size + Z) = s.size + Z := IntWalk.i64_in _ (by have := HZB.out; have := HOK.out.size; omega)
          clear hzz
          by_cases h35 : op = 35
          · have q35 : (op == 35) = true := by simp only [beq_iff_eq]; exact h35
            have H35 := Lib.hid h35
            clear h35 h3536 hah
            go_wp2_with (refine HSZ.out.mono ?_; rintro e w5 ⟨rfl, hb5⟩)
            have hx8 : wr.heap.size < ((wr.setCell ⟨w.heap.size + 1 + 1 + 1 + 1, j, none⟩ (.int .i64 (s.steps.length : Int))).alloc (.cells #[.int .i64 op, .int .i64 a] 96)).heap.size := by simp [World.setCell]
            have HP5 := Lib.hid (HW4.out.old hb5)
            have HBX5 : Hid (Blk w5 wr.heap.size 96 #[.int .i64 op, .int .i64 a]) := Lib.hid ((hb5.block _ hx8).trans HBX4.out)
            have i0' := HN0.out _ HBX5.out
            have i1' := HN1.out _ HBX5.out
            have b0' := HP5.out.box.cell 0
            simp only [List.getElem?_toArray, List.getElem?_cons_zero, List.getElem?_cons_succ] at i0' i1' b0'
            obtain ⟨_, hhl, ch, hbh⟩ := owns_block HP5.out.high (g := w.heap.size + 1 + 1 + 1) rfl
            obtain ⟨g', c', hg', _, _, _, hhc⟩ := owns_at HP5.out.high (by omega)
            obtain ⟨rfl, rfl⟩ : w.heap.size + 1 + 1 + 1 = g' ∧ l.length + 1 = c' := by simpa using hg'
            have h0' := hhc j _ (ints_get (l := s.high) (i := j) (v := s.high.getD j 0) (by rw [List.getD_eq_getElem?_getD, List.getElem?_eq_getElem (by rw [HOK.out.high]; omega)]; rfl))
            obtain ⟨hh, hhe⟩ : ∃ x, x = s.high.getD j 0 := ⟨_, rfl⟩
            rw [← hhe] at h0'
            have HHE := Lib.hid hhe
            clear hhe
            have hlt5 : wr.heap.size < w5.heap.size := HBX5.out.lt
            have hbx5 := HP5.out.box.lt
            clear hhc hg' hbh hb5 HBX4 HW4 HSZ e0 d0 d1 c0 c1 i0 fzi hbi hx8 hil hkl
            have HA := Lib.hid (HP5.out.drew.alloc (.cells #[.int .i64 op, .int .i64 a, .int .i64 hh, .int .i64 (t : Int)] 145))
            have HPC : Hid (psCells (s.steps ++ [⟨op, a, hh, t⟩]) = psCells s.steps ++ [.int .i64 op, .int .i64 a, .int .i64 hh, .int .i64 (t : Int)]) := Lib.hid (psCells_app s.steps [⟨op, a, hh, t⟩])
            have HGT := Lib.hid ((World.cell?_alloc_lt w5.drew (.cells #[.int .i64 op, .int .i64 a, .int .i64 hh, .int .i64 (t : Int)] 145) ⟨wr.heap.size, 0, none⟩ hlt5).trans i0')
            have hS2 : (w5.drew.alloc (.cells #[.int .i64 op, .int .i64 a, .int .i64 hh, .int .i64 (t : Int)] 145)).cell? ⟨w.heap.size + 1, 0, none⟩ = some (.slice Av s.steps.length cv) ∧ (w5.drew.alloc (.cells #[.int .i64 op, .int .i64 a, .int .i64 hh, .int .i64 (t : Int)] 145)).cell? ⟨wr.heap.size, 0, none⟩ = some (.int .i64 op) ∧ (w5.drew.alloc (.cells #[.int .i64 op, .int .i64 a, .int .i64 hh, .int .i64 (t : Int)] 145)).cell? ⟨wr.heap.size, 1, none⟩ = some (.int .i64 a) ∧ (w5.drew.alloc (.cells #[.int .i64 op, .int .i64 a, .int .i64 hh, .int .i64 (t : Int)] 145)).cell? ⟨w.heap.size + 1 + 1 + 1, j, none⟩ = some (.int .i64 hh) :=
              ⟨(World.cell?_alloc_lt _ _ _ hbx5).trans b0', (World.cell?_alloc_lt _ _ _ hlt5).trans i0', (World.cell?_alloc_lt _ _ _ hlt5).trans i1', (World.cell?_alloc_lt _ _ _ hhl).trans h0'⟩
            have hS : w5.drew.cell? ⟨w.heap.size + 1, 0, none⟩ = some (.slice Av s.steps.length cv) ∧ w5.drew.cell? ⟨wr.heap.size, 0, none⟩ = some (.int .i64 op) ∧ w5.drew.cell? ⟨wr.heap.size, 1, none⟩ = some (.int .i64 a) ∧ w5.drew.cell? ⟨w.heap.size + 1 + 1 + 1, j, none⟩ = some (.int .i64 hh) := ⟨b0', i0', i1', h0'⟩
            refine wp_region_seqT (fun i => !([9, 10, 12] : List Nat).contains i) (fun i => ([1, 2, 6] : List Nat).contains i) (fun i => ([9] : List Nat).contains i) [0, 1, 2, 3, 4, 5, 6, 7, 8, 9, 10, 11, 12] (fun wq : World => wq.cell? ⟨w.heap.size + 1, 0, none⟩ = some (.slice Av s.steps.length cv) ∧ wq.cell? ⟨wr.heap.size, 0, none⟩ = some (.int .i64 op) ∧ wq.cell? ⟨wr.heap.size, 1, none⟩ = some (.int .i64 a) ∧ wq.cell? ⟨w.heap.size + 1 + 1 + 1, j, none⟩ = some (.int .i64 hh)) (by kernel_rfl) (by kernel_rfl) (by kernel_rfl) (by kernel_rfl) ?_
            iterate 9 (first | refine wpSeq_pureA (v := _) rfl rfl rfl ?_ | refine wpSeq_loadA (v := _) rfl rfl hS rfl ?_)
            refine wpSeq_heavy rfl rfl (fun K hK => ?_); go_simp
            refine hK _ _ (fun _ => hS2) ?_; clear hK K
            refine wpSeq_heavy rfl rfl (fun K hK => ?_)
            refine step_mine _ rfl (.tmp 70) (.tmp 78) _ rfl 145 i0 _ 4 32 Tryz.underlying87 hi0 hi1 hi2 hi3 rfl (by decide) w.heap.size (.slice Av s.steps.length cv) s.steps.length (psCells s.steps) rfl HA.out.steps HA.out.below.size _ _ 1 1 [.int .i64 op, .int .i64 a, .int .i64 hh, .int .i64 (t : Int)] rfl (Reads.blk (cs := [.int .i64 op, .int .i64 a, .int .i64 hh, .int .i64 (t : Int)]) (Blk.new _ _ _) 4 1 rfl) (by simp [Value.oneCell']) (by unfold maxLen; omega) (by omega) ?_
            intro v' w6 hrow hg hnew
            rw [← HPC.out, show s.steps.length + 1 = (s.steps ++ [⟨op, a, hh, t⟩] : List Bu.PS).length by simp] at hrow
            have HP6 := Lib.hid (HA.out.pushed hrow hg)
            have HB6 := HA.out.pushedBox hg
            have HI6 := Lib.hid (HA.out.pushedFar ((Blk.drew HBX5.out).alloc _) (by decide) hg)
            obtain ⟨Av', cv', hve, _⟩ := owns_form hrow
            rw [List.length_append, List.length_singleton] at hve
            have x0 := HB6.cell 0
            have xf := HB6.frozen 0
            have xl := HB6.lt
            simp only [List.getElem?_toArray, List.getElem?_cons_zero] at x0
            have HI7 := Lib.hid (HI6.out.far (p := ⟨w.heap.size + 1, 0, none⟩) (HI6.out.ne_ HB6 (by decide)) v')
            subst hve
            clear HI6 HB6 hrow hg hnew
            refine hK _ _ (fun h => by cases h) ?_; clear hK K
            iterate 1 (first | refine wpSeq_pureA (v := _) rfl rfl rfl ?_ | refine wpSeq_loadA (v := _) rfl rfl hS rfl ?_)
            refine wpSeq_heavy rfl rfl (fun K hK => ?_); go_simp
            refine hK _ _ (fun h => by cases h) ?_; clear hK K
            refine wpSeq_end ?_
            clear hS hS2 HA HPC HP5 HBX5 i0' i1' b0' h0' hbx5 hlt5 hhl x0 xf xl
            generalize w6.setCell ⟨w.heap.size + 1, 0, none⟩ (.slice Av' (s.steps.length + 1) cv') = W at *
            have y1 := HP6.out.box.cell 1
            have yf := HP6.out.box.frozen 1
            have yl := HP6.out.box.lt
            simp only [List.getElem?_toArray, List.getElem?_cons_zero, List.getElem?_cons_succ] at y1
            go_wp2_with fail
            have HP := Lib.hid (HP6.out.setSize zz)
            have HI := Lib.hid (HI7.out.far (p := ⟨w.heap.size + 1, 1, none⟩) (HI7.out.ne_ HP6.out.box (by decide)) (.int .i64 zz))
            clear HP6 HI7 y1 yf yl
            generalize W.setCell ⟨w.heap.size + 1, 1, none⟩ (.int .i64 zz) = U at *
            obtain ⟨S, hSE⟩ : ∃ S : Bu.PSt, S = { s with index := s.index.set j s.steps.length, steps := s.steps ++ [⟨op, a, hh, t⟩], size := zz } := ⟨_, rfl⟩
            replace HP : Hid (PlL w l.length S (.slice Av' (s.steps.length + 1) cv') U) := Lib.hid (by rw [hSE]; exact HP.out)
            have HSH : Hid (S.high = s.high) := Lib.hid (by rw [hSE])
            have HSK : Hid (S.known = s.known) := Lib.hid (by rw [hSE])
            have HSE := Lib.hid hSE
            clear hSE
            obtain ⟨_, hhl, ch, hbh⟩ := owns_block HP.out.high (g := w.heap.size + 1 + 1 + 1) rfl
            obtain ⟨_, hkl2, ck, hbk⟩ := owns_block HP.out.known (g := w.heap.size + 1 + 1) rfl
            obtain ⟨g', c', hg', _, _, _, hhc⟩ := owns_at HP.out.high (by omega)
            obtain ⟨rfl, rfl⟩ : w.heap.size + 1 + 1 + 1 = g' ∧ l.length + 1 = c' := by simpa using hg'
            have h0' := hhc j (.int .i64 hh) (by rw [HSH.out, HHE.out]; exact ints_get (l := s.high) (i := j) (v := s.high.getD j 0) (by rw [List.getD_eq_getElem?_getD, List.getElem?_eq_getElem (by rw [HOK.out.high]; omega)]; rfl))
            have i0' := HN0.out _ HI.out
            have i1' := HN1.out _ HI.out
            simp only [List.getElem?_toArray, List.getElem?_cons_zero, List.getElem?_cons_succ] at i0' i1'
            have hlt5 : wr.heap.size < U.heap.size := HI.out.lt
            have HGR := Lib.hid (growth_any op a fs U.drew B Af cf (Nat.le_trans hB HP.out.below.size) (HF.out.keep fun q hq => HP.out.drew.below.cell (Nat.lt_of_lt_of_le hq hB)) hfn (fun h => by have := HCA.out h; omega) HM.out)
            rw [← HGE.out] at HGR
            clear hhc hg' hbh hbk
            have hS : U.drew.cell? ⟨wr.heap.size, 0, none⟩ = some (.int .i64 op) ∧ U.drew.cell? ⟨wr.heap.size, 1, none⟩ = some (.int .i64 a) ∧ U.drew.cell? ⟨w.heap.size + 1 + 1 + 1, j, none⟩ = some (.int .i64 hh) := ⟨i0', i1', h0'⟩
            refine wp_region_seqT (fun i => !([6] : List Nat).contains i) (fun i => ([3, 4] : List Nat).contains i) (fun i => ([6] : List Nat).contains i) [0, 1, 2, 3, 4, 5, 6, 7, 8] (fun wq : World => wq.cell? ⟨wr.heap.size, 0, none⟩ = some (.int .i64 op) ∧ wq.cell? ⟨wr.heap.size, 1, none⟩ = some (.int .i64 a) ∧ wq.cell? ⟨w.heap.size + 1 + 1 + 1, j, none⟩ = some (.int .i64 hh)) (by kernel_rfl) (by kernel_rfl) (by kernel_rfl) (by kernel_rfl) ?_
            iterate 6 (first | refine wpSeq_pureA (v := _) rfl rfl rfl ?_ | refine wpSeq_loadA (v := _) rfl rfl hS rfl ?_)
            refine wpSeq_heavy rfl rfl (fun K hK => ?_); go_simp
            refine HGR.out.mono ?_
            rintro e w9 ⟨rfl, hb9⟩
            have HP9 := Lib.hid (HP.out.drew.old hb9)
            have HI9 : Hid (Blk w9 wr.heap.size 96 #[.int .i64 op, .int .i64 a]) := Lib.hid ((hb9.block _ hlt5).trans HI.out.drew)
            have hS9 : w9.cell? ⟨wr.heap.size, 0, none⟩ = some (.int .i64 op) ∧ w9.cell? ⟨wr.heap.size, 1, none⟩ = some (.int .i64 a) ∧ w9.cell? ⟨w.heap.size + 1 + 1 + 1, j, none⟩ = some (.int .i64 hh) := ⟨(hb9.cell (p := ⟨wr.heap.size, 0, none⟩) hlt5).trans i0', (hb9.cell (p := ⟨wr.heap.size, 1, none⟩) hlt5).trans i1', (hb9.cell (p := ⟨w.heap.size + 1 + 1 + 1, j, none⟩) hhl).trans h0'⟩
            refine hK _ _ (fun _ => hS9) ?_; clear hK K
            iterate 2 (first | refine wpSeq_pureA (v := _) rfl rfl rfl ?_ | refine wpSeq_loadA (v := _) rfl rfl hS rfl ?_)
            refine wpSeq_end ?_
            clear hS hS9 HP HI HGR i0' i1' h0' hhl hkl2 hlt5 hb9
            have hk := HP9.out.known
            obtain ⟨_, hkl, ck, hbk⟩ := owns_block hk (g := w.heap.size + 1 + 1) rfl
            have fk := hbk.frozen t
            obtain ⟨g', c', hg', _, _, _, hkc⟩ := owns_at hk (by omega)
            obtain ⟨rfl, rfl⟩ : w.heap.size + 1 + 1 = g' ∧ l.length + 1 = c' := by simpa using hg'
            have xk := hkc t _ (bools_get (by rw [HSK.out, HOK.out.known]; omega))
            clear hkc hg'
            have hh2 := HP9.out.high
            obtain ⟨_, hhl, ch, hbh⟩ := owns_block hh2 (g := w.heap.size + 1 + 1 + 1) rfl
            have fh := hbh.frozen t
            obtain ⟨g', c', hg', _, _, _, hhc⟩ := owns_at hh2 (by omega)
            obtain ⟨rfl, rfl⟩ : w.heap.size + 1 + 1 + 1 = g' ∧ l.length + 1 = c' := by simpa using hg'
            have xh := hhc t _ (ints_get (l := S.high) (i := t) (v := S.high.getD t 0) (by rw [List.getD_eq_getElem?_getD, List.getElem?_eq_getElem (by rw [HSH.out, HOK.out.high]; omega)]; rfl))
            obtain ⟨uh, huh⟩ : ∃ u, u = S.high.getD t 0 := ⟨_, rfl⟩
            rw [← huh] at xh
            obtain ⟨uk, huk⟩ : ∃ u, u = S.known.getD t false := ⟨_, rfl⟩
            rw [← huk] at xk
            clear hhc hg' huh huk hk hh2
            have hwg : IntKind.i64.wrap (hh + G) = hh + G := IntWalk.i64_in _ (by have h1 := HGB.out; have h2 := HOK.out.low j; have h3 := HHE.out; omega)
            have htI : (t : Int) < (l.length : Int) + 1 := by omega
            have i09 := HN0.out _ HI9.out
            simp only [List.getElem?_toArray, List.getElem?_cons_zero] at i09
            have HPA := Lib.hid ((HP9.out.setKnown (i := t) (by rw [HSK.out, HOK.out.known]; omega) true).setHigh (i := t) (by rw [HSH.out, HOK.out.high]; omega) (hh + G))
            have HIA := Lib.hid (((HI9.out.far (p := ⟨w.heap.size + 1 + 1, t, none⟩) (HI9.out.ne_ hbk (by decide)) (.bool true))).far (p := ⟨w.heap.size + 1 + 1 + 1, t, none⟩) (by show wr.heap.size ≠ w.heap.size + 1 + 1 + 1; exact HI9.out.ne_ hbh (by decide)) (.int .i64 (hh + G)))
            clear hbk hbh
            go_upto_region 20 with fail
            clear fk xk fh xh i09 HI9 HP9 hkl hhl
            generalize (w9.setCell ⟨w.heap.size + 1 + 1, t, none⟩ (.bool true)).setCell ⟨w.heap.size + 1 + 1 + 1, t, none⟩ (.int .i64 (hh + G)) = X at *
            have i0A := HN0.out _ HIA.out
            simp only [List.getElem?_toArray, List.getElem?_cons_zero] at i0A
            obtain ⟨_, hkl, ck, hbk⟩ := owns_block HPA.out.known (g := w.heap.size + 1 + 1) rfl
            have fk := hbk.frozen t1
            obtain ⟨g', c', hg', _, _, _, hkc⟩ := owns_at HPA.out.known (by omega)
            obtain ⟨rfl, rfl⟩ : w.heap.size + 1 + 1 = g' ∧ l.length + 1 = c' := by simpa using hg'
            have xk := hkc t1 _ (bools_get (by simp only [List.length_set]; rw [HSK.out, HOK.out.known]; have := HT1.out; omega))
            obtain ⟨_, hhl, ch, hbh⟩ := owns_block HPA.out.high (g := w.heap.size + 1 + 1 + 1) rfl
            have fh := hbh.frozen t1
            have hlh : t1 < (S.high.set t (hh + G)).length := by simp only [List.length_set]; rw [HSH.out, HOK.out.high]; have := HT1.out; omega
            obtain ⟨g', c', hg', _, _, _, hhc⟩ := owns_at HPA.out.high (by omega)
            obtain ⟨rfl, rfl⟩ : w.heap.size + 1 + 1 + 1 = g' ∧ l.length + 1 = c' := by simpa using hg'
            have xh := hhc t1 _ (ints_get (List.getElem?_eq_getElem hlh))
            obtain ⟨uh2, huh⟩ : ∃ u, u = (S.high.set t (hh + G))[t1] := ⟨_, rfl⟩
            rw [← huh] at xh
            obtain ⟨uk2, huk⟩ : ∃ u, u = (S.known.set t true).getD t1 false := ⟨_, rfl⟩
            have xk2 : X.cell? ⟨w.heap.size + 1 + 1, t1, none⟩ = some (.bool uk2) := by rw [huk]; exact xk
            have htI2 : (t1 : Int) < (l.length : Int) + 1 := by have := HT1.out; omega
            clear hkc hhc huh huk hbk hbh hlh xk hg'
            go_wp2_with fail
            go_roundw
            case rel =>
              have HF := HPA.out
              rw [HSE.out] at HF
              refine ⟨t1, (.slice Av' (s.steps.length + 1) cv'), by have := HT1.out; omega, rfl, ?_⟩
              rw [show t1 = j + 1 from HT1.out, HS1.out]
              unfold Bu.plan1
              rw [if_neg (by rw [hkn]; simp)]
              dsimp only
              rw [← HT.out, if_pos H35.out, if_pos H35.out, if_pos (by have := HZE.out; omega), if_pos (by have := HZE.out; omega), ← HGE.out, ← HZE.out, ← HHE.out, ← HZZ.out]
              exact HF
            case measure => simp [intOf]; have := HT1.out; omega
          · have q35 : (op == 35) = false := by simp only [beq_eq_false_iff_ne, ne_eq]; omega
            have q36 : (op == 36) = true := by simp only [beq_iff_eq]; omega
            clear h3536 hah
            go_wp2_with (refine HSZ.out.mono ?_; rintro e w5 ⟨rfl, hb5⟩)
            have hx8 : wr.heap.size < ((wr.setCell ⟨w.heap.size + 1 + 1 + 1 + 1, j, none⟩ (.int .i64 (s.steps.length : Int))).alloc (.cells #[.int .i64 op, .int .i64 a] 96)).heap.size := by simp [World.setCell]
            have HP5 := Lib.hid (HW4.out.old hb5)
            have HBX5 : Hid (Blk w5 wr.heap.size 96 #[.int .i64 op, .int .i64 a]) := Lib.hid ((hb5.block _ hx8).trans HBX4.out)
            have i0' := HN0.out _ HBX5.out
            have i1' := HN1.out _ HBX5.out
            have b0' := HP5.out.box.cell 0
            simp only [List.getElem?_toArray, List.getElem?_cons_zero, List.getElem?_cons_succ] at i0' i1' b0'
            obtain ⟨_, hhl, ch, hbh⟩ := owns_block HP5.out.high (g := w.heap.size + 1 + 1 + 1) rfl
            obtain ⟨g', c', hg', _, _, _, hhc⟩ := owns_at HP5.out.high (by omega)
            obtain ⟨rfl, rfl⟩ : w.heap.size + 1 + 1 + 1 = g' ∧ l.length + 1 = c' := by simpa using hg'
            have h0' := hhc j _ (ints_get (l := s.high) (i := j) (v := s.high.getD j 0) (by rw [List.getD_eq_getElem?_getD, List.getElem?_eq_getElem (by rw [HOK.out.high]; omega)]; rfl))
            obtain ⟨hh, hhe⟩ : ∃ x, x = s.high.getD j 0 := ⟨_, rfl⟩
            rw [← hhe] at h0'
            have HHE := Lib.hid hhe
            clear hhe
            have hlt5 : wr.heap.size < w5.heap.size := HBX5.out.lt
            have hbx5 := HP5.out.box.lt
            clear hhc hg' hbh hb5 HBX4 HW4 HSZ e0 d0 d1 c0 c1 i0 fzi hbi hx8 hil hkl
            have HA := Lib.hid (HP5.out.drew.alloc (.cells #[.int .i64 op, .int .i64 a, .int .i64 hh, .int .i64 (t : Int)] 145))
            have HPC : Hid (psCells (s.steps ++ [⟨op, a, hh, t⟩]) = psCells s.steps ++ [.int .i64 op, .int .i64 a, .int .i64 hh, .int .i64 (t : Int)]) := Lib.hid (psCells_app s.steps [⟨op, a, hh, t⟩])
            have HGT := Lib.hid ((World.cell?_alloc_lt w5.drew (.cells #[.int .i64 op, .int .i64 a, .int .i64 hh, .int .i64 (t : Int)] 145) ⟨wr.heap.size, 0, none⟩ hlt5).trans i0')
            have hS2 : (w5.drew.alloc (.cells #[.int .i64 op, .int .i64 a, .int .i64 hh, .int .i64 (t : Int)] 145)).cell? ⟨w.heap.size + 1, 0, none⟩ = some (.slice Av s.steps.length cv) ∧ (w5.drew.alloc (.cells #[.int .i64 op, .int .i64 a, .int .i64 hh, .int .i64 (t : Int)] 145)).cell? ⟨wr.heap.size, 0, none⟩ = some (.int .i64 op) ∧ (w5.drew.alloc (.cells #[.int .i64 op, .int .i64 a, .int .i64 hh, .int .i64 (t : Int)] 145)).cell? ⟨wr.heap.size, 1, none⟩ = some (.int .i64 a) ∧ (w5.drew.alloc (.cells #[.int .i64 op, .int .i64 a, .int .i64 hh, .int .i64 (t : Int)] 145)).cell? ⟨w.heap.size + 1 + 1 + 1, j, none⟩ = some (.int .i64 hh) :=
              ⟨(World.cell?_alloc_lt _ _ _ hbx5).trans b0', (World.cell?_alloc_lt _ _ _ hlt5).trans i0', (World.cell?_alloc_lt _ _ _ hlt5).trans i1', (World.cell?_alloc_lt _ _ _ hhl).trans h0'⟩
            have hS : w5.drew.cell? ⟨w.heap.size + 1, 0, none⟩ = some (.slice Av s.steps.length cv) ∧ w5.drew.cell? ⟨wr.heap.size, 0, none⟩ = some (.int .i64 op) ∧ w5.drew.cell? ⟨wr.heap.size, 1, none⟩ = some (.int .i64 a) ∧ w5.drew.cell? ⟨w.heap.size + 1 + 1 + 1, j, none⟩ = some (.int .i64 hh) := ⟨b0', i0', i1', h0'⟩
            refine wp_region_seqT (fun i => !([9, 10, 12] : List Nat).contains i) (fun i => ([1, 2, 6] : List Nat).contains i) (fun i => ([9] : List Nat).contains i) [0, 1, 2, 3, 4, 5, 6, 7, 8, 9, 10, 11, 12] (fun wq : World => wq.cell? ⟨w.heap.size + 1, 0, none⟩ = some (.slice Av s.steps.length cv) ∧ wq.cell? ⟨wr.heap.size, 0, none⟩ = some (.int .i64 op) ∧ wq.cell? ⟨wr.heap.size, 1, none⟩ = some (.int .i64 a) ∧ wq.cell? ⟨w.heap.size + 1 + 1 + 1, j, none⟩ = some (.int .i64 hh)) (by kernel_rfl) (by kernel_rfl) (by kernel_rfl) (by kernel_rfl) ?_
            iterate 9 (first | refine wpSeq_pureA (v := _) rfl rfl rfl ?_ | refine wpSeq_loadA (v := _) rfl rfl hS rfl ?_)
            refine wpSeq_heavy rfl rfl (fun K hK => ?_); go_simp
            refine hK _ _ (fun _ => hS2) ?_; clear hK K
            refine wpSeq_heavy rfl rfl (fun K hK => ?_)
            refine step_mine _ rfl (.tmp 70) (.tmp 78) _ rfl 145 i0 _ 4 32 Tryz.underlying87 hi0 hi1 hi2 hi3 rfl (by decide) w.heap.size (.slice Av s.steps.length cv) s.steps.length (psCells s.steps) rfl HA.out.steps HA.out.below.size _ _ 1 1 [.int .i64 op, .int .i64 a, .int .i64 hh, .int .i64 (t : Int)] rfl (Reads.blk (cs := [.int .i64 op, .int .i64 a, .int .i64 hh, .int .i64 (t : Int)]) (Blk.new _ _ _) 4 1 rfl) (by simp [Value.oneCell']) (by unfold maxLen; omega) (by omega) ?_
            intro v' w6 hrow hg hnew
            rw [← HPC.out, show s.steps.length + 1 = (s.steps ++ [⟨op, a, hh, t⟩] : List Bu.PS).length by simp] at hrow
            have HP6 := Lib.hid (HA.out.pushed hrow hg)
            have HB6 := HA.out.pushedBox hg
            have HI6 := Lib.hid (HA.out.pushedFar ((Blk.drew HBX5.out).alloc _) (by decide) hg)
            obtain ⟨Av', cv', hve, _⟩ := owns_form hrow
            rw [List.length_append, List.length_singleton] at hve
            have x0 := HB6.cell 0
            have xf := HB6.frozen 0
            have xl := HB6.lt
            simp only [List.getElem?_toArray, List.getElem?_cons_zero] at x0
            have HI7 := Lib.hid (HI6.out.far (p := ⟨w.heap.size + 1, 0, none⟩) (HI6.out.ne_ HB6 (by decide)) v')
            subst hve
            clear HI6 HB6 hrow hg hnew
            refine hK _ _ (fun h => by cases h) ?_; clear hK K
            iterate 1 (first | refine wpSeq_pureA (v := _) rfl rfl rfl ?_ | refine wpSeq_loadA (v := _) rfl rfl hS rfl ?_)
            refine wpSeq_heavy rfl rfl (fun K hK => ?_); go_simp
            refine hK _ _ (fun h => by cases h) ?_; clear hK K
            refine wpSeq_end ?_
            clear hS hS2 HA HPC HP5 HBX5 i0' i1' b0' h0' hbx5 hlt5 hhl x0 xf xl
            generalize w6.setCell ⟨w.heap.size + 1, 0, none⟩ (.slice Av' (s.steps.length + 1) cv') = W at *
            have y1 := HP6.out.box.cell 1
            have yf := HP6.out.box.frozen 1
            have yl := HP6.out.box.lt
            simp only [List.getElem?_toArray, List.getElem?_cons_zero, List.getElem?_cons_succ] at y1
            go_wp2_with fail
            have HP := Lib.hid (HP6.out.setSize zz)
            have HI := Lib.hid (HI7.out.far (p := ⟨w.heap.size + 1, 1, none⟩) (HI7.out.ne_ HP6.out.box (by decide)) (.int .i64 zz))
            clear HP6 HI7 y1 yf yl
            generalize W.setCell ⟨w.heap.size + 1, 1, none⟩ (.int .i64 zz) = U at *
            obtain ⟨S, hSE⟩ : ∃ S : Bu.PSt, S = { s with index := s.index.set j s.steps.length, steps := s.steps ++ [⟨op, a, hh, t⟩], size := zz } := ⟨_, rfl⟩
            replace HP : Hid (PlL w l.length S (.slice Av' (s.steps.length + 1) cv') U) := Lib.hid (by rw [hSE]; exact HP.out)
            have HSH : Hid (S.high = s.high) := Lib.hid (by rw [hSE])
            have HSK : Hid (S.known = s.known) := Lib.hid (by rw [hSE])
            have HSE := Lib.hid hSE
            clear hSE
            obtain ⟨_, hhl, ch, hbh⟩ := owns_block HP.out.high (g := w.heap.size + 1 + 1 + 1) rfl
            obtain ⟨_, hkl2, ck, hbk⟩ := owns_block HP.out.known (g := w.heap.size + 1 + 1) rfl
            obtain ⟨g', c', hg', _, _, _, hhc⟩ := owns_at HP.out.high (by omega)
            obtain ⟨rfl, rfl⟩ : w.heap.size + 1 + 1 + 1 = g' ∧ l.length + 1 = c' := by simpa using hg'
            have h0' := hhc j (.int .i64 hh) (by rw [HSH.out, HHE.out]; exact ints_get (l := s.high) (i := j) (v := s.high.getD j 0) (by rw [List.getD_eq_getElem?_getD, List.getElem?_eq_getElem (by rw [HOK.out.high]; omega)]; rfl))
            have i0' := HN0.out _ HI.out
            have i1' := HN1.out _ HI.out
            simp only [List.getElem?_toArray, List.getElem?_cons_zero, List.getElem?_cons_succ] at i0' i1'
            have hlt5 : wr.heap.size < U.heap.size := HI.out.lt
            have HGR := Lib.hid (growth_any op a fs U.drew B Af cf (Nat.le_trans hB HP.out.below.size) (HF.out.keep fun q hq => HP.out.drew.below.cell (Nat.lt_of_lt_of_le hq hB)) hfn (fun h => by have := HCA.out h; omega) HM.out)
            rw [← HGE.out] at HGR
            clear hhc hg' hbh hbk
            have hS : U.drew.cell? ⟨wr.heap.size, 0, none⟩ = some (.int .i64 op) ∧ U.drew.cell? ⟨wr.heap.size, 1, none⟩ = some (.int .i64 a) ∧ U.drew.cell? ⟨w.heap.size + 1 + 1 + 1, j, none⟩ = some (.int .i64 hh) := ⟨i0', i1', h0'⟩
            refine wp_region_seqT (fun i => !([6] : List Nat).contains i) (fun i => ([3, 4] : List Nat).contains i) (fun i => ([6] : List Nat).contains i) [0, 1, 2, 3, 4, 5, 6, 7, 8] (fun wq : World => wq.cell? ⟨wr.heap.size, 0, none⟩ = some (.int .i64 op) ∧ wq.cell? ⟨wr.heap.size, 1, none⟩ = some (.int .i64 a) ∧ wq.cell? ⟨w.heap.size + 1 + 1 + 1, j, none⟩ = some (.int .i64 hh)) (by kernel_rfl) (by kernel_rfl) (by kernel_rfl) (by kernel_rfl) ?_
            iterate 6 (first | refine wpSeq_pureA (v := _) rfl rfl rfl ?_ | refine wpSeq_loadA (v := _) rfl rfl hS rfl ?_)
            refine wpSeq_heavy rfl rfl (fun K hK => ?_); go_simp
            refine HGR.out.mono ?_
            rintro e w9 ⟨rfl, hb9⟩
            have HP9 := Lib.hid (HP.out.drew.old hb9)
            have HI9 : Hid (Blk w9 wr.heap.size 96 #[.int .i64 op, .int .i64 a]) := Lib.hid ((hb9.block _ hlt5).trans HI.out.drew)
            have hS9 : w9.cell? ⟨wr.heap.size, 0, none⟩ = some (.int .i64 op) ∧ w9.cell? ⟨wr.heap.size, 1, none⟩ = some (.int .i64 a) ∧ w9.cell? ⟨w.heap.size + 1 + 1 + 1, j, none⟩ = some (.int .i64 hh) := ⟨(hb9.cell (p := ⟨wr.heap.size, 0, none⟩) hlt5).trans i0', (hb9.cell (p := ⟨wr.heap.size, 1, none⟩) hlt5).trans i1', (hb9.cell (p := ⟨w.heap.size + 1 + 1 + 1, j, none⟩) hhl).trans h0'⟩
            refine hK _ _ (fun _ => hS9) ?_; clear hK K
            iterate 2 (first | refine wpSeq_pureA (v := _) rfl rfl rfl ?_ | refine wpSeq_loadA (v := _) rfl rfl hS rfl ?_)
            refine wpSeq_end ?_
            clear hS hS9 HP HI HGR i0' i1' h0' hhl hkl2 hlt5 hb9
            have hk := HP9.out.known
            obtain ⟨_, hkl, ck, hbk⟩ := owns_block hk (g := w.heap.size + 1 + 1) rfl
            have fk := hbk.frozen t
            obtain ⟨g', c', hg', _, _, _, hkc⟩ := owns_at hk (by omega)
            obtain ⟨rfl, rfl⟩ : w.heap.size + 1 + 1 = g' ∧ l.length + 1 = c' := by simpa using hg'
            have xk := hkc t _ (bools_get (by rw [HSK.out, HOK.out.known]; omega))
            clear hkc hg'
            have hh2 := HP9.out.high
            obtain ⟨_, hhl, ch, hbh⟩ := owns_block hh2 (g := w.heap.size + 1 + 1 + 1) rfl
            have fh := hbh.frozen t
            obtain ⟨g', c', hg', _, _, _, hhc⟩ := owns_at hh2 (by omega)
            obtain ⟨rfl, rfl⟩ : w.heap.size + 1 + 1 + 1 = g' ∧ l.length + 1 = c' := by simpa using hg'
            have xh := hhc t _ (ints_get (l := S.high) (i := t) (v := S.high.getD t 0) (by rw [List.getD_eq_getElem?_getD, List.getElem?_eq_getElem (by rw [HSH.out, HOK.out.high]; omega)]; rfl))
            obtain ⟨uh, huh⟩ : ∃ u, u = S.high.getD t 0 := ⟨_, rfl⟩
            rw [← huh] at xh
            obtain ⟨uk, huk⟩ : ∃ u, u = S.known.getD t false := ⟨_, rfl⟩
            rw [← huk] at xk
            clear hhc hg' huh huk hk hh2
            have hwg : IntKind.i64.wrap (hh + G) = hh + G := IntWalk.i64_in _ (by have h1 := HGB.out; have h2 := HOK.out.low j; have h3 := HHE.out; omega)
            have htI : (t : Int) < (l.length : Int) + 1 := by omega
            have i09 := HN0.out _ HI9.out
            simp only [List.getElem?_toArray, List.getElem?_cons_zero] at i09
            have HPA := Lib.hid ((HP9.out.setKnown (i := t) (by rw [HSK.out, HOK.out.known]; omega) true).setHigh (i := t) (by rw [HSH.out, HOK.out.high]; omega) (hh + G))
            have HIA := Lib.hid (((HI9.out.far (p := ⟨w.heap.size + 1 + 1, t, none⟩) (HI9.out.ne_ hbk (by decide)) (.bool true))).far (p := ⟨w.heap.size + 1 + 1 + 1, t, none⟩) (by show wr.heap.size ≠ w.heap.size + 1 + 1 + 1; exact HI9.out.ne_ hbh (by decide)) (.int .i64 (hh + G)))
            clear hbk hbh
            go_upto_region 20 with fail
            clear fk xk fh xh i09 HI9 HP9 hkl hhl
            generalize (w9.setCell ⟨w.heap.size + 1 + 1, t, none⟩ (.bool true)).setCell ⟨w.heap.size + 1 + 1 + 1, t, none⟩ (.int .i64 (hh + G)) = X at *
            have i0A := HN0.out _ HIA.out
            simp only [List.getElem?_toArray, List.getElem?_cons_zero] at i0A
            obtain ⟨_, hkl, ck, hbk⟩ := owns_block HPA.out.known (g := w.heap.size + 1 + 1) rfl
            have fk := hbk.frozen t1
            obtain ⟨g', c', hg', _, _, _, hkc⟩ := owns_at HPA.out.known (by omega)
            obtain ⟨rfl, rfl⟩ : w.heap.size + 1 + 1 = g' ∧ l.length + 1 = c' := by simpa using hg'
            have xk := hkc t1 _ (bools_get (by simp only [List.length_set]; rw [HSK.out, HOK.out.known]; have := HT1.out; omega))
            obtain ⟨_, hhl, ch, hbh⟩ := owns_block HPA.out.high (g := w.heap.size + 1 + 1 + 1) rfl
            have fh := hbh.frozen t1
            have hlh : t1 < (S.high.set t (hh + G)).length := by simp only [List.length_set]; rw [HSH.out, HOK.out.high]; have := HT1.out; omega
            obtain ⟨g', c', hg', _, _, _, hhc⟩ := owns_at HPA.out.high (by omega)
            obtain ⟨rfl, rfl⟩ : w.heap.size + 1 + 1 + 1 = g' ∧ l.length + 1 = c' := by simpa using hg'
            have xh := hhc t1 _ (ints_get (List.getElem?_eq_getElem hlh))
            obtain ⟨uh2, huh⟩ : ∃ u, u = (S.high.set t (hh + G))[t1] := ⟨_, rfl⟩
            rw [← huh] at xh
            obtain ⟨uk2, huk⟩ : ∃ u, u = (S.known.set t true).getD t1 false := ⟨_, rfl⟩
            have xk2 : X.cell? ⟨w.heap.size + 1 + 1, t1, none⟩ = some (.bool uk2) := by rw [huk]; exact xk
            have htI2 : (t1 : Int) < (l.length : Int) + 1 := by have := HT1.out; omega
            clear hkc hhc huh huk hbk hbh hlh xk hg'
            go_wp2_with fail
            have HPB := Lib.hid ((HPA.out.setKnown (i := t1) (by simp only [List.length_set]; rw [HSK.out, HOK.out.known]; have := HT1.out; omega) true).setHigh (i := t1) (by simp only [List.length_set]; rw [HSH.out, HOK.out.high]; have := HT1.out; omega) (hh + G))
            go_roundw
            case rel =>
              have HF := HPB.out
              rw [HSE.out] at HF
              refine ⟨t1, (.slice Av' (s.steps.length + 1) cv'), by have := HT1.out; omega, rfl, ?_⟩
              rw [show t1 = j + 1 from HT1.out, HS1.out]
              unfold Bu.plan1
              rw [if_neg (by rw [hkn]; simp)]
              dsimp only
              rw [← HT.out, ← HT1.out, if_neg h35, if_neg h35, if_pos (by have := HZE.out; omega), if_pos (by have := HZE.out; omega), ← HGE.out, ← HZE.out, ← HHE.out, ← HZZ.out]
              exact HF
            case measure => simp [intOf]; have := HT1.out; omega
        · have htt : t = t1 := by
            have h1 := HT.out
            have h2 := HT1.out
            unfold Bu.jump at h1
            rw [if_neg h3536] at h1
            omega
          have h35 : ¬ op = 35 := fun e => h3536 (.inl e)
          subst htt
          have q35 : (op == 35) = false := by simp only [beq_eq_false_iff_ne, ne_eq]; omega
          have q36 : (op == 36) = false := by simp only [beq_eq_false_iff_ne, ne_eq]; omega
          by_cases hz : 0 < Z
          · obtain ⟨zz, hzz⟩ : ∃ x, x = min (s.size + Z) 20001 := ⟨_, rfl⟩
            have HZZ := Lib.hid hzz
            have hmn1 : (if (20001 : Int) < s.size + Z then (20001 : Int) else s.size + Z) = zz := by rw [hzz]; omega
            have hmn2 : (if s.size + Z < (20001 : Int) then s.size + Z else (20001 : Int)) = zz := by rw [hzz]; omega
            have hwz : IntKind.i64.wrap (s.size + Z) = s.size + Z := IntWalk.i64_in _ (by have := HZB.out; have := HOK.out.size; omega)
            clear hzz
            go_wp2_with (refine HSZ.out.mono ?_; rintro e w5 ⟨rfl, hb5⟩)
            have hx8 : wr.heap.size < ((wr.setCell ⟨w.heap.size + 1 + 1 + 1 + 1, j, none⟩ (.int .i64 (s.steps.length : Int))).alloc (.cells #[.int .i64 op, .int .i64 a] 96)).heap.size := by simp [World.setCell]
            have HP5 := Lib.hid (HW4.out.old hb5)
            have HBX5 : Hid (Blk w5 wr.heap.size 96 #[.int .i64 op, .int .i64 a]) := Lib.hid ((hb5.block _ hx8).trans HBX4.out)
            have i0' := HN0.out _ HBX5.out
            have i1' := HN1.out _ HBX5.out
            have b0' := HP5.out.box.cell 0
            simp only [List.getElem?_toArray, List.getElem?_cons_zero, List.getElem?_cons_succ] at i0' i1' b0'
            obtain ⟨_, hhl, ch, hbh⟩ := owns_block HP5.out.high (g := w.heap.size + 1 + 1 + 1) rfl
            obtain ⟨g', c', hg', _, _, _, hhc⟩ := owns_at HP5.out.high (by omega)
            obtain ⟨rfl, rfl⟩ : w.heap.size + 1 + 1 + 1 = g' ∧ l.length + 1 = c' := by simpa using hg'
            have h0' := hhc j _ (ints_get (l := s.high) (i := j) (v := s.high.getD j 0) (by rw [List.getD_eq_getElem?_getD, List.getElem?_eq_getElem (by rw [HOK.out.high]; omega)]; rfl))
            obtain ⟨hh, hhe⟩ : ∃ x, x = s.high.getD j 0 := ⟨_, rfl⟩
            rw [← hhe] at h0'
            have HHE := Lib.hid hhe
            clear hhe
            have hlt5 : wr.heap.size < w5.heap.size := HBX5.out.lt
            have hbx5 := HP5.out.box.lt
            clear hhc hg' hbh hb5 HBX4 HW4 HSZ e0 d0 d1 c0 c1 i0 fzi hbi hx8 hil hkl
            have HA := Lib.hid (HP5.out.drew.alloc (.cells #[.int .i64 op, .int .i64 a, .int .i64 hh, .int .i64 (t : Int)] 145))
            have HPC : Hid (psCells (s.steps ++ [⟨op, a, hh, t⟩]) = psCells s.steps ++ [.int .i64 op, .int .i64 a, .int .i64 hh, .int .i64 (t : Int)]) := Lib.hid (psCells_app s.steps [⟨op, a, hh, t⟩])
            have HGT := Lib.hid ((World.cell?_alloc_lt w5.drew (.cells #[.int .i64 op, .int .i64 a, .int .i64 hh, .int .i64 (t : Int)] 145) ⟨wr.heap.size, 0, none⟩ hlt5).trans i0')
            have hS2 : (w5.drew.alloc (.cells #[.int .i64 op, .int .i64 a, .int .i64 hh, .int .i64 (t : Int)] 145)).cell? ⟨w.heap.size + 1, 0, none⟩ = some (.slice Av s.steps.length cv) ∧ (w5.drew.alloc (.cells #[.int .i64 op, .int .i64 a, .int .i64 hh, .int .i64 (t : Int)] 145)).cell? ⟨wr.heap.size, 0, none⟩ = some (.int .i64 op) ∧ (w5.drew.alloc (.cells #[.int .i64 op, .int .i64 a, .int .i64 hh, .int .i64 (t : Int)] 145)).cell? ⟨wr.heap.size, 1, none⟩ = some (.int .i64 a) ∧ (w5.drew.alloc (.cells #[.int .i64 op, .int .i64 a, .int .i64 hh, .int .i64 (t : Int)] 145)).cell? ⟨w.heap.size + 1 + 1 + 1, j, none⟩ = some (.int .i64 hh) :=
              ⟨(World.cell?_alloc_lt _ _ _ hbx5).trans b0', (World.cell?_alloc_lt _ _ _ hlt5).trans i0', (World.cell?_alloc_lt _ _ _ hlt5).trans i1', (World.cell?_alloc_lt _ _ _ hhl).trans h0'⟩
            have hS : w5.drew.cell? ⟨w.heap.size + 1, 0, none⟩ = some (.slice Av s.steps.length cv) ∧ w5.drew.cell? ⟨wr.heap.size, 0, none⟩ = some (.int .i64 op) ∧ w5.drew.cell? ⟨wr.heap.size, 1, none⟩ = some (.int .i64 a) ∧ w5.drew.cell? ⟨w.heap.size + 1 + 1 + 1, j, none⟩ = some (.int .i64 hh) := ⟨b0', i0', i1', h0'⟩
            refine wp_region_seqT (fun i => !([9, 10, 12] : List Nat).contains i) (fun i => ([1, 2, 6] : List Nat).contains i) (fun i => ([9] : List Nat).contains i) [0, 1, 2, 3, 4, 5, 6, 7, 8, 9, 10, 11, 12] (fun wq : World => wq.cell? ⟨w.heap.size + 1, 0, none⟩ = some (.slice Av s.steps.length cv) ∧ wq.cell? ⟨wr.heap.size, 0, none⟩ = some (.int .i64 op) ∧ wq.cell? ⟨wr.heap.size, 1, none⟩ = some (.int .i64 a) ∧ wq.cell? ⟨w.heap.size + 1 + 1 + 1, j, none⟩ = some (.int .i64 hh)) (by kernel_rfl) (by kernel_rfl) (by kernel_rfl) (by kernel_rfl) ?_
            iterate 9 (first | refine wpSeq_pureA (v := _) rfl rfl rfl ?_ | refine wpSeq_loadA (v := _) rfl rfl hS rfl ?_)
            refine wpSeq_heavy rfl rfl (fun K hK => ?_); go_simp
            refine hK _ _ (fun _ => hS2) ?_; clear hK K
            refine wpSeq_heavy rfl rfl (fun K hK => ?_)
            refine step_mine _ rfl (.tmp 70) (.tmp 78) _ rfl 145 i0 _ 4 32 Tryz.underlying87 hi0 hi1 hi2 hi3 rfl (by decide) w.heap.size (.slice Av s.steps.length cv) s.steps.length (psCells s.steps) rfl HA.out.steps HA.out.below.size _ _ 1 1 [.int .i64 op, .int .i64 a, .int .i64 hh, .int .i64 (t : Int)] rfl (Reads.blk (cs := [.int .i64 op, .int .i64 a, .int .i64 hh, .int .i64 (t : Int)]) (Blk.new _ _ _) 4 1 rfl) (by simp [Value.oneCell']) (by unfold maxLen; omega) (by omega) ?_
            intro v' w6 hrow hg hnew
            rw [← HPC.out, show s.steps.length + 1 = (s.steps ++ [⟨op, a, hh, t⟩] : List Bu.PS).length by simp] at hrow
            have HP6 := Lib.hid (HA.out.pushed hrow hg)
            have HB6 := HA.out.pushedBox hg
            have HI6 := Lib.hid (HA.out.pushedFar ((Blk.drew HBX5.out).alloc _) (by decide) hg)
            obtain ⟨Av', cv', hve, _⟩ := owns_form hrow
            rw [List.length_append, List.length_singleton] at hve
            have x0 := HB6.cell 0
            have xf := HB6.frozen 0
            have xl := HB6.lt
            simp only [List.getElem?_toArray, List.getElem?_cons_zero] at x0
            have HI7 := Lib.hid (HI6.out.far (p := ⟨w.heap.size + 1, 0, none⟩) (HI6.out.ne_ HB6 (by decide)) v')
            subst hve
            clear HI6 HB6 hrow hg hnew
            refine hK _ _ (fun h => by cases h) ?_; clear hK K
            iterate 1 (first | refine wpSeq_pureA (v := _) rfl rfl rfl ?_ | refine wpSeq_loadA (v := _) rfl rfl hS rfl ?_)
            refine wpSeq_heavy rfl rfl (fun K hK => ?_); go_simp
            refine hK _ _ (fun h => by cases h) ?_; clear hK K
            refine wpSeq_end ?_
            clear hS hS2 HA HPC HP5 HBX5 i0' i1' b0' h0' hbx5 hlt5 hhl x0 xf xl
            generalize w6.setCell ⟨w.heap.size + 1, 0, none⟩ (.slice Av' (s.steps.length + 1) cv') = W at *
            have y1 := HP6.out.box.cell 1
            have yf := HP6.out.box.frozen 1
            have yl := HP6.out.box.lt
            simp only [List.getElem?_toArray, List.getElem?_cons_zero, List.getElem?_cons_succ] at y1
            go_wp2_with fail
            have HP := Lib.hid (HP6.out.setSize zz)
            have HI := Lib.hid (HI7.out.far (p := ⟨w.heap.size + 1, 1, none⟩) (HI7.out.ne_ HP6.out.box (by decide)) (.int .i64 zz))
            clear HP6 HI7 y1 yf yl
            generalize W.setCell ⟨w.heap.size + 1, 1, none⟩ (.int .i64 zz) = U at *
            obtain ⟨S, hSE⟩ : ∃ S : Bu.PSt, S = { s with index := s.index.set j s.steps.length, steps := s.steps ++ [⟨op, a, hh, t⟩], size := zz } := ⟨_, rfl⟩
            replace HP : Hid (PlL w l.length S (.slice Av' (s.steps.length + 1) cv') U) := Lib.hid (by rw [hSE]; exact HP.out)
            have HSH : Hid (S.high = s.high) := Lib.hid (by rw [hSE])
            have HSK : Hid (S.known = s.known) := Lib.hid (by rw [hSE])
            have HSE := Lib.hid hSE
            clear hSE
            obtain ⟨_, hhl, ch, hbh⟩ := owns_block HP.out.high (g := w.heap.size + 1 + 1 + 1) rfl
            obtain ⟨_, hkl2, ck, hbk⟩ := owns_block HP.out.known (g := w.heap.size + 1 + 1) rfl
            obtain ⟨g', c', hg', _, _, _, hhc⟩ := owns_at HP.out.high (by omega)
            obtain ⟨rfl, rfl⟩ : w.heap.size + 1 + 1 + 1 = g' ∧ l.length + 1 = c' := by simpa using hg'
            have h0' := hhc j (.int .i64 hh) (by rw [HSH.out, HHE.out]; exact ints_get (l := s.high) (i := j) (v := s.high.getD j 0) (by rw [List.getD_eq_getElem?_getD, List.getElem?_eq_getElem (by rw [HOK.out.high]; omega)]; rfl))
            have i0' := HN0.out _ HI.out
            have i1' := HN1.out _ HI.out
            simp only [List.getElem?_toArray, List.getElem?_cons_zero, List.getElem?_cons_succ] at i0' i1'
            have hlt5 : wr.heap.size < U.heap.size := HI.out.lt
            have HGR := Lib.hid (growth_any op a fs U.drew B Af cf (Nat.le_trans hB HP.out.below.size) (HF.out.keep fun q hq => HP.out.drew.below.cell (Nat.lt_of_lt_of_le hq hB)) hfn (fun h => by have := HCA.out h; omega) HM.out)
            rw [← HGE.out] at HGR
            clear hhc hg' hbh hbk
            have hS : U.drew.cell? ⟨wr.heap.size, 0, none⟩ = some (.int .i64 op) ∧ U.drew.cell? ⟨wr.heap.size, 1, none⟩ = some (.int .i64 a) ∧ U.drew.cell? ⟨w.heap.size + 1 + 1 + 1, j, none⟩ = some (.int .i64 hh) := ⟨i0', i1', h0'⟩
            refine wp_region_seqT (fun i => !([6] : List Nat).contains i) (fun i => ([3, 4] : List Nat).contains i) (fun i => ([6] : List Nat).contains i) [0, 1, 2, 3, 4, 5, 6, 7, 8] (fun wq : World => wq.cell? ⟨wr.heap.size, 0, none⟩ = some (.int .i64 op) ∧ wq.cell? ⟨wr.heap.size, 1, none⟩ = some (.int .i64 a) ∧ wq.cell? ⟨w.heap.size + 1 + 1 + 1, j, none⟩ = some (.int .i64 hh)) (by kernel_rfl) (by kernel_rfl) (by kernel_rfl) (by kernel_rfl) ?_
            iterate 6 (first | refine wpSeq_pureA (v := _) rfl rfl rfl ?_ | refine wpSeq_loadA (v := _) rfl rfl hS rfl ?_)
            refine wpSeq_heavy rfl rfl (fun K hK => ?_); go_simp
            refine HGR.out.mono ?_
            rintro e w9 ⟨rfl, hb9⟩
            have HP9 := Lib.hid (HP.out.drew.old hb9)
            have HI9 : Hid (Blk w9 wr.heap.size 96 #[.int .i64 op, .int .i64 a]) := Lib.hid ((hb9.block _ hlt5).trans HI.out.drew)
            have hS9 : w9.cell? ⟨wr.heap.size, 0, none⟩ = some (.int .i64 op) ∧ w9.cell? ⟨wr.heap.size, 1, none⟩ = some (.int .i64 a) ∧ w9.cell? ⟨w.heap.size + 1 + 1 + 1, j, none⟩ = some (.int .i64 hh) := ⟨(hb9.cell (p := ⟨wr.heap.size, 0, none⟩) hlt5).trans i0', (hb9.cell (p := ⟨wr.heap.size, 1, none⟩) hlt5).trans i1', (hb9.cell (p := ⟨w.heap.size + 1 + 1 + 1, j, none⟩) hhl).trans h0'⟩
            refine hK _ _ (fun _ => hS9) ?_; clear hK K
            iterate 2 (first | refine wpSeq_pureA (v := _) rfl rfl rfl ?_ | refine wpSeq_loadA (v := _) rfl rfl hS rfl ?_)
            refine wpSeq_end ?_
            clear hS hS9 HP HI HGR i0' i1' h0' hhl hkl2 hlt5 hb9
            have hk := HP9.out.known
            obtain ⟨_, hkl, ck, hbk⟩ := owns_block hk (g := w.heap.size + 1 + 1) rfl
            have fk := hbk.frozen t
            obtain ⟨g', c', hg', _, _, _, hkc⟩ := owns_at hk (by omega)
            obtain ⟨rfl, rfl⟩ : w.heap.size + 1 + 1 = g' ∧ l.length + 1 = c' := by simpa using hg'
            have xk := hkc t _ (bools_get (by rw [HSK.out, HOK.out.known]; omega))
            clear hkc hg'
            have hh2 := HP9.out.high
            obtain ⟨_, hhl, ch, hbh⟩ := owns_block hh2 (g := w.heap.size + 1 + 1 + 1) rfl
            have fh := hbh.frozen t
            obtain ⟨g', c', hg', _, _, _, hhc⟩ := owns_at hh2 (by omega)
            obtain ⟨rfl, rfl⟩ : w.heap.size + 1 + 1 + 1 = g' ∧ l.length + 1 = c' := by simpa using hg'
            have xh := hhc t _ (ints_get (l := S.high) (i := t) (v := S.high.getD t 0) (by rw [List.getD_eq_getElem?_getD, List.getElem?_eq_getElem (by rw [HSH.out, HOK.out.high]; omega)]; rfl))
            obtain ⟨uh, huh⟩ : ∃ u, u = S.high.getD t 0 := ⟨_, rfl⟩
            rw [← huh] at xh
            obtain ⟨uk, huk⟩ : ∃ u, u = S.known.getD t false := ⟨_, rfl⟩
            rw [← huk] at xk
            clear hhc hg' huh huk hk hh2
            have hwg : IntKind.i64.wrap (hh + G) = hh + G := IntWalk.i64_in _ (by have h1 := HGB.out; have h2 := HOK.out.low j; have h3 := HHE.out; omega)
            have htI : (t : Int) < (l.length : Int) + 1 := by omega
            have i09 := HN0.out _ HI9.out
            simp only [List.getElem?_toArray, List.getElem?_cons_zero] at i09
            have HPA := Lib.hid ((HP9.out.setKnown (i := t) (by rw [HSK.out, HOK.out.known]; omega) true).setHigh (i := t) (by rw [HSH.out, HOK.out.high]; omega) (hh + G))
            have HIA := Lib.hid (((HI9.out.far (p := ⟨w.heap.size + 1 + 1, t, none⟩) (HI9.out.ne_ hbk (by decide)) (.bool true))).far (p := ⟨w.heap.size + 1 + 1 + 1, t, none⟩) (by show wr.heap.size ≠ w.heap.size + 1 + 1 + 1; exact HI9.out.ne_ hbh (by decide)) (.int .i64 (hh + G)))
            clear hbk hbh
            go_upto_region 20 with fail
            clear fk xk fh xh i09 HI9 HP9 hkl hhl
            generalize (w9.setCell ⟨w.heap.size + 1 + 1, t, none⟩ (.bool true)).setCell ⟨w.heap.size + 1 + 1 + 1, t, none⟩ (.int .i64 (hh + G)) = X at *
            have i0A := HN0.out _ HIA.out
            simp only [List.getElem?_toArray, List.getElem?_cons_zero] at i0A
            obtain ⟨_, hkl, ck, hbk⟩ := owns_block HPA.out.known (g := w.heap.size + 1 + 1) rfl
            have fk := hbk.frozen t
            obtain ⟨g', c', hg', _, _, _, hkc⟩ := owns_at HPA.out.known (by omega)
            obtain ⟨rfl, rfl⟩ : w.heap.size + 1 + 1 = g' ∧ l.length + 1 = c' := by simpa using hg'
            have xk := hkc t _ (bools_get (by simp only [List.length_set]; rw [HSK.out, HOK.out.known]; have := HT1.out; omega))
            obtain ⟨_, hhl, ch, hbh⟩ := owns_block HPA.out.high (g := w.heap.size + 1 + 1 + 1) rfl
            have fh := hbh.frozen t
            have hlh : t < (S.high.set t (hh + G)).length := by simp only [List.length_set]; rw [HSH.out, HOK.out.high]; have := HT1.out; omega
            obtain ⟨g', c', hg', _, _, _, hhc⟩ := owns_at HPA.out.high (by omega)
            obtain ⟨rfl, rfl⟩ : w.heap.size + 1 + 1 + 1 = g' ∧ l.length + 1 = c' := by simpa using hg'
            have xh := hhc t _ (ints_get (List.getElem?_eq_getElem hlh))
            obtain ⟨uh2, huh⟩ : ∃ u, u = (S.high.set t (hh + G))[t] := ⟨_, rfl⟩
            rw [← huh] at xh
            obtain ⟨uk2, huk⟩ : ∃ u, u = (S.known.set t true).getD t false := ⟨_, rfl⟩
            have xk2 : X.cell? ⟨w.heap.size + 1 + 1, t, none⟩ = some (.bool uk2) := by rw [huk]; exact xk
            have htI2 : (t : Int) < (l.length : Int) + 1 := by have := HT1.out; omega
            clear hkc hhc huh huk hbk hbh hlh xk hg'
            go_wp2_with fail
            have HPB := Lib.hid ((HPA.out.setKnown (i := t) (by simp only [List.length_set]; rw [HSK.out, HOK.out.known]; have := HT1.out; omega) true).setHigh (i := t) (by simp only [List.length_set]; rw [HSH.out, HOK.out.high]; have := HT1.out; omega) (hh + G))
            go_roundw
            case rel =>
              have HF := HPB.out
              rw [HSE.out] at HF
              refine ⟨t, (.slice Av' (s.steps.length + 1) cv'), by have := HT1.out; omega, rfl, ?_⟩
              rw [show t = j + 1 from HT1.out, HS1.out]
              unfold Bu.plan1
              rw [if_neg (by rw [hkn]; simp)]
              dsimp only
              rw [← HT.out, ← HT1.out, if_neg h35, if_neg h35, if_pos (by have := HZE.out; omega), if_pos (by have := HZE.out; omega), ← HGE.out, ← HZE.out, ← HHE.out, ← HZZ.out]
              exact HF
            case measure => simp [intOf]; have := HT1.out; omega
          · have hz' : Z ≤ 0 := by omega
            go_wp2_with (refine HSZ.out.mono ?_; rintro e w5 ⟨rfl, hb5⟩)
            have hx8 : wr.heap.size < ((wr.setCell ⟨w.heap.size + 1 + 1 + 1 + 1, j, none⟩ (.int .i64 (s.steps.length : Int))).alloc (.cells #[.int .i64 op, .int .i64 a] 96)).heap.size := by simp [World.setCell]
            have HP5 := Lib.hid (HW4.out.old hb5)
            have HI : Hid (Blk w5 wr.heap.size 96 #[.int .i64 op, .int .i64 a]) := Lib.hid ((hb5.block _ hx8).trans HBX4.out)
            clear hb5 HBX4 HW4 HSZ e0 d0 d1 c0 c1 i0 fzi hbi hx8 hil hkl
            generalize w5 = U at *
            obtain ⟨S, hSE⟩ : ∃ S : Bu.PSt, S = { s with index := s.index.set j s.steps.length } := ⟨_, rfl⟩
            have HP : Hid (PlL w l.length S (.slice Av s.steps.length cv) U) := Lib.hid (by rw [hSE]; exact HP5.out)
            obtain ⟨hh, hhe⟩ : ∃ x, x = s.high.getD j 0 := ⟨_, rfl⟩
            have HHE := Lib.hid hhe
            have HSH : Hid (S.high = s.high) := Lib.hid (by rw [hSE])
            have HSK : Hid (S.known = s.known) := Lib.hid (by rw [hSE])
            have HSE := Lib.hid hSE
            clear hSE HP5 hhe
            obtain ⟨_, hhl, ch, hbh⟩ := owns_block HP.out.high (g := w.heap.size + 1 + 1 + 1) rfl
            obtain ⟨_, hkl2, ck, hbk⟩ := owns_block HP.out.known (g := w.heap.size + 1 + 1) rfl
            obtain ⟨g', c', hg', _, _, _, hhc⟩ := owns_at HP.out.high (by omega)
            obtain ⟨rfl, rfl⟩ : w.heap.size + 1 + 1 + 1 = g' ∧ l.length + 1 = c' := by simpa using hg'
            have h0' := hhc j (.int .i64 hh) (by rw [HSH.out, HHE.out]; exact ints_get (l := s.high) (i := j) (v := s.high.getD j 0) (by rw [List.getD_eq_getElem?_getD, List.getElem?_eq_getElem (by rw [HOK.out.high]; omega)]; rfl))
            have i0' := HN0.out _ HI.out
            have i1' := HN1.out _ HI.out
            simp only [List.getElem?_toArray, List.getElem?_cons_zero, List.getElem?_cons_succ] at i0' i1'
            have hlt5 : wr.heap.size < U.heap.size := HI.out.lt
            have HGR := Lib.hid (growth_any op a fs U.drew B Af cf (Nat.le_trans hB HP.out.below.size) (HF.out.keep fun q hq => HP.out.drew.below.cell (Nat.lt_of_lt_of_le hq hB)) hfn (fun h => by have := HCA.out h; omega) HM.out)
            rw [← HGE.out] at HGR
            clear hhc hg' hbh hbk
            have hS : U.drew.cell? ⟨wr.heap.size, 0, none⟩ = some (.int .i64 op) ∧ U.drew.cell? ⟨wr.heap.size, 1, none⟩ = some (.int .i64 a) ∧ U.drew.cell? ⟨w.heap.size + 1 + 1 + 1, j, none⟩ = some (.int .i64 hh) := ⟨i0', i1', h0'⟩
            refine wp_region_seqT (fun i => !([6] : List Nat).contains i) (fun i => ([3, 4] : List Nat).contains i) (fun i => ([6] : List Nat).contains i) [0, 1, 2, 3, 4, 5, 6, 7, 8] (fun wq : World => wq.cell? ⟨wr.heap.size, 0, none⟩ = some (.int .i64 op) ∧ wq.cell? ⟨wr.heap.size, 1, none⟩ = some (.int .i64 a) ∧ wq.cell? ⟨w.heap.size + 1 + 1 + 1, j, none⟩ = some (.int .i64 hh)) (by kernel_rfl) (by kernel_rfl) (by kernel_rfl) (by kernel_rfl) ?_
            iterate 6 (first | refine wpSeq_pureA (v := _) rfl rfl rfl ?_ | refine wpSeq_loadA (v := _) rfl rfl hS rfl ?_)
            refine wpSeq_heavy rfl rfl (fun K hK => ?_); go_simp
            refine HGR.out.mono ?_
            rintro e w9 ⟨rfl, hb9⟩
            have HP9 := Lib.hid (HP.out.drew.old hb9)
            have HI9 : Hid (Blk w9 wr.heap.size 96 #[.int .i64 op, .int .i64 a]) := Lib.hid ((hb9.block _ hlt5).trans HI.out.drew)
            have hS9 : w9.cell? ⟨wr.heap.size, 0, none⟩ = some (.int .i64 op) ∧ w9.cell? ⟨wr.heap.size, 1, none⟩ = some (.int .i64 a) ∧ w9.cell? ⟨w.heap.size + 1 + 1 + 1, j, none⟩ = some (.int .i64 hh) := ⟨(hb9.cell (p := ⟨wr.heap.size, 0, none⟩) hlt5).trans i0', (hb9.cell (p := ⟨wr.heap.size, 1, none⟩) hlt5).trans i1', (hb9.cell (p := ⟨w.heap.size + 1 + 1 + 1, j, none⟩) hhl).trans h0'⟩
            refine hK _ _ (fun _ => hS9) ?_; clear hK K
            iterate 2 (first | refine wpSeq_pureA (v := _) rfl rfl rfl ?_ | refine wpSeq_loadA (v := _) rfl rfl hS rfl ?_)
            refine wpSeq_end ?_
            clear hS hS9 HP HI HGR i0' i1' h0' hhl hkl2 hlt5 hb9
            have hk := HP9.out.known
            obtain ⟨_, hkl, ck, hbk⟩ := owns_block hk (g := w.heap.size + 1 + 1) rfl
            have fk := hbk.frozen t
            obtain ⟨g', c', hg', _, _, _, hkc⟩ := owns_at hk (by omega)
            obtain ⟨rfl, rfl⟩ : w.heap.size + 1 + 1 = g' ∧ l.length + 1 = c' := by simpa using hg'
            have xk := hkc t _ (bools_get (by rw [HSK.out, HOK.out.known]; omega))
            clear hkc hg'
            have hh2 := HP9.out.high
            obtain ⟨_, hhl, ch, hbh⟩ := owns_block hh2 (g := w.heap.size + 1 + 1 + 1) rfl
            have fh := hbh.frozen t
            obtain ⟨g', c', hg', _, _, _, hhc⟩ := owns_at hh2 (by omega)
            obtain ⟨rfl, rfl⟩ : w.heap.size + 1 + 1 + 1 = g' ∧ l.length + 1 = c' := by simpa using hg'
            have xh := hhc t _ (ints_get (l := S.high) (i := t) (v := S.high.getD t 0) (by rw [List.getD_eq_getElem?_getD, List.getElem?_eq_getElem (by rw [HSH.out, HOK.out.high]; omega)]; rfl))
            obtain ⟨uh, huh⟩ : ∃ u, u = S.high.getD t 0 := ⟨_, rfl⟩
            rw [← huh] at xh
            obtain ⟨uk, huk⟩ : ∃ u, u = S.known.getD t false := ⟨_, rfl⟩
            rw [← huk] at xk
            clear hhc hg' huh huk hk hh2
            have hwg : IntKind.i64.wrap (hh + G) = hh + G := IntWalk.i64_in _ (by have h1 := HGB.out; have h2 := HOK.out.low j; have h3 := HHE.out; omega)
            have htI : (t : Int) < (l.length : Int) + 1 := by omega
            have i09 := HN0.out _ HI9.out
            simp only [List.getElem?_toArray, List.getElem?_cons_zero] at i09
            have HPA := Lib.hid ((HP9.out.setKnown (i := t) (by rw [HSK.out, HOK.out.known]; omega) true).setHigh (i := t) (by rw [HSH.out, HOK.out.high]; omega) (hh + G))
            have HIA := Lib.hid (((HI9.out.far (p := ⟨w.heap.size + 1 + 1, t, none⟩) (HI9.out.ne_ hbk (by decide)) (.bool true))).far (p := ⟨w.heap.size + 1 + 1 + 1, t, none⟩) (by show wr.heap.size ≠ w.heap.size + 1 + 1 + 1; exact HI9.out.ne_ hbh (by decide)) (.int .i64 (hh + G)))
            clear hbk hbh
            go_upto_region 20 with fail
            clear fk xk fh xh i09 HI9 HP9 hkl hhl
            generalize (w9.setCell ⟨w.heap.size + 1 + 1, t, none⟩ (.bool true)).setCell ⟨w.heap.size + 1 + 1 + 1, t, none⟩ (.int .i64 (hh + G)) = X at *
            have i0A := HN0.out _ HIA.out
            simp only [List.getElem?_toArray, List.getElem?_cons_zero] at i0A
            obtain ⟨_, hkl, ck, hbk⟩ := owns_block HPA.out.known (g := w.heap.size + 1 + 1) rfl
            have fk := hbk.frozen t
            obtain ⟨g', c', hg', _, _, _, hkc⟩ := owns_at HPA.out.known (by omega)
            obtain ⟨rfl, rfl⟩ : w.heap.size + 1 + 1 = g' ∧ l.length + 1 = c' := by simpa using hg'
            have xk := hkc t _ (bools_get (by simp only [List.length_set]; rw [HSK.out, HOK.out.known]; have := HT1.out; omega))
            obtain ⟨_, hhl, ch, hbh⟩ := owns_block HPA.out.high (g := w.heap.size + 1 + 1 + 1) rfl
            have fh := hbh.frozen t
            have hlh : t < (S.high.set t (hh + G)).length := by simp only [List.length_set]; rw [HSH.out, HOK.out.high]; have := HT1.out; omega
            obtain ⟨g', c', hg', _, _, _, hhc⟩ := owns_at HPA.out.high (by omega)
            obtain ⟨rfl, rfl⟩ : w.heap.size + 1 + 1 + 1 = g' ∧ l.length + 1 = c' := by simpa using hg'
            have xh := hhc t _ (ints_get (List.getElem?_eq_getElem hlh))
            obtain ⟨uh2, huh⟩ : ∃ u, u = (S.high.set t (hh + G))[t] := ⟨_, rfl⟩
            rw [← huh] at xh
            obtain ⟨uk2, huk⟩ : ∃ u, u = (S.known.set t true).getD t false := ⟨_, rfl⟩
            have xk2 : X.cell? ⟨w.heap.size + 1 + 1, t, none⟩ = some (.bool uk2) := by rw [huk]; exact xk
            have htI2 : (t : Int) < (l.length : Int) + 1 := by have := HT1.out; omega
            clear hkc hhc huh huk hbk hbh hlh xk hg'
            go_wp2_with fail
            have HPB := Lib.hid ((HPA.out.setKnown (i := t) (by simp only [List.length_set]; rw [HSK.out, HOK.out.known]; have := HT1.out; omega) true).setHigh (i := t) (by simp only [List.length_set]; rw [HSH.out, HOK.out.high]; have := HT1.out; omega) (hh + G))
            go_roundw
            case rel =>
              have HF := HPB.out
              rw [HSE.out] at HF
              refine ⟨t, (.slice Av s.steps.length cv), by have := HT1.out; omega, rfl, ?_⟩
              rw [show t = j + 1 from HT1.out, HS1.out]
              unfold Bu.plan1
              rw [if_neg (by rw [hkn]; simp)]
              dsimp only
              rw [← HT.out, ← HT1.out, if_neg h35, if_neg h35, if_neg (by have := HZE.out; omega), if_neg (by have := HZE.out; omega), ← HGE.out, ← HHE.out]
              exact HF
            case measure => simp [intOf]; have := HT1.out; omega
    · obtain rfl : j = l.length := by omega
      have hok := Bu.planGo_ok fs ps l ps.length HFINE.out l.length (Nat.le_refl _)
      have hpl : Bu.planned l fs ps = ⟨(Bu.planGo fs ps l 0 (Bu.start l.length)).steps.map fun p => { p with go := ((Bu.planGo fs ps l 0 (Bu.start l.length)).index.set l.length (Bu.planGo fs ps l 0 (Bu.start l.length)).steps.length).getD p.go 0 }, (Bu.planGo fs ps l 0 (Bu.start l.length)).size⟩ := rfl
      rw [List.take_length] at hW hok
      generalize Bu.planGo fs ps l 0 (Bu.start l.length) = s at *
      obtain ⟨Av, cv, hvs, hcv, _⟩ := owns_form hW.steps
      subst hvs
      have c0 := hW.box.cell 0
      simp only [List.getElem?_toArray, List.getElem?_cons_zero, List.getElem?_cons_succ] at c0
      obtain ⟨_, hil, ci, hbi⟩ := owns_block hW.index (g := w.heap.size + 1 + 1 + 1 + 1) rfl
      have fzi := hbi.frozen l.length
      obtain ⟨g', c', hg', _, _, _, hic⟩ := owns_at hW.index (by omega)
      obtain ⟨rfl, rfl⟩ : w.heap.size + 1 + 1 + 1 + 1 = g' ∧ l.length + 1 = c' := by simpa using hg'
      have hli : l.length < (nats s.index).length := by rw [nats_len, hok.index]; omega
      have x0 := hic l.length _ (List.getElem?_eq_getElem hli)
      obtain ⟨ux, hux⟩ : ∃ u, u = (nats s.index)[l.length] := ⟨_, rfl⟩
      rw [← hux] at x0
      have hbx := hW.box.lt
      have hlI : (l.length : Int) < (l.length : Int) + 1 := by omega
      have HWI := Lib.hid (hW.setIndex (i := l.length) (by rw [hok.index]; omega) s.steps.length)
      obtain ⟨S, hS0⟩ : ∃ S : Bu.PSt, S = { s with index := s.index.set l.length s.steps.length } := ⟨_, rfl⟩
      have hSn : S.steps.length = s.steps.length := by rw [hS0]
      have hSi : S.index.length = l.length + 1 := by rw [hS0]; simp only [List.length_set]; exact hok.index
      have hSg : ∀ p ∈ S.steps, p.go ≤ l.length := by rw [hS0]; exact hok.gos
      have HSN := Lib.hid hSn
      have HSI := Lib.hid hSi
      have HSG := Lib.hid hSg
      have hstl := hok.steps
      have HPO : Hid (s.steps.map (fun p : Bu.PS => { p with go := (s.index.set l.length s.steps.length).getD p.go 0 }) = goes S.index S.steps S.steps.length) := Lib.hid (by rw [goes_all, hS0])
      have HSZ : Hid (s.size = S.size) := Lib.hid (by rw [hS0])
      replace HWI : Hid (PlL w l.length { S with steps := goes S.index S.steps 0 } (.slice Av s.steps.length cv) (wr.setCell ⟨w.heap.size + 1 + 1 + 1 + 1, l.length, none⟩ (.int .i64 (s.steps.length : Int)))) := Lib.hid (by rw [goes_zero, hS0]; exact HWI.out)
      have HPL := Lib.hid hpl
      clear hW hok hux hic hg' hbi hli hS0 hSn hSi hSg hpl
      go_wp2_with fail
      generalize wr.setCell ⟨w.heap.size + 1 + 1 + 1 + 1, l.length, none⟩ (.int .i64 (s.steps.length : Int)) = Y at *
      go_loopw [125] (fun i W => PlJ w l.length S (.slice Av s.steps.length cv) i W) (fun i _ => s.steps.length - (intOf i).toNat)
      case atStart => exact ⟨0, Nat.zero_le _, rfl, HWI.out⟩
      case round =>
        clear HWI
        obtain ⟨k, hk, rfl, hW⟩ := hrel
        rw [HSN.out] at hk
        by_cases hlt2 : k < s.steps.length
        · obtain ⟨p, hp⟩ : ∃ p, S.steps[k]? = some p := ⟨_, List.getElem?_eq_getElem (by rw [HSN.out]; omega)⟩
          have hpg := HSG.out p (List.mem_of_getElem? hp)
          have hp2 := (goes_at S.index S.steps k).trans hp
          have hgs := goes_succ S.index S.steps k hp
          obtain ⟨g, cap, he, _, hgl, _, hsc⟩ := owns_at hW.steps (by simp only; rw [goes_len, HSN.out]; omega)
          simp only at he
          rw [goes_len, HSN.out] at he
          simp only [Value.slice.injEq, true_and] at he
          obtain ⟨rfl, rfl⟩ := he
          have x1 := hsc _ _ (psCells_go _ k p hp2)
          obtain ⟨_, _, gcs, hgb⟩ := owns_block hW.steps (g := g) rfl
          have fg := hgb.frozen (k * 4 + 3)
          obtain ⟨g', c', hg', _, _, _, hic⟩ := owns_at hW.index (by omega)
          obtain ⟨rfl, rfl⟩ : w.heap.size + 1 + 1 + 1 + 1 = g' ∧ l.length + 1 = c' := by simpa using hg'
          have hgi : p.go < S.index.length := by rw [HSI.out]; omega
          have x2 := hic p.go (.int .i64 ((S.index.getD p.go 0 : Nat) : Int)) (by
            unfold nats
            refine ints_get ?_
            rw [List.getElem?_map, List.getD_eq_getElem?_getD, List.getElem?_eq_getElem hgi]
            rfl)
          have c0 := hW.box.cell 0
          simp only [List.getElem?_toArray, List.getElem?_cons_zero, List.getElem?_cons_succ] at c0
          have HR := Lib.hid (hW.setGo (g := g) rfl hp2 (S.index.getD p.go 0))
          simp only at HR
          rw [hgs] at HR
          obtain ⟨q, hq⟩ : ∃ q, q = S.index.getD p.go 0 := ⟨_, rfl⟩
          rw [← hq] at x2 HR
          obtain ⟨d, hd⟩ : ∃ d, d = p.go := ⟨_, rfl⟩
          rw [← hd] at x1 x2 hpg
          have hkI : (k : Int) < s.steps.length := by omega
          have hdI : (d : Int) < (l.length : Int) + 1 := by omega
          clear hW hp hp2 hgs hsc hic hg' hgb hq hd hgi
          go_wp2_with fail
          have hS : wr.drew.cell? ⟨w.heap.size + 1, 0, none⟩ = some (.slice (some ⟨g, 0, none⟩) s.steps.length cv) ∧ wr.drew.cell? ⟨g, k * 4 + 3, none⟩ = some (.int .i64 (d : Int)) ∧ wr.drew.cell? ⟨w.heap.size + 1 + 1 + 1 + 1, d, none⟩ = some (.int .i64 (q : Int)) := ⟨c0, x1, x2⟩
          refine wp_region_seqT (fun i => !([14] : List Nat).contains i) (fun i => ([1, 5, 9, 11] : List Nat).contains i) (fun i => ([] : List Nat).contains i) [0, 1, 2, 3, 4, 5, 6, 7, 8, 9, 10, 11, 12, 13, 14] (fun wq : World => wq.cell? ⟨w.heap.size + 1, 0, none⟩ = some (.slice (some ⟨g, 0, none⟩) s.steps.length cv) ∧ wq.cell? ⟨g, k * 4 + 3, none⟩ = some (.int .i64 (d : Int)) ∧ wq.cell? ⟨w.heap.size + 1 + 1 + 1 + 1, d, none⟩ = some (.int .i64 (q : Int))) (by kernel_rfl) (by kernel_rfl) (by kernel_rfl) (by kernel_rfl) ?_
          iterate 14 (first | refine wpSeq_pureA (v := _) rfl rfl rfl ?_ | refine wpSeq_loadA (v := _) rfl rfl hS rfl ?_)
          refine wpSeq_heavy rfl rfl (fun K hK => ?_); go_simp
          refine hK _ _ (fun h => by cases h) ?_; clear hK K
          refine wpSeq_end ?_
          clear hS
          go_wp2_with fail
          go_roundw
          case rel => exact ⟨k + 1, by rw [HSN.out]; omega, by simp, HR.out.drew⟩
          case measure => simp [intOf]; omega
        · obtain rfl : k = s.steps.length := by omega
          have c0 := hW.box.cell 0
          have c1 := hW.box.cell 1
          have o0 := hW.out.cell 0
          have o1 := hW.out.cell 1
          simp only [List.getElem?_toArray, List.getElem?_cons_zero, List.getElem?_cons_succ] at c0 c1 o0 o1
          have f0 := hW.out.frozen 0
          have f1 := hW.out.frozen 1
          have hol := hW.out.lt
          have hbl := hW.box.lt
          have HQ := Lib.hid hW
          clear hW
          go_wp2_with fail
          have hpl2 : Bu.planned l fs ps = ⟨goes S.index S.steps s.steps.length, S.size⟩ := by rw [HPL.out, HPO.out, HSN.out, HSZ.out]
          have hb : Blk ((wr.setCell ⟨w.heap.size, 0, none⟩ (.slice Av s.steps.length cv)).setCell ⟨w.heap.size, 1, none⟩ (.int .i64 S.size)) w.heap.size 89 #[.slice Av s.steps.length cv, .int .i64 S.size] := (HQ.out.out.set_ 0 (.slice Av s.steps.length cv)).set_ 1 (.int .i64 S.size)
          have r0 := hb.cell 0
          have r1 := hb.cell 1
          simp only [List.getElem?_toArray, List.getElem?_cons_zero, List.getElem?_cons_succ] at r0 r1
          have ho := owns_set (owns_set HQ.out.steps HQ.out.out (by decide) 0 (.slice Av s.steps.length cv)) (HQ.out.out.set_ 0 (.slice Av s.steps.length cv)) (by decide) 1 (.int .i64 S.size)
          have hbw := (HQ.out.below.setCell (p := ⟨w.heap.size, 0, none⟩) (Nat.le_refl _) (.slice Av s.steps.length cv)).setCell (p := ⟨w.heap.size, 1, none⟩) (Nat.le_refl _) (.int .i64 S.size)
          simp only at ho
          rw [goes_len, HSN.out] at ho
          generalize (wr.setCell ⟨w.heap.size, 0, none⟩ (.slice Av s.steps.length cv)).setCell ⟨w.heap.size, 1, none⟩ (.int .i64 S.size) = Z at *
          clear c0 c1 o0 o1 f0 f1 HQ hb
          rw [hpl2]
          refine bodyPost_ret (v := .agg #[.slice Av s.steps.length cv, .int .i64 S.size]) (by simp [results, Tryz.results34, go_sem, r0, r1]) rfl ⟨.slice Av s.steps.length cv, rfl, hbw, ?_⟩
          simp only
          rw [goes_len, HSN.out]
          exact ho
end Go.Proofs.YtnhebmgibiomnaaGreat

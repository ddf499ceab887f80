/- Parts of the proof, joined: MaS SrK. -/
import Derived.Test.YtnhebmgibiomnaaGreatPc9
set_option linter.unusedVariables false
set_option linter.unusedSimpArgs false
namespace Go.Proofs.YtnhebmgibiomnaaGreat
open Go.RowKit Mc
theorem w64_add (a b : Int) : w64 (a + w64 b) = w64 (a + b) := by unfold w64; omega
def betw (o wa wb ia ib : Int) : Int := if o ≤ wa then o + ia - wa else if wb ≤ o then o + ib - wb else ia + divd (w64 (w64 (2 * (o - wa) * (ib - ia)) + (wb - wa))) (2 * (wb - wa))
theorem betw_a {o wa wb ia ib : Int} (h : o ≤ wa) : betw o wa wb ia ib = o + ia - wa := by unfold betw; rw [if_pos h]
theorem betw_b {o wa wb ia ib : Int} (h : ¬ o ≤ wa) (h' : wb ≤ o) : betw o wa wb ia ib = o + ib - wb := by unfold betw; rw [if_neg h, if_pos h']
theorem betw_c {o wa wb ia ib : Int} (h : ¬ o ≤ wa) (h' : ¬ wb ≤ o) : betw o wa wb ia ib = ia + divd (w64 (w64 (2 * (o - wa) * (ib - ia)) + (wb - wa))) (2 * (wb - wa)) := by unfold betw; rw [if_neg h, if_neg h']
theorem between_sw {org cur : List (Int × Int)} {axis : Int} {p a b : Nat} {xp xa xb ya yb : Int × Int} (hp : org[p]? = some xp) (ha : org[a]? = some xa) (hb : org[b]? = some xb) (ha' : cur[a]? = some ya) (hb' : cur[b]? = some yb) :
    between org cur axis p a b = if coord axis xb < coord axis xa then betw (coord axis xp) (coord axis xb) (coord axis xa) (coord axis yb) (coord axis ya) else betw (coord axis xp) (coord axis xa) (coord axis xb) (coord axis ya) (coord axis yb) := by
  unfold between betw
  simp only [getD_of hp, getD_of ha, getD_of hb]
  by_cases h : coord axis xb < coord axis xa
  · simp only [h, if_true, getD_of ha, getD_of hb, getD_of ha', getD_of hb']
  · simp only [h, if_false, getD_of ha, getD_of hb, getD_of ha', getD_of hb']
theorem coord_k {_s : St} {l : List (Int × Int)} {i : Nat} {x : Int × Int} (h : ∀ p ∈ l, K32 p.1 ∧ K32 p.2) (hx : l[i]? = some x) (axis : Int) : -2147483648 ≤ coord axis x ∧ coord axis x ≤ 2147483647 := by
  have := h x (List.mem_of_getElem? hx)
  unfold coord
  split
  · exact this.2
  · exact this.1
theorem Mc.moved_eq {org cur : List (Int × Int)} {axis : Int} {p a b : Nat} {y : Int × Int} (hy : cur[p]? = some y) : moved org axis cur p a b = cur.set p (to_ axis y (w64 (between org cur axis p a b))) := by
  unfold moved
  rw [getD_of hy]
end Go.Proofs.YtnhebmgibiomnaaGreat
namespace Go.Proofs.YtnhebmgibiomnaaGreat
open Go.RowKit Mc
set_option maxHeartbeats 1000000 in
theorem swas_any (w : World) (sb : Nat) (L : SLay) (s : Sr.St) (h : SrL w sb L s) (b1 b2 : Nat) (axis : Int) (hax : 0 ≤ axis ∧ axis ≤ 1) (k1 : w.cell? ⟨b1, 0, none⟩ = some (.pointer (some ⟨sb, 0, none⟩))) (k2 : w.cell? ⟨b2, 0, none⟩ = some (.int .i64 axis)) (p : Nat) (x : Int × Int) (hx : s.m.org[p]? = some x) :
    Calls Tryz.prog 258 #[.int .i64 p, .pointer (some ⟨b1, 0, none⟩), .pointer (some ⟨b2, 0, none⟩)] w fun e w' => e = .returned (.int .i64 (coord axis x)) ∧ w.drew = w' := by
  have hp := (List.getElem?_eq_some_iff.1 hx).1
  have hcl : s.m.org.length ≤ 1000000 := by have := h.ok.m.curl; have := h.ok.m.orgl; omega
  obtain ⟨g, c, hv, hc1, _, hgl, hcells⟩ := owns_at h.og (by omega)
  have d0 := hcells _ _ (pts_coord hx axis)
  have cc := h.c64
  rw [hv] at cc
  clear h hx hv hcells
  generalize hd : (if axis = 1 then 1 else 0 : Nat) = d at d0
  have HD := Lib.hid hd
  clear hd
  go_enter Tryz.func258, Tryz.ntmps258
  go_wp2_with fail
  have hS : w.drew.cell? ⟨b1, 0, none⟩ = some (.pointer (some ⟨sb, 0, none⟩)) ∧ w.drew.cell? ⟨sb, 64, none⟩ = some (.slice (some ⟨g, 0, none⟩) s.m.org.length c) ∧ w.drew.cell? ⟨b2, 0, none⟩ = some (.int .i64 axis) ∧ w.drew.cell? ⟨g, p * 2 + d, none⟩ = some (.int .i64 (coord axis x)) := ⟨k1, cc, k2, d0⟩
  refine wp_region_seqT (fun i => !([8] : List Nat).contains i) (fun i => ([0, 4, 7, 10] : List Nat).contains i) (fun i => ([] : List Nat).contains i) [0, 1, 2, 3, 4, 5, 6, 7, 8, 9, 10, 11] (fun wq : World => wq.cell? ⟨b1, 0, none⟩ = some (.pointer (some ⟨sb, 0, none⟩)) ∧ wq.cell? ⟨sb, 64, none⟩ = some (.slice (some ⟨g, 0, none⟩) s.m.org.length c) ∧ wq.cell? ⟨b2, 0, none⟩ = some (.int .i64 axis) ∧ wq.cell? ⟨g, p * 2 + d, none⟩ = some (.int .i64 (coord axis x))) (by kernel_rfl) (by kernel_rfl) (by kernel_rfl) (by kernel_rfl) ?_
  iterate 8 (first | refine wpSeq_pureA (v := _) rfl rfl rfl ?_ | refine wpSeq_loadA (v := _) rfl rfl hS rfl ?_)
  refine wpSeq_heavy rfl rfl (fun K hK => ?_); go_simp
  refine (scoord_any _ _ _ _ hax.1 hax.2).mono ?_
  rintro e w5 ⟨rfl, rfl⟩
  rw [HD.out]
  dsimp only
  refine hK _ _ (fun _ => hS) ?_; clear hK K
  iterate 3 (first | refine wpSeq_pureA (v := _) rfl rfl rfl ?_ | refine wpSeq_loadA (v := _) rfl rfl hS rfl ?_)
  refine wpSeq_end ?_
  go_wp2
  go_ret
  exact ⟨rfl, rfl⟩
set_option maxHeartbeats 1000000 in
theorem sis_any (w : World) (sb : Nat) (L : SLay) (s : Sr.St) (h : SrL w sb L s) (b1 b2 : Nat) (axis : Int) (hax : 0 ≤ axis ∧ axis ≤ 1) (k1 : w.cell? ⟨b1, 0, none⟩ = some (.pointer (some ⟨sb, 0, none⟩))) (k2 : w.cell? ⟨b2, 0, none⟩ = some (.int .i64 axis)) (p : Nat) (x : Int × Int) (hx : s.m.cur[p]? = some x) :
    Calls Tryz.prog 259 #[.int .i64 p, .pointer (some ⟨b1, 0, none⟩), .pointer (some ⟨b2, 0, none⟩)] w fun e w' => e = .returned (.int .i64 (coord axis x)) ∧ w.drew = w' := by
  have hp := (List.getElem?_eq_some_iff.1 hx).1
  have hcl : s.m.cur.length ≤ 1000000 := by have := h.ok.m.curl; have := h.ok.m.orgl; omega
  obtain ⟨g, c, hv, hc1, _, hgl, hcells⟩ := owns_at h.cu (by omega)
  have d0 := hcells _ _ (pts_coord hx axis)
  have cc := h.c65
  rw [hv] at cc
  clear h hx hv hcells
  generalize hd : (if axis = 1 then 1 else 0 : Nat) = d at d0
  have HD := Lib.hid hd
  clear hd
  go_enter Tryz.func259, Tryz.ntmps259
  go_wp2_with fail
  have hS : w.drew.cell? ⟨b1, 0, none⟩ = some (.pointer (some ⟨sb, 0, none⟩)) ∧ w.drew.cell? ⟨sb, 65, none⟩ = some (.slice (some ⟨g, 0, none⟩) s.m.cur.length c) ∧ w.drew.cell? ⟨b2, 0, none⟩ = some (.int .i64 axis) ∧ w.drew.cell? ⟨g, p * 2 + d, none⟩ = some (.int .i64 (coord axis x)) := ⟨k1, cc, k2, d0⟩
  refine wp_region_seqT (fun i => !([8] : List Nat).contains i) (fun i => ([0, 4, 7, 10] : List Nat).contains i) (fun i => ([] : List Nat).contains i) [0, 1, 2, 3, 4, 5, 6, 7, 8, 9, 10, 11] (fun wq : World => wq.cell? ⟨b1, 0, none⟩ = some (.pointer (some ⟨sb, 0, none⟩)) ∧ wq.cell? ⟨sb, 65, none⟩ = some (.slice (some ⟨g, 0, none⟩) s.m.cur.length c) ∧ wq.cell? ⟨b2, 0, none⟩ = some (.int .i64 axis) ∧ wq.cell? ⟨g, p * 2 + d, none⟩ = some (.int .i64 (coord axis x))) (by kernel_rfl) (by kernel_rfl) (by kernel_rfl) (by kernel_rfl) ?_
  iterate 8 (first | refine wpSeq_pureA (v := _) rfl rfl rfl ?_ | refine wpSeq_loadA (v := _) rfl rfl hS rfl ?_)
  refine wpSeq_heavy rfl rfl (fun K hK => ?_); go_simp
  refine (scoord_any _ _ _ _ hax.1 hax.2).mono ?_
  rintro e w5 ⟨rfl, rfl⟩
  rw [HD.out]
  dsimp only
  refine hK _ _ (fun _ => hS) ?_; clear hK K
  iterate 3 (first | refine wpSeq_pureA (v := _) rfl rfl rfl ?_ | refine wpSeq_loadA (v := _) rfl rfl hS rfl ?_)
  refine wpSeq_end ?_
  go_wp2
  go_ret
  exact ⟨rfl, rfl⟩
structure SBt (w : World) (sb : Nat) (L : SLay) (s : Sr.St) (axis : Int) (W : World) : Prop where
  ma : SrL W sb L s
  k1 : W.cell? ⟨w.heap.size, 0, none⟩ = some (.pointer (some ⟨sb, 0, none⟩))
  k2 : W.cell? ⟨w.heap.size + 1, 0, none⟩ = some (.int .i64 axis)
  fr : Fr (SrS L sb) w W
  ax : 0 ≤ axis ∧ axis ≤ 1
section
variable {w : World} {sb : Nat} {L : SLay} {s : Sr.St} {axis : Int} {W : World}
theorem SBt.drew (h : SBt w sb L s axis W) : SBt w sb L s axis W.drew := ⟨h.ma.drew, h.k1, h.k2, h.fr.drew, h.ax⟩
theorem swasB (h : SBt w sb L s axis W) {p : Nat} {x : Int × Int} (hx : s.m.org[p]? = some x) {v : Int} (hv : coord axis x = v) :
    Calls Tryz.prog 258 #[.int .i64 p, .pointer (some ⟨w.heap.size, 0, none⟩), .pointer (some ⟨w.heap.size + 1, 0, none⟩)] W fun e w' => e = .returned (.int .i64 v) ∧ SBt w sb L s axis w' :=
  (swas_any W sb L s h.ma _ _ axis h.ax h.k1 h.k2 p x hx).mono fun e w' hh => ⟨by rw [hh.1, hv], by rw [← hh.2]; exact h.drew⟩
theorem sisB (h : SBt w sb L s axis W) {p : Nat} {x : Int × Int} (hx : s.m.cur[p]? = some x) {v : Int} (hv : coord axis x = v) :
    Calls Tryz.prog 259 #[.int .i64 p, .pointer (some ⟨w.heap.size, 0, none⟩), .pointer (some ⟨w.heap.size + 1, 0, none⟩)] W fun e w' => e = .returned (.int .i64 v) ∧ SBt w sb L s axis w' :=
  (sis_any W sb L s h.ma _ _ axis h.ax h.k1 h.k2 p x hx).mono fun e w' hh => ⟨by rw [hh.1, hv], by rw [← hh.2]; exact h.drew⟩
end
set_option maxRecDepth 100000 in
set_option maxHeartbeats 8000000 in
theorem sbetween_any (w : World) (sb : Nat) (L : SLay) (s : Sr.St) (h : SrL w sb L s) (axis : Int) (hax : 0 ≤ axis ∧ axis ≤ 1) (p a b : Nat) (xp xa xb yp ya yb : Int × Int)
    (hxp : s.m.org[p]? = some xp) (hxa : s.m.org[a]? = some xa) (hxb : s.m.org[b]? = some xb) (hyp : s.m.cur[p]? = some yp) (hya : s.m.cur[a]? = some ya) (hyb : s.m.cur[b]? = some yb) :
    Calls Tryz.prog 230 #[.pointer (some ⟨sb, 0, none⟩), .int .i64 p, .int .i64 a, .int .i64 b, .int .i64 axis] w (SPost w sb L { s with m := { s.m with cur := moved s.m.org axis s.m.cur p a b } }) := by
  have hpl := (List.getElem?_eq_some_iff.1 hyp).1
  have hcl := h.ok.m.curl
  obtain ⟨g, c, hv, hc1, _, hgl, hcells⟩ := owns_at h.cu (by omega)
  have HB : Hid (SBt w sb L s axis ((w.alloc (.cells #[.pointer (some ⟨sb, 0, none⟩)] 98)).alloc (.cells #[.int .i64 axis] 3))) := Lib.hid ⟨(h.alloc _).alloc _, by rw [World.cell?_alloc_lt _ _ _ (by simp)]; exact (Blk.new w _ _).cell 0, (Blk.new_at _ _ _ (by simp)).cell 0, ((Fr.refl _ w).alloc _).alloc _, hax⟩
  have Hxp := Lib.hid hxp
  have Hxa := Lib.hid hxa
  have Hxb := Lib.hid hxb
  have Hya := Lib.hid hya
  have Hyb := Lib.hid hyb
  have B1 := coord_k (_s := s.m) h.ok.m.org hxp axis
  have B2 := coord_k (_s := s.m) h.ok.m.org hxa axis
  have B3 := coord_k (_s := s.m) h.ok.m.org hxb axis
  have B4 := coord_k (_s := s.m) h.ok.m.cur hya axis
  have B5 := coord_k (_s := s.m) h.ok.m.cur hyb axis
  have HBT := Lib.hid (between_sw (axis := axis) hxp hxa hxb hya hyb)
  have HC : Hid (∀ (W : World), SrL W sb L s → W.cell? ⟨sb, 65, none⟩ = some (.slice (some ⟨g, 0, none⟩) s.m.cur.length c) ∧ (∃ u, W.cell? ⟨g, p * 2 + (if axis = 1 then 1 else 0), none⟩ = some u) ∧ W.frozen? ⟨g, p * 2 + (if axis = 1 then 1 else 0), none⟩ = false) := Lib.hid (fun W hW => by
    refine ⟨by rw [hW.c65, hv], ?_⟩
    obtain ⟨g2, c2, x2, hv2, _, _, _, hc2, hf2⟩ := hW.pt hpl
    rw [hv] at hv2
    injection hv2 with hv2
    injection hv2 with hv2
    injection hv2 with hv2
    subst hv2
    exact ⟨⟨_, hc2 axis⟩, hf2 _⟩)
  have HQ : Hid (∀ (W : World) (u : Int), SrL W sb L s → Fr (SrS L sb) w W → u = k32 (w64 (between s.m.org s.m.cur axis p a b)) → SPost w sb L { s with m := { s.m with cur := moved s.m.org axis s.m.cur p a b } } (.returned (.tuple #[])) (W.setCell ⟨g, p * 2 + (if axis = 1 then 1 else 0), none⟩ (.int .i64 u))) := Lib.hid (fun W u hW hF hu => by
    subst hu
    rw [moved_eq hyp]
    unfold to_
    exact .to (hW.setCu (by rw [hv]; rfl) hyp axis _ (k32_in _) (hW.ok.m.cur _ (List.mem_of_getElem? hyp))) (hF.setCell (.inl (.inr (.inl (by rw [hv]; rfl)))) _))
  clear h hxp hxa hxb hyp hya hyb hv hcells hgl
  generalize hd : (if axis = 1 then 1 else 0 : Nat) = d at *
  have HD := Lib.hid hd
  clear hd
  generalize hwp : coord axis xp = wp at *
  generalize hwa : coord axis xa = wa at *
  generalize hwb : coord axis xb = wb at *
  generalize hia : coord axis ya = ia at *
  generalize hib : coord axis yb = ib at *
  have Ewp := Lib.hid hwp
  have Ewa := Lib.hid hwa
  have Ewb := Lib.hid hwb
  have Eia := Lib.hid hia
  have Eib := Lib.hid hib
  clear hwp hwa hwb hia hib
  by_cases hsw : wb < wa
  · rw [if_pos hsw] at HBT
    by_cases h1 : wp ≤ wb
    · go_enter Tryz.func230, Tryz.ntmps230
      go_wp2_with fail
      refine (swasB HB.out Hxa.out Ewa.out).mono ?_
      rintro e w5 ⟨rfl, hb⟩
      clear HB
      have HB := Lib.hid hb
      clear hb
      go_wp2_with fail
      refine (swasB HB.out Hxb.out Ewb.out).mono ?_
      rintro e w5 ⟨rfl, hb⟩
      clear HB
      have HB := Lib.hid hb
      clear hb
      go_wp2_with fail
      refine (swasB HB.out Hxp.out Ewp.out).mono ?_
      rintro e w5 ⟨rfl, hb⟩
      clear HB
      have HB := Lib.hid hb
      clear hb
      go_wp2_with fail
      refine (swasB HB.out Hxb.out Ewb.out).mono ?_
      rintro e w5 ⟨rfl, hb⟩
      clear HB
      have HB := Lib.hid hb
      clear hb
      go_wp2_with fail
      refine (sisB HB.out Hyb.out Eib.out).mono ?_
      rintro e w5 ⟨rfl, hb⟩
      clear HB
      have HB := Lib.hid hb
      clear hb
      go_wp2_with fail
      refine (swasB HB.out Hxb.out Ewb.out).mono ?_
      rintro e w5 ⟨rfl, hb⟩
      clear HB
      have HB := Lib.hid hb
      clear hb
      go_wp2_with fail
      obtain ⟨c3, ⟨u0, cu⟩, fu⟩ := HC.out w5 HB.out.ma
      have l1 := HB.out.ma.blk.lt
      have hS : w5.drew.cell? ⟨w.heap.size, 0, none⟩ = some (.pointer (some ⟨sb, 0, none⟩)) ∧ w5.drew.cell? ⟨sb, 65, none⟩ = some (.slice (some ⟨g, 0, none⟩) s.m.cur.length c) ∧ w5.drew.cell? ⟨w.heap.size + 1, 0, none⟩ = some (.int .i64 axis) := ⟨HB.out.k1, c3, HB.out.k2⟩
      refine wp_region_seqT (fun i => !([8, 10, 12] : List Nat).contains i) (fun i => ([0, 4, 7] : List Nat).contains i) (fun i => ([] : List Nat).contains i) [0, 1, 2, 3, 4, 5, 6, 7, 9, 8, 10, 11, 12] (fun wq : World => wq.cell? ⟨w.heap.size, 0, none⟩ = some (.pointer (some ⟨sb, 0, none⟩)) ∧ wq.cell? ⟨sb, 65, none⟩ = some (.slice (some ⟨g, 0, none⟩) s.m.cur.length c) ∧ wq.cell? ⟨w.heap.size + 1, 0, none⟩ = some (.int .i64 axis)) (by kernel_rfl) (by kernel_rfl) (by kernel_rfl) (by kernel_rfl) ?_
      iterate 9 (first | refine wpSeq_pureA (v := _) rfl rfl rfl ?_ | refine wpSeq_loadA (v := _) rfl rfl hS rfl ?_)
      refine wpSeq_heavy rfl rfl (fun K hK => ?_); go_simp
      refine (scoord_any _ _ _ _ hax.1 hax.2).mono ?_
      rintro e w6 ⟨rfl, rfl⟩
      rw [HD.out]
      dsimp only
      refine hK _ _ (fun h => by cases h) ?_; clear hK K
      refine wpSeq_heavy rfl rfl (fun K hK => ?_); go_simp
      refine (skept_any _ _).mono ?_
      rintro e w6 ⟨rfl, rfl⟩
      dsimp only
      refine hK _ _ (fun h => by cases h) ?_; clear hK K
      iterate 1 (first | refine wpSeq_pureA (v := _) rfl rfl rfl ?_ | refine wpSeq_loadA (v := _) rfl rfl hS rfl ?_)
      refine wpSeq_heavy rfl rfl (fun K hK => ?_); go_simp
      refine hK _ _ (fun h => by cases h) ?_; clear hK K
      refine wpSeq_end ?_
      go_wp2
      go_end0
      refine HQ.out w5.drew _ HB.out.ma.drew HB.out.fr.drew ?_
      rw [HBT.out]
      rw [betw_a (by omega)]
      exact congrArg k32 (w64_in (by omega) (by omega)).symm
    · by_cases h2 : wa ≤ wp
      · go_enter Tryz.func230, Tryz.ntmps230
        go_wp2_with fail
        refine (swasB HB.out Hxa.out Ewa.out).mono ?_
        rintro e w5 ⟨rfl, hb⟩
        clear HB
        have HB := Lib.hid hb
        clear hb
        go_wp2_with fail
        refine (swasB HB.out Hxb.out Ewb.out).mono ?_
        rintro e w5 ⟨rfl, hb⟩
        clear HB
        have HB := Lib.hid hb
        clear hb
        go_wp2_with fail
        refine (swasB HB.out Hxp.out Ewp.out).mono ?_
        rintro e w5 ⟨rfl, hb⟩
        clear HB
        have HB := Lib.hid hb
        clear hb
        go_wp2_with fail
        refine (swasB HB.out Hxb.out Ewb.out).mono ?_
        rintro e w5 ⟨rfl, hb⟩
        clear HB
        have HB := Lib.hid hb
        clear hb
        go_wp2_with fail
        refine (swasB HB.out Hxa.out Ewa.out).mono ?_
        rintro e w5 ⟨rfl, hb⟩
        clear HB
        have HB := Lib.hid hb
        clear hb
        go_wp2_with fail
        refine (sisB HB.out Hya.out Eia.out).mono ?_
        rintro e w5 ⟨rfl, hb⟩
        clear HB
        have HB := Lib.hid hb
        clear hb
        go_wp2_with fail
        refine (swasB HB.out Hxa.out Ewa.out).mono ?_
        rintro e w5 ⟨rfl, hb⟩
        clear HB
        have HB := Lib.hid hb
        clear hb
        go_wp2_with fail
        obtain ⟨c3, ⟨u0, cu⟩, fu⟩ := HC.out w5 HB.out.ma
        have l1 := HB.out.ma.blk.lt
        have hS : w5.drew.cell? ⟨w.heap.size, 0, none⟩ = some (.pointer (some ⟨sb, 0, none⟩)) ∧ w5.drew.cell? ⟨sb, 65, none⟩ = some (.slice (some ⟨g, 0, none⟩) s.m.cur.length c) ∧ w5.drew.cell? ⟨w.heap.size + 1, 0, none⟩ = some (.int .i64 axis) := ⟨HB.out.k1, c3, HB.out.k2⟩
        refine wp_region_seqT (fun i => !([8, 10, 12] : List Nat).contains i) (fun i => ([0, 4, 7] : List Nat).contains i) (fun i => ([] : List Nat).contains i) [0, 1, 2, 3, 4, 5, 6, 7, 9, 8, 10, 11, 12] (fun wq : World => wq.cell? ⟨w.heap.size, 0, none⟩ = some (.pointer (some ⟨sb, 0, none⟩)) ∧ wq.cell? ⟨sb, 65, none⟩ = some (.slice (some ⟨g, 0, none⟩) s.m.cur.length c) ∧ wq.cell? ⟨w.heap.size + 1, 0, none⟩ = some (.int .i64 axis)) (by kernel_rfl) (by kernel_rfl) (by kernel_rfl) (by kernel_rfl) ?_
        iterate 9 (first | refine wpSeq_pureA (v := _) rfl rfl rfl ?_ | refine wpSeq_loadA (v := _) rfl rfl hS rfl ?_)
        refine wpSeq_heavy rfl rfl (fun K hK => ?_); go_simp
        refine (scoord_any _ _ _ _ hax.1 hax.2).mono ?_
        rintro e w6 ⟨rfl, rfl⟩
        rw [HD.out]
        dsimp only
        refine hK _ _ (fun h => by cases h) ?_; clear hK K
        refine wpSeq_heavy rfl rfl (fun K hK => ?_); go_simp
        refine (skept_any _ _).mono ?_
        rintro e w6 ⟨rfl, rfl⟩
        dsimp only
        refine hK _ _ (fun h => by cases h) ?_; clear hK K
        iterate 1 (first | refine wpSeq_pureA (v := _) rfl rfl rfl ?_ | refine wpSeq_loadA (v := _) rfl rfl hS rfl ?_)
        refine wpSeq_heavy rfl rfl (fun K hK => ?_); go_simp
        refine hK _ _ (fun h => by cases h) ?_; clear hK K
        refine wpSeq_end ?_
        go_wp2
        go_end0
        refine HQ.out w5.drew _ HB.out.ma.drew HB.out.fr.drew ?_
        rw [HBT.out]
        rw [betw_b (by omega) (by omega)]
        exact congrArg k32 (w64_in (by omega) (by omega)).symm
      · go_enter Tryz.func230, Tryz.ntmps230
        go_wp2_with fail
        refine (swasB HB.out Hxa.out Ewa.out).mono ?_
        rintro e w5 ⟨rfl, hb⟩
        clear HB
        have HB := Lib.hid hb
        clear hb
        go_wp2_with fail
        refine (swasB HB.out Hxb.out Ewb.out).mono ?_
        rintro e w5 ⟨rfl, hb⟩
        clear HB
        have HB := Lib.hid hb
        clear hb
        go_wp2_with fail
        refine (swasB HB.out Hxp.out Ewp.out).mono ?_
        rintro e w5 ⟨rfl, hb⟩
        clear HB
        have HB := Lib.hid hb
        clear hb
        go_wp2_with fail
        refine (swasB HB.out Hxb.out Ewb.out).mono ?_
        rintro e w5 ⟨rfl, hb⟩
        clear HB
        have HB := Lib.hid hb
        clear hb
        go_wp2_with fail
        refine (swasB HB.out Hxa.out Ewa.out).mono ?_
        rintro e w5 ⟨rfl, hb⟩
        clear HB
        have HB := Lib.hid hb
        clear hb
        go_wp2_with fail
        refine (swasB HB.out Hxa.out Ewa.out).mono ?_
        rintro e w5 ⟨rfl, hb⟩
        clear HB
        have HB := Lib.hid hb
        clear hb
        go_wp2_with fail
        refine (swasB HB.out Hxb.out Ewb.out).mono ?_
        rintro e w5 ⟨rfl, hb⟩
        clear HB
        have HB := Lib.hid hb
        clear hb
        go_wp2_with fail
        refine (sisB HB.out Hyb.out Eib.out).mono ?_
        rintro e w5 ⟨rfl, hb⟩
        clear HB
        have HB := Lib.hid hb
        clear hb
        go_wp2_with fail
        refine (swasB HB.out Hxb.out Ewb.out).mono ?_
        rintro e w5 ⟨rfl, hb⟩
        clear HB
        have HB := Lib.hid hb
        clear hb
        go_wp2_with fail
        refine (sisB HB.out Hya.out Eia.out).mono ?_
        rintro e w5 ⟨rfl, hb⟩
        clear HB
        have HB := Lib.hid hb
        clear hb
        go_wp2_with fail
        refine (sisB HB.out Hyb.out Eib.out).mono ?_
        rintro e w5 ⟨rfl, hb⟩
        clear HB
        have HB := Lib.hid hb
        clear hb
        go_wp2_with fail
        refine (sdivided_any _ _ _).mono ?_
        rintro e w6 ⟨rfl, rfl⟩
        go_wp2_with fail
        obtain ⟨c3, ⟨u0, cu⟩, fu⟩ := HC.out w5 HB.out.ma
        have l1 := HB.out.ma.blk.lt
        have hS : w5.drew.cell? ⟨w.heap.size, 0, none⟩ = some (.pointer (some ⟨sb, 0, none⟩)) ∧ w5.drew.cell? ⟨sb, 65, none⟩ = some (.slice (some ⟨g, 0, none⟩) s.m.cur.length c) ∧ w5.drew.cell? ⟨w.heap.size + 1, 0, none⟩ = some (.int .i64 axis) := ⟨HB.out.k1, c3, HB.out.k2⟩
        refine wp_region_seqT (fun i => !([8, 10, 12] : List Nat).contains i) (fun i => ([0, 4, 7] : List Nat).contains i) (fun i => ([] : List Nat).contains i) [0, 1, 2, 3, 4, 5, 6, 7, 9, 8, 10, 11, 12] (fun wq : World => wq.cell? ⟨w.heap.size, 0, none⟩ = some (.pointer (some ⟨sb, 0, none⟩)) ∧ wq.cell? ⟨sb, 65, none⟩ = some (.slice (some ⟨g, 0, none⟩) s.m.cur.length c) ∧ wq.cell? ⟨w.heap.size + 1, 0, none⟩ = some (.int .i64 axis)) (by kernel_rfl) (by kernel_rfl) (by kernel_rfl) (by kernel_rfl) ?_
        iterate 9 (first | refine wpSeq_pureA (v := _) rfl rfl rfl ?_ | refine wpSeq_loadA (v := _) rfl rfl hS rfl ?_)
        refine wpSeq_heavy rfl rfl (fun K hK => ?_); go_simp
        refine (scoord_any _ _ _ _ hax.1 hax.2).mono ?_
        rintro e w6 ⟨rfl, rfl⟩
        rw [HD.out]
        dsimp only
        refine hK _ _ (fun h => by cases h) ?_; clear hK K
        refine wpSeq_heavy rfl rfl (fun K hK => ?_); go_simp
        refine (skept_any _ _).mono ?_
        rintro e w6 ⟨rfl, rfl⟩
        dsimp only
        refine hK _ _ (fun h => by cases h) ?_; clear hK K
        iterate 1 (first | refine wpSeq_pureA (v := _) rfl rfl rfl ?_ | refine wpSeq_loadA (v := _) rfl rfl hS rfl ?_)
        refine wpSeq_heavy rfl rfl (fun K hK => ?_); go_simp
        refine hK _ _ (fun h => by cases h) ?_; clear hK K
        refine wpSeq_end ?_
        go_wp2
        go_end0
        refine HQ.out w5.drew _ HB.out.ma.drew HB.out.fr.drew ?_
        rw [HBT.out]
        rw [betw_c (by omega) (by omega), ← w64_add]
        simp only [w64_wrap]
  · rw [if_neg hsw] at HBT
    by_cases h1 : wp ≤ wa
    · go_enter Tryz.func230, Tryz.ntmps230
      go_wp2_with fail
      refine (swasB HB.out Hxa.out Ewa.out).mono ?_
      rintro e w5 ⟨rfl, hb⟩
      clear HB
      have HB := Lib.hid hb
      clear hb
      go_wp2_with fail
      refine (swasB HB.out Hxb.out Ewb.out).mono ?_
      rintro e w5 ⟨rfl, hb⟩
      clear HB
      have HB := Lib.hid hb
      clear hb
      go_wp2_with fail
      refine (swasB HB.out Hxp.out Ewp.out).mono ?_
      rintro e w5 ⟨rfl, hb⟩
      clear HB
      have HB := Lib.hid hb
      clear hb
      go_wp2_with fail
      refine (swasB HB.out Hxa.out Ewa.out).mono ?_
      rintro e w5 ⟨rfl, hb⟩
      clear HB
      have HB := Lib.hid hb
      clear hb
      go_wp2_with fail
      refine (sisB HB.out Hya.out Eia.out).mono ?_
      rintro e w5 ⟨rfl, hb⟩
      clear HB
      have HB := Lib.hid hb
      clear hb
      go_wp2_with fail
      refine (swasB HB.out Hxa.out Ewa.out).mono ?_
      rintro e w5 ⟨rfl, hb⟩
      clear HB
      have HB := Lib.hid hb
      clear hb
      go_wp2_with fail
      obtain ⟨c3, ⟨u0, cu⟩, fu⟩ := HC.out w5 HB.out.ma
      have l1 := HB.out.ma.blk.lt
      have hS : w5.drew.cell? ⟨w.heap.size, 0, none⟩ = some (.pointer (some ⟨sb, 0, none⟩)) ∧ w5.drew.cell? ⟨sb, 65, none⟩ = some (.slice (some ⟨g, 0, none⟩) s.m.cur.length c) ∧ w5.drew.cell? ⟨w.heap.size + 1, 0, none⟩ = some (.int .i64 axis) := ⟨HB.out.k1, c3, HB.out.k2⟩
      refine wp_region_seqT (fun i => !([8, 10, 12] : List Nat).contains i) (fun i => ([0, 4, 7] : List Nat).contains i) (fun i => ([] : List Nat).contains i) [0, 1, 2, 3, 4, 5, 6, 7, 9, 8, 10, 11, 12] (fun wq : World => wq.cell? ⟨w.heap.size, 0, none⟩ = some (.pointer (some ⟨sb, 0, none⟩)) ∧ wq.cell? ⟨sb, 65, none⟩ = some (.slice (some ⟨g, 0, none⟩) s.m.cur.length c) ∧ wq.cell? ⟨w.heap.size + 1, 0, none⟩ = some (.int .i64 axis)) (by kernel_rfl) (by kernel_rfl) (by kernel_rfl) (by kernel_rfl) ?_
      iterate 9 (first | refine wpSeq_pureA (v := _) rfl rfl rfl ?_ | refine wpSeq_loadA (v := _) rfl rfl hS rfl ?_)
      refine wpSeq_heavy rfl rfl (fun K hK => ?_); go_simp
      refine (scoord_any _ _ _ _ hax.1 hax.2).mono ?_
      rintro e w6 ⟨rfl, rfl⟩
      rw [HD.out]
      dsimp only
      refine hK _ _ (fun h => by cases h) ?_; clear hK K
      refine wpSeq_heavy rfl rfl (fun K hK => ?_); go_simp
      refine (skept_any _ _).mono ?_
      rintro e w6 ⟨rfl, rfl⟩
      dsimp only
      refine hK _ _ (fun h => by cases h) ?_; clear hK K
      iterate 1 (first | refine wpSeq_pureA (v := _) rfl rfl rfl ?_ | refine wpSeq_loadA (v := _) rfl rfl hS rfl ?_)
      refine wpSeq_heavy rfl rfl (fun K hK => ?_); go_simp
      refine hK _ _ (fun h => by cases h) ?_; clear hK K
      refine wpSeq_end ?_
      go_wp2
      go_end0
      refine HQ.out w5.drew _ HB.out.ma.drew HB.out.fr.drew ?_
      rw [HBT.out]
      rw [betw_a (by omega)]
      exact congrArg k32 (w64_in (by omega) (by omega)).symm
    · by_cases h2 : wb ≤ wp
      · go_enter Tryz.func230, Tryz.ntmps230
        go_wp2_with fail
        refine (swasB HB.out Hxa.out Ewa.out).mono ?_
        rintro e w5 ⟨rfl, hb⟩
        clear HB
        have HB := Lib.hid hb
        clear hb
        go_wp2_with fail
        refine (swasB HB.out Hxb.out Ewb.out).mono ?_
        rintro e w5 ⟨rfl, hb⟩
        clear HB
        have HB := Lib.hid hb
        clear hb
        go_wp2_with fail
        refine (swasB HB.out Hxp.out Ewp.out).mono ?_
        rintro e w5 ⟨rfl, hb⟩
        clear HB
        have HB := Lib.hid hb
        clear hb
        go_wp2_with fail
        refine (swasB HB.out Hxa.out Ewa.out).mono ?_
        rintro e w5 ⟨rfl, hb⟩
        clear HB
        have HB := Lib.hid hb
        clear hb
        go_wp2_with fail
        refine (swasB HB.out Hxb.out Ewb.out).mono ?_
        rintro e w5 ⟨rfl, hb⟩
        clear HB
        have HB := Lib.hid hb
        clear hb
        go_wp2_with fail
        refine (sisB HB.out Hyb.out Eib.out).mono ?_
        rintro e w5 ⟨rfl, hb⟩
        clear HB
        have HB := Lib.hid hb
        clear hb
        go_wp2_with fail
        refine (swasB HB.out Hxb.out Ewb.out).mono ?_
        rintro e w5 ⟨rfl, hb⟩
        clear HB
        have HB := Lib.hid hb
        clear hb
        go_wp2_with fail
        obtain ⟨c3, ⟨u0, cu⟩, fu⟩ := HC.out w5 HB.out.ma
        have l1 := HB.out.ma.blk.lt
        have hS : w5.drew.cell? ⟨w.heap.size, 0, none⟩ = some (.pointer (some ⟨sb, 0, none⟩)) ∧ w5.drew.cell? ⟨sb, 65, none⟩ = some (.slice (some ⟨g, 0, none⟩) s.m.cur.length c) ∧ w5.drew.cell? ⟨w.heap.size + 1, 0, none⟩ = some (.int .i64 axis) := ⟨HB.out.k1, c3, HB.out.k2⟩
        refine wp_region_seqT (fun i => !([8, 10, 12] : List Nat).contains i) (fun i => ([0, 4, 7] : List Nat).contains i) (fun i => ([] : List Nat).contains i) [0, 1, 2, 3, 4, 5, 6, 7, 9, 8, 10, 11, 12] (fun wq : World => wq.cell? ⟨w.heap.size, 0, none⟩ = some (.pointer (some ⟨sb, 0, none⟩)) ∧ wq.cell? ⟨sb, 65, none⟩ = some (.slice (some ⟨g, 0, none⟩) s.m.cur.length c) ∧ wq.cell? ⟨w.heap.size + 1, 0, none⟩ = some (.int .i64 axis)) (by kernel_rfl) (by kernel_rfl) (by kernel_rfl) (by kernel_rfl) ?_
        iterate 9 (first | refine wpSeq_pureA (v := _) rfl rfl rfl ?_ | refine wpSeq_loadA (v := _) rfl rfl hS rfl ?_)
        refine wpSeq_heavy rfl rfl (fun K hK => ?_); go_simp
        refine (scoord_any _ _ _ _ hax.1 hax.2).mono ?_
        rintro e w6 ⟨rfl, rfl⟩
        rw [HD.out]
        dsimp only
        refine hK _ _ (fun h => by cases h) ?_; clear hK K
        refine wpSeq_heavy rfl rfl (fun K hK => ?_); go_simp
        refine (skept_any _ _).mono ?_
        rintro e w6 ⟨rfl, rfl⟩
        dsimp only
        refine hK _ _ (fun h => by cases h) ?_; clear hK K
        iterate 1 (first | refine wpSeq_pureA (v := _) rfl rfl rfl ?_ | refine wpSeq_loadA (v := _) rfl rfl hS rfl ?_)
        refine wpSeq_heavy rfl rfl (fun K hK => ?_); go_simp
        refine hK _ _ (fun h => by cases h) ?_; clear hK K
        refine wpSeq_end ?_
        go_wp2
        go_end0
        refine HQ.out w5.drew _ HB.out.ma.drew HB.out.fr.drew ?_
        rw [HBT.out]
        rw [betw_b (by omega) (by omega)]
        exact congrArg k32 (w64_in (by omega) (by omega)).symm
      · go_enter Tryz.func230, Tryz.ntmps230
        go_wp2_with fail
        refine (swasB HB.out Hxa.out Ewa.out).mono ?_
        rintro e w5 ⟨rfl, hb⟩
        clear HB
        have HB := Lib.hid hb
        clear hb
        go_wp2_with fail
        refine (swasB HB.out Hxb.out Ewb.out).mono ?_
        rintro e w5 ⟨rfl, hb⟩
        clear HB
        have HB := Lib.hid hb
        clear hb
        go_wp2_with fail
        refine (swasB HB.out Hxp.out Ewp.out).mono ?_
        rintro e w5 ⟨rfl, hb⟩
        clear HB
        have HB := Lib.hid hb
        clear hb
        go_wp2_with fail
        refine (swasB HB.out Hxa.out Ewa.out).mono ?_
        rintro e w5 ⟨rfl, hb⟩
        clear HB
        have HB := Lib.hid hb
        clear hb
        go_wp2_with fail
        refine (swasB HB.out Hxb.out Ewb.out).mono ?_
        rintro e w5 ⟨rfl, hb⟩
        clear HB
        have HB := Lib.hid hb
        clear hb
        go_wp2_with fail
        refine (swasB HB.out Hxb.out Ewb.out).mono ?_
        rintro e w5 ⟨rfl, hb⟩
        clear HB
        have HB := Lib.hid hb
        clear hb
        go_wp2_with fail
        refine (swasB HB.out Hxa.out Ewa.out).mono ?_
        rintro e w5 ⟨rfl, hb⟩
        clear HB
        have HB := Lib.hid hb
        clear hb
        go_wp2_with fail
        refine (sisB HB.out Hya.out Eia.out).mono ?_
        rintro e w5 ⟨rfl, hb⟩
        clear HB
        have HB := Lib.hid hb
        clear hb
        go_wp2_with fail
        refine (swasB HB.out Hxa.out Ewa.out).mono ?_
        rintro e w5 ⟨rfl, hb⟩
        clear HB
        have HB := Lib.hid hb
        clear hb
        go_wp2_with fail
        refine (sisB HB.out Hyb.out Eib.out).mono ?_
        rintro e w5 ⟨rfl, hb⟩
        clear HB
        have HB := Lib.hid hb
        clear hb
        go_wp2_with fail
        refine (sisB HB.out Hya.out Eia.out).mono ?_
        rintro e w5 ⟨rfl, hb⟩
        clear HB
        have HB := Lib.hid hb
        clear hb
        go_wp2_with fail
        refine (sdivided_any _ _ _).mono ?_
        rintro e w6 ⟨rfl, rfl⟩
        go_wp2_with fail
        obtain ⟨c3, ⟨u0, cu⟩, fu⟩ := HC.out w5 HB.out.ma
        have l1 := HB.out.ma.blk.lt
        have hS : w5.drew.cell? ⟨w.heap.size, 0, none⟩ = some (.pointer (some ⟨sb, 0, none⟩)) ∧ w5.drew.cell? ⟨sb, 65, none⟩ = some (.slice (some ⟨g, 0, none⟩) s.m.cur.length c) ∧ w5.drew.cell? ⟨w.heap.size + 1, 0, none⟩ = some (.int .i64 axis) := ⟨HB.out.k1, c3, HB.out.k2⟩
        refine wp_region_seqT (fun i => !([8, 10, 12] : List Nat).contains i) (fun i => ([0, 4, 7] : List Nat).contains i) (fun i => ([] : List Nat).contains i) [0, 1, 2, 3, 4, 5, 6, 7, 9, 8, 10, 11, 12] (fun wq : World => wq.cell? ⟨w.heap.size, 0, none⟩ = some (.pointer (some ⟨sb, 0, none⟩)) ∧ wq.cell? ⟨sb, 65, none⟩ = some (.slice (some ⟨g, 0, none⟩) s.m.cur.length c) ∧ wq.cell? ⟨w.heap.size + 1, 0, none⟩ = some (.int .i64 axis)) (by kernel_rfl) (by kernel_rfl) (by kernel_rfl) (by kernel_rfl) ?_
        iterate 9 (first | refine wpSeq_pureA (v := _) rfl rfl rfl ?_ | refine wpSeq_loadA (v := _) rfl rfl hS rfl ?_)
        refine wpSeq_heavy rfl rfl (fun K hK => ?_); go_simp
        refine (scoord_any _ _ _ _ hax.1 hax.2).mono ?_
        rintro e w6 ⟨rfl, rfl⟩
        rw [HD.out]
        dsimp only
        refine hK _ _ (fun h => by cases h) ?_; clear hK K
        refine wpSeq_heavy rfl rfl (fun K hK => ?_); go_simp
        refine (skept_any _ _).mono ?_
        rintro e w6 ⟨rfl, rfl⟩
        dsimp only
        refine hK _ _ (fun h => by cases h) ?_; clear hK K
        iterate 1 (first | refine wpSeq_pureA (v := _) rfl rfl rfl ?_ | refine wpSeq_loadA (v := _) rfl rfl hS rfl ?_)
        refine wpSeq_heavy rfl rfl (fun K hK => ?_); go_simp
        refine hK _ _ (fun h => by cases h) ?_; clear hK K
        refine wpSeq_end ?_
        go_wp2
        go_end0
        refine HQ.out w5.drew _ HB.out.ma.drew HB.out.fr.drew ?_
        rw [HBT.out]
        rw [betw_c (by omega) (by omega), ← w64_add]
        simp only [w64_wrap]
end Go.Proofs.YtnhebmgibiomnaaGreat

/- Parts of the proof, joined: McD MaS SrK MaW. -/
import Derived.BigQuiet
import Derived.BigRegion
import Derived.Deep.QuietTactic
import Derived.Deep.RegionHeld3
import Derived.Test.YtnhebmgibiomnaaGreatPa6
import Derived.Test.YtnhebmgibiomnaaGreatPa9
set_option linter.unusedVariables false
set_option linter.unusedSimpArgs false
namespace Go.Proofs.YtnhebmgibiomnaaGreat
open Go.RowKit Mc
theorem frC_get (v : Value) (vs : List Value) (f : Fm) (fs : List Fm) (hl : vs.length = fs.length) : (frC (v :: vs) (f :: fs))[fs.length * 3]? = some v ∧ (frC (v :: vs) (f :: fs))[fs.length * 3 + 1]? = some (.int .i64 f.next) ∧ (frC (v :: vs) (f :: fs))[fs.length * 3 + 2]? = some (.int .i64 f.more) := by
  have := frC_len vs fs hl
  simp only [frC]
  refine ⟨?_, ?_, ?_⟩ <;> rw [List.getElem?_append_right (by omega), this] <;> simp
structure Top (w : World) (mb : Nat) (O : Nat → Prop) (L : Lay) (s : St) (f : Fm) (r : List Fm) (g c : Nat) (v : Value) (vs : List Value) : Prop where
  fr : L.fr = .slice (some ⟨g, 0, none⟩) (r.length + 1) c
  frs : L.frs = v :: vs
  vsl : vs.length = r.length
  cap : r.length + 1 ≤ c
  capm : c ≤ maxLen
  gO : O g
  glt : g < w.heap.size
  gmb : g ≠ mb
  c0 : w.cell? ⟨g, r.length * 3, none⟩ = some v
  c1 : w.cell? ⟨g, r.length * 3 + 1, none⟩ = some (.int .i64 f.next)
  c2 : w.cell? ⟨g, r.length * 3 + 2, none⟩ = some (.int .i64 f.more)
  fz : ∀ j, w.frozen? ⟨g, j, none⟩ = false
  code : Row w O 96 2 v f.code.length (pts f.code)
  codes : Codes w O vs (r.map (·.code))
section
variable {w w' : World} {mb : Nat} {O : Nat → Prop} {L : Lay} {s : St} {f : Fm} {r : List Fm}
theorem MaL.top (h : MaL w mb O L s) (hf : s.frames = f :: r) : ∃ g c v vs, Top w mb O L s f r g c v vs := by
  have hfr := h.fr
  have hfrc := h.frc
  rw [hf] at hfr hfrc
  obtain ⟨g, c, hv, hc1, hc2, hg, hgl, hcells, hfz⟩ := hfr.at_ (by simp)
  rcases hL : L.frs with _ | ⟨v, vs⟩
  · rw [hL] at hfrc; exact hfrc.elim
  rw [hL] at hfrc hcells
  have hvl : vs.length = r.length := by simpa using hfrc.2.len
  obtain ⟨k0, k1, k2⟩ := frC_get v vs f r hvl
  exact ⟨g, c, v, vs, by simpa using hv, hL, hvl, by simpa using hc1, hc2, hg, hgl, hfr.ne_blk h.blk (by decide) (by rw [hv]; rfl), hcells _ _ k0, hcells _ _ k1, hcells _ _ k2, hfz, hfrc.1, hfrc.2⟩
theorem Top.keep {g c : Nat} {v : Value} {vs : List Value} (ht : Top w mb O L s f r g c v vs) (hk : ∀ k, O k → w'.heap[k]? = w.heap[k]?) (hz : w.heap.size ≤ w'.heap.size) : Top w' mb O L s f r g c v vs :=
  ⟨ht.fr, ht.frs, ht.vsl, ht.cap, ht.capm, ht.gO, Nat.lt_of_lt_of_le ht.glt hz, ht.gmb, (World.cell?_of_block (w := w) (hk g ht.gO)).trans ht.c0, (World.cell?_of_block (w := w) (hk g ht.gO)).trans ht.c1, (World.cell?_of_block (w := w) (hk g ht.gO)).trans ht.c2, fun j => (World.frozen?_of_block (w := w) (hk g ht.gO)).trans (ht.fz j), ht.code.keep (fun k hk' => hk k (ht.code.2 k hk')) (fun _ h => h), ht.codes.keep (fun k _ ho _ => hk k ho) (fun _ h => h)⟩
end
end Go.Proofs.YtnhebmgibiomnaaGreat
namespace Go.Proofs.YtnhebmgibiomnaaGreat
open Go.RowKit Mc
section
variable {w w1 : World} {mb : Nat} {O : Nat → Prop} {L : Lay} {s : St}
end
end Go.Proofs.YtnhebmgibiomnaaGreat
namespace Go.Proofs.YtnhebmgibiomnaaGreat
open Go.RowKit Mc
end Go.Proofs.YtnhebmgibiomnaaGreat
namespace Go.Proofs.YtnhebmgibiomnaaGreat
open Go.RowKit Mc
theorem w64_add (a b : Int) : w64 (a + w64 b) = w64 (a + b) := by unfold w64; omega
def betw (o wa wb ia ib : Int) : Int := if o ≤ wa then o + ia - wa else if wb ≤ o then o + ib - wb else ia + divd (w64 (w64 (2 * (o - wa) * (ib - ia)) + (wb - wa))) (2 * (wb - wa))
theorem betw_a {o wa wb ia ib : Int} (h : o ≤ wa) : betw o wa wb ia ib = o + ia - wa := by unfold betw; rw [if_pos h]
theorem betw_b {o wa wb ia ib : Int} (h : ¬ o ≤ wa) (h' : wb ≤ o) : betw o wa wb ia ib = o + ib - wb := by unfold betw; rw [if_neg h, if_pos h']
theorem betw_c {o wa wb ia ib : Int} (h : ¬ o ≤ wa) (h' : ¬ wb ≤ o) : betw o wa wb ia ib = ia + divd (w64 (w64 (2 * (o - wa) * (ib - ia)) + (wb - wa))) (2 * (wb - wa)) := by unfold betw; rw [if_neg h, if_neg h']
theorem between_sw {org cur : List (Int × Int)} {axis : Int} {p a b : Nat} {xp xa xb ya yb : Int × Int} (hp : org[p]? = some xp) (ha : org[a]? = some xa) (hb : org[b]? = some xb) (ha' : cur[a]? = some ya) (hb' : cur[b]? = some yb) :
    between org cur axis p a b = if coord axis xb < coord axis xa then betw (coord axis xp) (coord axis xb) (coord axis xa) (coord axis yb) (coord axis ya) else betw (coord axis xp) (coord axis xa) (coord axis xb) (coord axis ya) (coord axis yb) := by
  unfold between betw
  simp only [getD_of hp, getD_of ha, getD_of hb]
  by_cases h : coord axis xb < coord axis xa
  · simp only [h, if_true, getD_of ha, getD_of hb, getD_of ha', getD_of hb']
  · simp only [h, if_false, getD_of ha, getD_of hb, getD_of ha', getD_of hb']
theorem coord_k {_s : St} {l : List (Int × Int)} {i : Nat} {x : Int × Int} (h : ∀ p ∈ l, K32 p.1 ∧ K32 p.2) (hx : l[i]? = some x) (axis : Int) : -2147483648 ≤ coord axis x ∧ coord axis x ≤ 2147483647 := by
  have := h x (List.mem_of_getElem? hx)
  unfold coord
  split
  · exact this.2
  · exact this.1
theorem Mc.moved_eq {org cur : List (Int × Int)} {axis : Int} {p a b : Nat} {y : Int × Int} (hy : cur[p]? = some y) : moved org axis cur p a b = cur.set p (to_ axis y (w64 (between org cur axis p a b))) := by
  unfold moved
  rw [getD_of hy]
structure Bt (w : World) (mb : Nat) (O : Nat → Prop) (L : Lay) (s : St) (axis : Int) (W : World) : Prop where
  ma : MaL W mb O L s
  k1 : W.cell? ⟨w.heap.size, 0, none⟩ = some (.pointer (some ⟨mb, 0, none⟩))
  k2 : W.cell? ⟨w.heap.size + 1, 0, none⟩ = some (.int .i64 axis)
  fr : Fr O w W
theorem Bt.drew {w : World} {mb : Nat} {O : Nat → Prop} {L : Lay} {s : St} {axis : Int} {W : World} (h : Bt w mb O L s axis W) : Bt w mb O L s axis W.drew := ⟨h.ma.drew, h.k1, h.k2, h.fr.drew⟩
end Go.Proofs.YtnhebmgibiomnaaGreat
namespace Go.Proofs.YtnhebmgibiomnaaGreat
open Go.RowKit Mc
set_option maxHeartbeats 1000000 in
theorem swas_any (w : World) (sb : Nat) (L : SLay) (s : Sr.St) (h : SrL w sb L s) (b1 b2 : Nat) (axis : Int) (hax : 0 ≤ axis ∧ axis ≤ 1) (k1 : w.cell? ⟨b1, 0, none⟩ = some (.pointer (some ⟨sb, 0, none⟩))) (k2 : w.cell? ⟨b2, 0, none⟩ = some (.int .i64 axis)) (p : Nat) (x : Int × Int) (hx : s.m.org[p]? = some x) :
    Calls Tryz.prog 258 #[.int .i64 p, .pointer (some ⟨b1, 0, none⟩), .pointer (some ⟨b2, 0, none⟩)] w fun e w' => e = .returned (.int .i64 (coord axis x)) ∧ w.drew = w' := by
  have hp := (List.getElem?_eq_some_iff.1 hx).1
  have hcl : s.m.org.length ≤ 1000000 := by have := h.ok.m.curl; have := h.ok.m.orgl; omega
  obtain ⟨g, c, hv, hc1, _, hgl, hcells⟩ := owns_at h.og (by omega)
  have d0 := hcells _ _ (pts_coord hx axis)
  have cc := h.c64
  rw [hv] at cc
  clear h hx hv hcells
  generalize hd : (if axis = 1 then 1 else 0 : Nat) = d at d0
  have HD := Lib.hid hd
  clear hd
  go_enter Tryz.func258, Tryz.ntmps258
  go_wp2_with fail
  have hS : w.drew.cell? ⟨b1, 0, none⟩ = some (.pointer (some ⟨sb, 0, none⟩)) ∧ w.drew.cell? ⟨sb, 64, none⟩ = some (.slice (some ⟨g, 0, none⟩) s.m.org.length c) ∧ w.drew.cell? ⟨b2, 0, none⟩ = some (.int .i64 axis) ∧ w.drew.cell? ⟨g, p * 2 + d, none⟩ = some (.int .i64 (coord axis x)) := ⟨k1, cc, k2, d0⟩
  refine wp_region_seqT (fun i => !([8] : List Nat).contains i) (fun i => ([0, 4, 7, 10] : List Nat).contains i) (fun i => ([] : List Nat).contains i) [0, 1, 2, 3, 4, 5, 6, 7, 8, 9, 10, 11] (fun wq : World => wq.cell? ⟨b1, 0, none⟩ = some (.pointer (some ⟨sb, 0, none⟩)) ∧ wq.cell? ⟨sb, 64, none⟩ = some (.slice (some ⟨g, 0, none⟩) s.m.org.length c) ∧ wq.cell? ⟨b2, 0, none⟩ = some (.int .i64 axis) ∧ wq.cell? ⟨g, p * 2 + d, none⟩ = some (.int .i64 (coord axis x))) (by kernel_rfl) (by kernel_rfl) (by kernel_rfl) (by kernel_rfl) ?_
  iterate 8 (first | refine wpSeq_pureA (v := _) rfl rfl rfl ?_ | refine wpSeq_loadA (v := _) rfl rfl hS rfl ?_)
  refine wpSeq_heavy rfl rfl (fun K hK => ?_); go_simp
  refine (scoord_any _ _ _ _ hax.1 hax.2).mono ?_
  rintro e w5 ⟨rfl, rfl⟩
  rw [HD.out]
  dsimp only
  refine hK _ _ (fun _ => hS) ?_; clear hK K
  iterate 3 (first | refine wpSeq_pureA (v := _) rfl rfl rfl ?_ | refine wpSeq_loadA (v := _) rfl rfl hS rfl ?_)
  refine wpSeq_end ?_
  go_wp2
  go_ret
  exact ⟨rfl, rfl⟩
set_option maxHeartbeats 1000000 in
theorem sis_any (w : World) (sb : Nat) (L : SLay) (s : Sr.St) (h : SrL w sb L s) (b1 b2 : Nat) (axis : Int) (hax : 0 ≤ axis ∧ axis ≤ 1) (k1 : w.cell? ⟨b1, 0, none⟩ = some (.pointer (some ⟨sb, 0, none⟩))) (k2 : w.cell? ⟨b2, 0, none⟩ = some (.int .i64 axis)) (p : Nat) (x : Int × Int) (hx : s.m.cur[p]? = some x) :
    Calls Tryz.prog 259 #[.int .i64 p, .pointer (some ⟨b1, 0, none⟩), .pointer (some ⟨b2, 0, none⟩)] w fun e w' => e = .returned (.int .i64 (coord axis x)) ∧ w.drew = w' := by
  have hp := (List.getElem?_eq_some_iff.1 hx).1
  have hcl : s.m.cur.length ≤ 1000000 := by have := h.ok.m.curl; have := h.ok.m.orgl; omega
  obtain ⟨g, c, hv, hc1, _, hgl, hcells⟩ := owns_at h.cu (by omega)
  have d0 := hcells _ _ (pts_coord hx axis)
  have cc := h.c65
  rw [hv] at cc
  clear h hx hv hcells
  generalize hd : (if axis = 1 then 1 else 0 : Nat) = d at d0
  have HD := Lib.hid hd
  clear hd
  go_enter Tryz.func259, Tryz.ntmps259
  go_wp2_with fail
  have hS : w.drew.cell? ⟨b1, 0, none⟩ = some (.pointer (some ⟨sb, 0, none⟩)) ∧ w.drew.cell? ⟨sb, 65, none⟩ = some (.slice (some ⟨g, 0, none⟩) s.m.cur.length c) ∧ w.drew.cell? ⟨b2, 0, none⟩ = some (.int .i64 axis) ∧ w.drew.cell? ⟨g, p * 2 + d, none⟩ = some (.int .i64 (coord axis x)) := ⟨k1, cc, k2, d0⟩
  refine wp_region_seqT (fun i => !([8] : List Nat).contains i) (fun i => ([0, 4, 7, 10] : List Nat).contains i) (fun i => ([] : List Nat).contains i) [0, 1, 2, 3, 4, 5, 6, 7, 8, 9, 10, 11] (fun wq : World => wq.cell? ⟨b1, 0, none⟩ = some (.pointer (some ⟨sb, 0, none⟩)) ∧ wq.cell? ⟨sb, 65, none⟩ = some (.slice (some ⟨g, 0, none⟩) s.m.cur.length c) ∧ wq.cell? ⟨b2, 0, none⟩ = some (.int .i64 axis) ∧ wq.cell? ⟨g, p * 2 + d, none⟩ = some (.int .i64 (coord axis x))) (by kernel_rfl) (by kernel_rfl) (by kernel_rfl) (by kernel_rfl) ?_
  iterate 8 (first | refine wpSeq_pureA (v := _) rfl rfl rfl ?_ | refine wpSeq_loadA (v := _) rfl rfl hS rfl ?_)
  refine wpSeq_heavy rfl rfl (fun K hK => ?_); go_simp
  refine (scoord_any _ _ _ _ hax.1 hax.2).mono ?_
  rintro e w5 ⟨rfl, rfl⟩
  rw [HD.out]
  dsimp only
  refine hK _ _ (fun _ => hS) ?_; clear hK K
  iterate 3 (first | refine wpSeq_pureA (v := _) rfl rfl rfl ?_ | refine wpSeq_loadA (v := _) rfl rfl hS rfl ?_)
  refine wpSeq_end ?_
  go_wp2
  go_ret
  exact ⟨rfl, rfl⟩
structure SBt (w : World) (sb : Nat) (L : SLay) (s : Sr.St) (axis : Int) (W : World) : Prop where
  ma : SrL W sb L s
  k1 : W.cell? ⟨w.heap.size, 0, none⟩ = some (.pointer (some ⟨sb, 0, none⟩))
  k2 : W.cell? ⟨w.heap.size + 1, 0, none⟩ = some (.int .i64 axis)
  fr : Fr (SrS L sb) w W
  ax : 0 ≤ axis ∧ axis ≤ 1
section
variable {w : World} {sb : Nat} {L : SLay} {s : Sr.St} {axis : Int} {W : World}
theorem SBt.drew (h : SBt w sb L s axis W) : SBt w sb L s axis W.drew := ⟨h.ma.drew, h.k1, h.k2, h.fr.drew, h.ax⟩
theorem swasB (h : SBt w sb L s axis W) {p : Nat} {x : Int × Int} (hx : s.m.org[p]? = some x) {v : Int} (hv : coord axis x = v) :
    Calls Tryz.prog 258 #[.int .i64 p, .pointer (some ⟨w.heap.size, 0, none⟩), .pointer (some ⟨w.heap.size + 1, 0, none⟩)] W fun e w' => e = .returned (.int .i64 v) ∧ SBt w sb L s axis w' :=
  (swas_any W sb L s h.ma _ _ axis h.ax h.k1 h.k2 p x hx).mono fun e w' hh => ⟨by rw [hh.1, hv], by rw [← hh.2]; exact h.drew⟩
theorem sisB (h : SBt w sb L s axis W) {p : Nat} {x : Int × Int} (hx : s.m.cur[p]? = some x) {v : Int} (hv : coord axis x = v) :
    Calls Tryz.prog 259 #[.int .i64 p, .pointer (some ⟨w.heap.size, 0, none⟩), .pointer (some ⟨w.heap.size + 1, 0, none⟩)] W fun e w' => e = .returned (.int .i64 v) ∧ SBt w sb L s axis w' :=
  (sis_any W sb L s h.ma _ _ axis h.ax h.k1 h.k2 p x hx).mono fun e w' hh => ⟨by rw [hh.1, hv], by rw [← hh.2]; exact h.drew⟩
end
set_option maxRecDepth 100000 in
set_option maxHeartbeats 8000000 in
theorem sbetween_any (w : World) (sb : Nat) (L : SLay) (s : Sr.St) (h : SrL w sb L s) (axis : Int) (hax : 0 ≤ axis ∧ axis ≤ 1) (p a b : Nat) (xp xa xb yp ya yb : Int × Int)
    (hxp : s.m.org[p]? = some xp) (hxa : s.m.org[a]? = some xa) (hxb : s.m.org[b]? = some xb) (hyp : s.m.cur[p]? = some yp) (hya : s.m.cur[a]? = some ya) (hyb : s.m.cur[b]? = some yb) :
    Calls Tryz.prog 230 #[.pointer (some ⟨sb, 0, none⟩), .int .i64 p, .int .i64 a, .int .i64 b, .int .i64 axis] w (SPost w sb L { s with m := { s.m with cur := moved s.m.org axis s.m.cur p a b } }) := by
  have hpl := (List.getElem?_eq_some_iff.1 hyp).1
  have hcl := h.ok.m.curl
  obtain ⟨g, c, hv, hc1, _, hgl, hcells⟩ := owns_at h.cu (by omega)
  have HB : Hid (SBt w sb L s axis ((w.alloc (.cells #[.pointer (some ⟨sb, 0, none⟩)] 98)).alloc (.cells #[.int .i64 axis] 3))) := Lib.hid ⟨(h.alloc _).alloc _, by rw [World.cell?_alloc_lt _ _ _ (by simp)]; exact (Blk.new w _ _).cell 0, (Blk.new_at _ _ _ (by simp)).cell 0, ((Fr.refl _ w).alloc _).alloc _, hax⟩
  have Hxp := Lib.hid hxp
  have Hxa := Lib.hid hxa
  have Hxb := Lib.hid hxb
  have Hya := Lib.hid hya
  have Hyb := Lib.hid hyb
  have B1 := coord_k (_s := s.m) h.ok.m.org hxp axis
  have B2 := coord_k (_s := s.m) h.ok.m.org hxa axis
  have B3 := coord_k (_s := s.m) h.ok.m.org hxb axis
  have B4 := coord_k (_s := s.m) h.ok.m.cur hya axis
  have B5 := coord_k (_s := s.m) h.ok.m.cur hyb axis
  have HBT := Lib.hid (between_sw (axis := axis) hxp hxa hxb hya hyb)
  have HC : Hid (∀ (W : World), SrL W sb L s → W.cell? ⟨sb, 65, none⟩ = some (.slice (some ⟨g, 0, none⟩) s.m.cur.length c) ∧ (∃ u, W.cell? ⟨g, p * 2 + (if axis = 1 then 1 else 0), none⟩ = some u) ∧ W.frozen? ⟨g, p * 2 + (if axis = 1 then 1 else 0), none⟩ = false) := Lib.hid (fun W hW => by
    refine ⟨by rw [hW.c65, hv], ?_⟩
    obtain ⟨g2, c2, x2, hv2, _, _, _, hc2, hf2⟩ := hW.pt hpl
    rw [hv] at hv2
    injection hv2 with hv2
    injection hv2 with hv2
    injection hv2 with hv2
    subst hv2
    exact ⟨⟨_, hc2 axis⟩, hf2 _⟩)
  have HQ : Hid (∀ (W : World) (u : Int), SrL W sb L s → Fr (SrS L sb) w W → u = k32 (w64 (between s.m.org s.m.cur axis p a b)) → SPost w sb L { s with m := { s.m with cur := moved s.m.org axis s.m.cur p a b } } (.returned (.tuple #[])) (W.setCell ⟨g, p * 2 + (if axis = 1 then 1 else 0), none⟩ (.int .i64 u))) := Lib.hid (fun W u hW hF hu => by
    subst hu
    rw [moved_eq hyp]
    unfold to_
    exact .to (hW.setCu (by rw [hv]; rfl) hyp axis _ (k32_in _) (hW.ok.m.cur _ (List.mem_of_getElem? hyp))) (hF.setCell (.inl (.inr (.inl (by rw [hv]; rfl)))) _))
  clear h hxp hxa hxb hyp hya hyb hv hcells hgl
  generalize hd : (if axis = 1 then 1 else 0 : Nat) = d at *
  have HD := Lib.hid hd
  clear hd
  generalize hwp : coord axis xp = wp at *
  generalize hwa : coord axis xa = wa at *
  generalize hwb : coord axis xb = wb at *
  generalize hia : coord axis ya = ia at *
  generalize hib : coord axis yb = ib at *
  have Ewp := Lib.hid hwp
  have Ewa := Lib.hid hwa
  have Ewb := Lib.hid hwb
  have Eia := Lib.hid hia
  have Eib := Lib.hid hib
  clear hwp hwa hwb hia hib
  by_cases hsw : wb < wa
  · rw [if_pos hsw] at HBT
    by_cases h1 : wp ≤ wb
    · go_enter Tryz.func230, Tryz.ntmps230
      go_wp2_with fail
      refine (swasB HB.out Hxa.out Ewa.out).mono ?_
      rintro e w5 ⟨rfl, hb⟩
      clear HB
      have HB := Lib.hid hb
      clear hb
      go_wp2_with fail
      refine (swasB HB.out Hxb.out Ewb.out).mono ?_
      rintro e w5 ⟨rfl, hb⟩
      clear HB
      have HB := Lib.hid hb
      clear hb
      go_wp2_with fail
      refine (swasB HB.out Hxp.out Ewp.out).mono ?_
      rintro e w5 ⟨rfl, hb⟩
      clear HB
      have HB := Lib.hid hb
      clear hb
      go_wp2_with fail
      refine (swasB HB.out Hxb.out Ewb.out).mono ?_
      rintro e w5 ⟨rfl, hb⟩
      clear HB
      have HB := Lib.hid hb
      clear hb
      go_wp2_with fail
      refine (sisB HB.out Hyb.out Eib.out).mono ?_
      rintro e w5 ⟨rfl, hb⟩
      clear HB
      have HB := Lib.hid hb
      clear hb
      go_wp2_with fail
      refine (swasB HB.out Hxb.out Ewb.out).mono ?_
      rintro e w5 ⟨rfl, hb⟩
      clear HB
      have HB := Lib.hid hb
      clear hb
      go_wp2_with fail
      obtain ⟨c3, ⟨u0, cu⟩, fu⟩ := HC.out w5 HB.out.ma
      have l1 := HB.out.ma.blk.lt
      have hS : w5.drew.cell? ⟨w.heap.size, 0, none⟩ = some (.pointer (some ⟨sb, 0, none⟩)) ∧ w5.drew.cell? ⟨sb, 65, none⟩ = some (.slice (some ⟨g, 0, none⟩) s.m.cur.length c) ∧ w5.drew.cell? ⟨w.heap.size + 1, 0, none⟩ = some (.int .i64 axis) := ⟨HB.out.k1, c3, HB.out.k2⟩
      refine wp_region_seqT (fun i => !([8, 10, 12] : List Nat).contains i) (fun i => ([0, 4, 7] : List Nat).contains i) (fun i => ([] : List Nat).contains i) [0, 1, 2, 3, 4, 5, 6, 7, 9, 8, 10, 11, 12] (fun wq : World => wq.cell? ⟨w.heap.size, 0, none⟩ = some (.pointer (some ⟨sb, 0, none⟩)) ∧ wq.cell? ⟨sb, 65, none⟩ = some (.slice (some ⟨g, 0, none⟩) s.m.cur.length c) ∧ wq.cell? ⟨w.heap.size + 1, 0, none⟩ = some (.int .i64 axis)) (by kernel_rfl) (by kernel_rfl) (by kernel_rfl) (by kernel_rfl) ?_
      iterate 9 (first | refine wpSeq_pureA (v := _) rfl rfl rfl ?_ | refine wpSeq_loadA (v := _) rfl rfl hS rfl ?_)
      refine wpSeq_heavy rfl rfl (fun K hK => ?_); go_simp
      refine (scoord_any _ _ _ _ hax.1 hax.2).mono ?_
      rintro e w6 ⟨rfl, rfl⟩
      rw [HD.out]
      dsimp only
      refine hK _ _ (fun h => by cases h) ?_; clear hK K
      refine wpSeq_heavy rfl rfl (fun K hK => ?_); go_simp
      refine (skept_any _ _).mono ?_
      rintro e w6 ⟨rfl, rfl⟩
      dsimp only
      refine hK _ _ (fun h => by cases h) ?_; clear hK K
      iterate 1 (first | refine wpSeq_pureA (v := _) rfl rfl rfl ?_ | refine wpSeq_loadA (v := _) rfl rfl hS rfl ?_)
      refine wpSeq_heavy rfl rfl (fun K hK => ?_); go_simp
      refine hK _ _ (fun h => by cases h) ?_; clear hK K
      refine wpSeq_end ?_
      go_wp2
      go_end0
      refine HQ.out w5.drew _ HB.out.ma.drew HB.out.fr.drew ?_
      rw [HBT.out]
      rw [betw_a (by omega)]
      exact congrArg k32 (w64_in (by omega) (by omega)).symm
    · by_cases h2 : wa ≤ wp
      · go_enter Tryz.func230, Tryz.ntmps230
        go_wp2_with fail
        refine (swasB HB.out Hxa.out Ewa.out).mono ?_
        rintro e w5 ⟨rfl, hb⟩
        clear HB
        have HB := Lib.hid hb
        clear hb
        go_wp2_with fail
        refine (swasB HB.out Hxb.out Ewb.out).mono ?_
        rintro e w5 ⟨rfl, hb⟩
        clear HB
        have HB := Lib.hid hb
        clear hb
        go_wp2_with fail
        refine (swasB HB.out Hxp.out Ewp.out).mono ?_
        rintro e w5 ⟨rfl, hb⟩
        clear HB
        have HB := Lib.hid hb
        clear hb
        go_wp2_with fail
        refine (swasB HB.out Hxb.out Ewb.out).mono ?_
        rintro e w5 ⟨rfl, hb⟩
        clear HB
        have HB := Lib.hid hb
        clear hb
        go_wp2_with fail
        refine (swasB HB.out Hxa.out Ewa.out).mono ?_
        rintro e w5 ⟨rfl, hb⟩
        clear HB
        have HB := Lib.hid hb
        clear hb
        go_wp2_with fail
        refine (sisB HB.out Hya.out Eia.out).mono ?_
        rintro e w5 ⟨rfl, hb⟩
        clear HB
        have HB := Lib.hid hb
        clear hb
        go_wp2_with fail
        refine (swasB HB.out Hxa.out Ewa.out).mono ?_
        rintro e w5 ⟨rfl, hb⟩
        clear HB
        have HB := Lib.hid hb
        clear hb
        go_wp2_with fail
        obtain ⟨c3, ⟨u0, cu⟩, fu⟩ := HC.out w5 HB.out.ma
        have l1 := HB.out.ma.blk.lt
        have hS : w5.drew.cell? ⟨w.heap.size, 0, none⟩ = some (.pointer (some ⟨sb, 0, none⟩)) ∧ w5.drew.cell? ⟨sb, 65, none⟩ = some (.slice (some ⟨g, 0, none⟩) s.m.cur.length c) ∧ w5.drew.cell? ⟨w.heap.size + 1, 0, none⟩ = some (.int .i64 axis) := ⟨HB.out.k1, c3, HB.out.k2⟩
        refine wp_region_seqT (fun i => !([8, 10, 12] : List Nat).contains i) (fun i => ([0, 4, 7] : List Nat).contains i) (fun i => ([] : List Nat).contains i) [0, 1, 2, 3, 4, 5, 6, 7, 9, 8, 10, 11, 12] (fun wq : World => wq.cell? ⟨w.heap.size, 0, none⟩ = some (.pointer (some ⟨sb, 0, none⟩)) ∧ wq.cell? ⟨sb, 65, none⟩ = some (.slice (some ⟨g, 0, none⟩) s.m.cur.length c) ∧ wq.cell? ⟨w.heap.size + 1, 0, none⟩ = some (.int .i64 axis)) (by kernel_rfl) (by kernel_rfl) (by kernel_rfl) (by kernel_rfl) ?_
        iterate 9 (first | refine wpSeq_pureA (v := _) rfl rfl rfl ?_ | refine wpSeq_loadA (v := _) rfl rfl hS rfl ?_)
        refine wpSeq_heavy rfl rfl (fun K hK => ?_); go_simp
        refine (scoord_any _ _ _ _ hax.1 hax.2).mono ?_
        rintro e w6 ⟨rfl, rfl⟩
        rw [HD.out]
        dsimp only
        refine hK _ _ (fun h => by cases h) ?_; clear hK K
        refine wpSeq_heavy rfl rfl (fun K hK => ?_); go_simp
        refine (skept_any _ _).mono ?_
        rintro e w6 ⟨rfl, rfl⟩
        dsimp only
        refine hK _ _ (fun h => by cases h) ?_; clear hK K
        iterate 1 (first | refine wpSeq_pureA (v := _) rfl rfl rfl ?_ | refine wpSeq_loadA (v := _) rfl rfl hS rfl ?_)
        refine wpSeq_heavy rfl rfl (fun K hK => ?_); go_simp
        refine hK _ _ (fun h => by cases h) ?_; clear hK K
        refine wpSeq_end ?_
        go_wp2
        go_end0
        refine HQ.out w5.drew _ HB.out.ma.drew HB.out.fr.drew ?_
        rw [HBT.out]
        rw [betw_b (by omega) (by omega)]
        exact congrArg k32 (w64_in (by omega) (by omega)).symm
      · go_enter Tryz.func230, Tryz.ntmps230
        go_wp2_with fail
        refine (swasB HB.out Hxa.out Ewa.out).mono ?_
        rintro e w5 ⟨rfl, hb⟩
        clear HB
        have HB := Lib.hid hb
        clear hb
        go_wp2_with fail
        refine (swasB HB.out Hxb.out Ewb.out).mono ?_
        rintro e w5 ⟨rfl, hb⟩
        clear HB
        have HB := Lib.hid hb
        clear hb
        go_wp2_with fail
        refine (swasB HB.out Hxp.out Ewp.out).mono ?_
        rintro e w5 ⟨rfl, hb⟩
        clear HB
        have HB := Lib.hid hb
        clear hb
        go_wp2_with fail
        refine (swasB HB.out Hxb.out Ewb.out).mono ?_
        rintro e w5 ⟨rfl, hb⟩
        clear HB
        have HB := Lib.hid hb
        clear hb
        go_wp2_with fail
        refine (swasB HB.out Hxa.out Ewa.out).mono ?_
        rintro e w5 ⟨rfl, hb⟩
        clear HB
        have HB := Lib.hid hb
        clear hb
        go_wp2_with fail
        refine (swasB HB.out Hxa.out Ewa.out).mono ?_
        rintro e w5 ⟨rfl, hb⟩
        clear HB
        have HB := Lib.hid hb
        clear hb
        go_wp2_with fail
        refine (swasB HB.out Hxb.out Ewb.out).mono ?_
        rintro e w5 ⟨rfl, hb⟩
        clear HB
        have HB := Lib.hid hb
        clear hb
        go_wp2_with fail
        refine (sisB HB.out Hyb.out Eib.out).mono ?_
        rintro e w5 ⟨rfl, hb⟩
        clear HB
        have HB := Lib.hid hb
        clear hb
        go_wp2_with fail
        refine (swasB HB.out Hxb.out Ewb.out).mono ?_
        rintro e w5 ⟨rfl, hb⟩
        clear HB
        have HB := Lib.hid hb
        clear hb
        go_wp2_with fail
        refine (sisB HB.out Hya.out Eia.out).mono ?_
        rintro e w5 ⟨rfl, hb⟩
        clear HB
        have HB := Lib.hid hb
        clear hb
        go_wp2_with fail
        refine (sisB HB.out Hyb.out Eib.out).mono ?_
        rintro e w5 ⟨rfl, hb⟩
        clear HB
        have HB := Lib.hid hb
        clear hb
        go_wp2_with fail
        refine (sdivided_any _ _ _).mono ?_
        rintro e w6 ⟨rfl, rfl⟩
        go_wp2_with fail
        obtain ⟨c3, ⟨u0, cu⟩, fu⟩ := HC.out w5 HB.out.ma
        have l1 := HB.out.ma.blk.lt
        have hS : w5.drew.cell? ⟨w.heap.size, 0, none⟩ = some (.pointer (some ⟨sb, 0, none⟩)) ∧ w5.drew.cell? ⟨sb, 65, none⟩ = some (.slice (some ⟨g, 0, none⟩) s.m.cur.length c) ∧ w5.drew.cell? ⟨w.heap.size + 1, 0, none⟩ = some (.int .i64 axis) := ⟨HB.out.k1, c3, HB.out.k2⟩
        refine wp_region_seqT (fun i => !([8, 10, 12] : List Nat).contains i) (fun i => ([0, 4, 7] : List Nat).contains i) (fun i => ([] : List Nat).contains i) [0, 1, 2, 3, 4, 5, 6, 7, 9, 8, 10, 11, 12] (fun wq : World => wq.cell? ⟨w.heap.size, 0, none⟩ = some (.pointer (some ⟨sb, 0, none⟩)) ∧ wq.cell? ⟨sb, 65, none⟩ = some (.slice (some ⟨g, 0, none⟩) s.m.cur.length c) ∧ wq.cell? ⟨w.heap.size + 1, 0, none⟩ = some (.int .i64 axis)) (by kernel_rfl) (by kernel_rfl) (by kernel_rfl) (by kernel_rfl) ?_
        iterate 9 (first | refine wpSeq_pureA (v := _) rfl rfl rfl ?_ | refine wpSeq_loadA (v := _) rfl rfl hS rfl ?_)
        refine wpSeq_heavy rfl rfl (fun K hK => ?_); go_simp
        refine (scoord_any _ _ _ _ hax.1 hax.2).mono ?_
        rintro e w6 ⟨rfl, rfl⟩
        rw [HD.out]
        dsimp only
        refine hK _ _ (fun h => by cases h) ?_; clear hK K
        refine wpSeq_heavy rfl rfl (fun K hK => ?_); go_simp
        refine (skept_any _ _).mono ?_
        rintro e w6 ⟨rfl, rfl⟩
        dsimp only
        refine hK _ _ (fun h => by cases h) ?_; clear hK K
        iterate 1 (first | refine wpSeq_pureA (v := _) rfl rfl rfl ?_ | refine wpSeq_loadA (v := _) rfl rfl hS rfl ?_)
        refine wpSeq_heavy rfl rfl (fun K hK => ?_); go_simp
        refine hK _ _ (fun h => by cases h) ?_; clear hK K
        refine wpSeq_end ?_
        go_wp2
        go_end0
        refine HQ.out w5.drew _ HB.out.ma.drew HB.out.fr.drew ?_
        rw [HBT.out]
        rw [betw_c (by omega) (by omega), ← w64_add]
        simp only [w64_wrap]
  · rw [if_neg hsw] at HBT
    by_cases h1 : wp ≤ wa
    · go_enter Tryz.func230, Tryz.ntmps230
      go_wp2_with fail
      refine (swasB HB.out Hxa.out Ewa.out).mono ?_
      rintro e w5 ⟨rfl, hb⟩
      clear HB
      have HB := Lib.hid hb
      clear hb
      go_wp2_with fail
      refine (swasB HB.out Hxb.out Ewb.out).mono ?_
      rintro e w5 ⟨rfl, hb⟩
      clear HB
      have HB := Lib.hid hb
      clear hb
      go_wp2_with fail
      refine (swasB HB.out Hxp.out Ewp.out).mono ?_
      rintro e w5 ⟨rfl, hb⟩
      clear HB
      have HB := Lib.hid hb
      clear hb
      go_wp2_with fail
      refine (swasB HB.out Hxa.out Ewa.out).mono ?_
      rintro e w5 ⟨rfl, hb⟩
      clear HB
      have HB := Lib.hid hb
      clear hb
      go_wp2_with fail
      refine (sisB HB.out Hya.out Eia.out).mono ?_
      rintro e w5 ⟨rfl, hb⟩
      clear HB
      have HB := Lib.hid hb
      clear hb
      go_wp2_with fail
      refine (swasB HB.out Hxa.out Ewa.out).mono ?_
      rintro e w5 ⟨rfl, hb⟩
      clear HB
      have HB := Lib.hid hb
      clear hb
      go_wp2_with fail
      obtain ⟨c3, ⟨u0, cu⟩, fu⟩ := HC.out w5 HB.out.ma
      have l1 := HB.out.ma.blk.lt
      have hS : w5.drew.cell? ⟨w.heap.size, 0, none⟩ = some (.pointer (some ⟨sb, 0, none⟩)) ∧ w5.drew.cell? ⟨sb, 65, none⟩ = some (.slice (some ⟨g, 0, none⟩) s.m.cur.length c) ∧ w5.drew.cell? ⟨w.heap.size + 1, 0, none⟩ = some (.int .i64 axis) := ⟨HB.out.k1, c3, HB.out.k2⟩
      refine wp_region_seqT (fun i => !([8, 10, 12] : List Nat).contains i) (fun i => ([0, 4, 7] : List Nat).contains i) (fun i => ([] : List Nat).contains i) [0, 1, 2, 3, 4, 5, 6, 7, 9, 8, 10, 11, 12] (fun wq : World => wq.cell? ⟨w.heap.size, 0, none⟩ = some (.pointer (some ⟨sb, 0, none⟩)) ∧ wq.cell? ⟨sb, 65, none⟩ = some (.slice (some ⟨g, 0, none⟩) s.m.cur.length c) ∧ wq.cell? ⟨w.heap.size + 1, 0, none⟩ = some (.int .i64 axis)) (by kernel_rfl) (by kernel_rfl) (by kernel_rfl) (by kernel_rfl) ?_
      iterate 9 (first | refine wpSeq_pureA (v := _) rfl rfl rfl ?_ | refine wpSeq_loadA (v := _) rfl rfl hS rfl ?_)
      refine wpSeq_heavy rfl rfl (fun K hK => ?_); go_simp
      refine (scoord_any _ _ _ _ hax.1 hax.2).mono ?_
      rintro e w6 ⟨rfl, rfl⟩
      rw [HD.out]
      dsimp only
      refine hK _ _ (fun h => by cases h) ?_; clear hK K
      refine wpSeq_heavy rfl rfl (fun K hK => ?_); go_simp
      refine (skept_any _ _).mono ?_
      rintro e w6 ⟨rfl, rfl⟩
      dsimp only
      refine hK _ _ (fun h => by cases h) ?_; clear hK K
      iterate 1 (first | refine wpSeq_pureA (v := _) rfl rfl rfl ?_ | refine wpSeq_loadA (v := _) rfl rfl hS rfl ?_)
      refine wpSeq_heavy rfl rfl (fun K hK => ?_); go_simp
      refine hK _ _ (fun h => by cases h) ?_; clear hK K
      refine wpSeq_end ?_
      go_wp2
      go_end0
      refine HQ.out w5.drew _ HB.out.ma.drew HB.out.fr.drew ?_
      rw [HBT.out]
      rw [betw_a (by omega)]
      exact congrArg k32 (w64_in (by omega) (by omega)).symm
    · by_cases h2 : wb ≤ wp
      · go_enter Tryz.func230, Tryz.ntmps230
        go_wp2_with fail
        refine (swasB HB.out Hxa.out Ewa.out).mono ?_
        rintro e w5 ⟨rfl, hb⟩
        clear HB
        have HB := Lib.hid hb
        clear hb
        go_wp2_with fail
        refine (swasB HB.out Hxb.out Ewb.out).mono ?_
        rintro e w5 ⟨rfl, hb⟩
        clear HB
        have HB := Lib.hid hb
        clear hb
        go_wp2_with fail
        refine (swasB HB.out Hxp.out Ewp.out).mono ?_
        rintro e w5 ⟨rfl, hb⟩
        clear HB
        have HB := Lib.hid hb
        clear hb
        go_wp2_with fail
        refine (swasB HB.out Hxa.out Ewa.out).mono ?_
        rintro e w5 ⟨rfl, hb⟩
        clear HB
        have HB := Lib.hid hb
        clear hb
        go_wp2_with fail
        refine (swasB HB.out Hxb.out Ewb.out).mono ?_
        rintro e w5 ⟨rfl, hb⟩
        clear HB
        have HB := Lib.hid hb
        clear hb
        go_wp2_with fail
        refine (sisB HB.out Hyb.out Eib.out).mono ?_
        rintro e w5 ⟨rfl, hb⟩
        clear HB
        have HB := Lib.hid hb
        clear hb
        go_wp2_with fail
        refine (swasB HB.out Hxb.out Ewb.out).mono ?_
        rintro e w5 ⟨rfl, hb⟩
        clear HB
        have HB := Lib.hid hb
        clear hb
        go_wp2_with fail
        obtain ⟨c3, ⟨u0, cu⟩, fu⟩ := HC.out w5 HB.out.ma
        have l1 := HB.out.ma.blk.lt
        have hS : w5.drew.cell? ⟨w.heap.size, 0, none⟩ = some (.pointer (some ⟨sb, 0, none⟩)) ∧ w5.drew.cell? ⟨sb, 65, none⟩ = some (.slice (some ⟨g, 0, none⟩) s.m.cur.length c) ∧ w5.drew.cell? ⟨w.heap.size + 1, 0, none⟩ = some (.int .i64 axis) := ⟨HB.out.k1, c3, HB.out.k2⟩
        refine wp_region_seqT (fun i => !([8, 10, 12] : List Nat).contains i) (fun i => ([0, 4, 7] : List Nat).contains i) (fun i => ([] : List Nat).contains i) [0, 1, 2, 3, 4, 5, 6, 7, 9, 8, 10, 11, 12] (fun wq : World => wq.cell? ⟨w.heap.size, 0, none⟩ = some (.pointer (some ⟨sb, 0, none⟩)) ∧ wq.cell? ⟨sb, 65, none⟩ = some (.slice (some ⟨g, 0, none⟩) s.m.cur.length c) ∧ wq.cell? ⟨w.heap.size + 1, 0, none⟩ = some (.int .i64 axis)) (by kernel_rfl) (by kernel_rfl) (by kernel_rfl) (by kernel_rfl) ?_
        iterate 9 (first | refine wpSeq_pureA (v := _) rfl rfl rfl ?_ | refine wpSeq_loadA (v := _) rfl rfl hS rfl ?_)
        refine wpSeq_heavy rfl rfl (fun K hK => ?_); go_simp
        refine (scoord_any _ _ _ _ hax.1 hax.2).mono ?_
        rintro e w6 ⟨rfl, rfl⟩
        rw [HD.out]
        dsimp only
        refine hK _ _ (fun h => by cases h) ?_; clear hK K
        refine wpSeq_heavy rfl rfl (fun K hK => ?_); go_simp
        refine (skept_any _ _).mono ?_
        rintro e w6 ⟨rfl, rfl⟩
        dsimp only
        refine hK _ _ (fun h => by cases h) ?_; clear hK K
        iterate 1 (first | refine wpSeq_pureA (v := _) rfl rfl rfl ?_ | refine wpSeq_loadA (v := _) rfl rfl hS rfl ?_)
        refine wpSeq_heavy rfl rfl (fun K hK => ?_); go_simp
        refine hK _ _ (fun h => by cases h) ?_; clear hK K
        refine wpSeq_end ?_
        go_wp2
        go_end0
        refine HQ.out w5.drew _ HB.out.ma.drew HB.out.fr.drew ?_
        rw [HBT.out]
        rw [betw_b (by omega) (by omega)]
        exact congrArg k32 (w64_in (by omega) (by omega)).symm
      · go_enter Tryz.func230, Tryz.ntmps230
        go_wp2_with fail
        refine (swasB HB.out Hxa.out Ewa.out).mono ?_
        rintro e w5 ⟨rfl, hb⟩
        clear HB
        have HB := Lib.hid hb
        clear hb
        go_wp2_with fail
        refine (swasB HB.out Hxb.out Ewb.out).mono ?_
        rintro e w5 ⟨rfl, hb⟩
        clear HB
        have HB := Lib.hid hb
        clear hb
        go_wp2_with fail
        refine (swasB HB.out Hxp.out Ewp.out).mono ?_
        rintro e w5 ⟨rfl, hb⟩
        clear HB
        have HB := Lib.hid hb
        clear hb
        go_wp2_with fail
        refine (swasB HB.out Hxa.out Ewa.out).mono ?_
        rintro e w5 ⟨rfl, hb⟩
        clear HB
        have HB := Lib.hid hb
        clear hb
        go_wp2_with fail
        refine (swasB HB.out Hxb.out Ewb.out).mono ?_
        rintro e w5 ⟨rfl, hb⟩
        clear HB
        have HB := Lib.hid hb
        clear hb
        go_wp2_with fail
        refine (swasB HB.out Hxb.out Ewb.out).mono ?_
        rintro e w5 ⟨rfl, hb⟩
        clear HB
        have HB := Lib.hid hb
        clear hb
        go_wp2_with fail
        refine (swasB HB.out Hxa.out Ewa.out).mono ?_
        rintro e w5 ⟨rfl, hb⟩
        clear HB
        have HB := Lib.hid hb
        clear hb
        go_wp2_with fail
        refine (sisB HB.out Hya.out Eia.out).mono ?_
        rintro e w5 ⟨rfl, hb⟩
        clear HB
        have HB := Lib.hid hb
        clear hb
        go_wp2_with fail
        refine (swasB HB.out Hxa.out Ewa.out).mono ?_
        rintro e w5 ⟨rfl, hb⟩
        clear HB
        have HB := Lib.hid hb
        clear hb
        go_wp2_with fail
        refine (sisB HB.out Hyb.out Eib.out).mono ?_
        rintro e w5 ⟨rfl, hb⟩
        clear HB
        have HB := Lib.hid hb
        clear hb
        go_wp2_with fail
        refine (sisB HB.out Hya.out Eia.out).mono ?_
        rintro e w5 ⟨rfl, hb⟩
        clear HB
        have HB := Lib.hid hb
        clear hb
        go_wp2_with fail
        refine (sdivided_any _ _ _).mono ?_
        rintro e w6 ⟨rfl, rfl⟩
        go_wp2_with fail
        obtain ⟨c3, ⟨u0, cu⟩, fu⟩ := HC.out w5 HB.out.ma
        have l1 := HB.out.ma.blk.lt
        have hS : w5.drew.cell? ⟨w.heap.size, 0, none⟩ = some (.pointer (some ⟨sb, 0, none⟩)) ∧ w5.drew.cell? ⟨sb, 65, none⟩ = some (.slice (some ⟨g, 0, none⟩) s.m.cur.length c) ∧ w5.drew.cell? ⟨w.heap.size + 1, 0, none⟩ = some (.int .i64 axis) := ⟨HB.out.k1, c3, HB.out.k2⟩
        refine wp_region_seqT (fun i => !([8, 10, 12] : List Nat).contains i) (fun i => ([0, 4, 7] : List Nat).contains i) (fun i => ([] : List Nat).contains i) [0, 1, 2, 3, 4, 5, 6, 7, 9, 8, 10, 11, 12] (fun wq : World => wq.cell? ⟨w.heap.size, 0, none⟩ = some (.pointer (some ⟨sb, 0, none⟩)) ∧ wq.cell? ⟨sb, 65, none⟩ = some (.slice (some ⟨g, 0, none⟩) s.m.cur.length c) ∧ wq.cell? ⟨w.heap.size + 1, 0, none⟩ = some (.int .i64 axis)) (by kernel_rfl) (by kernel_rfl) (by kernel_rfl) (by kernel_rfl) ?_
        iterate 9 (first | refine wpSeq_pureA (v := _) rfl rfl rfl ?_ | refine wpSeq_loadA (v := _) rfl rfl hS rfl ?_)
        refine wpSeq_heavy rfl rfl (fun K hK => ?_); go_simp
        refine (scoord_any _ _ _ _ hax.1 hax.2).mono ?_
        rintro e w6 ⟨rfl, rfl⟩
        rw [HD.out]
        dsimp only
        refine hK _ _ (fun h => by cases h) ?_; clear hK K
        refine wpSeq_heavy rfl rfl (fun K hK => ?_); go_simp
        refine (skept_any _ _).mono ?_
        rintro e w6 ⟨rfl, rfl⟩
        dsimp only
        refine hK _ _ (fun h => by cases h) ?_; clear hK K
        iterate 1 (first | refine wpSeq_pureA (v := _) rfl rfl rfl ?_ | refine wpSeq_loadA (v := _) rfl rfl hS rfl ?_)
        refine wpSeq_heavy rfl rfl (fun K hK => ?_); go_simp
        refine hK _ _ (fun h => by cases h) ?_; clear hK K
        refine wpSeq_end ?_
        go_wp2
        go_end0
        refine HQ.out w5.drew _ HB.out.ma.drew HB.out.fr.drew ?_
        rw [HBT.out]
        rw [betw_c (by omega) (by omega), ← w64_add]
        simp only [w64_wrap]
end Go.Proofs.YtnhebmgibiomnaaGreat
namespace Go.Proofs.YtnhebmgibiomnaaGreat
open Go.RowKit Mc
def fx (touch : List Int) (axis : Int) (a n : Nat) : List Nat := ((List.range n).map (· + a)).filter fun p => bit axis (touch.getD p 0)
theorem fx_succ (touch : List Int) (axis : Int) (a n : Nat) : fx touch axis a (n + 1) = fx touch axis a n ++ (if bit axis (touch.getD (n + a) 0) then [n + a] else []) := by
  unfold fx
  rw [List.range_succ, List.map_append, List.filter_append]
  simp only [List.map_cons, List.map_nil, List.filter_cons, List.filter_nil]
theorem fx_mem {touch : List Int} {axis : Int} {a n p : Nat} (h : p ∈ fx touch axis a n) : a ≤ p ∧ p < a + n := by
  unfold fx at h
  obtain ⟨h1, _⟩ := List.mem_filter.1 h
  obtain ⟨x, hx, rfl⟩ := List.mem_map.1 h1
  have := List.mem_range.1 hx
  omega
theorem fx_len (touch : List Int) (axis : Int) (a n : Nat) : (fx touch axis a n).length ≤ n := by
  unfold fx
  refine Nat.le_trans (List.length_filter_le _ _) (by simp)
theorem bits_bit {axis t : Int} (ha : 0 ≤ axis ∧ axis ≤ 1) (ht : 0 ≤ t ∧ t ≤ 3) : (bits BinOp.and IntKind.i64 t (axis + 1) != 0) = bit axis t := by
  obtain ⟨h1, h2⟩ := ha
  obtain ⟨h3, h4⟩ := ht
  have e1 : axis = 0 ∨ axis = 1 := by omega
  have e2 : t = 0 ∨ t = 1 ∨ t = 2 ∨ t = 3 := by omega
  rcases e1 with rfl | rfl <;> rcases e2 with rfl | rfl | rfl | rfl <;> rfl
def dist (c : Nat × Nat) (b p : Nat) : Nat := if p ≤ b then b - p else c.2 + 1 - p + (b - c.1)
theorem dist_step {c : Nat × Nat} {b p : Nat} (hc : c.1 ≤ c.2) (h1 : c.1 ≤ p) (h2 : p ≤ c.2) (h3 : c.1 ≤ b) (h4 : b ≤ c.2) (h : p ≠ b) : dist c b (behind c p) + 1 = dist c b p ∧ c.1 ≤ behind c p ∧ behind c p ≤ c.2 := by
  unfold dist behind
  repeat' split
  all_goals omega
theorem dist_le {c : Nat × Nat} {b p : Nat} (h1 : c.1 ≤ p) (h2 : p ≤ c.2) (h3 : c.1 ≤ b) (h4 : b ≤ c.2) : dist c b p ≤ c.2 + 1 - c.1 := by
  unfold dist
  split <;> omega
theorem seg_end (org : List (Int × Int)) (axis : Int) (c : Nat × Nat) (a b n : Nat) (cur : List (Int × Int)) : seg org axis c a b n b cur = cur := by
  cases n with
  | zero => rfl
  | succ n => unfold seg; rw [if_pos rfl]
theorem seg_step {org : List (Int × Int)} {axis : Int} {c : Nat × Nat} {a b n p : Nat} {cur : List (Int × Int)} (h : p ≠ b) : seg org axis c a b (n + 1) p cur = seg org axis c a b n (behind c p) (moved org axis cur p a b) := by
  conv => lhs; unfold seg
  rw [if_neg h]
def segs (org : List (Int × Int)) (l : List Nat) (axis : Int) (c : Nat × Nat) (cur : List (Int × Int)) (k : Nat) : List (Int × Int) :=
  (List.range k).foldl (fun cur i => let a := l.getD i 0; seg org axis c a (l.getD ((i + 1) % l.length) 0) (c.2 + 1 - c.1) (behind c a) cur) cur
theorem segs_succ {org : List (Int × Int)} {l : List Nat} {axis : Int} {c : Nat × Nat} {cur : List (Int × Int)} {k a b : Nat} (ha : l[k]? = some a) (hb : l[(k + 1) % l.length]? = some b) :
    segs org l axis c cur (k + 1) = seg org axis c a b (c.2 + 1 - c.1) (behind c a) (segs org l axis c cur k) := by
  unfold segs
  rw [List.range_succ, List.foldl_append]
  simp only [List.foldl_cons, List.foldl_nil]
  rw [getD_of ha, getD_of hb]
theorem contour_eq (org : List (Int × Int)) (touch : List Int) (axis : Int) (cur : List (Int × Int)) (c : Nat × Nat) : contour org touch axis cur c = segs org (fx touch axis c.1 (c.2 + 1 - c.1)) axis c cur (fx touch axis c.1 (c.2 + 1 - c.1)).length := rfl
theorem OwnAt.ints {t : TypeId} {base : Nat} {w : World} {v : Value} {l : List Int} (h : OwnAt (Repr.int (N0 := 0)) t base w v l) :
    ∃ g A c, v = .slice A l.length c ∧ l.length ≤ c ∧ base ≤ g ∧ ∀ (i : Nat) x, l[i]? = some x → A = some ⟨g, 0, none⟩ ∧ g < w.heap.size ∧ w.cell? ⟨g, i, none⟩ = some (.int .i64 x) := by
  obtain ⟨A, c, rfl, hc, _, hrow⟩ := h.form
  cases hl : l with
  | nil => subst hl; exact ⟨base, A, c, rfl, hc, Nat.le_refl _, fun i x hx => by simp at hx⟩
  | cons y r =>
    obtain ⟨css, ho, _⟩ := h
    rcases ho.2 with ⟨_, h0⟩ | ⟨g, cap, cur, h0, hg, hh, _⟩
    · rw [hl] at h0; simp at h0
    · injection h0 with h1 _ _
      subst h1
      refine ⟨g, _, c, by rw [← hl], by rw [← hl]; exact hc, hg, fun i x hx => ?_⟩
      rw [← hl] at hx
      obtain ⟨b, off, cs, e, _, hr, hcell⟩ := hrow.get hx
      injection e with e
      injection e with e1 e2
      subst e1 e2
      obtain ⟨rfl, _⟩ := hr
      refine ⟨rfl, (Array.getElem?_eq_some_iff.1 hh).1, ?_⟩
      have := hcell 0 _ rfl
      simpa [Repr.int] using this
theorem cts_get {l : List (Nat × Nat)} {i : Nat} {c : Nat × Nat} (h : l[i]? = some c) : (cts l)[i * 2]? = some (.int .i64 c.1) ∧ (cts l)[i * 2 + 1]? = some (.int .i64 c.2) := by
  induction l generalizing i with
  | nil => simp at h
  | cons a r ih =>
    cases i with
    | zero => simp only [List.getElem?_cons_zero, Option.some.injEq] at h; subst h; exact ⟨rfl, rfl⟩
    | succ i =>
      simp only [List.getElem?_cons_succ] at h
      have := ih h
      simp only [cts, List.flatMap_cons] at this ⊢
      rw [show (i + 1) * 2 = i * 2 + 1 + 1 by omega]
      exact ⟨this.1, this.2⟩
theorem MaL.below {w w' : World} {mb : Nat} {O : Nat → Prop} {L : Lay} {s : St} (h : MaL w mb O L s) (hb : Below w.heap.size w w') : MaL w' mb O L s :=
  h.keep (fun k hk => hb.block k (h.olt k hk)) (fun _ h => h) (fun k hk => Nat.lt_of_lt_of_le (h.olt k hk) hb.size)
structure Jn (w : World) (mb : Nat) (O : Nat → Prop) (L : Lay) (s : St) (c : Nat × Nat) (cb g : Nat) (l : List Nat) (cur : List (Int × Int)) (wq : World) : Prop where
  ma : MaL wq mb O L { s with cur := cur }
  fix : ∀ (i x : Nat), l[i]? = some x → g < wq.heap.size ∧ wq.cell? ⟨g, i, none⟩ = some (.int .i64 x)
  blk : Blk wq cb 252 #[.int .i64 c.1, .int .i64 c.2]
  fr : Fr O w wq
  gno : ¬ O g
  cno : ¬ O cb
section
variable {w wq w2 : World} {mb : Nat} {O : Nat → Prop} {L : Lay} {s : St} {c : Nat × Nat} {cb g : Nat} {l : List Nat} {cur cur' : List (Int × Int)}
theorem Jn.go (h : Jn w mb O L s c cb g l cur wq) (hf : Fr O wq w2) (hm : MaL w2 mb O L { s with cur := cur' }) : Jn w mb O L s c cb g l cur' w2 :=
  ⟨hm, fun i x hx => ⟨Nat.lt_of_lt_of_le (h.fix i x hx).1 hf.size, (hf.cell (p := ⟨g, i, none⟩) (h.fix i x hx).1 h.gno).trans (h.fix i x hx).2⟩, hf.blk h.blk h.cno, h.fr.trans hf, h.gno, h.cno⟩
theorem Jn.below (h : Jn w mb O L s c cb g l cur wq) (hb : Below wq.heap.size wq w2) : Jn w mb O L s c cb g l cur w2 :=
  h.go (Fr.of_below hb (fun _ hk _ => hk)) (h.ma.below hb)
end
end Go.Proofs.YtnhebmgibiomnaaGreat

/- Points of the machine: between: its contract. -/
import Derived.Test.YthdmdgmchkhngaaGreatMcD
namespace Go.Proofs.YthdmdgmchkhngaaGreat
open Go.RowKit Mc

set_option maxHeartbeats 1000000 in
theorem was_any (w : World) (mb : Nat) (O : Nat → Prop) (L : Lay) (s : St) (h : MaL w mb O L s) (b1 b2 : Nat) (axis : Int) (k1 : w.cell? ⟨b1, 0, none⟩ = some (.pointer (some ⟨mb, 0, none⟩))) (k2 : w.cell? ⟨b2, 0, none⟩ = some (.int .i64 axis)) (p : Nat) (x : Int × Int) (hx : s.org[p]? = some x) :
    Calls Tryz.prog 144 #[.int .i64 p, .pointer (some ⟨b1, 0, none⟩), .pointer (some ⟨b2, 0, none⟩)] w fun e w' => e = .returned (.int .i64 (coord axis x)) ∧ w.drew = w' := by
  have hp := (List.getElem?_eq_some_iff.1 hx).1
  have hcl : s.org.length ≤ 1000000 := by have := h.ok.curl; have := h.ok.orgl; omega
  obtain ⟨g, c, hv, hc1, hc2, hg, hgl, hcells, hfz⟩ := h.og.at_ (by omega)
  have d0 := hcells _ _ (pts_coord hx axis)
  have cc := h.blk.cell 2
  rw [h.c.c2, hv] at cc
  clear h hx hv hcells hfz hc2
  generalize hd : (if axis = 1 then 1 else 0 : Nat) = d at d0
  have HD := Lib.hid hd
  clear hd
  have hS : w.drew.cell? ⟨b1, 0, none⟩ = some (.pointer (some ⟨mb, 0, none⟩)) ∧ w.drew.cell? ⟨mb, 2, none⟩ = some (.slice (some ⟨g, 0, none⟩) s.org.length c) ∧ w.drew.cell? ⟨b2, 0, none⟩ = some (.int .i64 axis) ∧ w.drew.cell? ⟨g, p * 2 + d, none⟩ = some (.int .i64 (coord axis x)) := ⟨k1, cc, k2, d0⟩
  go_enter Tryz.func144, Tryz.ntmps144
  go_wp2_with fail
  refine wp_region_seqT (fun i => !([8] : List Nat).contains i) (fun i => ([0, 4, 7, 10] : List Nat).contains i) (fun i => ([] : List Nat).contains i) [0, 1, 2, 3, 4, 5, 6, 7, 8, 9, 10, 11] (fun w' : World => w'.cell? ⟨b1, 0, none⟩ = some (.pointer (some ⟨mb, 0, none⟩)) ∧ w'.cell? ⟨mb, 2, none⟩ = some (.slice (some ⟨g, 0, none⟩) s.org.length c) ∧ w'.cell? ⟨b2, 0, none⟩ = some (.int .i64 axis) ∧ w'.cell? ⟨g, p * 2 + d, none⟩ = some (.int .i64 (coord axis x))) (by kernel_rfl) (by kernel_rfl) (by kernel_rfl) (by kernel_rfl) ?_
  refine wpSeq_load (v := _) rfl rfl (by kernel_rfl) (fun _ _ _ h => h) hS rfl (fun wq hq => by (try have hq1 := hq.1); (try have hq2 := hq.2.1); (try have hq3 := hq.2.2.1); (try have hq4 := hq.2.2.2.1); (try have hq5 := hq.2.2.2.2.1); (try have hq6 := hq.2.2.2.2.2.1); (try have hq7 := hq.2.2.2.2.2.2); (try have hr2 := hq.2); (try have hr3 := hq.2.2); (try have hr4 := hq.2.2.2); (try have hr5 := hq.2.2.2.2); first | (go_simp; done) | (go_simp; rfl)) ?_
  refine wpSeq_pure (v := _) rfl rfl rfl (by kernel_rfl) (fun _ _ _ h => h) (fun wq => by first | (go_simp; done) | (go_simp; rfl)) ?_
  refine wpSeq_pure (v := _) rfl rfl rfl (by kernel_rfl) (fun _ _ _ h => h) (fun wq => by first | (go_simp; done) | (go_simp; rfl)) ?_
  refine wpSeq_pure (v := _) rfl rfl rfl (by kernel_rfl) (fun _ _ _ h => h) (fun wq => by first | (go_simp; done) | (go_simp; rfl)) ?_
  refine wpSeq_load (v := _) rfl rfl (by kernel_rfl) (fun _ _ _ h => h) hS rfl (fun wq hq => by (try have hq1 := hq.1); (try have hq2 := hq.2.1); (try have hq3 := hq.2.2.1); (try have hq4 := hq.2.2.2.1); (try have hq5 := hq.2.2.2.2.1); (try have hq6 := hq.2.2.2.2.2.1); (try have hq7 := hq.2.2.2.2.2.2); (try have hr2 := hq.2); (try have hr3 := hq.2.2); (try have hr4 := hq.2.2.2); (try have hr5 := hq.2.2.2.2); first | (go_simp; done) | (go_simp; rfl)) ?_
  refine wpSeq_pure (v := _) rfl rfl rfl (by kernel_rfl) (fun _ _ _ h => h) (fun wq => by first | (go_simp; done) | (go_simp; rfl)) ?_
  refine wpSeq_pure (v := _) rfl rfl rfl (by kernel_rfl) (fun _ _ _ h => h) (fun wq => by first | (go_simp; done) | (go_simp; rfl)) ?_
  refine wpSeq_load (v := _) rfl rfl (by kernel_rfl) (fun _ _ _ h => h) hS rfl (fun wq hq => by (try have hq1 := hq.1); (try have hq2 := hq.2.1); (try have hq3 := hq.2.2.1); (try have hq4 := hq.2.2.2.1); (try have hq5 := hq.2.2.2.2.1); (try have hq6 := hq.2.2.2.2.2.1); (try have hq7 := hq.2.2.2.2.2.2); (try have hr2 := hq.2); (try have hr3 := hq.2.2); (try have hr4 := hq.2.2.2); (try have hr5 := hq.2.2.2.2); first | (go_simp; done) | (go_simp; rfl)) ?_
  refine wpSeq_heavy rfl rfl (fun K hK => ?_); go_simp
  refine (coordinate_any _ _ _ _).mono ?_
  rintro e w5 ⟨rfl, rfl⟩
  rw [HD.out]
  dsimp only
  refine hK _ _ (fun h => by cases h) ?_; clear hK K
  refine wpSeq_pure (v := _) rfl rfl rfl (by kernel_rfl) (fun _ _ _ h => h) (fun wq => by first | (go_simp; done) | (go_simp; rfl)) ?_
  refine wpSeq_load (v := _) rfl rfl (by kernel_rfl) (fun _ _ _ h => h) hS rfl (fun wq hq => by (try have hq1 := hq.1); (try have hq2 := hq.2.1); (try have hq3 := hq.2.2.1); (try have hq4 := hq.2.2.2.1); (try have hq5 := hq.2.2.2.2.1); (try have hq6 := hq.2.2.2.2.2.1); (try have hq7 := hq.2.2.2.2.2.2); (try have hr2 := hq.2); (try have hr3 := hq.2.2); (try have hr4 := hq.2.2.2); (try have hr5 := hq.2.2.2.2); first | (go_simp; done) | (go_simp; rfl)) ?_
  refine wpSeq_pure (v := _) rfl rfl rfl (by kernel_rfl) (fun _ _ _ h => h) (fun wq => by first | (go_simp; done) | (go_simp; rfl)) ?_
  refine wpSeq_end ?_
  go_wp2
  go_ret
  exact ⟨rfl, rfl⟩
set_option maxHeartbeats 1000000 in
theorem is_any (w : World) (mb : Nat) (O : Nat → Prop) (L : Lay) (s : St) (h : MaL w mb O L s) (b1 b2 : Nat) (axis : Int) (k1 : w.cell? ⟨b1, 0, none⟩ = some (.pointer (some ⟨mb, 0, none⟩))) (k2 : w.cell? ⟨b2, 0, none⟩ = some (.int .i64 axis)) (p : Nat) (x : Int × Int) (hx : s.cur[p]? = some x) :
    Calls Tryz.prog 145 #[.int .i64 p, .pointer (some ⟨b1, 0, none⟩), .pointer (some ⟨b2, 0, none⟩)] w fun e w' => e = .returned (.int .i64 (coord axis x)) ∧ w.drew = w' := by
  have hp := (List.getElem?_eq_some_iff.1 hx).1
  have hcl : s.cur.length ≤ 1000000 := by have := h.ok.curl; have := h.ok.orgl; omega
  obtain ⟨g, c, hv, hc1, hc2, hg, hgl, hcells, hfz⟩ := h.cu.at_ (by omega)
  have d0 := hcells _ _ (pts_coord hx axis)
  have cc := h.blk.cell 3
  rw [h.c.c3, hv] at cc
  clear h hx hv hcells hfz hc2
  generalize hd : (if axis = 1 then 1 else 0 : Nat) = d at d0
  have HD := Lib.hid hd
  clear hd
  have hS : w.drew.cell? ⟨b1, 0, none⟩ = some (.pointer (some ⟨mb, 0, none⟩)) ∧ w.drew.cell? ⟨mb, 3, none⟩ = some (.slice (some ⟨g, 0, none⟩) s.cur.length c) ∧ w.drew.cell? ⟨b2, 0, none⟩ = some (.int .i64 axis) ∧ w.drew.cell? ⟨g, p * 2 + d, none⟩ = some (.int .i64 (coord axis x)) := ⟨k1, cc, k2, d0⟩
  go_enter Tryz.func145, Tryz.ntmps145
  go_wp2_with fail
  refine wp_region_seqT (fun i => !([8] : List Nat).contains i) (fun i => ([0, 4, 7, 10] : List Nat).contains i) (fun i => ([] : List Nat).contains i) [0, 1, 2, 3, 4, 5, 6, 7, 8, 9, 10, 11] (fun w' : World => w'.cell? ⟨b1, 0, none⟩ = some (.pointer (some ⟨mb, 0, none⟩)) ∧ w'.cell? ⟨mb, 3, none⟩ = some (.slice (some ⟨g, 0, none⟩) s.cur.length c) ∧ w'.cell? ⟨b2, 0, none⟩ = some (.int .i64 axis) ∧ w'.cell? ⟨g, p * 2 + d, none⟩ = some (.int .i64 (coord axis x))) (by kernel_rfl) (by kernel_rfl) (by kernel_rfl) (by kernel_rfl) ?_
  refine wpSeq_load (v := _) rfl rfl (by kernel_rfl) (fun _ _ _ h => h) hS rfl (fun wq hq => by (try have hq1 := hq.1); (try have hq2 := hq.2.1); (try have hq3 := hq.2.2.1); (try have hq4 := hq.2.2.2.1); (try have hq5 := hq.2.2.2.2.1); (try have hq6 := hq.2.2.2.2.2.1); (try have hq7 := hq.2.2.2.2.2.2); (try have hr2 := hq.2); (try have hr3 := hq.2.2); (try have hr4 := hq.2.2.2); (try have hr5 := hq.2.2.2.2); first | (go_simp; done) | (go_simp; rfl)) ?_
  refine wpSeq_pure (v := _) rfl rfl rfl (by kernel_rfl) (fun _ _ _ h => h) (fun wq => by first | (go_simp; done) | (go_simp; rfl)) ?_
  refine wpSeq_pure (v := _) rfl rfl rfl (by kernel_rfl) (fun _ _ _ h => h) (fun wq => by first | (go_simp; done) | (go_simp; rfl)) ?_
  refine wpSeq_pure (v := _) rfl rfl rfl (by kernel_rfl) (fun _ _ _ h => h) (fun wq => by first | (go_simp; done) | (go_simp; rfl)) ?_
  refine wpSeq_load (v := _) rfl rfl (by kernel_rfl) (fun _ _ _ h => h) hS rfl (fun wq hq => by (try have hq1 := hq.1); (try have hq2 := hq.2.1); (try have hq3 := hq.2.2.1); (try have hq4 := hq.2.2.2.1); (try have hq5 := hq.2.2.2.2.1); (try have hq6 := hq.2.2.2.2.2.1); (try have hq7 := hq.2.2.2.2.2.2); (try have hr2 := hq.2); (try have hr3 := hq.2.2); (try have hr4 := hq.2.2.2); (try have hr5 := hq.2.2.2.2); first | (go_simp; done) | (go_simp; rfl)) ?_
  refine wpSeq_pure (v := _) rfl rfl rfl (by kernel_rfl) (fun _ _ _ h => h) (fun wq => by first | (go_simp; done) | (go_simp; rfl)) ?_
  refine wpSeq_pure (v := _) rfl rfl rfl (by kernel_rfl) (fun _ _ _ h => h) (fun wq => by first | (go_simp; done) | (go_simp; rfl)) ?_
  refine wpSeq_load (v := _) rfl rfl (by kernel_rfl) (fun _ _ _ h => h) hS rfl (fun wq hq => by (try have hq1 := hq.1); (try have hq2 := hq.2.1); (try have hq3 := hq.2.2.1); (try have hq4 := hq.2.2.2.1); (try have hq5 := hq.2.2.2.2.1); (try have hq6 := hq.2.2.2.2.2.1); (try have hq7 := hq.2.2.2.2.2.2); (try have hr2 := hq.2); (try have hr3 := hq.2.2); (try have hr4 := hq.2.2.2); (try have hr5 := hq.2.2.2.2); first | (go_simp; done) | (go_simp; rfl)) ?_
  refine wpSeq_heavy rfl rfl (fun K hK => ?_); go_simp
  refine (coordinate_any _ _ _ _).mono ?_
  rintro e w5 ⟨rfl, rfl⟩
  rw [HD.out]
  dsimp only
  refine hK _ _ (fun h => by cases h) ?_; clear hK K
  refine wpSeq_pure (v := _) rfl rfl rfl (by kernel_rfl) (fun _ _ _ h => h) (fun wq => by first | (go_simp; done) | (go_simp; rfl)) ?_
  refine wpSeq_load (v := _) rfl rfl (by kernel_rfl) (fun _ _ _ h => h) hS rfl (fun wq hq => by (try have hq1 := hq.1); (try have hq2 := hq.2.1); (try have hq3 := hq.2.2.1); (try have hq4 := hq.2.2.2.1); (try have hq5 := hq.2.2.2.2.1); (try have hq6 := hq.2.2.2.2.2.1); (try have hq7 := hq.2.2.2.2.2.2); (try have hr2 := hq.2); (try have hr3 := hq.2.2); (try have hr4 := hq.2.2.2); (try have hr5 := hq.2.2.2.2); first | (go_simp; done) | (go_simp; rfl)) ?_
  refine wpSeq_pure (v := _) rfl rfl rfl (by kernel_rfl) (fun _ _ _ h => h) (fun wq => by first | (go_simp; done) | (go_simp; rfl)) ?_
  refine wpSeq_end ?_
  go_wp2
  go_ret
  exact ⟨rfl, rfl⟩

theorem w64_add (a b : Int) : w64 (a + w64 b) = w64 (a + b) := by unfold w64; omega
/-- what between comes to, of six numbers: where the two were, are; where the point was -/
def betw (o wa wb ia ib : Int) : Int := if o ≤ wa then o + ia - wa else if wb ≤ o then o + ib - wb else ia + divd (w64 (w64 (2 * (o - wa) * (ib - ia)) + (wb - wa))) (2 * (wb - wa))
theorem betw_a {o wa wb ia ib : Int} (h : o ≤ wa) : betw o wa wb ia ib = o + ia - wa := by unfold betw; rw [if_pos h]
theorem betw_b {o wa wb ia ib : Int} (h : ¬ o ≤ wa) (h' : wb ≤ o) : betw o wa wb ia ib = o + ib - wb := by unfold betw; rw [if_neg h, if_pos h']
theorem betw_c {o wa wb ia ib : Int} (h : ¬ o ≤ wa) (h' : ¬ wb ≤ o) : betw o wa wb ia ib = ia + divd (w64 (w64 (2 * (o - wa) * (ib - ia)) + (wb - wa))) (2 * (wb - wa)) := by unfold betw; rw [if_neg h, if_neg h']
theorem between_sw {org cur : List (Int × Int)} {axis : Int} {p a b : Nat} {xp xa xb ya yb : Int × Int} (hp : org[p]? = some xp) (ha : org[a]? = some xa) (hb : org[b]? = some xb) (ha' : cur[a]? = some ya) (hb' : cur[b]? = some yb) :
    between org cur axis p a b = if coord axis xb < coord axis xa then betw (coord axis xp) (coord axis xb) (coord axis xa) (coord axis yb) (coord axis ya) else betw (coord axis xp) (coord axis xa) (coord axis xb) (coord axis ya) (coord axis yb) := by
  unfold between betw
  simp only [getD_of hp, getD_of ha, getD_of hb]
  by_cases h : coord axis xb < coord axis xa
  · simp only [h, if_true, getD_of ha, getD_of hb, getD_of ha', getD_of hb']
  · simp only [h, if_false, getD_of ha, getD_of hb, getD_of ha', getD_of hb']
theorem coord_k {_s : St} {l : List (Int × Int)} {i : Nat} {x : Int × Int} (h : ∀ p ∈ l, K32 p.1 ∧ K32 p.2) (hx : l[i]? = some x) (axis : Int) : -2147483648 ≤ coord axis x ∧ coord axis x ≤ 2147483647 := by
  have := h x (List.mem_of_getElem? hx)
  unfold coord
  split
  · exact this.2
  · exact this.1
theorem Mc.moved_eq {org cur : List (Int × Int)} {axis : Int} {p a b : Nat} {y : Int × Int} (hy : cur[p]? = some y) : moved org axis cur p a b = cur.set p (to_ axis y (w64 (between org cur axis p a b))) := by
  unfold moved
  rw [getD_of hy]

/-- what between leaves: its rows lie where they lay -/
def BPost (w : World) (mb : Nat) (O : Nat → Prop) (L : Lay) (s : St) (e : Ending) (w' : World) : Prop := e = .returned (.tuple #[]) ∧ MaL w' mb O L s ∧ Fr O w w'
/-- while between goes on -/
structure Bt (w : World) (mb : Nat) (O : Nat → Prop) (L : Lay) (s : St) (axis : Int) (W : World) : Prop where
  ma : MaL W mb O L s
  k1 : W.cell? ⟨w.heap.size, 0, none⟩ = some (.pointer (some ⟨mb, 0, none⟩))
  k2 : W.cell? ⟨w.heap.size + 1, 0, none⟩ = some (.int .i64 axis)
  fr : Fr O w W
theorem Bt.drew {w : World} {mb : Nat} {O : Nat → Prop} {L : Lay} {s : St} {axis : Int} {W : World} (h : Bt w mb O L s axis W) : Bt w mb O L s axis W.drew := ⟨h.ma.drew, h.k1, h.k2, h.fr.drew⟩
theorem wasB {w : World} {mb : Nat} {O : Nat → Prop} {L : Lay} {s : St} {axis : Int} {W : World} (h : Bt w mb O L s axis W) {p : Nat} {x : Int × Int} (hx : s.org[p]? = some x) {v : Int} (hv : coord axis x = v) :
    Calls Tryz.prog 144 #[.int .i64 p, .pointer (some ⟨w.heap.size, 0, none⟩), .pointer (some ⟨w.heap.size + 1, 0, none⟩)] W fun e w' => e = .returned (.int .i64 v) ∧ Bt w mb O L s axis w' :=
  (was_any W mb O L s h.ma _ _ axis h.k1 h.k2 p x hx).mono fun e w' hh => ⟨by rw [hh.1, hv], by rw [← hh.2]; exact h.drew⟩
theorem isB {w : World} {mb : Nat} {O : Nat → Prop} {L : Lay} {s : St} {axis : Int} {W : World} (h : Bt w mb O L s axis W) {p : Nat} {x : Int × Int} (hx : s.cur[p]? = some x) {v : Int} (hv : coord axis x = v) :
    Calls Tryz.prog 145 #[.int .i64 p, .pointer (some ⟨w.heap.size, 0, none⟩), .pointer (some ⟨w.heap.size + 1, 0, none⟩)] W fun e w' => e = .returned (.int .i64 v) ∧ Bt w mb O L s axis w' :=
  (is_any W mb O L s h.ma _ _ axis h.k1 h.k2 p x hx).mono fun e w' hh => ⟨by rw [hh.1, hv], by rw [← hh.2]; exact h.drew⟩
set_option maxRecDepth 100000 in
set_option maxHeartbeats 8000000 in
theorem between_any (w : World) (mb : Nat) (O : Nat → Prop) (L : Lay) (s : St) (h : MaL w mb O L s) (axis : Int) (p a b : Nat) (xp xa xb yp ya yb : Int × Int)
    (hxp : s.org[p]? = some xp) (hxa : s.org[a]? = some xa) (hxb : s.org[b]? = some xb) (hyp : s.cur[p]? = some yp) (hya : s.cur[a]? = some ya) (hyb : s.cur[b]? = some yb) :
    Calls Tryz.prog 129 #[.pointer (some ⟨mb, 0, none⟩), .int .i64 p, .int .i64 a, .int .i64 b, .int .i64 axis] w (BPost w mb O L { s with cur := moved s.org axis s.cur p a b }) := by
  have hpl := (List.getElem?_eq_some_iff.1 hyp).1
  have hcl := h.ok.curl
  obtain ⟨g, c, hv, hc1, hc2, hg, hgl, hcells, hfz⟩ := h.cu.at_ (by omega)
  have HB : Hid (Bt w mb O L s axis ((w.alloc (.cells #[.pointer (some ⟨mb, 0, none⟩)] 39)).alloc (.cells #[.int .i64 axis] 3))) := Lib.hid ⟨(h.alloc _).alloc _, by rw [World.cell?_alloc_lt _ _ _ (by simp)]; exact (Blk.new w _ _).cell 0, (Blk.new_at _ _ _ (by simp)).cell 0, ((Fr.refl O w).alloc _).alloc _⟩
  have Hxp := Lib.hid hxp
  have Hxa := Lib.hid hxa
  have Hxb := Lib.hid hxb
  have Hya := Lib.hid hya
  have Hyb := Lib.hid hyb
  have B1 := coord_k (_s := s) h.ok.org hxp axis
  have B2 := coord_k (_s := s) h.ok.org hxa axis
  have B3 := coord_k (_s := s) h.ok.org hxb axis
  have B4 := coord_k (_s := s) h.ok.cur hya axis
  have B5 := coord_k (_s := s) h.ok.cur hyb axis
  have HBT := Lib.hid (between_sw (axis := axis) hxp hxa hxb hya hyb)
  have HC : Hid (∀ (W : World), MaL W mb O L s → W.cell? ⟨mb, 3, none⟩ = some (.slice (some ⟨g, 0, none⟩) s.cur.length c) ∧ (∃ u, W.cell? ⟨g, p * 2 + (if axis = 1 then 1 else 0), none⟩ = some u) ∧ W.frozen? ⟨g, p * 2 + (if axis = 1 then 1 else 0), none⟩ = false) := Lib.hid (fun W hW => by
    refine ⟨by rw [hW.blk.cell, hW.c.c3, hv], ?_⟩
    obtain ⟨g2, c2, hv2, _, _, _, _, hc2, hf2⟩ := hW.cu.at_ (by omega)
    rw [hv] at hv2
    injection hv2 with hv2
    injection hv2 with hv2
    injection hv2 with hv2
    subst hv2
    exact ⟨⟨_, hc2 _ _ (pts_coord hyp axis)⟩, hf2 _⟩)
  have HQ : Hid (∀ (W : World) (u : Int), MaL W mb O L s → Fr O w W → u = k32 (w64 (between s.org s.cur axis p a b)) → BPost w mb O L { s with cur := moved s.org axis s.cur p a b } (.returned (.tuple #[])) (W.setCell ⟨g, p * 2 + (if axis = 1 then 1 else 0), none⟩ (.int .i64 u))) := Lib.hid (fun W u hW hF hu => by
    subst hu
    rw [moved_eq hyp]
    exact ⟨rfl, hW.setCu hv hyp axis _, hF.setCell (.inl hg) _⟩)
  clear h hxp hxa hxb hyp hya hyb hv hcells hfz hc2 hgl hg
  generalize hd : (if axis = 1 then 1 else 0 : Nat) = d at *
  have HD := Lib.hid hd
  clear hd
  generalize hwp : coord axis xp = wp at *
  generalize hwa : coord axis xa = wa at *
  generalize hwb : coord axis xb = wb at *
  generalize hia : coord axis ya = ia at *
  generalize hib : coord axis yb = ib at *
  have Ewp := Lib.hid hwp
  have Ewa := Lib.hid hwa
  have Ewb := Lib.hid hwb
  have Eia := Lib.hid hia
  have Eib := Lib.hid hib
  clear hwp hwa hwb hia hib
  by_cases hsw : wb < wa
  · rw [if_pos hsw] at HBT
    by_cases h1 : wp ≤ wb
    · go_enter Tryz.func129, Tryz.ntmps129
      go_wp2_with fail
      refine (wasB HB.out Hxa.out Ewa.out).mono ?_
      rintro e w5 ⟨rfl, hb⟩
      clear HB
      have HB := Lib.hid hb
      clear hb
      go_wp2_with fail
      refine (wasB HB.out Hxb.out Ewb.out).mono ?_
      rintro e w5 ⟨rfl, hb⟩
      clear HB
      have HB := Lib.hid hb
      clear hb
      go_wp2_with fail
      refine (wasB HB.out Hxp.out Ewp.out).mono ?_
      rintro e w5 ⟨rfl, hb⟩
      clear HB
      have HB := Lib.hid hb
      clear hb
      go_wp2_with fail
      refine (wasB HB.out Hxb.out Ewb.out).mono ?_
      rintro e w5 ⟨rfl, hb⟩
      clear HB
      have HB := Lib.hid hb
      clear hb
      go_wp2_with fail
      refine (isB HB.out Hyb.out Eib.out).mono ?_
      rintro e w5 ⟨rfl, hb⟩
      clear HB
      have HB := Lib.hid hb
      clear hb
      go_wp2_with fail
      refine (wasB HB.out Hxb.out Ewb.out).mono ?_
      rintro e w5 ⟨rfl, hb⟩
      clear HB
      have HB := Lib.hid hb
      clear hb
      go_wp2_with fail
      obtain ⟨c3, ⟨u0, cu⟩, fu⟩ := HC.out w5 HB.out.ma
      have hS : w5.drew.cell? ⟨w.heap.size, 0, none⟩ = some (.pointer (some ⟨mb, 0, none⟩)) ∧ w5.drew.cell? ⟨mb, 3, none⟩ = some (.slice (some ⟨g, 0, none⟩) s.cur.length c) ∧ w5.drew.cell? ⟨w.heap.size + 1, 0, none⟩ = some (.int .i64 axis) := ⟨HB.out.k1, c3, HB.out.k2⟩
      have l1 := HB.out.ma.blk.lt
      refine wp_region_seqT (fun i => !([8, 10, 12] : List Nat).contains i) (fun i => ([0, 4, 7] : List Nat).contains i) (fun i => ([] : List Nat).contains i) [0, 1, 2, 3, 4, 5, 6, 7, 9, 8, 10, 11, 12] (fun w' : World => w'.cell? ⟨w.heap.size, 0, none⟩ = some (.pointer (some ⟨mb, 0, none⟩)) ∧ w'.cell? ⟨mb, 3, none⟩ = some (.slice (some ⟨g, 0, none⟩) s.cur.length c) ∧ w'.cell? ⟨w.heap.size + 1, 0, none⟩ = some (.int .i64 axis)) (by kernel_rfl) (by kernel_rfl) (by kernel_rfl) (by kernel_rfl) ?_
      refine wpSeq_load (v := _) rfl rfl (by kernel_rfl) (fun _ _ _ h => h) hS rfl (fun wq hq => by (try have hq1 := hq.1); (try have hq2 := hq.2.1); (try have hq3 := hq.2.2.1); (try have hq4 := hq.2.2.2.1); (try have hq5 := hq.2.2.2.2.1); (try have hq6 := hq.2.2.2.2.2.1); (try have hq7 := hq.2.2.2.2.2.2); (try have hr2 := hq.2); (try have hr3 := hq.2.2); (try have hr4 := hq.2.2.2); (try have hr5 := hq.2.2.2.2); first | (go_simp; done) | (go_simp; rfl)) ?_
      refine wpSeq_pure (v := _) rfl rfl rfl (by kernel_rfl) (fun _ _ _ h => h) (fun wq => by first | (go_simp; done) | (go_simp; rfl)) ?_
      refine wpSeq_pure (v := _) rfl rfl rfl (by kernel_rfl) (fun _ _ _ h => h) (fun wq => by first | (go_simp; done) | (go_simp; rfl)) ?_
      refine wpSeq_pure (v := _) rfl rfl rfl (by kernel_rfl) (fun _ _ _ h => h) (fun wq => by first | (go_simp; done) | (go_simp; rfl)) ?_
      refine wpSeq_load (v := _) rfl rfl (by kernel_rfl) (fun _ _ _ h => h) hS rfl (fun wq hq => by (try have hq1 := hq.1); (try have hq2 := hq.2.1); (try have hq3 := hq.2.2.1); (try have hq4 := hq.2.2.2.1); (try have hq5 := hq.2.2.2.2.1); (try have hq6 := hq.2.2.2.2.2.1); (try have hq7 := hq.2.2.2.2.2.2); (try have hr2 := hq.2); (try have hr3 := hq.2.2); (try have hr4 := hq.2.2.2); (try have hr5 := hq.2.2.2.2); first | (go_simp; done) | (go_simp; rfl)) ?_
      refine wpSeq_pure (v := _) rfl rfl rfl (by kernel_rfl) (fun _ _ _ h => h) (fun wq => by first | (go_simp; done) | (go_simp; rfl)) ?_
      refine wpSeq_pure (v := _) rfl rfl rfl (by kernel_rfl) (fun _ _ _ h => h) (fun wq => by first | (go_simp; done) | (go_simp; rfl)) ?_
      refine wpSeq_load (v := _) rfl rfl (by kernel_rfl) (fun _ _ _ h => h) hS rfl (fun wq hq => by (try have hq1 := hq.1); (try have hq2 := hq.2.1); (try have hq3 := hq.2.2.1); (try have hq4 := hq.2.2.2.1); (try have hq5 := hq.2.2.2.2.1); (try have hq6 := hq.2.2.2.2.2.1); (try have hq7 := hq.2.2.2.2.2.2); (try have hr2 := hq.2); (try have hr3 := hq.2.2); (try have hr4 := hq.2.2.2); (try have hr5 := hq.2.2.2.2); first | (go_simp; done) | (go_simp; rfl)) ?_
      refine wpSeq_pure (v := _) rfl rfl rfl (by kernel_rfl) (fun _ _ _ h => h) (fun wq => by first | (go_simp; done) | (go_simp; rfl)) ?_
      refine wpSeq_heavy rfl rfl (fun K hK => ?_); go_simp
      refine (coordinate_any _ _ _ _).mono ?_
      rintro e w6 ⟨rfl, rfl⟩
      rw [HD.out]
      dsimp only
      refine hK _ _ (fun h => by cases h) ?_; clear hK K
      refine wpSeq_heavy rfl rfl (fun K hK => ?_); go_simp
      refine (kept64_any _ _).mono ?_
      rintro e w6 ⟨rfl, rfl⟩
      dsimp only
      refine hK _ _ (fun h => by cases h) ?_; clear hK K
      refine wpSeq_pure (v := _) rfl rfl rfl (by kernel_rfl) (fun _ _ _ h => h) (fun wq => by first | (go_simp; done) | (go_simp; rfl)) ?_
      refine wpSeq_heavy rfl rfl (fun K hK => ?_); go_simp
      refine hK _ _ (fun h => by cases h) ?_; clear hK K
      refine wpSeq_end ?_
      go_wp2
      go_end0
      refine HQ.out w5.drew _ HB.out.ma.drew HB.out.fr.drew ?_
      rw [HBT.out]
      rw [betw_a (by omega)]
      exact congrArg k32 (w64_in (by omega) (by omega)).symm
    · skip
      by_cases h2 : wa ≤ wp
      · go_enter Tryz.func129, Tryz.ntmps129
        go_wp2_with fail
        refine (wasB HB.out Hxa.out Ewa.out).mono ?_
        rintro e w5 ⟨rfl, hb⟩
        clear HB
        have HB := Lib.hid hb
        clear hb
        go_wp2_with fail
        refine (wasB HB.out Hxb.out Ewb.out).mono ?_
        rintro e w5 ⟨rfl, hb⟩
        clear HB
        have HB := Lib.hid hb
        clear hb
        go_wp2_with fail
        refine (wasB HB.out Hxp.out Ewp.out).mono ?_
        rintro e w5 ⟨rfl, hb⟩
        clear HB
        have HB := Lib.hid hb
        clear hb
        go_wp2_with fail
        refine (wasB HB.out Hxb.out Ewb.out).mono ?_
        rintro e w5 ⟨rfl, hb⟩
        clear HB
        have HB := Lib.hid hb
        clear hb
        go_wp2_with fail
        refine (wasB HB.out Hxa.out Ewa.out).mono ?_
        rintro e w5 ⟨rfl, hb⟩
        clear HB
        have HB := Lib.hid hb
        clear hb
        go_wp2_with fail
        refine (isB HB.out Hya.out Eia.out).mono ?_
        rintro e w5 ⟨rfl, hb⟩
        clear HB
        have HB := Lib.hid hb
        clear hb
        go_wp2_with fail
        refine (wasB HB.out Hxa.out Ewa.out).mono ?_
        rintro e w5 ⟨rfl, hb⟩
        clear HB
        have HB := Lib.hid hb
        clear hb
        go_wp2_with fail
        obtain ⟨c3, ⟨u0, cu⟩, fu⟩ := HC.out w5 HB.out.ma
        have hS : w5.drew.cell? ⟨w.heap.size, 0, none⟩ = some (.pointer (some ⟨mb, 0, none⟩)) ∧ w5.drew.cell? ⟨mb, 3, none⟩ = some (.slice (some ⟨g, 0, none⟩) s.cur.length c) ∧ w5.drew.cell? ⟨w.heap.size + 1, 0, none⟩ = some (.int .i64 axis) := ⟨HB.out.k1, c3, HB.out.k2⟩
        have l1 := HB.out.ma.blk.lt
        refine wp_region_seqT (fun i => !([8, 10, 12] : List Nat).contains i) (fun i => ([0, 4, 7] : List Nat).contains i) (fun i => ([] : List Nat).contains i) [0, 1, 2, 3, 4, 5, 6, 7, 9, 8, 10, 11, 12] (fun w' : World => w'.cell? ⟨w.heap.size, 0, none⟩ = some (.pointer (some ⟨mb, 0, none⟩)) ∧ w'.cell? ⟨mb, 3, none⟩ = some (.slice (some ⟨g, 0, none⟩) s.cur.length c) ∧ w'.cell? ⟨w.heap.size + 1, 0, none⟩ = some (.int .i64 axis)) (by kernel_rfl) (by kernel_rfl) (by kernel_rfl) (by kernel_rfl) ?_
        refine wpSeq_load (v := _) rfl rfl (by kernel_rfl) (fun _ _ _ h => h) hS rfl (fun wq hq => by (try have hq1 := hq.1); (try have hq2 := hq.2.1); (try have hq3 := hq.2.2.1); (try have hq4 := hq.2.2.2.1); (try have hq5 := hq.2.2.2.2.1); (try have hq6 := hq.2.2.2.2.2.1); (try have hq7 := hq.2.2.2.2.2.2); (try have hr2 := hq.2); (try have hr3 := hq.2.2); (try have hr4 := hq.2.2.2); (try have hr5 := hq.2.2.2.2); first | (go_simp; done) | (go_simp; rfl)) ?_
        refine wpSeq_pure (v := _) rfl rfl rfl (by kernel_rfl) (fun _ _ _ h => h) (fun wq => by first | (go_simp; done) | (go_simp; rfl)) ?_
        refine wpSeq_pure (v := _) rfl rfl rfl (by kernel_rfl) (fun _ _ _ h => h) (fun wq => by first | (go_simp; done) | (go_simp; rfl)) ?_
        refine wpSeq_pure (v := _) rfl rfl rfl (by kernel_rfl) (fun _ _ _ h => h) (fun wq => by first | (go_simp; done) | (go_simp; rfl)) ?_
        refine wpSeq_load (v := _) rfl rfl (by kernel_rfl) (fun _ _ _ h => h) hS rfl (fun wq hq => by (try have hq1 := hq.1); (try have hq2 := hq.2.1); (try have hq3 := hq.2.2.1); (try have hq4 := hq.2.2.2.1); (try have hq5 := hq.2.2.2.2.1); (try have hq6 := hq.2.2.2.2.2.1); (try have hq7 := hq.2.2.2.2.2.2); (try have hr2 := hq.2); (try have hr3 := hq.2.2); (try have hr4 := hq.2.2.2); (try have hr5 := hq.2.2.2.2); first | (go_simp; done) | (go_simp; rfl)) ?_
        refine wpSeq_pure (v := _) rfl rfl rfl (by kernel_rfl) (fun _ _ _ h => h) (fun wq => by first | (go_simp; done) | (go_simp; rfl)) ?_
        refine wpSeq_pure (v := _) rfl rfl rfl (by kernel_rfl) (fun _ _ _ h => h) (fun wq => by first | (go_simp; done) | (go_simp; rfl)) ?_
        refine wpSeq_load (v := _) rfl rfl (by kernel_rfl) (fun _ _ _ h => h) hS rfl (fun wq hq => by (try have hq1 := hq.1); (try have hq2 := hq.2.1); (try have hq3 := hq.2.2.1); (try have hq4 := hq.2.2.2.1); (try have hq5 := hq.2.2.2.2.1); (try have hq6 := hq.2.2.2.2.2.1); (try have hq7 := hq.2.2.2.2.2.2); (try have hr2 := hq.2); (try have hr3 := hq.2.2); (try have hr4 := hq.2.2.2); (try have hr5 := hq.2.2.2.2); first | (go_simp; done) | (go_simp; rfl)) ?_
        refine wpSeq_pure (v := _) rfl rfl rfl (by kernel_rfl) (fun _ _ _ h => h) (fun wq => by first | (go_simp; done) | (go_simp; rfl)) ?_
        refine wpSeq_heavy rfl rfl (fun K hK => ?_); go_simp
        refine (coordinate_any _ _ _ _).mono ?_
        rintro e w6 ⟨rfl, rfl⟩
        rw [HD.out]
        dsimp only
        refine hK _ _ (fun h => by cases h) ?_; clear hK K
        refine wpSeq_heavy rfl rfl (fun K hK => ?_); go_simp
        refine (kept64_any _ _).mono ?_
        rintro e w6 ⟨rfl, rfl⟩
        dsimp only
        refine hK _ _ (fun h => by cases h) ?_; clear hK K
        refine wpSeq_pure (v := _) rfl rfl rfl (by kernel_rfl) (fun _ _ _ h => h) (fun wq => by first | (go_simp; done) | (go_simp; rfl)) ?_
        refine wpSeq_heavy rfl rfl (fun K hK => ?_); go_simp
        refine hK _ _ (fun h => by cases h) ?_; clear hK K
        refine wpSeq_end ?_
        go_wp2
        go_end0
        refine HQ.out w5.drew _ HB.out.ma.drew HB.out.fr.drew ?_
        rw [HBT.out]
        rw [betw_b (by omega) (by omega)]
        exact congrArg k32 (w64_in (by omega) (by omega)).symm
      · go_enter Tryz.func129, Tryz.ntmps129
        go_wp2_with fail
        refine (wasB HB.out Hxa.out Ewa.out).mono ?_
        rintro e w5 ⟨rfl, hb⟩
        clear HB
        have HB := Lib.hid hb
        clear hb
        go_wp2_with fail
        refine (wasB HB.out Hxb.out Ewb.out).mono ?_
        rintro e w5 ⟨rfl, hb⟩
        clear HB
        have HB := Lib.hid hb
        clear hb
        go_wp2_with fail
        refine (wasB HB.out Hxp.out Ewp.out).mono ?_
        rintro e w5 ⟨rfl, hb⟩
        clear HB
        have HB := Lib.hid hb
        clear hb
        go_wp2_with fail
        refine (wasB HB.out Hxb.out Ewb.out).mono ?_
        rintro e w5 ⟨rfl, hb⟩
        clear HB
        have HB := Lib.hid hb
        clear hb
        go_wp2_with fail
        refine (wasB HB.out Hxa.out Ewa.out).mono ?_
        rintro e w5 ⟨rfl, hb⟩
        clear HB
        have HB := Lib.hid hb
        clear hb
        go_wp2_with fail
        refine (wasB HB.out Hxa.out Ewa.out).mono ?_
        rintro e w5 ⟨rfl, hb⟩
        clear HB
        have HB := Lib.hid hb
        clear hb
        go_wp2_with fail
        refine (wasB HB.out Hxb.out Ewb.out).mono ?_
        rintro e w5 ⟨rfl, hb⟩
        clear HB
        have HB := Lib.hid hb
        clear hb
        go_wp2_with fail
        refine (isB HB.out Hyb.out Eib.out).mono ?_
        rintro e w5 ⟨rfl, hb⟩
        clear HB
        have HB := Lib.hid hb
        clear hb
        go_wp2_with fail
        refine (wasB HB.out Hxb.out Ewb.out).mono ?_
        rintro e w5 ⟨rfl, hb⟩
        clear HB
        have HB := Lib.hid hb
        clear hb
        go_wp2_with fail
        refine (isB HB.out Hya.out Eia.out).mono ?_
        rintro e w5 ⟨rfl, hb⟩
        clear HB
        have HB := Lib.hid hb
        clear hb
        go_wp2_with fail
        refine (isB HB.out Hyb.out Eib.out).mono ?_
        rintro e w5 ⟨rfl, hb⟩
        clear HB
        have HB := Lib.hid hb
        clear hb
        go_wp2_with fail
        refine (divided_any _ _ _).mono ?_
        rintro e w6 ⟨rfl, rfl⟩
        go_wp2_with fail
        obtain ⟨c3, ⟨u0, cu⟩, fu⟩ := HC.out w5 HB.out.ma
        have hS : w5.drew.cell? ⟨w.heap.size, 0, none⟩ = some (.pointer (some ⟨mb, 0, none⟩)) ∧ w5.drew.cell? ⟨mb, 3, none⟩ = some (.slice (some ⟨g, 0, none⟩) s.cur.length c) ∧ w5.drew.cell? ⟨w.heap.size + 1, 0, none⟩ = some (.int .i64 axis) := ⟨HB.out.k1, c3, HB.out.k2⟩
        have l1 := HB.out.ma.blk.lt
        refine wp_region_seqT (fun i => !([8, 10, 12] : List Nat).contains i) (fun i => ([0, 4, 7] : List Nat).contains i) (fun i => ([] : List Nat).contains i) [0, 1, 2, 3, 4, 5, 6, 7, 9, 8, 10, 11, 12] (fun w' : World => w'.cell? ⟨w.heap.size, 0, none⟩ = some (.pointer (some ⟨mb, 0, none⟩)) ∧ w'.cell? ⟨mb, 3, none⟩ = some (.slice (some ⟨g, 0, none⟩) s.cur.length c) ∧ w'.cell? ⟨w.heap.size + 1, 0, none⟩ = some (.int .i64 axis)) (by kernel_rfl) (by kernel_rfl) (by kernel_rfl) (by kernel_rfl) ?_
        refine wpSeq_load (v := _) rfl rfl (by kernel_rfl) (fun _ _ _ h => h) hS rfl (fun wq hq => by (try have hq1 := hq.1); (try have hq2 := hq.2.1); (try have hq3 := hq.2.2.1); (try have hq4 := hq.2.2.2.1); (try have hq5 := hq.2.2.2.2.1); (try have hq6 := hq.2.2.2.2.2.1); (try have hq7 := hq.2.2.2.2.2.2); (try have hr2 := hq.2); (try have hr3 := hq.2.2); (try have hr4 := hq.2.2.2); (try have hr5 := hq.2.2.2.2); first | (go_simp; done) | (go_simp; rfl)) ?_
        refine wpSeq_pure (v := _) rfl rfl rfl (by kernel_rfl) (fun _ _ _ h => h) (fun wq => by first | (go_simp; done) | (go_simp; rfl)) ?_
        refine wpSeq_pure (v := _) rfl rfl rfl (by kernel_rfl) (fun _ _ _ h => h) (fun wq => by first | (go_simp; done) | (go_simp; rfl)) ?_
        refine wpSeq_pure (v := _) rfl rfl rfl (by kernel_rfl) (fun _ _ _ h => h) (fun wq => by first | (go_simp; done) | (go_simp; rfl)) ?_
        refine wpSeq_load (v := _) rfl rfl (by kernel_rfl) (fun _ _ _ h => h) hS rfl (fun wq hq => by (try have hq1 := hq.1); (try have hq2 := hq.2.1); (try have hq3 := hq.2.2.1); (try have hq4 := hq.2.2.2.1); (try have hq5 := hq.2.2.2.2.1); (try have hq6 := hq.2.2.2.2.2.1); (try have hq7 := hq.2.2.2.2.2.2); (try have hr2 := hq.2); (try have hr3 := hq.2.2); (try have hr4 := hq.2.2.2); (try have hr5 := hq.2.2.2.2); first | (go_simp; done) | (go_simp; rfl)) ?_
        refine wpSeq_pure (v := _) rfl rfl rfl (by kernel_rfl) (fun _ _ _ h => h) (fun wq => by first | (go_simp; done) | (go_simp; rfl)) ?_
        refine wpSeq_pure (v := _) rfl rfl rfl (by kernel_rfl) (fun _ _ _ h => h) (fun wq => by first | (go_simp; done) | (go_simp; rfl)) ?_
        refine wpSeq_load (v := _) rfl rfl (by kernel_rfl) (fun _ _ _ h => h) hS rfl (fun wq hq => by (try have hq1 := hq.1); (try have hq2 := hq.2.1); (try have hq3 := hq.2.2.1); (try have hq4 := hq.2.2.2.1); (try have hq5 := hq.2.2.2.2.1); (try have hq6 := hq.2.2.2.2.2.1); (try have hq7 := hq.2.2.2.2.2.2); (try have hr2 := hq.2); (try have hr3 := hq.2.2); (try have hr4 := hq.2.2.2); (try have hr5 := hq.2.2.2.2); first | (go_simp; done) | (go_simp; rfl)) ?_
        refine wpSeq_pure (v := _) rfl rfl rfl (by kernel_rfl) (fun _ _ _ h => h) (fun wq => by first | (go_simp; done) | (go_simp; rfl)) ?_
        refine wpSeq_heavy rfl rfl (fun K hK => ?_); go_simp
        refine (coordinate_any _ _ _ _).mono ?_
        rintro e w6 ⟨rfl, rfl⟩
        rw [HD.out]
        dsimp only
        refine hK _ _ (fun h => by cases h) ?_; clear hK K
        refine wpSeq_heavy rfl rfl (fun K hK => ?_); go_simp
        refine (kept64_any _ _).mono ?_
        rintro e w6 ⟨rfl, rfl⟩
        dsimp only
        refine hK _ _ (fun h => by cases h) ?_; clear hK K
        refine wpSeq_pure (v := _) rfl rfl rfl (by kernel_rfl) (fun _ _ _ h => h) (fun wq => by first | (go_simp; done) | (go_simp; rfl)) ?_
        refine wpSeq_heavy rfl rfl (fun K hK => ?_); go_simp
        refine hK _ _ (fun h => by cases h) ?_; clear hK K
        refine wpSeq_end ?_
        go_wp2
        go_end0
        refine HQ.out w5.drew _ HB.out.ma.drew HB.out.fr.drew ?_
        rw [HBT.out]
        rw [betw_c (by omega) (by omega), ← w64_add]
        simp only [w64_wrap]
  · rw [if_neg hsw] at HBT
    by_cases h1 : wp ≤ wa
    · go_enter Tryz.func129, Tryz.ntmps129
      go_wp2_with fail
      refine (wasB HB.out Hxa.out Ewa.out).mono ?_
      rintro e w5 ⟨rfl, hb⟩
      clear HB
      have HB := Lib.hid hb
      clear hb
      go_wp2_with fail
      refine (wasB HB.out Hxb.out Ewb.out).mono ?_
      rintro e w5 ⟨rfl, hb⟩
      clear HB
      have HB := Lib.hid hb
      clear hb
      go_wp2_with fail
      refine (wasB HB.out Hxp.out Ewp.out).mono ?_
      rintro e w5 ⟨rfl, hb⟩
      clear HB
      have HB := Lib.hid hb
      clear hb
      go_wp2_with fail
      refine (wasB HB.out Hxa.out Ewa.out).mono ?_
      rintro e w5 ⟨rfl, hb⟩
      clear HB
      have HB := Lib.hid hb
      clear hb
      go_wp2_with fail
      refine (isB HB.out Hya.out Eia.out).mono ?_
      rintro e w5 ⟨rfl, hb⟩
      clear HB
      have HB := Lib.hid hb
      clear hb
      go_wp2_with fail
      refine (wasB HB.out Hxa.out Ewa.out).mono ?_
      rintro e w5 ⟨rfl, hb⟩
      clear HB
      have HB := Lib.hid hb
      clear hb
      go_wp2_with fail
      obtain ⟨c3, ⟨u0, cu⟩, fu⟩ := HC.out w5 HB.out.ma
      have hS : w5.drew.cell? ⟨w.heap.size, 0, none⟩ = some (.pointer (some ⟨mb, 0, none⟩)) ∧ w5.drew.cell? ⟨mb, 3, none⟩ = some (.slice (some ⟨g, 0, none⟩) s.cur.length c) ∧ w5.drew.cell? ⟨w.heap.size + 1, 0, none⟩ = some (.int .i64 axis) := ⟨HB.out.k1, c3, HB.out.k2⟩
      have l1 := HB.out.ma.blk.lt
      refine wp_region_seqT (fun i => !([8, 10, 12] : List Nat).contains i) (fun i => ([0, 4, 7] : List Nat).contains i) (fun i => ([] : List Nat).contains i) [0, 1, 2, 3, 4, 5, 6, 7, 9, 8, 10, 11, 12] (fun w' : World => w'.cell? ⟨w.heap.size, 0, none⟩ = some (.pointer (some ⟨mb, 0, none⟩)) ∧ w'.cell? ⟨mb, 3, none⟩ = some (.slice (some ⟨g, 0, none⟩) s.cur.length c) ∧ w'.cell? ⟨w.heap.size + 1, 0, none⟩ = some (.int .i64 axis)) (by kernel_rfl) (by kernel_rfl) (by kernel_rfl) (by kernel_rfl) ?_
      refine wpSeq_load (v := _) rfl rfl (by kernel_rfl) (fun _ _ _ h => h) hS rfl (fun wq hq => by (try have hq1 := hq.1); (try have hq2 := hq.2.1); (try have hq3 := hq.2.2.1); (try have hq4 := hq.2.2.2.1); (try have hq5 := hq.2.2.2.2.1); (try have hq6 := hq.2.2.2.2.2.1); (try have hq7 := hq.2.2.2.2.2.2); (try have hr2 := hq.2); (try have hr3 := hq.2.2); (try have hr4 := hq.2.2.2); (try have hr5 := hq.2.2.2.2); first | (go_simp; done) | (go_simp; rfl)) ?_
      refine wpSeq_pure (v := _) rfl rfl rfl (by kernel_rfl) (fun _ _ _ h => h) (fun wq => by first | (go_simp; done) | (go_simp; rfl)) ?_
      refine wpSeq_pure (v := _) rfl rfl rfl (by kernel_rfl) (fun _ _ _ h => h) (fun wq => by first | (go_simp; done) | (go_simp; rfl)) ?_
      refine wpSeq_pure (v := _) rfl rfl rfl (by kernel_rfl) (fun _ _ _ h => h) (fun wq => by first | (go_simp; done) | (go_simp; rfl)) ?_
      refine wpSeq_load (v := _) rfl rfl (by kernel_rfl) (fun _ _ _ h => h) hS rfl (fun wq hq => by (try have hq1 := hq.1); (try have hq2 := hq.2.1); (try have hq3 := hq.2.2.1); (try have hq4 := hq.2.2.2.1); (try have hq5 := hq.2.2.2.2.1); (try have hq6 := hq.2.2.2.2.2.1); (try have hq7 := hq.2.2.2.2.2.2); (try have hr2 := hq.2); (try have hr3 := hq.2.2); (try have hr4 := hq.2.2.2); (try have hr5 := hq.2.2.2.2); first | (go_simp; done) | (go_simp; rfl)) ?_
      refine wpSeq_pure (v := _) rfl rfl rfl (by kernel_rfl) (fun _ _ _ h => h) (fun wq => by first | (go_simp; done) | (go_simp; rfl)) ?_
      refine wpSeq_pure (v := _) rfl rfl rfl (by kernel_rfl) (fun _ _ _ h => h) (fun wq => by first | (go_simp; done) | (go_simp; rfl)) ?_
      refine wpSeq_load (v := _) rfl rfl (by kernel_rfl) (fun _ _ _ h => h) hS rfl (fun wq hq => by (try have hq1 := hq.1); (try have hq2 := hq.2.1); (try have hq3 := hq.2.2.1); (try have hq4 := hq.2.2.2.1); (try have hq5 := hq.2.2.2.2.1); (try have hq6 := hq.2.2.2.2.2.1); (try have hq7 := hq.2.2.2.2.2.2); (try have hr2 := hq.2); (try have hr3 := hq.2.2); (try have hr4 := hq.2.2.2); (try have hr5 := hq.2.2.2.2); first | (go_simp; done) | (go_simp; rfl)) ?_
      refine wpSeq_pure (v := _) rfl rfl rfl (by kernel_rfl) (fun _ _ _ h => h) (fun wq => by first | (go_simp; done) | (go_simp; rfl)) ?_
      refine wpSeq_heavy rfl rfl (fun K hK => ?_); go_simp
      refine (coordinate_any _ _ _ _).mono ?_
      rintro e w6 ⟨rfl, rfl⟩
      rw [HD.out]
      dsimp only
      refine hK _ _ (fun h => by cases h) ?_; clear hK K
      refine wpSeq_heavy rfl rfl (fun K hK => ?_); go_simp
      refine (kept64_any _ _).mono ?_
      rintro e w6 ⟨rfl, rfl⟩
      dsimp only
      refine hK _ _ (fun h => by cases h) ?_; clear hK K
      refine wpSeq_pure (v := _) rfl rfl rfl (by kernel_rfl) (fun _ _ _ h => h) (fun wq => by first | (go_simp; done) | (go_simp; rfl)) ?_
      refine wpSeq_heavy rfl rfl (fun K hK => ?_); go_simp
      refine hK _ _ (fun h => by cases h) ?_; clear hK K
      refine wpSeq_end ?_
      go_wp2
      go_end0
      refine HQ.out w5.drew _ HB.out.ma.drew HB.out.fr.drew ?_
      rw [HBT.out]
      rw [betw_a (by omega)]
      exact congrArg k32 (w64_in (by omega) (by omega)).symm
    · skip
      by_cases h2 : wb ≤ wp
      · go_enter Tryz.func129, Tryz.ntmps129
        go_wp2_with fail
        refine (wasB HB.out Hxa.out Ewa.out).mono ?_
        rintro e w5 ⟨rfl, hb⟩
        clear HB
        have HB := Lib.hid hb
        clear hb
        go_wp2_with fail
        refine (wasB HB.out Hxb.out Ewb.out).mono ?_
        rintro e w5 ⟨rfl, hb⟩
        clear HB
        have HB := Lib.hid hb
        clear hb
        go_wp2_with fail
        refine (wasB HB.out Hxp.out Ewp.out).mono ?_
        rintro e w5 ⟨rfl, hb⟩
        clear HB
        have HB := Lib.hid hb
        clear hb
        go_wp2_with fail
        refine (wasB HB.out Hxa.out Ewa.out).mono ?_
        rintro e w5 ⟨rfl, hb⟩
        clear HB
        have HB := Lib.hid hb
        clear hb
        go_wp2_with fail
        refine (wasB HB.out Hxb.out Ewb.out).mono ?_
        rintro e w5 ⟨rfl, hb⟩
        clear HB
        have HB := Lib.hid hb
        clear hb
        go_wp2_with fail
        refine (isB HB.out Hyb.out Eib.out).mono ?_
        rintro e w5 ⟨rfl, hb⟩
        clear HB
        have HB := Lib.hid hb
        clear hb
        go_wp2_with fail
        refine (wasB HB.out Hxb.out Ewb.out).mono ?_
        rintro e w5 ⟨rfl, hb⟩
        clear HB
        have HB := Lib.hid hb
        clear hb
        go_wp2_with fail
        obtain ⟨c3, ⟨u0, cu⟩, fu⟩ := HC.out w5 HB.out.ma
        have hS : w5.drew.cell? ⟨w.heap.size, 0, none⟩ = some (.pointer (some ⟨mb, 0, none⟩)) ∧ w5.drew.cell? ⟨mb, 3, none⟩ = some (.slice (some ⟨g, 0, none⟩) s.cur.length c) ∧ w5.drew.cell? ⟨w.heap.size + 1, 0, none⟩ = some (.int .i64 axis) := ⟨HB.out.k1, c3, HB.out.k2⟩
        have l1 := HB.out.ma.blk.lt
        refine wp_region_seqT (fun i => !([8, 10, 12] : List Nat).contains i) (fun i => ([0, 4, 7] : List Nat).contains i) (fun i => ([] : List Nat).contains i) [0, 1, 2, 3, 4, 5, 6, 7, 9, 8, 10, 11, 12] (fun w' : World => w'.cell? ⟨w.heap.size, 0, none⟩ = some (.pointer (some ⟨mb, 0, none⟩)) ∧ w'.cell? ⟨mb, 3, none⟩ = some (.slice (some ⟨g, 0, none⟩) s.cur.length c) ∧ w'.cell? ⟨w.heap.size + 1, 0, none⟩ = some (.int .i64 axis)) (by kernel_rfl) (by kernel_rfl) (by kernel_rfl) (by kernel_rfl) ?_
        refine wpSeq_load (v := _) rfl rfl (by kernel_rfl) (fun _ _ _ h => h) hS rfl (fun wq hq => by (try have hq1 := hq.1); (try have hq2 := hq.2.1); (try have hq3 := hq.2.2.1); (try have hq4 := hq.2.2.2.1); (try have hq5 := hq.2.2.2.2.1); (try have hq6 := hq.2.2.2.2.2.1); (try have hq7 := hq.2.2.2.2.2.2); (try have hr2 := hq.2); (try have hr3 := hq.2.2); (try have hr4 := hq.2.2.2); (try have hr5 := hq.2.2.2.2); first | (go_simp; done) | (go_simp; rfl)) ?_
        refine wpSeq_pure (v := _) rfl rfl rfl (by kernel_rfl) (fun _ _ _ h => h) (fun wq => by first | (go_simp; done) | (go_simp; rfl)) ?_
        refine wpSeq_pure (v := _) rfl rfl rfl (by kernel_rfl) (fun _ _ _ h => h) (fun wq => by first | (go_simp; done) | (go_simp; rfl)) ?_
        refine wpSeq_pure (v := _) rfl rfl rfl (by kernel_rfl) (fun _ _ _ h => h) (fun wq => by first | (go_simp; done) | (go_simp; rfl)) ?_
        refine wpSeq_load (v := _) rfl rfl (by kernel_rfl) (fun _ _ _ h => h) hS rfl (fun wq hq => by (try have hq1 := hq.1); (try have hq2 := hq.2.1); (try have hq3 := hq.2.2.1); (try have hq4 := hq.2.2.2.1); (try have hq5 := hq.2.2.2.2.1); (try have hq6 := hq.2.2.2.2.2.1); (try have hq7 := hq.2.2.2.2.2.2); (try have hr2 := hq.2); (try have hr3 := hq.2.2); (try have hr4 := hq.2.2.2); (try have hr5 := hq.2.2.2.2); first | (go_simp; done) | (go_simp; rfl)) ?_
        refine wpSeq_pure (v := _) rfl rfl rfl (by kernel_rfl) (fun _ _ _ h => h) (fun wq => by first | (go_simp; done) | (go_simp; rfl)) ?_
        refine wpSeq_pure (v := _) rfl rfl rfl (by kernel_rfl) (fun _ _ _ h => h) (fun wq => by first | (go_simp; done) | (go_simp; rfl)) ?_
        refine wpSeq_load (v := _) rfl rfl (by kernel_rfl) (fun _ _ _ h => h) hS rfl (fun wq hq => by (try have hq1 := hq.1); (try have hq2 := hq.2.1); (try have hq3 := hq.2.2.1); (try have hq4 := hq.2.2.2.1); (try have hq5 := hq.2.2.2.2.1); (try have hq6 := hq.2.2.2.2.2.1); (try have hq7 := hq.2.2.2.2.2.2); (try have hr2 := hq.2); (try have hr3 := hq.2.2); (try have hr4 := hq.2.2.2); (try have hr5 := hq.2.2.2.2); first | (go_simp; done) | (go_simp; rfl)) ?_
        refine wpSeq_pure (v := _) rfl rfl rfl (by kernel_rfl) (fun _ _ _ h => h) (fun wq => by first | (go_simp; done) | (go_simp; rfl)) ?_
        refine wpSeq_heavy rfl rfl (fun K hK => ?_); go_simp
        refine (coordinate_any _ _ _ _).mono ?_
        rintro e w6 ⟨rfl, rfl⟩
        rw [HD.out]
        dsimp only
        refine hK _ _ (fun h => by cases h) ?_; clear hK K
        refine wpSeq_heavy rfl rfl (fun K hK => ?_); go_simp
        refine (kept64_any _ _).mono ?_
        rintro e w6 ⟨rfl, rfl⟩
        dsimp only
        refine hK _ _ (fun h => by cases h) ?_; clear hK K
        refine wpSeq_pure (v := _) rfl rfl rfl (by kernel_rfl) (fun _ _ _ h => h) (fun wq => by first | (go_simp; done) | (go_simp; rfl)) ?_
        refine wpSeq_heavy rfl rfl (fun K hK => ?_); go_simp
        refine hK _ _ (fun h => by cases h) ?_; clear hK K
        refine wpSeq_end ?_
        go_wp2
        go_end0
        refine HQ.out w5.drew _ HB.out.ma.drew HB.out.fr.drew ?_
        rw [HBT.out]
        rw [betw_b (by omega) (by omega)]
        exact congrArg k32 (w64_in (by omega) (by omega)).symm
      · go_enter Tryz.func129, Tryz.ntmps129
        go_wp2_with fail
        refine (wasB HB.out Hxa.out Ewa.out).mono ?_
        rintro e w5 ⟨rfl, hb⟩
        clear HB
        have HB := Lib.hid hb
        clear hb
        go_wp2_with fail
        refine (wasB HB.out Hxb.out Ewb.out).mono ?_
        rintro e w5 ⟨rfl, hb⟩
        clear HB
        have HB := Lib.hid hb
        clear hb
        go_wp2_with fail
        refine (wasB HB.out Hxp.out Ewp.out).mono ?_
        rintro e w5 ⟨rfl, hb⟩
        clear HB
        have HB := Lib.hid hb
        clear hb
        go_wp2_with fail
        refine (wasB HB.out Hxa.out Ewa.out).mono ?_
        rintro e w5 ⟨rfl, hb⟩
        clear HB
        have HB := Lib.hid hb
        clear hb
        go_wp2_with fail
        refine (wasB HB.out Hxb.out Ewb.out).mono ?_
        rintro e w5 ⟨rfl, hb⟩
        clear HB
        have HB := Lib.hid hb
        clear hb
        go_wp2_with fail
        refine (wasB HB.out Hxb.out Ewb.out).mono ?_
        rintro e w5 ⟨rfl, hb⟩
        clear HB
        have HB := Lib.hid hb
        clear hb
        go_wp2_with fail
        refine (wasB HB.out Hxa.out Ewa.out).mono ?_
        rintro e w5 ⟨rfl, hb⟩
        clear HB
        have HB := Lib.hid hb
        clear hb
        go_wp2_with fail
        refine (isB HB.out Hya.out Eia.out).mono ?_
        rintro e w5 ⟨rfl, hb⟩
        clear HB
        have HB := Lib.hid hb
        clear hb
        go_wp2_with fail
        refine (wasB HB.out Hxa.out Ewa.out).mono ?_
        rintro e w5 ⟨rfl, hb⟩
        clear HB
        have HB := Lib.hid hb
        clear hb
        go_wp2_with fail
        refine (isB HB.out Hyb.out Eib.out).mono ?_
        rintro e w5 ⟨rfl, hb⟩
        clear HB
        have HB := Lib.hid hb
        clear hb
        go_wp2_with fail
        refine (isB HB.out Hya.out Eia.out).mono ?_
        rintro e w5 ⟨rfl, hb⟩
        clear HB
        have HB := Lib.hid hb
        clear hb
        go_wp2_with fail
        refine (divided_any _ _ _).mono ?_
        rintro e w6 ⟨rfl, rfl⟩
        go_wp2_with fail
        obtain ⟨c3, ⟨u0, cu⟩, fu⟩ := HC.out w5 HB.out.ma
        have hS : w5.drew.cell? ⟨w.heap.size, 0, none⟩ = some (.pointer (some ⟨mb, 0, none⟩)) ∧ w5.drew.cell? ⟨mb, 3, none⟩ = some (.slice (some ⟨g, 0, none⟩) s.cur.length c) ∧ w5.drew.cell? ⟨w.heap.size + 1, 0, none⟩ = some (.int .i64 axis) := ⟨HB.out.k1, c3, HB.out.k2⟩
        have l1 := HB.out.ma.blk.lt
        refine wp_region_seqT (fun i => !([8, 10, 12] : List Nat).contains i) (fun i => ([0, 4, 7] : List Nat).contains i) (fun i => ([] : List Nat).contains i) [0, 1, 2, 3, 4, 5, 6, 7, 9, 8, 10, 11, 12] (fun w' : World => w'.cell? ⟨w.heap.size, 0, none⟩ = some (.pointer (some ⟨mb, 0, none⟩)) ∧ w'.cell? ⟨mb, 3, none⟩ = some (.slice (some ⟨g, 0, none⟩) s.cur.length c) ∧ w'.cell? ⟨w.heap.size + 1, 0, none⟩ = some (.int .i64 axis)) (by kernel_rfl) (by kernel_rfl) (by kernel_rfl) (by kernel_rfl) ?_
        refine wpSeq_load (v := _) rfl rfl (by kernel_rfl) (fun _ _ _ h => h) hS rfl (fun wq hq => by (try have hq1 := hq.1); (try have hq2 := hq.2.1); (try have hq3 := hq.2.2.1); (try have hq4 := hq.2.2.2.1); (try have hq5 := hq.2.2.2.2.1); (try have hq6 := hq.2.2.2.2.2.1); (try have hq7 := hq.2.2.2.2.2.2); (try have hr2 := hq.2); (try have hr3 := hq.2.2); (try have hr4 := hq.2.2.2); (try have hr5 := hq.2.2.2.2); first | (go_simp; done) | (go_simp; rfl)) ?_
        refine wpSeq_pure (v := _) rfl rfl rfl (by kernel_rfl) (fun _ _ _ h => h) (fun wq => by first | (go_simp; done) | (go_simp; rfl)) ?_
        refine wpSeq_pure (v := _) rfl rfl rfl (by kernel_rfl) (fun _ _ _ h => h) (fun wq => by first | (go_simp; done) | (go_simp; rfl)) ?_
        refine wpSeq_pure (v := _) rfl rfl rfl (by kernel_rfl) (fun _ _ _ h => h) (fun wq => by first | (go_simp; done) | (go_simp; rfl)) ?_
        refine wpSeq_load (v := _) rfl rfl (by kernel_rfl) (fun _ _ _ h => h) hS rfl (fun wq hq => by (try have hq1 := hq.1); (try have hq2 := hq.2.1); (try have hq3 := hq.2.2.1); (try have hq4 := hq.2.2.2.1); (try have hq5 := hq.2.2.2.2.1); (try have hq6 := hq.2.2.2.2.2.1); (try have hq7 := hq.2.2.2.2.2.2); (try have hr2 := hq.2); (try have hr3 := hq.2.2); (try have hr4 := hq.2.2.2); (try have hr5 := hq.2.2.2.2); first | (go_simp; done) | (go_simp; rfl)) ?_
        refine wpSeq_pure (v := _) rfl rfl rfl (by kernel_rfl) (fun _ _ _ h => h) (fun wq => by first | (go_simp; done) | (go_simp; rfl)) ?_
        refine wpSeq_pure (v := _) rfl rfl rfl (by kernel_rfl) (fun _ _ _ h => h) (fun wq => by first | (go_simp; done) | (go_simp; rfl)) ?_
        refine wpSeq_load (v := _) rfl rfl (by kernel_rfl) (fun _ _ _ h => h) hS rfl (fun wq hq => by (try have hq1 := hq.1); (try have hq2 := hq.2.1); (try have hq3 := hq.2.2.1); (try have hq4 := hq.2.2.2.1); (try have hq5 := hq.2.2.2.2.1); (try have hq6 := hq.2.2.2.2.2.1); (try have hq7 := hq.2.2.2.2.2.2); (try have hr2 := hq.2); (try have hr3 := hq.2.2); (try have hr4 := hq.2.2.2); (try have hr5 := hq.2.2.2.2); first | (go_simp; done) | (go_simp; rfl)) ?_
        refine wpSeq_pure (v := _) rfl rfl rfl (by kernel_rfl) (fun _ _ _ h => h) (fun wq => by first | (go_simp; done) | (go_simp; rfl)) ?_
        refine wpSeq_heavy rfl rfl (fun K hK => ?_); go_simp
        refine (coordinate_any _ _ _ _).mono ?_
        rintro e w6 ⟨rfl, rfl⟩
        rw [HD.out]
        dsimp only
        refine hK _ _ (fun h => by cases h) ?_; clear hK K
        refine wpSeq_heavy rfl rfl (fun K hK => ?_); go_simp
        refine (kept64_any _ _).mono ?_
        rintro e w6 ⟨rfl, rfl⟩
        dsimp only
        refine hK _ _ (fun h => by cases h) ?_; clear hK K
        refine wpSeq_pure (v := _) rfl rfl rfl (by kernel_rfl) (fun _ _ _ h => h) (fun wq => by first | (go_simp; done) | (go_simp; rfl)) ?_
        refine wpSeq_heavy rfl rfl (fun K hK => ?_); go_simp
        refine hK _ _ (fun h => by cases h) ?_; clear hK K
        refine wpSeq_end ?_
        go_wp2
        go_end0
        refine HQ.out w5.drew _ HB.out.ma.drew HB.out.fr.drew ?_
        rw [HBT.out]
        rw [betw_c (by omega) (by omega), ← w64_add]
        simp only [w64_wrap]
end Go.Proofs.YthdmdgmchkhngaaGreat

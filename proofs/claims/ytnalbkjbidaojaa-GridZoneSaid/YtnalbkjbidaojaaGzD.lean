/- fleuronref21.Program: its contract. -/
import Derived.Test.YtnalbkjbidaojaaGzC
import Derived.Test.YtnalbkjbidaojaaNumL
namespace Go.Proofs.Ytnalbkjbidaojaa
open Go.RowKit Mc

theorem take_gsc {unit size : Int} {l : List Int} {k : Nat} {x : Int} (h : l[k]? = some x) : (l.take (k + 1)).map (gsc unit size) = (l.take k).map (gsc unit size) ++ [gsc unit size x] := by
  rw [List.take_add_one, h, List.map_append]
  rfl
section
variable {N : Nat} {X wr w1 : World} {pb : Nat} {vf vm vc : Value} {p : Pg}
theorem PgI.pushC (h : PgI N X pb wr vf vm vc p) {x : Int} {v' : Value} (hr : w1.ownsRow X.heap.size 3 1 v' (p.cvt.length + 1) (ints p.cvt ++ [.int .i64 x])) (hg : wr.grownBy w1 vc.ownBlock) :
    Blk w1 pb 51 #[vf, vm, vc, .int .i64 p.size] ∧ PgI N X pb (w1.setCell ⟨pb, 2, none⟩ v') vf vm v' { p with cvt := p.cvt ++ [x] } := by
  have hb1 : Blk w1 pb 51 #[vf, vm, vc, .int .i64 p.size] := h.box.grown hg fun e => by
    obtain ⟨_, _, cs, hb⟩ := owns_block h.cvt e.symm
    exact (h.box.ne_ hb (by decide)) rfl
  have hf : OwnAt (codeR N) 49 X.heap.size w1 vf p.funcs := h.fs.grown hg fun g t' xs fz e hh => by
    obtain ⟨hle, _, cs, hb⟩ := owns_block h.cvt e
    rw [show wr.heap[g]? = _ from hb] at hh
    injection hh with hh
    injection hh with _ ht
    subst ht
    exact ⟨Nat.le_trans h.hN hle, (by simp only [codeR, insR, Repr.row, Repr.pair, Repr.int, List.mem_cons, List.append_nil, List.not_mem_nil, or_false]; decide)⟩
  refine ⟨hb1, by have := hb1.set_ 2 v'; simpa using this, hf.setCell hb1 (by simp only [codeR, insR, Repr.row, Repr.pair, Repr.int, List.mem_cons, List.append_nil, List.not_mem_nil, or_false]; decide) (Nat.le_trans h.hN h.hpb) 2 v', owns_box (owns_grownBy h.main hg (apart_types h.main h.cvt (by decide))) hb1 (by decide) 2 v', by have := owns_box hr hb1 (by decide) 2 v'; simpa [ints] using this, ?_, h.hpb, h.hN⟩
  refine Fr.setCell ⟨hg.os.trans h.fr.os, hg.tape.trans h.fr.tape, hg.output.trans h.fr.output, Nat.le_trans h.fr.size hg.size, fun k hk hs => (hg.block k (Nat.lt_of_lt_of_le hk h.fr.size) (fun e => ?_)).trans (h.fr.block k hk hs)⟩ (.inl rfl) _
  have := (owns_block h.cvt e.symm).1
  omega
end
def GqI (N : Nat) (X : World) (pb : Nat) (fl : List (List (Int × Int))) (size : Int) (i : Value) (wr : World) : Prop := ∃ (k : Nat) (vf : Value), k ≤ fl.length ∧ i = .int .i64 (k : Int) ∧ PgI N X pb wr vf (.slice none 0 0) (.slice none 0 0) ⟨fl.take k, [], [], size⟩
def GqJ (N : Nat) (X : World) (pb : Nat) (fl : List (List (Int × Int))) (vm : Value) (ml : List (Int × Int)) (cl : List Int) (unit size : Int) (i : Value) (wr : World) : Prop := ∃ (k : Nat) (vc : Value), k ≤ cl.length ∧ i = .int .i64 (k : Int) ∧ ∃ vf, PgI N X pb wr vf vm vc ⟨fl, ml, (cl.take k).map (gsc unit size), size⟩
set_option maxHeartbeats 4000000 in
set_option maxRecDepth 100000 in
theorem rgprog_any (N0 : Nat) (unit size glyph : Int) (f2 f3 f4 f5 f6 : Value) (gA fA cA : Option Addr) (gc fc cc B : Nat) (gl : List GlyD) (fl : List (List (Int × Int))) (cl : List Int) (w : World)
    (hgl : RowAt (glyphR N0) 74 w B gA gl) (hfl : RowAt (codeR N0) 49 w B fA fl) (hcl : Reads w B 1 cA cl.length (ints cl)) (hB : B ≤ w.heap.size) (h1 : gl.length ≤ 1000000) (h2 : fl.length ≤ 1000000) (h3 : cl.length ≤ 1000000)
    (h4 : ∀ g ∈ gl, g.hint.length ≤ 1000000) (h5 : ∀ l ∈ fl, l.length ≤ 1000000) (hi : ∀ x ∈ cl, -9223372036854775808 ≤ x ∧ x ≤ 9223372036854775807) (hu : -9223372036854775808 ≤ unit ∧ unit ≤ 9223372036854775807) :
    Calls Try.prog 16 #[.agg #[.int .i64 unit, .slice gA gl.length gc, f2, f3, f4, f5, f6, .slice fA fl.length fc, .slice cA cl.length cc], .int .i64 glyph, .int .i64 size] w (PgPost w (gpr unit size glyph gl fl cl)) := by
  obtain ⟨X, hX⟩ : ∃ X, X = ((w.alloc (.cells #[.int .i64 unit, .slice gA gl.length gc, f2, f3, f4, f5, f6, .slice fA fl.length fc, .slice cA cl.length cc] 42)).alloc (.cells #[.slice none 0 0, .slice none 0 0, .slice none 0 0, .int .i64 0] 51)) := ⟨_, rfl⟩
  have hXw : Grow w X := by rw [hX]; exact ((Fr.refl _ w).alloc _).alloc _
  have hb0 : Blk X w.heap.size 42 #[.int .i64 unit, .slice gA gl.length gc, f2, f3, f4, f5, f6, .slice fA fl.length fc, .slice cA cl.length cc] := by rw [hX]; exact (Blk.new _ _ _).alloc _
  have hb1 : Blk X (w.heap.size + 1) 51 #[.slice none 0 0, .slice none 0 0, .slice none 0 0, .int .i64 0] := by rw [hX]; exact Blk.new_at _ _ _ (by simp)
  have hz0 : X.heap.size = w.heap.size + 2 := by rw [hX]; simp
  have HXZ := Lib.hid hz0
  have HFB := Lib.hid hb0
  have HB1 := Lib.hid hb1
  have HXG := Lib.hid hXw
  have hX0 := Lib.hid hX
  have hbl := Grow.below hXw (Nat.le_refl _)
  have HCV := Lib.hid (hcl.below hbl hB)
  have HGL := Lib.hid (hgl.below hbl hB)
  have HFL := Lib.hid (hfl.below hbl hB)
  have HBX := Lib.hid (show B ≤ X.heap.size by omega)
  have HCL := Lib.hid h3
  have HCI := Lib.hid hi
  have HU := Lib.hid hu
  have HH := Lib.hid h4
  have HFH := Lib.hid h5
  have HGN := Lib.hid h1
  have HFN := Lib.hid h2
  obtain ⟨i0, hi0, hi1, hi2, hi3⟩ := info_m coderow_info
  obtain ⟨j0, hj0, hj1, hj2, hj3⟩ := info_m info_int
  obtain ⟨m0, hm0, hm1, hm2, hm3⟩ := info_m info_ins
  clear hgl hfl hcl hB h1 h2 h3 h4 h5 hi hu hX hXw hb0 hb1 hz0 hbl
  go_enter Try.func16, Try.ntmps16
  go_upto_region 1 with fail
  rw [← hX0.out]
  go_upto_region 2 with fail
  have hI0 : PgI w.heap.size X X.heap.size (X.alloc (.cells #[.slice none 0 0, .slice none 0 0, .slice none 0 0, .int .i64 size] 51)) (.slice none 0 0) (.slice none 0 0) (.slice none 0 0) ⟨[], [], [], size⟩ := ⟨Blk.new _ _ _, OwnAt.nil _ _ _ _, owns_nil _ _ _ _, owns_nil _ _ _ _, (Fr.refl _ _).alloc _, Nat.le_refl _, HXG.out.size⟩
  obtain ⟨pb, hpb⟩ : ∃ pb, pb = X.heap.size := ⟨_, rfl⟩
  rw [← hpb] at hI0 ⊢
  have HPB := Lib.hid (Nat.le_of_eq hpb.symm)
  generalize X.alloc (.cells #[.slice none 0 0, .slice none 0 0, .slice none 0 0, .int .i64 size] 51) = X1 at *
  have H0 := Lib.hid (show GqI w.heap.size X pb fl size (.int .i64 0) X1 from ⟨0, _, Nat.zero_le _, rfl, hI0⟩)
  clear hI0 hpb
  go_wp2_with fail
  go_loopw [8] (fun i wr => GqI w.heap.size X pb fl size i wr) (fun i _ => fl.length - (intOf i).toNat)
  case atStart => exact H0.out
  case round =>
    clear H0
    obtain ⟨k, vf, hk, rfl, hI⟩ := hrel
    have HI := Lib.hid hI
    have hfn := HFN.out
    have hfb := hI.fr.blk HFB.out (show ¬ w.heap.size = pb by have := HXZ.out; have := HPB.out; omega)
    have y7 := hfb.cell 7
    have y1 := hfb.cell 1
    simp only [List.getElem?_toArray, List.getElem?_cons_zero, List.getElem?_cons_succ] at y7 y1
    have yl := hfb.lt
    by_cases hlt : (k : Int) < (fl.length : Int)
    · obtain ⟨l, hl⟩ : ∃ l, fl[k]? = some l := ⟨_, List.getElem?_eq_getElem (by omega)⟩
      obtain ⟨cb, co, cs, rfl, hcb, hrel, hcc⟩ := HFL.out.get hl
      obtain ⟨Al, lc, rfl, hl1, hl2, hrow⟩ := hrel
      have hws := hI.fr.size
      have hpb := HPB.out
      have hbx := HBX.out
      have x0 := (hI.fr.cell (p := ⟨cb, co + k * 1 + 0, none⟩) (by simp; omega) (show ¬ cb = pb by omega)).trans (hcc 0 _ rfl)
      rw [Nat.add_zero, Nat.mul_one] at x0
      have hcl : cb < wr.heap.size := by omega
      have hlm := HFH.out l (List.mem_of_getElem? hl)
      have HII := Lib.hid (codeR_ints hrow)
      have HRD : Hid (Reads wr B 2 Al l.length (pts l)) := Lib.hid (by rw [← insCells_pts]; exact (codeR_reads hrow).keep fun q hq => hI.fr.cell (by omega) (show ¬ q.block = pb by omega))
      have HBW := Lib.hid (show B ≤ wr.heap.size by omega)
      have HLK := Lib.hid hl
      have HFS := Lib.hid (show (fl.take k).length = k by rw [List.length_take]; omega)
      obtain ⟨Af, cf, hvf, hf1, hf2, _⟩ := hI.fs.form
      rw [show (Pg.funcs ⟨fl.take k, [], [], size⟩).length = k from HFS.out] at hvf
      subst hvf
      have z0 := hI.box.cell 0
      simp only [List.getElem?_toArray, List.getElem?_cons_zero] at z0
      have zl := hI.box.lt
      clear hcc hrow hI hl hws hpb hbx hf1 hf2 y1 hfb
      go_upto_region 5 with fail
      have hS : (fun w' : World => w'.cell? ⟨pb, 0, none⟩ = some (.slice Af k cf) ∧ w'.cell? ⟨w.heap.size, 7, none⟩ = some (.slice (some ⟨cb, co, none⟩) fl.length fc) ∧ w'.cell? ⟨cb, co + k, none⟩ = some (.slice Al l.length lc)) wr.drew := ⟨z0, y7, x0⟩
      have HSS := Lib.hid hS
      clear x0 y7
      refine wp_region_seqT (fun i => !([2, 8, 9, 10, 12] : List Nat).contains i) (fun i => ([1, 4, 7] : List Nat).contains i) (fun i => ([2, 8, 9] : List Nat).contains i) [0, 1, 3, 4, 5, 6, 7, 2, 8, 9, 10, 11, 12] (fun w' : World => w'.cell? ⟨pb, 0, none⟩ = some (.slice Af k cf) ∧ w'.cell? ⟨w.heap.size, 7, none⟩ = some (.slice (some ⟨cb, co, none⟩) fl.length fc) ∧ w'.cell? ⟨cb, co + k, none⟩ = some (.slice Al l.length lc)) (by kernel_rfl) (by kernel_rfl) (by kernel_rfl) (by kernel_rfl) ?_
      refine wpSeq_pure (v := _) rfl rfl rfl (by kernel_rfl) (fun _ _ _ h => h) (fun wq => by first | (go_simp; done) | (go_simp; rfl)) ?_
      refine wpSeq_load (v := _) rfl rfl (by kernel_rfl) (fun _ _ _ h => h) hS rfl (fun wq hq => by (try have hq1 := hq.1); (try have hq2 := hq.2.1); (try have hq3 := hq.2.2.1); (try have hq4 := hq.2.2.2.1); (try have hq5 := hq.2.2.2.2.1); (try have hq6 := hq.2.2.2.2.2.1); (try have hq7 := hq.2.2.2.2.2.2); (try have hr2 := hq.2); (try have hr3 := hq.2.2); (try have hr4 := hq.2.2.2); (try have hr5 := hq.2.2.2.2); first | (go_simp; done) | (go_simp; rfl)) ?_
      refine wpSeq_pure (v := _) rfl rfl rfl (by kernel_rfl) (fun _ _ _ h => h) (fun wq => by first | (go_simp; done) | (go_simp; rfl)) ?_
      refine wpSeq_load (v := _) rfl rfl (by kernel_rfl) (fun _ _ _ h => h) hS rfl (fun wq hq => by (try have hq1 := hq.1); (try have hq2 := hq.2.1); (try have hq3 := hq.2.2.1); (try have hq4 := hq.2.2.2.1); (try have hq5 := hq.2.2.2.2.1); (try have hq6 := hq.2.2.2.2.2.1); (try have hq7 := hq.2.2.2.2.2.2); (try have hr2 := hq.2); (try have hr3 := hq.2.2); (try have hr4 := hq.2.2.2); (try have hr5 := hq.2.2.2.2); first | (go_simp; done) | (go_simp; rfl)) ?_
      refine wpSeq_pure (v := _) rfl rfl rfl (by kernel_rfl) (fun _ _ _ h => h) (fun wq => by first | (go_simp; done) | (go_simp; rfl)) ?_
      refine wpSeq_pure (v := _) rfl rfl rfl (by kernel_rfl) (fun _ _ _ h => h) (fun wq => by first | (go_simp; done) | (go_simp; rfl)) ?_
      refine wpSeq_load (v := _) rfl rfl (by kernel_rfl) (fun _ _ _ h => h) hS rfl (fun wq hq => by (try have hq1 := hq.1); (try have hq2 := hq.2.1); (try have hq3 := hq.2.2.1); (try have hq4 := hq.2.2.2.1); (try have hq5 := hq.2.2.2.2.1); (try have hq6 := hq.2.2.2.2.2.1); (try have hq7 := hq.2.2.2.2.2.2); (try have hr2 := hq.2); (try have hr3 := hq.2.2); (try have hr4 := hq.2.2.2); (try have hr5 := hq.2.2.2.2); first | (go_simp; done) | (go_simp; rfl)) ?_
      refine wpSeq_heavy rfl rfl (fun K hK => ?_); go_simp
      have kS : ∀ w', Grow wr.drew w' → (fun w' : World => w'.cell? ⟨pb, 0, none⟩ = some (.slice Af k cf) ∧ w'.cell? ⟨w.heap.size, 7, none⟩ = some (.slice (some ⟨cb, co, none⟩) fl.length fc) ∧ w'.cell? ⟨cb, co + k, none⟩ = some (.slice Al l.length lc)) w' := fun w' h => ⟨(h.cell (p := ⟨pb, 0, none⟩) zl (fun x => x)).trans HSS.out.1, (h.cell (p := ⟨w.heap.size, 7, none⟩) yl (fun x => x)).trans HSS.out.2.1, (h.cell (p := ⟨cb, co + k, none⟩) hcl (fun x => x)).trans HSS.out.2.2⟩
      have HKS := Lib.hid kS
      have HG4 : Hid (Grow wr.drew (wr.drew.alloc (.cells #[] 68))) := Lib.hid ((Fr.refl _ _).alloc _)
      clear hS kS
      refine hK _ _ (fun _ => (HKS.out _ HG4.out)) ?_; clear hK K
      refine wpSeq_heavy rfl rfl (fun K hK => ?_)
      refine step_own _ rfl (.tmp 21) (.tmp 26) _ rfl wr.heap.size 68 m0 _ 2 16 Try.underlying49 hm0 hm1 hm2 hm3 rfl (show 0 < 2 by decide) (.slice (some ⟨wr.heap.size, 0, none⟩) 0 0) 0 [] rfl (owns_empty (Blk.new _ _ _) (Nat.le_refl _)) B Al l.length lc (pts l) rfl ((HRD.out.drewN 1).alloc HBW.out _) (pts_one _) (by unfold maxLen; omega) (by omega) (by simp) ?_
      intro v5 w5 ho5' hg5' _
      have ho5 : w5.ownsRow wr.heap.size 68 2 v5 l.length (pts l) := by simpa using ho5'
      have hg5 : Grow wr.drew w5 := grow_of_grown HG4.out hg5' (fun g e => by simp only [Value.ownBlock, Option.some.injEq] at e; subst e; exact Nat.le_refl _)
      have HG5 := Lib.hid hg5
      have HI5 := Lib.hid ((HI.out.go (Fr.refl _ _).drew).go hg5)
      obtain ⟨A5, c5, rfl, h51, h52⟩ := owns_form ho5
      have hrel5 : (codeR w.heap.size).rel w5 w5.heap.size l [.slice A5 l.length c5] := (OwnAt.of_own (R := insR w.heap.size) (fun x => [.int .i64 x.1, .int .i64 x.2]) (fun a ha => insR_mk _ _ _ _ _ (HII.out a ha).1 (HII.out a ha).2) ho5).rel
      have HR5 := Lib.hid hrel5
      clear hrel5 ho5 ho5' hg5 hg5' h51 h52
      refine hK _ _ (fun _ => (HKS.out _ HG5.out)) ?_; clear hK K
      refine wpSeq_heavy rfl rfl (fun K hK => ?_); go_simp
      have HI6 := Lib.hid (HI5.out.go ((Fr.refl _ _).alloc (.cells #[.slice A5 l.length c5] 49)))
      have HR6 := Lib.hid ((codeR w.heap.size).more ((codeR w.heap.size).below HR5.out ((Below.refl _ w5).alloc (Nat.le_refl _) (.cells #[.slice A5 l.length c5] 49)) (Nat.le_refl _)) (show w5.heap.size ≤ (w5.alloc (.cells #[.slice A5 l.length c5] 49)).heap.size by simp))
      have HG6 := Lib.hid (HG5.out.alloc (.cells #[.slice A5 l.length c5] 49))
      clear HI5 HR5
      refine hK _ _ (fun _ => (HKS.out _ HG6.out)) ?_; clear hK K
      refine wpSeq_heavy rfl rfl (fun K hK => ?_)
      refine step_push _ rfl (.tmp 20) (.tmp 28) _ rfl (codeR w.heap.size) X.heap.size 49 i0 _ 24 Try.underlying40 hi0 hi1 hi2 hi3 rfl (show 0 < 1 by decide) (by simp only [codeR, insR, Repr.row, Repr.pair, Repr.int, List.mem_cons, List.append_nil, List.not_mem_nil, or_false]; decide) HXG.out.size (.slice Af k cf) (fl.take k) rfl HI6.out.fs w5.heap.size [_] l rfl (Blk.new _ _ _) HR6.out (by have := HFS.out; unfold maxLen; omega) (by have := HFS.out; omega) (by have := HI6.out.fr.size; omega) ?_
      intro A9 c9 w9 hown9 hg9
      obtain ⟨hb9, hI9⟩ := HI6.out.pushF hown9 hg9
      have b0 := hb9.cell 0
      have b1 := hb9.frozen 0
      have b2 := hb9.lt
      simp only [List.getElem?_toArray, List.getElem?_cons_zero] at b0
      have HI9 := Lib.hid hI9
      clear hI9 hb9 hown9 hg9 HI6 HR6 HKS HSS HG4 HG5 HG6 z0 zl HI
      refine hK _ _ (fun h => by cases h) ?_; clear hK K
      refine wpSeq_pure (v := _) rfl rfl rfl (by kernel_rfl) (fun _ _ _ h => h) (fun wq => by first | (go_simp; done) | (go_simp; rfl)) ?_
      refine wpSeq_heavy rfl rfl (fun K hK => ?_); go_simp
      refine hK _ _ (fun h => by cases h) ?_; clear hK K
      refine wpSeq_end ?_
      go_wp2_with fail
      refine ⟨⟨k + 1, .slice A9 (k + 1) c9, by omega, by first | rfl | go_num, ?_⟩, by simp [intOf]; omega⟩
      have h := HI9.out
      rw [HFS.out] at h
      rw [List.take_add_one, HLK.out]
      exact h
    · have hke : k = fl.length := by omega
      subst hke
      rw [List.take_length] at hI
      clear HI hlt hk hfb hfn
      have HI := Lib.hid hI
      clear hI
      by_cases hgi : 0 ≤ glyph ∧ glyph < gl.length
      · obtain ⟨gi, rfl⟩ := Int.eq_ofNat_of_zero_le hgi.1
        have hlt : gi < gl.length := by omega
        obtain ⟨g, hg⟩ : ∃ g, gl[gi]? = some g := ⟨_, List.getElem?_eq_getElem hlt⟩
        obtain ⟨gb, go, gcs, rfl, hgb, hgr, hgc⟩ := HGL.out.get hg
        obtain ⟨Ap, np, kp, Ae, ne, ke, Aa, na, ka, An, nn, kn, Ad, nd, kd, Ah, hc, rfl, hh1, hh2, hrow⟩ := glyphR_cells hgr
        have hws := HI.out.fr.size
        have hpb := HPB.out
        have hbx := HBX.out
        have x0 := (HI.out.fr.cell (p := ⟨gb, go + gi * 9 + 8, none⟩) (by simp; omega) (show ¬ gb = pb by omega)).trans (hgc 8 _ rfl)
        have hgl : gb < wr.heap.size := by omega
        have HRD : Hid (Reads (wr.alloc (.cells #[] 68)) B 2 Ah g.hint.length (pts g.hint)) := Lib.hid (by rw [← insCells_pts]; exact ((codeR_reads hrow).keep fun q hq => HI.out.fr.cell (by omega) (show ¬ q.block = pb by omega)).alloc (by omega) _)
        have hhl := HH.out g (List.mem_of_getElem? hg)
        have HMN := Lib.hid (show (if 0 ≤ (gi : Int) ∧ (gi : Int) < gl.length then (gl[(gi : Int).toNat]?.map GlyD.hint).getD [] else []) = g.hint by rw [if_pos hgi, Int.toNat_natCast, hg]; rfl)
        have hlt2 : (gi : Int) < (gl.length : Int) := by omega
        clear hgc hrow hg hgr hws hpb hbx hgi
        go_upto_region 8 with (at_builtin; refine wpList_append_any _ rfl (.tmp 40) (.tmp 46) _ rfl wr.heap.size 68 m0 _ 2 16 Try.underlying49 hm0 hm1 hm2 hm3 rfl (show 0 < 2 by decide) (.slice (some ⟨wr.heap.size, 0, none⟩) 0 0) 0 [] rfl (owns_empty (Blk.new _ _ _) (Nat.le_refl _)) B Ah g.hint.length hc (pts g.hint) rfl HRD.out (pts_one _) (by unfold maxLen; omega) (by omega) (by simp) ?_; intro v5 w5 ho5' hg5' _; have ho5 : w5.ownsRow wr.heap.size 68 2 v5 g.hint.length (pts g.hint) := (by simpa using ho5'); have hg5 : Grow wr w5 := grow_of_grown ((Fr.refl _ wr).alloc (.cells #[] 68)) hg5' (fun g e => by simp only [Value.ownBlock, Option.some.injEq] at e; subst e; exact Nat.le_refl _); have hI5 := HI.out.go hg5; obtain ⟨A5, c5, rfl, _⟩ := owns_form ho5; have z1 := hI5.box.cell 1; have zf := hI5.box.frozen 1; have zl := hI5.box.lt; simp only [List.getElem?_toArray, List.getElem?_cons_zero, List.getElem?_cons_succ] at z1; have HI5 := Lib.hid (hI5.setM (l := g.hint) (owns_mono ho5 HI.out.fr.size)); clear ho5 ho5' hg5 hg5' hI5)
        clear z1 zf zl x0 y1 y7 yl HI
        have HI := HI5
        clear HI5
        generalize w5.setCell ⟨pb, 1, none⟩ (.slice A5 g.hint.length c5) = W6 at *
        have H0 := Lib.hid (show GqJ w.heap.size X pb fl (.slice A5 g.hint.length c5) (g.hint) cl unit size (.int .i64 0) W6 from ⟨0, _, Nat.zero_le _, rfl, _, HI.out⟩)
        clear HI
        go_wp2_with fail
        go_loopw [9] (fun i wr => GqJ w.heap.size X pb fl (.slice A5 g.hint.length c5) (g.hint) cl unit size i wr) (fun i _ => cl.length - (intOf i).toNat)
        case atStart => exact H0.out
        case round =>
          clear H0
          obtain ⟨k, vc, hk, rfl, vf, hI⟩ := hrel
          have hcn := HCL.out
          have HI := Lib.hid hI
          have hfb := hI.fr.blk HFB.out (show ¬ w.heap.size = pb by have := HXZ.out; have := HPB.out; omega)
          have HPW := Lib.hid hfb
          have y0 := hfb.cell 0
          have y8 := hfb.cell 8
          simp only [List.getElem?_toArray, List.getElem?_cons_zero, List.getElem?_cons_succ] at y0 y8
          have yl := hfb.lt
          by_cases hlt : (k : Int) < (cl.length : Int)
          · obtain ⟨x, hx⟩ : ∃ x, cl[k]? = some x := ⟨_, List.getElem?_eq_getElem (by omega)⟩
            obtain ⟨cb, co, rfl, hcb, hcc⟩ := HCV.out.at_ (by omega)
            have hws := hI.fr.size
            have hpb := HPB.out
            have hbx := HBX.out
            have x0 := (hI.fr.cell (p := ⟨cb, co + k, none⟩) (by simp; omega) (show ¬ cb = pb by omega)).trans (hcc _ _ (ints_at cl k x hx))
            have hcl : cb < wr.heap.size := by omega
            have hxi := HCI.out x (List.mem_of_getElem? hx)
            have HXI := Lib.hid hxi
            have HXK := Lib.hid hx
            have HCS := Lib.hid (show ((cl.take k).map (gsc unit size)).length = k by rw [List.length_map, List.length_take]; omega)
            obtain ⟨Ac, kc, hvc, hc1, hc2⟩ := owns_form hI.cvt
            rw [show (Pg.cvt ⟨fl, g.hint, (cl.take k).map (gsc unit size), size⟩).length = k from HCS.out] at hvc
            subst hvc
            have z2 := hI.box.cell 2
            simp only [List.getElem?_toArray, List.getElem?_cons_zero, List.getElem?_cons_succ] at z2
            have zl := hI.box.lt
            clear hcc hI hx hws hpb hbx hc1 hc2 hxi hfb
            go_upto_region 11 with fail
            have hS : (fun w' : World => w'.cell? ⟨pb, 2, none⟩ = some (.slice Ac k kc) ∧ w'.cell? ⟨w.heap.size, 0, none⟩ = some (.int .i64 unit) ∧ w'.cell? ⟨w.heap.size, 8, none⟩ = some (.slice (some ⟨cb, co, none⟩) cl.length cc) ∧ w'.cell? ⟨cb, co + k, none⟩ = some (.int .i64 x)) wr.drew := ⟨z2, y0, y8, x0⟩
            have HSS := Lib.hid hS
            clear x0 y0 y8
            refine wp_region_seqT (fun i => !([10, 11, 12, 14] : List Nat).contains i) (fun i => ([1, 3, 6, 9] : List Nat).contains i) (fun i => ([10, 11] : List Nat).contains i) [0, 1, 2, 3, 4, 5, 6, 7, 8, 9, 10, 11, 12, 13, 14] (fun w' : World => w'.cell? ⟨pb, 2, none⟩ = some (.slice Ac k kc) ∧ w'.cell? ⟨w.heap.size, 0, none⟩ = some (.int .i64 unit) ∧ w'.cell? ⟨w.heap.size, 8, none⟩ = some (.slice (some ⟨cb, co, none⟩) cl.length cc) ∧ w'.cell? ⟨cb, co + k, none⟩ = some (.int .i64 x)) (by kernel_rfl) (by kernel_rfl) (by kernel_rfl) (by kernel_rfl) ?_
            refine wpSeq_pure (v := _) rfl rfl rfl (by kernel_rfl) (fun _ _ _ h => h) (fun wq => by first | (go_simp; done) | (go_simp; rfl)) ?_
            refine wpSeq_load (v := _) rfl rfl (by kernel_rfl) (fun _ _ _ h => h) hS rfl (fun wq hq => by (try have hq1 := hq.1); (try have hq2 := hq.2.1); (try have hq3 := hq.2.2.1); (try have hq4 := hq.2.2.2.1); (try have hq5 := hq.2.2.2.2.1); (try have hq6 := hq.2.2.2.2.2.1); (try have hq7 := hq.2.2.2.2.2.2); (try have hr2 := hq.2); (try have hr3 := hq.2.2); (try have hr4 := hq.2.2.2); (try have hr5 := hq.2.2.2.2); first | (go_simp; done) | (go_simp; rfl)) ?_
            refine wpSeq_pure (v := _) rfl rfl rfl (by kernel_rfl) (fun _ _ _ h => h) (fun wq => by first | (go_simp; done) | (go_simp; rfl)) ?_
            refine wpSeq_load (v := _) rfl rfl (by kernel_rfl) (fun _ _ _ h => h) hS rfl (fun wq hq => by (try have hq1 := hq.1); (try have hq2 := hq.2.1); (try have hq3 := hq.2.2.1); (try have hq4 := hq.2.2.2.1); (try have hq5 := hq.2.2.2.2.1); (try have hq6 := hq.2.2.2.2.2.1); (try have hq7 := hq.2.2.2.2.2.2); (try have hr2 := hq.2); (try have hr3 := hq.2.2); (try have hr4 := hq.2.2.2); (try have hr5 := hq.2.2.2.2); first | (go_simp; done) | (go_simp; rfl)) ?_
            refine wpSeq_pure (v := _) rfl rfl rfl (by kernel_rfl) (fun _ _ _ h => h) (fun wq => by first | (go_simp; done) | (go_simp; rfl)) ?_
            refine wpSeq_pure (v := _) rfl rfl rfl (by kernel_rfl) (fun _ _ _ h => h) (fun wq => by first | (go_simp; done) | (go_simp; rfl)) ?_
            refine wpSeq_load (v := _) rfl rfl (by kernel_rfl) (fun _ _ _ h => h) hS rfl (fun wq hq => by (try have hq1 := hq.1); (try have hq2 := hq.2.1); (try have hq3 := hq.2.2.1); (try have hq4 := hq.2.2.2.1); (try have hq5 := hq.2.2.2.2.1); (try have hq6 := hq.2.2.2.2.2.1); (try have hq7 := hq.2.2.2.2.2.2); (try have hr2 := hq.2); (try have hr3 := hq.2.2); (try have hr4 := hq.2.2.2); (try have hr5 := hq.2.2.2.2); first | (go_simp; done) | (go_simp; rfl)) ?_
            refine wpSeq_pure (v := _) rfl rfl rfl (by kernel_rfl) (fun _ _ _ h => h) (fun wq => by first | (go_simp; done) | (go_simp; rfl)) ?_
            refine wpSeq_pure (v := _) rfl rfl rfl (by kernel_rfl) (fun _ _ _ h => h) (fun wq => by first | (go_simp; done) | (go_simp; rfl)) ?_
            refine wpSeq_load (v := _) rfl rfl (by kernel_rfl) (fun _ _ _ h => h) hS rfl (fun wq hq => by (try have hq1 := hq.1); (try have hq2 := hq.2.1); (try have hq3 := hq.2.2.1); (try have hq4 := hq.2.2.2.1); (try have hq5 := hq.2.2.2.2.1); (try have hq6 := hq.2.2.2.2.2.1); (try have hq7 := hq.2.2.2.2.2.2); (try have hr2 := hq.2); (try have hr3 := hq.2.2); (try have hr4 := hq.2.2.2); (try have hr5 := hq.2.2.2.2); first | (go_simp; done) | (go_simp; rfl)) ?_
            refine wpSeq_heavy rfl rfl (fun K hK => ?_); go_simp
            refine (rscale_any unit size x wr.drew HXI.out.1 HXI.out.2 HU.out.1 HU.out.2).mono ?_
            rintro e w5 ⟨rfl, hb5⟩
            have hg5 : Grow wr.drew w5 := Fr.of_below hb5 (fun k hk _ => hk)
            have HG5 := Lib.hid hg5
            have HI5 := Lib.hid ((HI.out.go (Fr.refl _ _).drew).go hg5)
            have kS : ∀ w', Grow wr.drew w' → (fun w' : World => w'.cell? ⟨pb, 2, none⟩ = some (.slice Ac k kc) ∧ w'.cell? ⟨w.heap.size, 0, none⟩ = some (.int .i64 unit) ∧ w'.cell? ⟨w.heap.size, 8, none⟩ = some (.slice (some ⟨cb, co, none⟩) cl.length cc) ∧ w'.cell? ⟨cb, co + k, none⟩ = some (.int .i64 x)) w' := fun w' h => ⟨(h.cell (p := ⟨pb, 2, none⟩) zl (fun x => x)).trans HSS.out.1, (h.cell (p := ⟨w.heap.size, 0, none⟩) yl (fun x => x)).trans HSS.out.2.1, (h.cell (p := ⟨w.heap.size, 8, none⟩) yl (fun x => x)).trans HSS.out.2.2.1, (h.cell (p := ⟨cb, co + k, none⟩) hcl (fun x => x)).trans HSS.out.2.2.2⟩
            have HKS := Lib.hid kS
            clear hS hb5 hg5 kS
            refine hK _ _ (fun _ => (HKS.out _ HG5.out)) ?_; clear hK K
            refine wpSeq_heavy rfl rfl (fun K hK => ?_); go_simp
            generalize hpx : gsc unit size x = px at *
            have HPX := Lib.hid hpx
            clear hpx
            have HI6 := Lib.hid (HI5.out.go ((Fr.refl _ _).alloc (.cells #[.int .i64 px] 3)))
            have HG6 := Lib.hid (HG5.out.alloc (.cells #[.int .i64 px] 3))
            refine hK _ _ (fun _ => (HKS.out _ HG6.out)) ?_; clear hK K
            refine wpSeq_heavy rfl rfl (fun K hK => ?_)
            refine step_own _ rfl (.tmp 57) (.tmp 67) _ rfl X.heap.size 3 j0 _ 1 8 Try.underlying30 hj0 hj1 hj2 hj3 rfl (show 0 < 1 by decide) (.slice Ac k kc) k (ints ((cl.take k).map (gsc unit size))) rfl (by have := HI6.out.cvt; rw [show (Pg.cvt ⟨fl, g.hint, (cl.take k).map (gsc unit size), size⟩).length = k from HCS.out] at this; exact this) _ _ 1 1 [.int .i64 px] rfl (Reads.blk (cs := [.int .i64 px]) (Blk.new _ _ _) 1 1 rfl) (by simp [Value.oneCell']) (by unfold maxLen; omega) (by omega) (by have := HI6.out.fr.size; omega) ?_
            intro v9 w9 hown9 hg9 _
            obtain ⟨hb9, hI9⟩ := HI6.out.pushC (x := px) (by rw [show (Pg.cvt ⟨fl, g.hint, (cl.take k).map (gsc unit size), size⟩).length = k from HCS.out]; exact hown9) hg9
            obtain ⟨A9, c9, rfl, _⟩ := owns_form hown9
            have b0 := hb9.cell 2
            have b1 := hb9.frozen 2
            have b2 := hb9.lt
            simp only [List.getElem?_toArray, List.getElem?_cons_succ, List.getElem?_cons_zero] at b0
            have HI9 := Lib.hid hI9
            clear hI9 hb9 hown9 hg9 HI6 HI5 HG5 HG6 HKS HSS HI z2 zl
            refine hK _ _ (fun h => by cases h) ?_; clear hK K
            refine wpSeq_pure (v := _) rfl rfl rfl (by kernel_rfl) (fun _ _ _ h => h) (fun wq => by first | (go_simp; done) | (go_simp; rfl)) ?_
            refine wpSeq_heavy rfl rfl (fun K hK => ?_); go_simp
            refine hK _ _ (fun h => by cases h) ?_; clear hK K
            refine wpSeq_end ?_
            go_wp2_with fail
            refine ⟨⟨k + 1, .slice A9 (k + 1) c9, by omega, by first | rfl | go_num, vf, ?_⟩, by simp [intOf]; omega⟩
            have h := HI9.out
            rw [take_gsc HXK.out, HPX.out]
            exact h
          · have hke : k = cl.length := by omega
            subst hke
            rw [List.take_length] at hI
            clear HI hlt hk y0 yl hfb hcn HPW
            have HI := Lib.hid hI
            clear hI
            go_upto_region 12 with fail
            clear y8
            have HPF := Lib.hid (HI.out.fs)
            obtain ⟨Af, cf, rfl, _⟩ := HI.out.fs.form
            obtain ⟨Ac', cc', hvc, _⟩ := owns_form HI.out.cvt
            rw [show (Pg.cvt ⟨fl, g.hint, cl.map (gsc unit size), size⟩).length = cl.length from List.length_map _] at hvc
            subst hvc
            dsimp only at HI ⊢
            have hbr := HI.out.fr.blk HB1.out (show ¬ w.heap.size + 1 = pb by have := HXZ.out; have := HPB.out; omega)
            have x0 := HI.out.box.cell 0
            have x1 := HI.out.box.cell 1
            have x2 := HI.out.box.cell 2
            have x3 := HI.out.box.cell 3
            have z0 := hbr.cell 0
            have z1 := hbr.cell 1
            have z2 := hbr.cell 2
            have z3 := hbr.cell 3
            simp only [List.getElem?_toArray, List.getElem?_cons_zero, List.getElem?_cons_succ] at x0 x1 x2 x3 z0 z1 z2 z3
            have xl := HI.out.box.lt
            have zf := hbr.frozen
            have zl := hbr.lt
            have hend : ∀ W', W' = ((((wr.setCell ⟨w.heap.size + 1, 0, none⟩ (.slice Af fl.length cf)).setCell ⟨w.heap.size + 1, 1, none⟩ (.slice A5 g.hint.length c5)).setCell ⟨w.heap.size + 1, 2, none⟩ (.slice Ac' cl.length cc')).setCell ⟨w.heap.size + 1, 3, none⟩ (.int .i64 size)) → PgPost w ⟨fl, g.hint, (cl.map (gsc unit size)), size⟩ (.returned (.agg #[.slice Af fl.length cf, .slice A5 g.hint.length c5, .slice Ac' cl.length cc', .int .i64 size])) W' := by
              intro W' hW'
              have k0 := hbr
              have k1 := k0.set_ 0 (.slice Af fl.length cf)
              have k2 := k1.set_ 1 (.slice A5 g.hint.length c5)
              have k3 := k2.set_ 2 (.slice Ac' cl.length cc')
              have hb := HXG.out.size
              have hn : 51 ∉ 49 :: (codeR w.heap.size).tys := (by simp only [codeR, insR, Repr.row, Repr.pair, Repr.int, List.mem_cons, List.append_nil, List.not_mem_nil, or_false]; decide)
              have q0 := ((((HI.out.fs.mono hb).setCell k0 hn (by omega) 0 (.slice Af fl.length cf)).setCell k1 hn (by omega) 1 (.slice A5 g.hint.length c5)).setCell k2 hn (by omega) 2 (.slice Ac' cl.length cc')).setCell k3 hn (by omega) 3 (.int .i64 size)
              have q1 := owns_box (owns_box (owns_box (owns_box (owns_mono HI.out.main hb) k0 (by decide) _ _) k1 (by decide) _ _) k2 (by decide) _ _) k3 (by decide) 3 (.int .i64 size)
              have q2 := owns_box (owns_box (owns_box (owns_box (owns_mono HI.out.cvt hb) k0 (by decide) _ _) k1 (by decide) _ _) k2 (by decide) _ _) k3 (by decide) 3 (.int .i64 size)
              refine ⟨_, _, _, rfl, ?_, ?_⟩
              · rw [hW']
                exact ⟨q0, q1, q2⟩
              · rw [hW']
                have hX := HXG.out
                have hpb := HPB.out
                have hf : Grow w wr := ⟨HI.out.fr.os.trans hX.os, HI.out.fr.tape.trans hX.tape, HI.out.fr.output.trans hX.output, by have := HI.out.fr.size; omega, fun k hk _ => (HI.out.fr.block k (by omega) (by omega)).trans (hX.block k hk (fun x => x))⟩
                have hg1 : w.heap.size ≤ w.heap.size + 1 := by omega
                exact (((hf.setCell (.inr hg1) _).setCell (.inr hg1) _).setCell (.inr hg1) _).setCell (.inr hg1) _
            have HEND := Lib.hid hend
            clear hend hbr HI HPF
            go_wp2
            refine bodyPost_ret (v := .agg #[.slice Af fl.length cf, .slice A5 g.hint.length c5, .slice Ac' cl.length cc', .int .i64 size]) (by simp [results, Try.results16, go_sem, z0, z1, z2, z3]) rfl ?_
            unfold gpr
            rw [HMN.out]
            exact HEND.out _ rfl
      · have HMN := Lib.hid (show (if 0 ≤ glyph ∧ glyph < gl.length then (gl[glyph.toNat]?.map GlyD.hint).getD [] else []) = [] from if_neg hgi)
        have HGI := Lib.hid hgi
        clear hgi
        by_cases h0 : 0 ≤ glyph
        · have hge : ¬ glyph < (gl.length : Int) := fun h => HGI.out ⟨h0, h⟩
          go_upto_region 8 with fail
          clear y1 y7 yl hge
          have H0 := Lib.hid (show GqJ w.heap.size X pb fl (.slice none 0 0) (([] : List (Int × Int))) cl unit size (.int .i64 0) wr from ⟨0, _, Nat.zero_le _, rfl, _, HI.out⟩)
          clear HI
          go_wp2_with fail
          go_loopw [9] (fun i wr => GqJ w.heap.size X pb fl (.slice none 0 0) (([] : List (Int × Int))) cl unit size i wr) (fun i _ => cl.length - (intOf i).toNat)
          case atStart => exact H0.out
          case round =>
            clear H0
            obtain ⟨k, vc, hk, rfl, vf, hI⟩ := hrel
            have hcn := HCL.out
            have HI := Lib.hid hI
            have hfb := hI.fr.blk HFB.out (show ¬ w.heap.size = pb by have := HXZ.out; have := HPB.out; omega)
            have HPW := Lib.hid hfb
            have y0 := hfb.cell 0
            have y8 := hfb.cell 8
            simp only [List.getElem?_toArray, List.getElem?_cons_zero, List.getElem?_cons_succ] at y0 y8
            have yl := hfb.lt
            by_cases hlt : (k : Int) < (cl.length : Int)
            · obtain ⟨x, hx⟩ : ∃ x, cl[k]? = some x := ⟨_, List.getElem?_eq_getElem (by omega)⟩
              obtain ⟨cb, co, rfl, hcb, hcc⟩ := HCV.out.at_ (by omega)
              have hws := hI.fr.size
              have hpb := HPB.out
              have hbx := HBX.out
              have x0 := (hI.fr.cell (p := ⟨cb, co + k, none⟩) (by simp; omega) (show ¬ cb = pb by omega)).trans (hcc _ _ (ints_at cl k x hx))
              have hcl : cb < wr.heap.size := by omega
              have hxi := HCI.out x (List.mem_of_getElem? hx)
              have HXI := Lib.hid hxi
              have HXK := Lib.hid hx
              have HCS := Lib.hid (show ((cl.take k).map (gsc unit size)).length = k by rw [List.length_map, List.length_take]; omega)
              obtain ⟨Ac, kc, hvc, hc1, hc2⟩ := owns_form hI.cvt
              rw [show (Pg.cvt ⟨fl, ([] : List (Int × Int)), (cl.take k).map (gsc unit size), size⟩).length = k from HCS.out] at hvc
              subst hvc
              have z2 := hI.box.cell 2
              simp only [List.getElem?_toArray, List.getElem?_cons_zero, List.getElem?_cons_succ] at z2
              have zl := hI.box.lt
              clear hcc hI hx hws hpb hbx hc1 hc2 hxi hfb
              go_upto_region 11 with fail
              have hS : (fun w' : World => w'.cell? ⟨pb, 2, none⟩ = some (.slice Ac k kc) ∧ w'.cell? ⟨w.heap.size, 0, none⟩ = some (.int .i64 unit) ∧ w'.cell? ⟨w.heap.size, 8, none⟩ = some (.slice (some ⟨cb, co, none⟩) cl.length cc) ∧ w'.cell? ⟨cb, co + k, none⟩ = some (.int .i64 x)) wr.drew := ⟨z2, y0, y8, x0⟩
              have HSS := Lib.hid hS
              clear x0 y0 y8
              refine wp_region_seqT (fun i => !([10, 11, 12, 14] : List Nat).contains i) (fun i => ([1, 3, 6, 9] : List Nat).contains i) (fun i => ([10, 11] : List Nat).contains i) [0, 1, 2, 3, 4, 5, 6, 7, 8, 9, 10, 11, 12, 13, 14] (fun w' : World => w'.cell? ⟨pb, 2, none⟩ = some (.slice Ac k kc) ∧ w'.cell? ⟨w.heap.size, 0, none⟩ = some (.int .i64 unit) ∧ w'.cell? ⟨w.heap.size, 8, none⟩ = some (.slice (some ⟨cb, co, none⟩) cl.length cc) ∧ w'.cell? ⟨cb, co + k, none⟩ = some (.int .i64 x)) (by kernel_rfl) (by kernel_rfl) (by kernel_rfl) (by kernel_rfl) ?_
              refine wpSeq_pure (v := _) rfl rfl rfl (by kernel_rfl) (fun _ _ _ h => h) (fun wq => by first | (go_simp; done) | (go_simp; rfl)) ?_
              refine wpSeq_load (v := _) rfl rfl (by kernel_rfl) (fun _ _ _ h => h) hS rfl (fun wq hq => by (try have hq1 := hq.1); (try have hq2 := hq.2.1); (try have hq3 := hq.2.2.1); (try have hq4 := hq.2.2.2.1); (try have hq5 := hq.2.2.2.2.1); (try have hq6 := hq.2.2.2.2.2.1); (try have hq7 := hq.2.2.2.2.2.2); (try have hr2 := hq.2); (try have hr3 := hq.2.2); (try have hr4 := hq.2.2.2); (try have hr5 := hq.2.2.2.2); first | (go_simp; done) | (go_simp; rfl)) ?_
              refine wpSeq_pure (v := _) rfl rfl rfl (by kernel_rfl) (fun _ _ _ h => h) (fun wq => by first | (go_simp; done) | (go_simp; rfl)) ?_
              refine wpSeq_load (v := _) rfl rfl (by kernel_rfl) (fun _ _ _ h => h) hS rfl (fun wq hq => by (try have hq1 := hq.1); (try have hq2 := hq.2.1); (try have hq3 := hq.2.2.1); (try have hq4 := hq.2.2.2.1); (try have hq5 := hq.2.2.2.2.1); (try have hq6 := hq.2.2.2.2.2.1); (try have hq7 := hq.2.2.2.2.2.2); (try have hr2 := hq.2); (try have hr3 := hq.2.2); (try have hr4 := hq.2.2.2); (try have hr5 := hq.2.2.2.2); first | (go_simp; done) | (go_simp; rfl)) ?_
              refine wpSeq_pure (v := _) rfl rfl rfl (by kernel_rfl) (fun _ _ _ h => h) (fun wq => by first | (go_simp; done) | (go_simp; rfl)) ?_
              refine wpSeq_pure (v := _) rfl rfl rfl (by kernel_rfl) (fun _ _ _ h => h) (fun wq => by first | (go_simp; done) | (go_simp; rfl)) ?_
              refine wpSeq_load (v := _) rfl rfl (by kernel_rfl) (fun _ _ _ h => h) hS rfl (fun wq hq => by (try have hq1 := hq.1); (try have hq2 := hq.2.1); (try have hq3 := hq.2.2.1); (try have hq4 := hq.2.2.2.1); (try have hq5 := hq.2.2.2.2.1); (try have hq6 := hq.2.2.2.2.2.1); (try have hq7 := hq.2.2.2.2.2.2); (try have hr2 := hq.2); (try have hr3 := hq.2.2); (try have hr4 := hq.2.2.2); (try have hr5 := hq.2.2.2.2); first | (go_simp; done) | (go_simp; rfl)) ?_
              refine wpSeq_pure (v := _) rfl rfl rfl (by kernel_rfl) (fun _ _ _ h => h) (fun wq => by first | (go_simp; done) | (go_simp; rfl)) ?_
              refine wpSeq_pure (v := _) rfl rfl rfl (by kernel_rfl) (fun _ _ _ h => h) (fun wq => by first | (go_simp; done) | (go_simp; rfl)) ?_
              refine wpSeq_load (v := _) rfl rfl (by kernel_rfl) (fun _ _ _ h => h) hS rfl (fun wq hq => by (try have hq1 := hq.1); (try have hq2 := hq.2.1); (try have hq3 := hq.2.2.1); (try have hq4 := hq.2.2.2.1); (try have hq5 := hq.2.2.2.2.1); (try have hq6 := hq.2.2.2.2.2.1); (try have hq7 := hq.2.2.2.2.2.2); (try have hr2 := hq.2); (try have hr3 := hq.2.2); (try have hr4 := hq.2.2.2); (try have hr5 := hq.2.2.2.2); first | (go_simp; done) | (go_simp; rfl)) ?_
              refine wpSeq_heavy rfl rfl (fun K hK => ?_); go_simp
              refine (rscale_any unit size x wr.drew HXI.out.1 HXI.out.2 HU.out.1 HU.out.2).mono ?_
              rintro e w5 ⟨rfl, hb5⟩
              have hg5 : Grow wr.drew w5 := Fr.of_below hb5 (fun k hk _ => hk)
              have HG5 := Lib.hid hg5
              have HI5 := Lib.hid ((HI.out.go (Fr.refl _ _).drew).go hg5)
              have kS : ∀ w', Grow wr.drew w' → (fun w' : World => w'.cell? ⟨pb, 2, none⟩ = some (.slice Ac k kc) ∧ w'.cell? ⟨w.heap.size, 0, none⟩ = some (.int .i64 unit) ∧ w'.cell? ⟨w.heap.size, 8, none⟩ = some (.slice (some ⟨cb, co, none⟩) cl.length cc) ∧ w'.cell? ⟨cb, co + k, none⟩ = some (.int .i64 x)) w' := fun w' h => ⟨(h.cell (p := ⟨pb, 2, none⟩) zl (fun x => x)).trans HSS.out.1, (h.cell (p := ⟨w.heap.size, 0, none⟩) yl (fun x => x)).trans HSS.out.2.1, (h.cell (p := ⟨w.heap.size, 8, none⟩) yl (fun x => x)).trans HSS.out.2.2.1, (h.cell (p := ⟨cb, co + k, none⟩) hcl (fun x => x)).trans HSS.out.2.2.2⟩
              have HKS := Lib.hid kS
              clear hS hb5 hg5 kS
              refine hK _ _ (fun _ => (HKS.out _ HG5.out)) ?_; clear hK K
              refine wpSeq_heavy rfl rfl (fun K hK => ?_); go_simp
              generalize hpx : gsc unit size x = px at *
              have HPX := Lib.hid hpx
              clear hpx
              have HI6 := Lib.hid (HI5.out.go ((Fr.refl _ _).alloc (.cells #[.int .i64 px] 3)))
              have HG6 := Lib.hid (HG5.out.alloc (.cells #[.int .i64 px] 3))
              refine hK _ _ (fun _ => (HKS.out _ HG6.out)) ?_; clear hK K
              refine wpSeq_heavy rfl rfl (fun K hK => ?_)
              refine step_own _ rfl (.tmp 57) (.tmp 67) _ rfl X.heap.size 3 j0 _ 1 8 Try.underlying30 hj0 hj1 hj2 hj3 rfl (show 0 < 1 by decide) (.slice Ac k kc) k (ints ((cl.take k).map (gsc unit size))) rfl (by have := HI6.out.cvt; rw [show (Pg.cvt ⟨fl, ([] : List (Int × Int)), (cl.take k).map (gsc unit size), size⟩).length = k from HCS.out] at this; exact this) _ _ 1 1 [.int .i64 px] rfl (Reads.blk (cs := [.int .i64 px]) (Blk.new _ _ _) 1 1 rfl) (by simp [Value.oneCell']) (by unfold maxLen; omega) (by omega) (by have := HI6.out.fr.size; omega) ?_
              intro v9 w9 hown9 hg9 _
              obtain ⟨hb9, hI9⟩ := HI6.out.pushC (x := px) (by rw [show (Pg.cvt ⟨fl, ([] : List (Int × Int)), (cl.take k).map (gsc unit size), size⟩).length = k from HCS.out]; exact hown9) hg9
              obtain ⟨A9, c9, rfl, _⟩ := owns_form hown9
              have b0 := hb9.cell 2
              have b1 := hb9.frozen 2
              have b2 := hb9.lt
              simp only [List.getElem?_toArray, List.getElem?_cons_succ, List.getElem?_cons_zero] at b0
              have HI9 := Lib.hid hI9
              clear hI9 hb9 hown9 hg9 HI6 HI5 HG5 HG6 HKS HSS HI z2 zl
              refine hK _ _ (fun h => by cases h) ?_; clear hK K
              refine wpSeq_pure (v := _) rfl rfl rfl (by kernel_rfl) (fun _ _ _ h => h) (fun wq => by first | (go_simp; done) | (go_simp; rfl)) ?_
              refine wpSeq_heavy rfl rfl (fun K hK => ?_); go_simp
              refine hK _ _ (fun h => by cases h) ?_; clear hK K
              refine wpSeq_end ?_
              go_wp2_with fail
              refine ⟨⟨k + 1, .slice A9 (k + 1) c9, by omega, by first | rfl | go_num, vf, ?_⟩, by simp [intOf]; omega⟩
              have h := HI9.out
              rw [take_gsc HXK.out, HPX.out]
              exact h
            · have hke : k = cl.length := by omega
              subst hke
              rw [List.take_length] at hI
              clear HI hlt hk y0 yl hfb hcn HPW
              have HI := Lib.hid hI
              clear hI
              go_upto_region 12 with fail
              clear y8
              have HPF := Lib.hid (HI.out.fs)
              obtain ⟨Af, cf, rfl, _⟩ := HI.out.fs.form
              obtain ⟨Ac', cc', hvc, _⟩ := owns_form HI.out.cvt
              rw [show (Pg.cvt ⟨fl, ([] : List (Int × Int)), cl.map (gsc unit size), size⟩).length = cl.length from List.length_map _] at hvc
              subst hvc
              dsimp only at HI ⊢
              have hbr := HI.out.fr.blk HB1.out (show ¬ w.heap.size + 1 = pb by have := HXZ.out; have := HPB.out; omega)
              have x0 := HI.out.box.cell 0
              have x1 := HI.out.box.cell 1
              have x2 := HI.out.box.cell 2
              have x3 := HI.out.box.cell 3
              have z0 := hbr.cell 0
              have z1 := hbr.cell 1
              have z2 := hbr.cell 2
              have z3 := hbr.cell 3
              simp only [List.getElem?_toArray, List.getElem?_cons_zero, List.getElem?_cons_succ] at x0 x1 x2 x3 z0 z1 z2 z3
              have xl := HI.out.box.lt
              have zf := hbr.frozen
              have zl := hbr.lt
              have hend : ∀ W', W' = ((((wr.setCell ⟨w.heap.size + 1, 0, none⟩ (.slice Af fl.length cf)).setCell ⟨w.heap.size + 1, 1, none⟩ (.slice none 0 0)).setCell ⟨w.heap.size + 1, 2, none⟩ (.slice Ac' cl.length cc')).setCell ⟨w.heap.size + 1, 3, none⟩ (.int .i64 size)) → PgPost w ⟨fl, ([] : List (Int × Int)), (cl.map (gsc unit size)), size⟩ (.returned (.agg #[.slice Af fl.length cf, .slice none 0 0, .slice Ac' cl.length cc', .int .i64 size])) W' := by
                intro W' hW'
                have k0 := hbr
                have k1 := k0.set_ 0 (.slice Af fl.length cf)
                have k2 := k1.set_ 1 (.slice none 0 0)
                have k3 := k2.set_ 2 (.slice Ac' cl.length cc')
                have hb := HXG.out.size
                have hn : 51 ∉ 49 :: (codeR w.heap.size).tys := (by simp only [codeR, insR, Repr.row, Repr.pair, Repr.int, List.mem_cons, List.append_nil, List.not_mem_nil, or_false]; decide)
                have q0 := ((((HI.out.fs.mono hb).setCell k0 hn (by omega) 0 (.slice Af fl.length cf)).setCell k1 hn (by omega) 1 (.slice none 0 0)).setCell k2 hn (by omega) 2 (.slice Ac' cl.length cc')).setCell k3 hn (by omega) 3 (.int .i64 size)
                have q1 := owns_box (owns_box (owns_box (owns_box (owns_mono HI.out.main hb) k0 (by decide) _ _) k1 (by decide) _ _) k2 (by decide) _ _) k3 (by decide) 3 (.int .i64 size)
                have q2 := owns_box (owns_box (owns_box (owns_box (owns_mono HI.out.cvt hb) k0 (by decide) _ _) k1 (by decide) _ _) k2 (by decide) _ _) k3 (by decide) 3 (.int .i64 size)
                refine ⟨_, _, _, rfl, ?_, ?_⟩
                · rw [hW']
                  exact ⟨q0, q1, q2⟩
                · rw [hW']
                  have hX := HXG.out
                  have hpb := HPB.out
                  have hf : Grow w wr := ⟨HI.out.fr.os.trans hX.os, HI.out.fr.tape.trans hX.tape, HI.out.fr.output.trans hX.output, by have := HI.out.fr.size; omega, fun k hk _ => (HI.out.fr.block k (by omega) (by omega)).trans (hX.block k hk (fun x => x))⟩
                  have hg1 : w.heap.size ≤ w.heap.size + 1 := by omega
                  exact (((hf.setCell (.inr hg1) _).setCell (.inr hg1) _).setCell (.inr hg1) _).setCell (.inr hg1) _
              have HEND := Lib.hid hend
              clear hend hbr HI HPF
              go_wp2
              refine bodyPost_ret (v := .agg #[.slice Af fl.length cf, .slice none 0 0, .slice Ac' cl.length cc', .int .i64 size]) (by simp [results, Try.results16, go_sem, z0, z1, z2, z3]) rfl ?_
              unfold gpr
              rw [HMN.out]
              exact HEND.out _ rfl
        · go_upto_region 8 with fail
          clear y1 y7 yl
          have H0 := Lib.hid (show GqJ w.heap.size X pb fl (.slice none 0 0) (([] : List (Int × Int))) cl unit size (.int .i64 0) wr from ⟨0, _, Nat.zero_le _, rfl, _, HI.out⟩)
          clear HI
          go_wp2_with fail
          go_loopw [9] (fun i wr => GqJ w.heap.size X pb fl (.slice none 0 0) (([] : List (Int × Int))) cl unit size i wr) (fun i _ => cl.length - (intOf i).toNat)
          case atStart => exact H0.out
          case round =>
            clear H0
            obtain ⟨k, vc, hk, rfl, vf, hI⟩ := hrel
            have hcn := HCL.out
            have HI := Lib.hid hI
            have hfb := hI.fr.blk HFB.out (show ¬ w.heap.size = pb by have := HXZ.out; have := HPB.out; omega)
            have HPW := Lib.hid hfb
            have y0 := hfb.cell 0
            have y8 := hfb.cell 8
            simp only [List.getElem?_toArray, List.getElem?_cons_zero, List.getElem?_cons_succ] at y0 y8
            have yl := hfb.lt
            by_cases hlt : (k : Int) < (cl.length : Int)
            · obtain ⟨x, hx⟩ : ∃ x, cl[k]? = some x := ⟨_, List.getElem?_eq_getElem (by omega)⟩
              obtain ⟨cb, co, rfl, hcb, hcc⟩ := HCV.out.at_ (by omega)
              have hws := hI.fr.size
              have hpb := HPB.out
              have hbx := HBX.out
              have x0 := (hI.fr.cell (p := ⟨cb, co + k, none⟩) (by simp; omega) (show ¬ cb = pb by omega)).trans (hcc _ _ (ints_at cl k x hx))
              have hcl : cb < wr.heap.size := by omega
              have hxi := HCI.out x (List.mem_of_getElem? hx)
              have HXI := Lib.hid hxi
              have HXK := Lib.hid hx
              have HCS := Lib.hid (show ((cl.take k).map (gsc unit size)).length = k by rw [List.length_map, List.length_take]; omega)
              obtain ⟨Ac, kc, hvc, hc1, hc2⟩ := owns_form hI.cvt
              rw [show (Pg.cvt ⟨fl, ([] : List (Int × Int)), (cl.take k).map (gsc unit size), size⟩).length = k from HCS.out] at hvc
              subst hvc
              have z2 := hI.box.cell 2
              simp only [List.getElem?_toArray, List.getElem?_cons_zero, List.getElem?_cons_succ] at z2
              have zl := hI.box.lt
              clear hcc hI hx hws hpb hbx hc1 hc2 hxi hfb
              go_upto_region 11 with fail
              have hS : (fun w' : World => w'.cell? ⟨pb, 2, none⟩ = some (.slice Ac k kc) ∧ w'.cell? ⟨w.heap.size, 0, none⟩ = some (.int .i64 unit) ∧ w'.cell? ⟨w.heap.size, 8, none⟩ = some (.slice (some ⟨cb, co, none⟩) cl.length cc) ∧ w'.cell? ⟨cb, co + k, none⟩ = some (.int .i64 x)) wr.drew := ⟨z2, y0, y8, x0⟩
              have HSS := Lib.hid hS
              clear x0 y0 y8
              refine wp_region_seqT (fun i => !([10, 11, 12, 14] : List Nat).contains i) (fun i => ([1, 3, 6, 9] : List Nat).contains i) (fun i => ([10, 11] : List Nat).contains i) [0, 1, 2, 3, 4, 5, 6, 7, 8, 9, 10, 11, 12, 13, 14] (fun w' : World => w'.cell? ⟨pb, 2, none⟩ = some (.slice Ac k kc) ∧ w'.cell? ⟨w.heap.size, 0, none⟩ = some (.int .i64 unit) ∧ w'.cell? ⟨w.heap.size, 8, none⟩ = some (.slice (some ⟨cb, co, none⟩) cl.length cc) ∧ w'.cell? ⟨cb, co + k, none⟩ = some (.int .i64 x)) (by kernel_rfl) (by kernel_rfl) (by kernel_rfl) (by kernel_rfl) ?_
              refine wpSeq_pure (v := _) rfl rfl rfl (by kernel_rfl) (fun _ _ _ h => h) (fun wq => by first | (go_simp; done) | (go_simp; rfl)) ?_
              refine wpSeq_load (v := _) rfl rfl (by kernel_rfl) (fun _ _ _ h => h) hS rfl (fun wq hq => by (try have hq1 := hq.1); (try have hq2 := hq.2.1); (try have hq3 := hq.2.2.1); (try have hq4 := hq.2.2.2.1); (try have hq5 := hq.2.2.2.2.1); (try have hq6 := hq.2.2.2.2.2.1); (try have hq7 := hq.2.2.2.2.2.2); (try have hr2 := hq.2); (try have hr3 := hq.2.2); (try have hr4 := hq.2.2.2); (try have hr5 := hq.2.2.2.2); first | (go_simp; done) | (go_simp; rfl)) ?_
              refine wpSeq_pure (v := _) rfl rfl rfl (by kernel_rfl) (fun _ _ _ h => h) (fun wq => by first | (go_simp; done) | (go_simp; rfl)) ?_
              refine wpSeq_load (v := _) rfl rfl (by kernel_rfl) (fun _ _ _ h => h) hS rfl (fun wq hq => by (try have hq1 := hq.1); (try have hq2 := hq.2.1); (try have hq3 := hq.2.2.1); (try have hq4 := hq.2.2.2.1); (try have hq5 := hq.2.2.2.2.1); (try have hq6 := hq.2.2.2.2.2.1); (try have hq7 := hq.2.2.2.2.2.2); (try have hr2 := hq.2); (try have hr3 := hq.2.2); (try have hr4 := hq.2.2.2); (try have hr5 := hq.2.2.2.2); first | (go_simp; done) | (go_simp; rfl)) ?_
              refine wpSeq_pure (v := _) rfl rfl rfl (by kernel_rfl) (fun _ _ _ h => h) (fun wq => by first | (go_simp; done) | (go_simp; rfl)) ?_
              refine wpSeq_pure (v := _) rfl rfl rfl (by kernel_rfl) (fun _ _ _ h => h) (fun wq => by first | (go_simp; done) | (go_simp; rfl)) ?_
              refine wpSeq_load (v := _) rfl rfl (by kernel_rfl) (fun _ _ _ h => h) hS rfl (fun wq hq => by (try have hq1 := hq.1); (try have hq2 := hq.2.1); (try have hq3 := hq.2.2.1); (try have hq4 := hq.2.2.2.1); (try have hq5 := hq.2.2.2.2.1); (try have hq6 := hq.2.2.2.2.2.1); (try have hq7 := hq.2.2.2.2.2.2); (try have hr2 := hq.2); (try have hr3 := hq.2.2); (try have hr4 := hq.2.2.2); (try have hr5 := hq.2.2.2.2); first | (go_simp; done) | (go_simp; rfl)) ?_
              refine wpSeq_pure (v := _) rfl rfl rfl (by kernel_rfl) (fun _ _ _ h => h) (fun wq => by first | (go_simp; done) | (go_simp; rfl)) ?_
              refine wpSeq_pure (v := _) rfl rfl rfl (by kernel_rfl) (fun _ _ _ h => h) (fun wq => by first | (go_simp; done) | (go_simp; rfl)) ?_
              refine wpSeq_load (v := _) rfl rfl (by kernel_rfl) (fun _ _ _ h => h) hS rfl (fun wq hq => by (try have hq1 := hq.1); (try have hq2 := hq.2.1); (try have hq3 := hq.2.2.1); (try have hq4 := hq.2.2.2.1); (try have hq5 := hq.2.2.2.2.1); (try have hq6 := hq.2.2.2.2.2.1); (try have hq7 := hq.2.2.2.2.2.2); (try have hr2 := hq.2); (try have hr3 := hq.2.2); (try have hr4 := hq.2.2.2); (try have hr5 := hq.2.2.2.2); first | (go_simp; done) | (go_simp; rfl)) ?_
              refine wpSeq_heavy rfl rfl (fun K hK => ?_); go_simp
              refine (rscale_any unit size x wr.drew HXI.out.1 HXI.out.2 HU.out.1 HU.out.2).mono ?_
              rintro e w5 ⟨rfl, hb5⟩
              have hg5 : Grow wr.drew w5 := Fr.of_below hb5 (fun k hk _ => hk)
              have HG5 := Lib.hid hg5
              have HI5 := Lib.hid ((HI.out.go (Fr.refl _ _).drew).go hg5)
              have kS : ∀ w', Grow wr.drew w' → (fun w' : World => w'.cell? ⟨pb, 2, none⟩ = some (.slice Ac k kc) ∧ w'.cell? ⟨w.heap.size, 0, none⟩ = some (.int .i64 unit) ∧ w'.cell? ⟨w.heap.size, 8, none⟩ = some (.slice (some ⟨cb, co, none⟩) cl.length cc) ∧ w'.cell? ⟨cb, co + k, none⟩ = some (.int .i64 x)) w' := fun w' h => ⟨(h.cell (p := ⟨pb, 2, none⟩) zl (fun x => x)).trans HSS.out.1, (h.cell (p := ⟨w.heap.size, 0, none⟩) yl (fun x => x)).trans HSS.out.2.1, (h.cell (p := ⟨w.heap.size, 8, none⟩) yl (fun x => x)).trans HSS.out.2.2.1, (h.cell (p := ⟨cb, co + k, none⟩) hcl (fun x => x)).trans HSS.out.2.2.2⟩
              have HKS := Lib.hid kS
              clear hS hb5 hg5 kS
              refine hK _ _ (fun _ => (HKS.out _ HG5.out)) ?_; clear hK K
              refine wpSeq_heavy rfl rfl (fun K hK => ?_); go_simp
              generalize hpx : gsc unit size x = px at *
              have HPX := Lib.hid hpx
              clear hpx
              have HI6 := Lib.hid (HI5.out.go ((Fr.refl _ _).alloc (.cells #[.int .i64 px] 3)))
              have HG6 := Lib.hid (HG5.out.alloc (.cells #[.int .i64 px] 3))
              refine hK _ _ (fun _ => (HKS.out _ HG6.out)) ?_; clear hK K
              refine wpSeq_heavy rfl rfl (fun K hK => ?_)
              refine step_own _ rfl (.tmp 57) (.tmp 67) _ rfl X.heap.size 3 j0 _ 1 8 Try.underlying30 hj0 hj1 hj2 hj3 rfl (show 0 < 1 by decide) (.slice Ac k kc) k (ints ((cl.take k).map (gsc unit size))) rfl (by have := HI6.out.cvt; rw [show (Pg.cvt ⟨fl, ([] : List (Int × Int)), (cl.take k).map (gsc unit size), size⟩).length = k from HCS.out] at this; exact this) _ _ 1 1 [.int .i64 px] rfl (Reads.blk (cs := [.int .i64 px]) (Blk.new _ _ _) 1 1 rfl) (by simp [Value.oneCell']) (by unfold maxLen; omega) (by omega) (by have := HI6.out.fr.size; omega) ?_
              intro v9 w9 hown9 hg9 _
              obtain ⟨hb9, hI9⟩ := HI6.out.pushC (x := px) (by rw [show (Pg.cvt ⟨fl, ([] : List (Int × Int)), (cl.take k).map (gsc unit size), size⟩).length = k from HCS.out]; exact hown9) hg9
              obtain ⟨A9, c9, rfl, _⟩ := owns_form hown9
              have b0 := hb9.cell 2
              have b1 := hb9.frozen 2
              have b2 := hb9.lt
              simp only [List.getElem?_toArray, List.getElem?_cons_succ, List.getElem?_cons_zero] at b0
              have HI9 := Lib.hid hI9
              clear hI9 hb9 hown9 hg9 HI6 HI5 HG5 HG6 HKS HSS HI z2 zl
              refine hK _ _ (fun h => by cases h) ?_; clear hK K
              refine wpSeq_pure (v := _) rfl rfl rfl (by kernel_rfl) (fun _ _ _ h => h) (fun wq => by first | (go_simp; done) | (go_simp; rfl)) ?_
              refine wpSeq_heavy rfl rfl (fun K hK => ?_); go_simp
              refine hK _ _ (fun h => by cases h) ?_; clear hK K
              refine wpSeq_end ?_
              go_wp2_with fail
              refine ⟨⟨k + 1, .slice A9 (k + 1) c9, by omega, by first | rfl | go_num, vf, ?_⟩, by simp [intOf]; omega⟩
              have h := HI9.out
              rw [take_gsc HXK.out, HPX.out]
              exact h
            · have hke : k = cl.length := by omega
              subst hke
              rw [List.take_length] at hI
              clear HI hlt hk y0 yl hfb hcn HPW
              have HI := Lib.hid hI
              clear hI
              go_upto_region 12 with fail
              clear y8
              have HPF := Lib.hid (HI.out.fs)
              obtain ⟨Af, cf, rfl, _⟩ := HI.out.fs.form
              obtain ⟨Ac', cc', hvc, _⟩ := owns_form HI.out.cvt
              rw [show (Pg.cvt ⟨fl, ([] : List (Int × Int)), cl.map (gsc unit size), size⟩).length = cl.length from List.length_map _] at hvc
              subst hvc
              dsimp only at HI ⊢
              have hbr := HI.out.fr.blk HB1.out (show ¬ w.heap.size + 1 = pb by have := HXZ.out; have := HPB.out; omega)
              have x0 := HI.out.box.cell 0
              have x1 := HI.out.box.cell 1
              have x2 := HI.out.box.cell 2
              have x3 := HI.out.box.cell 3
              have z0 := hbr.cell 0
              have z1 := hbr.cell 1
              have z2 := hbr.cell 2
              have z3 := hbr.cell 3
              simp only [List.getElem?_toArray, List.getElem?_cons_zero, List.getElem?_cons_succ] at x0 x1 x2 x3 z0 z1 z2 z3
              have xl := HI.out.box.lt
              have zf := hbr.frozen
              have zl := hbr.lt
              have hend : ∀ W', W' = ((((wr.setCell ⟨w.heap.size + 1, 0, none⟩ (.slice Af fl.length cf)).setCell ⟨w.heap.size + 1, 1, none⟩ (.slice none 0 0)).setCell ⟨w.heap.size + 1, 2, none⟩ (.slice Ac' cl.length cc')).setCell ⟨w.heap.size + 1, 3, none⟩ (.int .i64 size)) → PgPost w ⟨fl, ([] : List (Int × Int)), (cl.map (gsc unit size)), size⟩ (.returned (.agg #[.slice Af fl.length cf, .slice none 0 0, .slice Ac' cl.length cc', .int .i64 size])) W' := by
                intro W' hW'
                have k0 := hbr
                have k1 := k0.set_ 0 (.slice Af fl.length cf)
                have k2 := k1.set_ 1 (.slice none 0 0)
                have k3 := k2.set_ 2 (.slice Ac' cl.length cc')
                have hb := HXG.out.size
                have hn : 51 ∉ 49 :: (codeR w.heap.size).tys := (by simp only [codeR, insR, Repr.row, Repr.pair, Repr.int, List.mem_cons, List.append_nil, List.not_mem_nil, or_false]; decide)
                have q0 := ((((HI.out.fs.mono hb).setCell k0 hn (by omega) 0 (.slice Af fl.length cf)).setCell k1 hn (by omega) 1 (.slice none 0 0)).setCell k2 hn (by omega) 2 (.slice Ac' cl.length cc')).setCell k3 hn (by omega) 3 (.int .i64 size)
                have q1 := owns_box (owns_box (owns_box (owns_box (owns_mono HI.out.main hb) k0 (by decide) _ _) k1 (by decide) _ _) k2 (by decide) _ _) k3 (by decide) 3 (.int .i64 size)
                have q2 := owns_box (owns_box (owns_box (owns_box (owns_mono HI.out.cvt hb) k0 (by decide) _ _) k1 (by decide) _ _) k2 (by decide) _ _) k3 (by decide) 3 (.int .i64 size)
                refine ⟨_, _, _, rfl, ?_, ?_⟩
                · rw [hW']
                  exact ⟨q0, q1, q2⟩
                · rw [hW']
                  have hX := HXG.out
                  have hpb := HPB.out
                  have hf : Grow w wr := ⟨HI.out.fr.os.trans hX.os, HI.out.fr.tape.trans hX.tape, HI.out.fr.output.trans hX.output, by have := HI.out.fr.size; omega, fun k hk _ => (HI.out.fr.block k (by omega) (by omega)).trans (hX.block k hk (fun x => x))⟩
                  have hg1 : w.heap.size ≤ w.heap.size + 1 := by omega
                  exact (((hf.setCell (.inr hg1) _).setCell (.inr hg1) _).setCell (.inr hg1) _).setCell (.inr hg1) _
              have HEND := Lib.hid hend
              clear hend hbr HI HPF
              go_wp2
              refine bodyPost_ret (v := .agg #[.slice Af fl.length cf, .slice none 0 0, .slice Ac' cl.length cc', .int .i64 size]) (by simp [results, Try.results16, go_sem, z0, z1, z2, z3]) rfl ?_
              unfold gpr
              rw [HMN.out]
              exact HEND.out _ rfl
end Go.Proofs.Ytnalbkjbidaojaa

/- Parts of the proof, joined: StC StB StD. -/
import Derived.Test.YtnhebmgibiomnaaGreatPc33
set_option linter.unusedVariables false
set_option linter.unusedSimpArgs false
namespace Go.Proofs.YtnhebmgibiomnaaGreat
open Go.RowKit Mc
def sumIns : List (Int × Int) := [(1, 5), (1, 7), (5, 0)]
def sumRegs : List Sr.Reg := [⟨1, 0, 0, 0, 5⟩, ⟨1, 1, 0, 0, 7⟩, ⟨5, 0, 0, 1, 0⟩, ⟨42, 0, 0, 0, 1⟩]
set_option maxRecDepth 100000 in
set_option maxHeartbeats 2000000 in
theorem sum_any (w : World) : Calls Tryz.prog 37 #[] w fun e w' => ∃ g k, e = .returned (.tuple #[.agg #[.slice none 0 0, .slice (some ⟨g, 0, none⟩) 3 3, .slice none 0 0, .int .i64 0], .slice (some ⟨k, 0, none⟩) 4 4]) ∧
    Below w.heap.size w w' ∧ Reads w' w'.heap.size 2 (some ⟨g, 0, none⟩) 3 (insCells sumIns) ∧ Reads w' w'.heap.size 5 (some ⟨k, 0, none⟩) 4 (regCells sumRegs) := by
  go_enter Tryz.func37, Tryz.ntmps37
  go_wp2_with fail
  refine bodyPost_ret (v := .tuple #[.agg #[.slice none 0 0, .slice (some ⟨w.heap.size + 1, 0, none⟩) 3 3, .slice none 0 0, .int .i64 0], .slice (some ⟨w.heap.size + 1 + 1, 0, none⟩) 4 4]) (by simp [results, Tryz.results37, go_sem]) rfl ⟨w.heap.size + 1, w.heap.size + 1 + 1, rfl, ((((Below.refl _ _).alloc (Nat.le_refl _) _).alloc (by simp) _).alloc (by simp; omega) _), ?_, ?_⟩
  · exact Reads.blk (cs := insCells sumIns) ((Blk.new_at _ _ _ (by simp)).alloc _) 2 3 rfl
  · exact Reads.blk (cs := regCells sumRegs) (Blk.new_at _ _ _ (by simp)) 5 4 rfl
end Go.Proofs.YtnhebmgibiomnaaGreat
namespace Go.Proofs.YtnhebmgibiomnaaGreat
open Go.RowKit Mc
def addIns : List (Int × Int) := [(5, 0)]
theorem sum_build : Bu.build [] sumIns = (sumRegs, 0) := by kernel_rfl
theorem add_build : Bu.build [] addIns = ([], 51) := by kernel_rfl
theorem sum_right : Sr.right sumRegs = true := by kernel_rfl
theorem sum_less : Sr.right (sumRegs.take 3) = false := by kernel_rfl
theorem nil_right : Sr.right [] = false := by kernel_rfl
theorem sum_told : (Sr.told (Sr.run sumRegs [] 0 ⟨[], [], [], []⟩) (Sr.top sumRegs)).stack = [12] ∧ (Sr.told (Sr.run sumRegs [] 0 ⟨[], [], [], []⟩) (Sr.top sumRegs)).steps = 3 := ⟨by kernel_rfl, by kernel_rfl⟩
structure BtA (w : World) (pb g k : Nat) (X : World) : Prop where
  p : Blk X pb 26 #[.slice none 0 0, .slice (some ⟨g, 0, none⟩) 3 3, .slice none 0 0, .int .i64 0]
  i : Reads X X.heap.size 2 (some ⟨g, 0, none⟩) 3 (insCells sumIns)
  r : Reads X X.heap.size 5 (some ⟨k, 0, none⟩) 4 (regCells sumRegs)
  b : Below w.heap.size w X
theorem Blk.go {X Y : World} {g : Nat} {t : TypeId} {cs : Array Value} (h : Blk X g t cs) (hb : Below X.heap.size X Y) : Blk Y g t cs := (hb.block g h.lt).trans h
theorem Reads.go {X Y : World} {size : Nat} {A : Option Addr} {n : Nat} {xs : List Value} (h : Reads X X.heap.size size A n xs) (hb : Below X.heap.size X Y) : Reads Y Y.heap.size size A n xs := (h.below hb (Nat.le_refl _)).more hb.size
theorem below_new (X : World) (o : Obj) : Below X.heap.size X (X.alloc o) := (Below.refl _ _).alloc (Nat.le_refl _) _
theorem BtA.go {w : World} {pb g k : Nat} {X Y : World} (h : BtA w pb g k X) (hb : Below X.heap.size X Y) : BtA w pb g k Y :=
  ⟨Blk.go h.p hb, Reads.go h.i hb, Reads.go h.r hb, h.b.trans (hb.mono h.b.size)⟩
structure BtR (rb : Nat) (cs : Array Value) (kA ko : Nat) (X : World) : Prop where
  blk : Blk X rb 39 cs
  lt : kA < X.heap.size
  at_ : X.cell? ⟨kA, ko, none⟩ = some (.int .i64 12)
theorem BtR.go {rb : Nat} {cs : Array Value} {kA ko : Nat} {X Y : World} (h : BtR rb cs kA ko X) (hb : Below X.heap.size X Y) : BtR rb cs kA ko Y :=
  ⟨Blk.go h.blk hb, by have := hb.size; have := h.lt; omega, (hb.cell (p := ⟨kA, ko, none⟩) h.lt).trans h.at_⟩
structure BtE (w : World) (pb g k : Nat) (A : Option Addr) (rb : Nat) (cs : Array Value) (kA ko sb : Nat) (cs' : Array Value) (kA' ko' nb : Nat) (cs'' : Array Value) (X : World) : Prop where
  a : BtA w pb g k X
  v : Reads X X.heap.size 5 A 4 (regCells sumRegs)
  r : BtR rb cs kA ko X
  s : BtR sb cs' kA' ko' X
  n : Blk X nb 39 cs''
theorem BtE.go {w : World} {pb g k : Nat} {A : Option Addr} {rb : Nat} {cs : Array Value} {kA ko sb : Nat} {cs' : Array Value} {kA' ko' nb : Nat} {cs'' : Array Value} {X Y : World} (h : BtE w pb g k A rb cs kA ko sb cs' kA' ko' nb cs'' X) (hb : Below X.heap.size X Y) : BtE w pb g k A rb cs kA ko sb cs' kA' ko' nb cs'' Y :=
  ⟨h.a.go hb, Reads.go h.v hb, h.r.go hb, h.s.go hb, Blk.go h.n hb⟩
theorem zn_none (X : World) : ZnAt X X.heap.size ⟨[], [], [], []⟩ none none none none := ⟨Reads.none_, Reads.none_, Reads.none_, Reads.none_⟩
theorem zn_none_ok : ZnOk ⟨[], [], [], []⟩ := ⟨by simp, by simp, by simp, by simp⟩
theorem sum_run (X : World) (A : Option Addr) (c g : Nat) (h : Reads X X.heap.size 5 A 4 (regCells sumRegs)) :
    Calls Tryz.prog 17 #[.slice A 4 c, .agg #[.slice none 0 0, .slice (some ⟨g, 0, none⟩) 3 3, .slice none 0 0, .int .i64 0], .agg #[.slice none 0 0, .slice none 0 0, .slice none 0 0, .slice none 0 0]] X fun e Y =>
      ∃ (v0 : Option Addr) (vn0 vc0 : Nat) (v1 : Option Addr) (vn1 vc1 : Nat) (v2 : Option Addr) (vn2 vc2 : Nat) (v3 : Option Addr) (vn3 vc3 : Nat) (v4 : Option Addr) (vn4 vc4 : Nat) (sA : Option Addr) (sc kA ko kc : Nat), e = .returned (.agg #[.slice v0 vn0 vc0, .slice v1 vn1 vc1, .slice v2 vn2 vc2, .slice v3 vn3 vc3, .slice v4 vn4 vc4, .slice sA 32 sc, .slice (some ⟨kA, ko, none⟩) 1 kc, .int .i64 3, .int .i64 0, .int .i64 0]) ∧ Below X.heap.size X Y ∧ kA < Y.heap.size ∧ Y.cell? ⟨kA, ko, none⟩ = some (.int .i64 12) := by
  refine (runs_yes X sumRegs A c [] 0 ⟨[], [], [], []⟩ (by simp) zn_none_ok (by decide) none (some ⟨g, 0, none⟩) none none none none none 0 0 3 3 0 0 0 0 0 h Reads.none_ (zn_none X) sum_right).mono ?_
  rintro e Y ⟨og, cu, tu, en, cv, st, sk, rfl, hr, hb⟩
  obtain ⟨s1, s2⟩ := sum_told
  have h1 := hr.og
  have h2 := hr.cu
  have h3 := hr.to
  have h4 := hr.en
  have h5 := hr.cv
  have h6 := hr.st
  have h7 : Y.ownsRow X.heap.size 3 1 sk 1 [.int .i64 12] := by have := hr.sk; rw [s1] at this; exact this
  obtain ⟨v0, vc0, rfl, _⟩ := own_form h1
  obtain ⟨v1, vc1, rfl, _⟩ := own_form h2
  obtain ⟨v2, vc2, rfl, _⟩ := own_form h3
  obtain ⟨v3, vc3, rfl, _⟩ := own_form h4
  obtain ⟨v4, vc4, rfl, _⟩ := own_form h5
  obtain ⟨sA, sc, rfl, _⟩ := own_form h6
  obtain ⟨kA, kc, rfl, hk⟩ := own_form h7
  obtain ⟨b, off, rfl, hbB, hcells⟩ := hk.2 (by decide)
  exact ⟨v0, _, vc0, v1, _, vc1, v2, _, vc2, v3, _, vc3, v4, _, vc4, sA, sc, b, off, kc, by rw [s2]; rfl, hb, hbB, hcells 0 _ rfl⟩
theorem sum_cut {X : World} {k : Nat} (h : Reads X X.heap.size 5 (some ⟨k, 0, none⟩) 4 (regCells sumRegs)) : Reads X X.heap.size 5 (some ⟨k, 0, none⟩) (sumRegs.take 3).length (regCells (sumRegs.take 3)) := by
  obtain ⟨_, h2⟩ := h
  obtain ⟨b, off, e, hb, hc⟩ := h2 (by decide)
  refine ⟨rfl, fun _ => ⟨b, off, e, hb, fun j u hu => hc j u ?_⟩⟩
  have hp : regCells sumRegs = regCells (sumRegs.take 3) ++ [.int .i64 42, .int .i64 0, .int .i64 0, .int .i64 0, .int .i64 1] := rfl
  rw [hp, List.getElem?_append_left (List.getElem?_eq_some_iff.1 hu).1]
  exact hu
theorem rows_none (X : World) (B : Nat) : RowsAt X B none [] := ⟨[], Reads.none_, fun i l h => by simp at h⟩
theorem sum_built (X : World) (g : Nat) (h : Reads X X.heap.size 2 (some ⟨g, 0, none⟩) 3 (insCells sumIns)) :
    Calls Tryz.prog 14 #[.agg #[.slice none 0 0, .slice (some ⟨g, 0, none⟩) 3 3, .slice none 0 0, .int .i64 0]] X fun e Y => ∃ A c, e = .returned (.tuple #[.slice A 4 c, .int .i64 0]) ∧ Below X.heap.size X Y ∧ Reads Y Y.heap.size 5 A 4 (regCells sumRegs) := by
  refine (build_any none (some ⟨g, 0, none⟩) 0 3 (.slice none 0 0) 0 [] sumIns X ⟨_, _, _, rfl⟩ (rows_none X _) h (by simp) (by decide) (by simp) (by unfold I64 sumIns; simp)).mono ?_
  rintro e Y ⟨v, rfl, hb, ho⟩
  rw [sum_build] at ho ⊢
  obtain ⟨A, c, rfl, hr⟩ := own_form ho
  exact ⟨A, c, rfl, hb, hr⟩
theorem add_built (X : World) (g : Nat) (h : Reads X X.heap.size 2 (some ⟨g, 0, none⟩) 1 (insCells addIns)) :
    Calls Tryz.prog 14 #[.agg #[.slice none 0 0, .slice (some ⟨g, 0, none⟩) 1 1, .slice none 0 0, .int .i64 0]] X fun e Y => ∃ v, e = .returned (.tuple #[v, .int .i64 51]) ∧ Below X.heap.size X Y := by
  refine (build_any none (some ⟨g, 0, none⟩) 0 1 (.slice none 0 0) 0 [] addIns X ⟨_, _, _, rfl⟩ (rows_none X _) h (by simp) (by decide) (by simp) (by unfold I64 addIns; simp)).mono ?_
  rintro e Y ⟨v, rfl, hb, ho⟩
  rw [add_build]
  exact ⟨v, rfl, hb⟩
theorem nil_run (X : World) (g : Nat) :
    Calls Tryz.prog 17 #[.slice none 0 0, .agg #[.slice none 0 0, .slice (some ⟨g, 0, none⟩) 3 3, .slice none 0 0, .int .i64 0], .agg #[.slice none 0 0, .slice none 0 0, .slice none 0 0, .slice none 0 0]] X (NoRun X) :=
  runs_no X [] none 0 [] 0 ⟨[], [], [], []⟩ (by simp) zn_none_ok (by simp) none (some ⟨g, 0, none⟩) none none none none none 0 0 3 3 0 0 0 0 0 Reads.none_ Reads.none_ (zn_none X) nil_right
set_option maxRecDepth 100000 in
set_option maxHeartbeats 8000000 in
theorem built_any (w : World) : Calls Tryz.prog 15 #[] w fun e w' => e = .returned (.bool true) ∧ Below w.heap.size w w' := by
  go_enter Tryz.func15, Tryz.ntmps15
  go_wp2_with fail
  refine (sum_any w).mono ?_
  rintro e w1 ⟨g, k, rfl, hb, hg, hk⟩
  go_upto_region 2 with fail
  have h1 : BtA w w1.heap.size g k (w1.alloc (.cells #[.slice none 0 0, .slice (some ⟨g, 0, none⟩) 3 3, .slice none 0 0, .int .i64 0] 26)) := ⟨Blk.new _ _ _, Reads.go hg (below_new _ _), Reads.go hk (below_new _ _), hb.alloc hb.size _⟩
  have H1 := Lib.hid h1
  clear h1 hb hg hk
  generalize w1.alloc (.cells #[.slice none 0 0, .slice (some ⟨g, 0, none⟩) 3 3, .slice none 0 0, .int .i64 0] 26) = X at *
  generalize w1.heap.size = pb at *
  have c0 := H1.out.p.cell 0
  have c1 := H1.out.p.cell 1
  have c2 := H1.out.p.cell 2
  have c3 := H1.out.p.cell 3
  simp only [List.getElem?_toArray, List.getElem?_cons_zero, List.getElem?_cons_succ] at c0 c1 c2 c3
  have hl := H1.out.p.lt
  go_wp2_with fail
  refine (sum_built X g H1.out.i).mono ?_
  rintro e w2 ⟨A, c, rfl, hb, hv⟩
  go_upto_region 3 with fail
  have H2 := Lib.hid (H1.out.go hb)
  have HV2 := Lib.hid hv
  clear c0 c1 c2 c3 hl H1 hb hv
  have c0 := H2.out.p.cell 0
  have c1 := H2.out.p.cell 1
  have c2 := H2.out.p.cell 2
  have c3 := H2.out.p.cell 3
  simp only [List.getElem?_toArray, List.getElem?_cons_zero, List.getElem?_cons_succ] at c0 c1 c2 c3
  have hl := H2.out.p.lt
  go_wp2_with fail
  refine (sum_run w2 A c g HV2.out).mono ?_
  rintro e w3 ⟨a0, an0, ac0, a1, an1, ac1, a2, an2, ac2, a3, an3, ac3, a4, an4, ac4, a5, a6, kA, ko, kc, rfl, hb, hk1, hk2⟩
  go_upto_region 4 with fail
  have hb' := hb.alloc hb.size (.cells #[.slice a0 an0 ac0, .slice a1 an1 ac1, .slice a2 an2 ac2, .slice a3 an3 ac3, .slice a4 an4 ac4, .slice a5 32 a6, .slice (some ⟨kA, ko, none⟩) 1 kc, .int .i64 3, .int .i64 0, .int .i64 0] 39)
  have H3 := Lib.hid (H2.out.go hb')
  have HV3 := Lib.hid (Reads.go HV2.out hb')
  have HR3 : Hid (BtR w3.heap.size #[.slice a0 an0 ac0, .slice a1 an1 ac1, .slice a2 an2 ac2, .slice a3 an3 ac3, .slice a4 an4 ac4, .slice a5 32 a6, .slice (some ⟨kA, ko, none⟩) 1 kc, .int .i64 3, .int .i64 0, .int .i64 0] kA ko (w3.alloc (.cells #[.slice a0 an0 ac0, .slice a1 an1 ac1, .slice a2 an2 ac2, .slice a3 an3 ac3, .slice a4 an4 ac4, .slice a5 32 a6, .slice (some ⟨kA, ko, none⟩) 1 kc, .int .i64 3, .int .i64 0, .int .i64 0] 39))) := Lib.hid ⟨Blk.new _ _ _, by simp; omega, (World.cell?_alloc_lt _ _ _ hk1).trans hk2⟩
  clear c0 c1 c2 c3 hl H2 HV2 hb hb' hk1 hk2
  generalize w3.alloc (.cells #[.slice a0 an0 ac0, .slice a1 an1 ac1, .slice a2 an2 ac2, .slice a3 an3 ac3, .slice a4 an4 ac4, .slice a5 32 a6, .slice (some ⟨kA, ko, none⟩) 1 kc, .int .i64 3, .int .i64 0, .int .i64 0] 39) = X3 at *
  generalize w3.heap.size = rb at *
  have c0 := H3.out.p.cell 0
  have c1 := H3.out.p.cell 1
  have c2 := H3.out.p.cell 2
  have c3 := H3.out.p.cell 3
  simp only [List.getElem?_toArray, List.getElem?_cons_zero, List.getElem?_cons_succ] at c0 c1 c2 c3
  have hl := H3.out.p.lt
  go_wp2_with fail
  refine (sum_run X3 (some ⟨k, 0, none⟩) 4 g H3.out.r).mono ?_
  rintro e w4 ⟨b0, bn0, bc0, b1, bn1, bc1, b2, bn2, bc2, b3, bn3, bc3, b4, bn4, bc4, b5, b6, lA, lo, lc, rfl, hb, hk1, hk2⟩
  go_upto_region 5 with fail
  have hb' := hb.alloc hb.size (.cells #[.slice b0 bn0 bc0, .slice b1 bn1 bc1, .slice b2 bn2 bc2, .slice b3 bn3 bc3, .slice b4 bn4 bc4, .slice b5 32 b6, .slice (some ⟨lA, lo, none⟩) 1 lc, .int .i64 3, .int .i64 0, .int .i64 0] 39)
  have H4 := Lib.hid (H3.out.go hb')
  have HV4 := Lib.hid (Reads.go HV3.out hb')
  have HR4 := Lib.hid (HR3.out.go hb')
  have HS4 : Hid (BtR w4.heap.size #[.slice b0 bn0 bc0, .slice b1 bn1 bc1, .slice b2 bn2 bc2, .slice b3 bn3 bc3, .slice b4 bn4 bc4, .slice b5 32 b6, .slice (some ⟨lA, lo, none⟩) 1 lc, .int .i64 3, .int .i64 0, .int .i64 0] lA lo (w4.alloc (.cells #[.slice b0 bn0 bc0, .slice b1 bn1 bc1, .slice b2 bn2 bc2, .slice b3 bn3 bc3, .slice b4 bn4 bc4, .slice b5 32 b6, .slice (some ⟨lA, lo, none⟩) 1 lc, .int .i64 3, .int .i64 0, .int .i64 0] 39))) := Lib.hid ⟨Blk.new _ _ _, by simp; omega, (World.cell?_alloc_lt _ _ _ hk1).trans hk2⟩
  clear c0 c1 c2 c3 hl H3 HV3 HR3 hb hb' hk1 hk2
  generalize w4.alloc (.cells #[.slice b0 bn0 bc0, .slice b1 bn1 bc1, .slice b2 bn2 bc2, .slice b3 bn3 bc3, .slice b4 bn4 bc4, .slice b5 32 b6, .slice (some ⟨lA, lo, none⟩) 1 lc, .int .i64 3, .int .i64 0, .int .i64 0] 39) = X4 at *
  generalize w4.heap.size = sb at *
  go_wp2_with fail
  refine (add_built _ X4.heap.size (Reads.blk (cs := insCells addIns) (Blk.new X4 96 _) 2 1 rfl)).mono ?_
  rintro e w5 ⟨av, rfl, hb⟩
  go_upto_region 6 with fail
  have hb' := (below_new X4 (.cells (insCells addIns).toArray 96)).trans (hb.mono (by simp))
  have H5 := Lib.hid (H4.out.go hb')
  have HV5 := Lib.hid (Reads.go HV4.out hb')
  have HR5 := Lib.hid (HR4.out.go hb')
  have HS5 := Lib.hid (HS4.out.go hb')
  clear H4 HV4 HR4 HS4 hb hb'
  have c0 := H5.out.p.cell 0
  have c1 := H5.out.p.cell 1
  have c2 := H5.out.p.cell 2
  have c3 := H5.out.p.cell 3
  simp only [List.getElem?_toArray, List.getElem?_cons_zero, List.getElem?_cons_succ] at c0 c1 c2 c3
  have hl := H5.out.p.lt
  go_wp2_with fail
  refine (nil_run w5 g).mono ?_
  rintro e w6 ⟨rfl, hb⟩
  go_upto_region 7 with fail
  have hb' := hb.alloc hb.size (.cells #[.slice none 0 0, .slice none 0 0, .slice none 0 0, .slice none 0 0, .slice none 0 0, .slice none 0 0, .slice none 0 0, .int .i64 0, .int .i64 0, .int .i64 50] 39)
  have HE : Hid (BtE w pb g k A rb _ kA ko sb _ lA lo w6.heap.size _ _) := Lib.hid ⟨H5.out.go hb', Reads.go HV5.out hb', HR5.out.go hb', HS5.out.go hb', Blk.new _ _ _⟩
  clear H5 HV5 HR5 HS5 hb hb' c0 c1 c2 c3 hl
  generalize w6.alloc (.cells #[.slice none 0 0, .slice none 0 0, .slice none 0 0, .slice none 0 0, .slice none 0 0, .slice none 0 0, .slice none 0 0, .int .i64 0, .int .i64 0, .int .i64 50] 39) = X6 at *
  generalize w6.heap.size = nb at *
  have r5 := HE.out.r.blk.cell 6
  have r9 := HE.out.r.blk.cell 9
  have s5 := HE.out.s.blk.cell 5
  have s6 := HE.out.s.blk.cell 6
  have s7 := HE.out.s.blk.cell 7
  have n9 := HE.out.n.cell 9
  simp only [List.getElem?_toArray, List.getElem?_cons_zero, List.getElem?_cons_succ] at r5 r9 s5 s6 s7 n9
  have rl := HE.out.r.blk.lt
  have sl := HE.out.s.blk.lt
  have nl := HE.out.n.lt
  have kl := HE.out.r.lt
  have ll := HE.out.s.lt
  have k12 := HE.out.r.at_
  have l12 := HE.out.s.at_
  go_wp2_with fail
  refine (right_any A c _ sumRegs _ HE.out.v (Nat.le_refl _) (by decide)).mono ?_
  rintro e w7 ⟨rfl, hb⟩
  rw [sum_right]
  have HE2 := Lib.hid (HE.out.go hb)
  clear r5 r9 s5 s6 s7 n9 rl sl nl kl ll k12 l12 HE hb
  obtain ⟨HE, _⟩ : Hid _ ∧ True := ⟨HE2, trivial⟩
  clear HE2
  have r5 := HE.out.r.blk.cell 6
  have r9 := HE.out.r.blk.cell 9
  have s5 := HE.out.s.blk.cell 5
  have s6 := HE.out.s.blk.cell 6
  have s7 := HE.out.s.blk.cell 7
  have n9 := HE.out.n.cell 9
  simp only [List.getElem?_toArray, List.getElem?_cons_zero, List.getElem?_cons_succ] at r5 r9 s5 s6 s7 n9
  have rl := HE.out.r.blk.lt
  have sl := HE.out.s.blk.lt
  have nl := HE.out.n.lt
  have kl := HE.out.r.lt
  have ll := HE.out.s.lt
  have k12 := HE.out.r.at_
  have l12 := HE.out.s.at_
  go_wp2_with fail
  refine (right_any (some ⟨k, 0, none⟩) 4 _ sumRegs _ HE.out.a.r (Nat.le_refl _) (by decide)).mono ?_
  rintro e w8 ⟨rfl, hb⟩
  rw [sum_right]
  have HE2 := Lib.hid (HE.out.go hb)
  clear r5 r9 s5 s6 s7 n9 rl sl nl kl ll k12 l12 HE hb
  obtain ⟨HE, _⟩ : Hid _ ∧ True := ⟨HE2, trivial⟩
  clear HE2
  have r5 := HE.out.r.blk.cell 6
  have r9 := HE.out.r.blk.cell 9
  have s5 := HE.out.s.blk.cell 5
  have s6 := HE.out.s.blk.cell 6
  have s7 := HE.out.s.blk.cell 7
  have n9 := HE.out.n.cell 9
  simp only [List.getElem?_toArray, List.getElem?_cons_zero, List.getElem?_cons_succ] at r5 r9 s5 s6 s7 n9
  have rl := HE.out.r.blk.lt
  have sl := HE.out.s.blk.lt
  have nl := HE.out.n.lt
  have kl := HE.out.r.lt
  have ll := HE.out.s.lt
  have k12 := HE.out.r.at_
  have l12 := HE.out.s.at_
  go_wp2_with fail
  refine (right_any none 0 _ [] _ Reads.none_ (Nat.le_refl _) (by decide)).mono ?_
  rintro e w9 ⟨rfl, hb⟩
  rw [nil_right]
  have HE2 := Lib.hid (HE.out.go hb)
  clear r5 r9 s5 s6 s7 n9 rl sl nl kl ll k12 l12 HE hb
  obtain ⟨HE, _⟩ : Hid _ ∧ True := ⟨HE2, trivial⟩
  clear HE2
  have r5 := HE.out.r.blk.cell 6
  have r9 := HE.out.r.blk.cell 9
  have s5 := HE.out.s.blk.cell 5
  have s6 := HE.out.s.blk.cell 6
  have s7 := HE.out.s.blk.cell 7
  have n9 := HE.out.n.cell 9
  simp only [List.getElem?_toArray, List.getElem?_cons_zero, List.getElem?_cons_succ] at r5 r9 s5 s6 s7 n9
  have rl := HE.out.r.blk.lt
  have sl := HE.out.s.blk.lt
  have nl := HE.out.n.lt
  have kl := HE.out.r.lt
  have ll := HE.out.s.lt
  have k12 := HE.out.r.at_
  have l12 := HE.out.s.at_
  go_wp2_with fail
  refine (right_any (some ⟨k, 0, none⟩) 4 _ (sumRegs.take 3) _ (sum_cut HE.out.a.r) (Nat.le_refl _) (by decide)).mono ?_
  rintro e w10 ⟨rfl, hb⟩
  rw [sum_less]
  have HE2 := Lib.hid (HE.out.go hb)
  clear r5 r9 s5 s6 s7 n9 rl sl nl kl ll k12 l12 HE hb
  obtain ⟨HE, _⟩ : Hid _ ∧ True := ⟨HE2, trivial⟩
  clear HE2
  have hbw := HE.out.a.b
  go_wp2_with fail
  go_ret
  exact ⟨rfl, hbw⟩
end Go.Proofs.YtnhebmgibiomnaaGreat
namespace Go.Proofs.YtnhebmgibiomnaaGreat
open Go.RowKit Mc
namespace Sr
theorem build_cases (ll : List (List (Int × Int))) (l : List (Int × Int)) : ((Bu.build ll l).2 ≠ 0 ∧ (Bu.build ll l).1 = [] ∧ ((Bd.program ll l).2 = (Bu.build ll l).2 ∨ (Bd.program ll l).2 = 0 ∧ (Bu.build ll l).2 = 3)) ∨ ((Bu.build ll l).2 = 0 ∧ (Bd.program ll l).2 = 0) := by
  unfold Bu.build
  simp only
  by_cases h : (Bd.program ll l).2 ≠ 0
  · rw [if_pos h]; exact .inl ⟨h, rfl, .inl rfl⟩
  · rw [if_neg h]
    have h0 : (Bd.program ll l).2 = 0 := by omega
    split
    · exact .inl ⟨by simp, rfl, .inr ⟨h0, rfl⟩⟩
    · exact .inr ⟨rfl, h0⟩
end Sr
section
variable {ll : List (List (Int × Int))} {l : List (Int × Int)} {cvt : List Int} {size : Int} {z : Zn} {fA mA cA oA uA tA eA : Option Addr} {fc mc cc oc uc tc ec : Nat}
theorem RowsAt.go {X Y : World} {A : Option Addr} {ll : List (List (Int × Int))} (h : RowsAt X X.heap.size A ll) (hb : Below X.heap.size X Y) : RowsAt Y Y.heap.size A ll := (h.below hb (Nat.le_refl _)).more hb.size
end
end Go.Proofs.YtnhebmgibiomnaaGreat

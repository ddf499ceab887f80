/- The chapter's examples: awake, its contract. -/
import Derived.Test.YthdmdgmchkhngaaMnE
namespace Go.Proofs.Ythdmdgmchkhngaa
open Go.RowKit Mc

theorem owns_at {W : World} {base size n : Nat} {t : TypeId} {v : Value} {xs : List Value} (h : W.ownsRow base t size v n xs) (hn : 0 < n) :
    ∃ g c, v = .slice (some ⟨g, 0, none⟩) n c ∧ n ≤ c ∧ base ≤ g ∧ g < W.heap.size ∧ ∀ j u, xs[j]? = some u → W.cell? ⟨g, j, none⟩ = some u := by
  rcases h.2 with ⟨_, h0⟩ | ⟨g, cap, cur, rfl, hg, hh, h1, h2, h3, h4⟩
  · omega
  · have hb : Blk W g t cur := hh
    refine ⟨g, cap, rfl, h1, hg, hb.lt, fun j u hu => ?_⟩
    rw [hb.cell]
    rw [← h4, List.getElem?_take] at hu
    split at hu
    · simpa using hu
    · cases hu
/-- a program of main code alone that lies in a block -/
theorem PgAt.main_ {W : World} {g : Nat} {l : List (Int × Int)} {sz : Int} (hb : Blk W g 39 (pts l).toArray) : PgAt W W.heap.size ⟨[], l, [], sz⟩ none (some ⟨g, 0, none⟩) none :=
  ⟨⟨[], Reads.none_, fun i c hc => by simp at hc⟩, ⟨by rw [pts_len], fun _ => ⟨g, 0, rfl, hb.lt, fun j u hu => by rw [Nat.zero_add, hb.cell]; simpa using hu⟩⟩, Reads.none_⟩
theorem ZnAt.cur_ {W : World} {g : Nat} {l : List (Int × Int)} (hb : Blk W g 29 (pts l).toArray) : ZnAt W W.heap.size ⟨[], l, [], []⟩ none (some ⟨g, 0, none⟩) none none :=
  ⟨Reads.none_, ⟨by rw [pts_len], fun _ => ⟨g, 0, rfl, hb.lt, fun j u hu => by rw [Nat.zero_add, hb.cell]; simpa using hu⟩⟩, Reads.none_, Reads.none_⟩
def aw1 : St := Mc.run 9 (begin_ ⟨[], [(1, 0), (1, 0), (29, 0), (15, 0), (32, 0)], [], 0⟩ ⟨[], [(70, 10)], [], []⟩)
def aw2 : St := Mc.run 9 (begin_ ⟨[], [(1, 1), (36, 1), (2, 0)], [], 0⟩ ⟨[], [(70, 10)], [], []⟩)
theorem aw1_is : aw1.cur = [(64, 10)] ∧ aw1.touch = [1] ∧ aw1.steps = 5 ∧ aw1.peak = 2 := ⟨by kernel_rfl, by kernel_rfl, by kernel_rfl, by kernel_rfl⟩
theorem aw2_is : aw2.err = 51 ∧ aw2.steps = 2 := ⟨by kernel_rfl, by kernel_rfl⟩

set_option maxRecDepth 100000 in
theorem awake_any (w : World) : Calls Try.prog 7 #[] w fun e w' => e = .returned (.bool true) ∧ Below w.heap.size w w' := by
  go_enter Try.func7, Try.ntmps7
  have HZ1 : Hid (ZnOk ⟨[], [(70, 10)], [], []⟩) := Lib.hid ⟨by simp, by simp, by simp, by simp⟩
  have HP1 : Hid (PgOk ⟨[], [(1, 0), (1, 0), (29, 0), (15, 0), (32, 0)], [], 0⟩) := Lib.hid ⟨by simp, by simp, by simp, by simp⟩
  have HP2 : Hid (PgOk ⟨[], [(1, 1), (36, 1), (2, 0)], [], 0⟩) := Lib.hid ⟨by simp, by simp, by simp, by simp⟩
  go_wp2_with fail
  obtain ⟨X, hX⟩ : ∃ X, X = ((w.alloc (.cells #[.int .i64 70, .int .i64 10] 29)).alloc (.cells #[.slice none 0 0, .slice (some ⟨w.heap.size, 0, none⟩) 1 1, .slice none 0 0, .slice none 0 0] 33)) := ⟨_, rfl⟩
  have hXz : X.heap.size = w.heap.size + 1 + 1 := by rw [hX]; simp
  have hXG : Below w.heap.size w X := by rw [hX]; exact ((Below.refl _ _).alloc (Nat.le_refl _) _).alloc (by simp) _
  have hbp : Blk X w.heap.size 29 #[.int .i64 70, .int .i64 10] := by rw [hX]; exact (Blk.new _ _ _).alloc _
  have hbz : Blk X (w.heap.size + 1) 33 #[.slice none 0 0, .slice (some ⟨w.heap.size, 0, none⟩) 1 1, .slice none 0 0, .slice none 0 0] := by rw [hX]; exact Blk.new_at _ _ _ (by simp)
  rw [← hX]
  clear hX
  have hbi := Blk.new_at X 39 (pts [(1, 0), (1, 0), (29, 0), (15, 0), (32, 0)]).toArray hXz.symm
  have HXZ := Lib.hid hXz
  clear hXz
  refine (run_any _ ⟨[], [(1, 0), (1, 0), (29, 0), (15, 0), (32, 0)], [], 0⟩ ⟨[], [(70, 10)], [], []⟩ HP1.out HZ1.out none (some ⟨w.heap.size + 1 + 1, 0, none⟩) none none none none (some ⟨w.heap.size, 0, none⟩) 0 5 0 0 0 0 1 (PgAt.main_ hbi) (ZnAt.cur_ (hbp.alloc _)) 9 (by omega)).mono ?_
  rintro e w1 ⟨og, cu, to, en, cv, st, sk, rfl, hra, hbl⟩
  have hra1 : RanAt _ aw1 w1 og cu to en cv st sk := hra
  obtain ⟨e1, e2, e3, e4⟩ := aw1_is
  have hcu := hra1.cu
  have hto := hra1.to
  rw [e1] at hcu
  rw [e2] at hto
  have hog := owns_form hra1.og
  have hen := owns_form hra1.en
  have hcv := owns_form hra1.cv
  have hst := owns_form hra1.st
  have hsk := owns_form hra1.sk
  change ∃ A c, og = .slice A aw1.org.length c ∧ _ at hog
  obtain ⟨A1, c1, rfl, _⟩ := hog
  obtain ⟨A2, c2, rfl, _⟩ := hen
  obtain ⟨A3, c3, rfl, _⟩ := hcv
  obtain ⟨A4, c4, rfl, _⟩ := hst
  obtain ⟨A5, c5, rfl, _⟩ := hsk
  obtain ⟨gc, cc, rfl, _, hgcb, hgcl, hgcc⟩ := owns_at hcu (by simp)
  obtain ⟨gt, ct, rfl, _, hgtb, hgtl, hgtc⟩ := owns_at hto (by simp)
  have x0 := hgcc 0 _ rfl
  have x1 := hgcc 1 _ rfl
  have x2 := hgtc 0 _ rfl
  have hb1 := (hbz.alloc _).below hbl (hbz.alloc _).lt
  have hp1 := (hbp.alloc _).below hbl (hbp.alloc _).lt
  have hB1 : Below w.heap.size w w1 := (hXG.alloc (by have := hXG.size; omega) _).trans (hbl.mono (by have := HXZ.out; simp; omega))
  rw [show Mc.run (9 : Int).toNat (begin_ ⟨[], [(1, 0), (1, 0), (29, 0), (15, 0), (32, 0)], [], 0⟩ ⟨[], [(70, 10)], [], []⟩) = aw1 from rfl, e3, e4]
  have HP := Lib.hid hp1
  have HZ := Lib.hid hb1
  have HB1 := Lib.hid hB1
  have z0 := hb1.cell 0
  have z1 := hb1.cell 1
  have z2 := hb1.cell 2
  have z3 := hb1.cell 3
  simp only [List.getElem?_toArray, List.getElem?_cons_zero, List.getElem?_cons_succ] at z0 z1 z2 z3
  have hzl := hb1.lt
  clear hra hra1 hcu hto hgcc hgtc hbl hbp hbz hXG hbi hb1 hp1 hB1 e1 e2 e3 e4
  have hw1 : w.heap.size ≤ w1.heap.size := HB1.out.size
  obtain ⟨zl1, zl2, zl3, -⟩ := lts hzl
  go_wp2_with fail
  have hR := Blk.new w1 36 #[.slice A1 aw1.org.length c1, .slice (some ⟨gc, 0, none⟩) 1 cc, .slice (some ⟨gt, 0, none⟩) 1 ct, .slice A2 aw1.ends.length c2, .slice A3 aw1.cvt.length c3, .slice A4 32 c4, .slice A5 aw1.stack.length c5, .int .i64 5, .int .i64 2, .int .i64 aw1.err]
  have hY : Below w1.heap.size w1 (w1.alloc (.cells #[.slice A1 aw1.org.length c1, .slice (some ⟨gc, 0, none⟩) 1 cc, .slice (some ⟨gt, 0, none⟩) 1 ct, .slice A2 aw1.ends.length c2, .slice A3 aw1.cvt.length c3, .slice A4 32 c4, .slice A5 aw1.stack.length c5, .int .i64 5, .int .i64 2, .int .i64 aw1.err] 36)) := (Below.refl _ _).alloc (Nat.le_refl _) _
  have hYz : w1.heap.size + 1 = (w1.alloc (.cells #[.slice A1 aw1.org.length c1, .slice (some ⟨gc, 0, none⟩) 1 cc, .slice (some ⟨gt, 0, none⟩) 1 ct, .slice A2 aw1.ends.length c2, .slice A3 aw1.cvt.length c3, .slice A4 32 c4, .slice A5 aw1.stack.length c5, .int .i64 5, .int .i64 2, .int .i64 aw1.err] 36)).heap.size := by simp
  generalize (w1.alloc (.cells #[.slice A1 aw1.org.length c1, .slice (some ⟨gc, 0, none⟩) 1 cc, .slice (some ⟨gt, 0, none⟩) 1 ct, .slice A2 aw1.ends.length c2, .slice A3 aw1.cvt.length c3, .slice A4 32 c4, .slice A5 aw1.stack.length c5, .int .i64 5, .int .i64 2, .int .i64 aw1.err] 36)) = Y at *
  have hbi := Blk.new_at Y 39 (pts [(1, 1), (36, 1), (2, 0)]).toArray hYz
  have hpY := HP.out.below hY HP.out.lt
  refine (run_any _ ⟨[], [(1, 1), (36, 1), (2, 0)], [], 0⟩ ⟨[], [(70, 10)], [], []⟩ HP2.out HZ1.out none (some ⟨w1.heap.size + 1, 0, none⟩) none none none none (some ⟨w.heap.size, 0, none⟩) 0 3 0 0 0 0 1 (PgAt.main_ hbi) (ZnAt.cur_ (hpY.alloc _)) 9 (by omega)).mono ?_
  rintro e w2 ⟨og, cu, to, en, cv, st, sk, rfl, hra, hbl⟩
  obtain ⟨A6, c6, rfl, _⟩ := owns_form hra.og
  obtain ⟨A7, c7, rfl, _⟩ := owns_form hra.cu
  obtain ⟨A8, c8, rfl, _⟩ := owns_form hra.to
  obtain ⟨A9, c9, rfl, _⟩ := owns_form hra.en
  obtain ⟨A10, c10, rfl, _⟩ := owns_form hra.cv
  obtain ⟨A11, c11, rfl, _⟩ := owns_form hra.st
  obtain ⟨A12, c12, rfl, _⟩ := owns_form hra.sk
  rw [show Mc.run (9 : Int).toNat (begin_ ⟨[], [(1, 1), (36, 1), (2, 0)], [], 0⟩ ⟨[], [(70, 10)], [], []⟩) = aw2 from rfl, aw2_is.1, aw2_is.2]
  have hA : Below w1.heap.size Y w2 := ((Below.refl _ _).alloc (by omega) _).trans (hbl.mono (by simp; omega))
  have hB : Below Y.heap.size Y w2 := ((Below.refl _ _).alloc (Nat.le_refl _) _).trans (hbl.mono (by simp))
  have hC : Below w1.heap.size w1 w2 := hY.trans hA
  have hR2 := hR.below hB hR.lt
  have HW : Hid (Below w.heap.size w w2) := Lib.hid (HB1.out.trans (hC.mono hw1))
  have r0 := hR2.cell 0
  have r1 := hR2.cell 1
  have r2 := hR2.cell 2
  have r3 := hR2.cell 3
  have r7 := hR2.cell 7
  have r8 := hR2.cell 8
  simp only [List.getElem?_toArray, List.getElem?_cons_zero, List.getElem?_cons_succ] at r0 r1 r2 r3 r7 r8
  have rl := hR2.lt
  have y0 := (hC.cell (p := ⟨gc, 0, none⟩) hgcl).trans x0
  have y1 := (hC.cell (p := ⟨gc, 1, none⟩) hgcl).trans x1
  have y2 := (hC.cell (p := ⟨gt, 0, none⟩) hgtl).trans x2
  have hgc2 : gc < w2.heap.size := Nat.lt_of_lt_of_le hgcl hC.size
  have hgt2 : gt < w2.heap.size := Nat.lt_of_lt_of_le hgtl hC.size
  have hw2 := HW.out.size
  clear hra hbl hA hB hC hR hR2 hY hbi hpY x0 x1 x2 hgcb hgtb z0 z1 z2 z3 HP HZ HP1 HP2 HZ1 HB1 HXZ hYz zl1 zl2 zl3 hzl
  go_wp2_with fail
  go_ret
  exact ⟨rfl, HW.out.alloc hw2 _⟩
end Go.Proofs.Ythdmdgmchkhngaa

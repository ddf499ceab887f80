/- MachineInter: the plain law, and the walk. -/
import Derived.Test.YthdmdgmchkhngaaLwE
namespace Go.Proofs.Ythdmdgmchkhngaa
open Go.RowKit Mc

def inRun (a o b da db : Int) : St := Mc.run 9 (begin_ ⟨[], [(1, 0), (1, da), (31, 0), (1, 2), (1, db), (31, 0), (34, 0)], [], 0⟩ ⟨[], [(a, 5), (o, 6), (b, 7)], [], [2]⟩)
def inCur (a o b da db : Int) : List (Int × Int) := [(k32 (k32 a + k32 da), 5), (k32 o, 6), (k32 (k32 b + k32 db), 7)]
def inX (a o b da db : Int) : Int := k32 (w64 (between [(k32 a, 5), (k32 o, 6), (k32 b, 7)] (inCur a o b da db) 0 1 0 2))
theorem inRun_is (a o b da db : Int) : (inRun a o b da db).cur = [(k32 (k32 a + k32 da), 5), (inX a o b da db, 6), (k32 (k32 b + k32 db), 7)] ∧ (inRun a o b da db).touch = [1, 0, 1] := ⟨by kernel_rfl, by kernel_rfl⟩
theorem mul_small {x y A B : Int} (hA : 0 ≤ A) (hB : 0 ≤ B) (hx : -A ≤ x ∧ x ≤ A) (hy : -B ≤ y ∧ y ≤ B) : -(A * B) ≤ x * y ∧ x * y ≤ A * B := by
  have h : (x * y).natAbs ≤ (A * B).natAbs := by rw [Int.natAbs_mul, Int.natAbs_mul]; exact Nat.mul_le_mul (by omega) (by omega)
  have h2 : 0 ≤ A * B := Int.mul_nonneg hA hB
  omega
/-- between: the inner way -/
theorem inner (D t E : Int) (hD : 0 < D) (hD2 : D ≤ 4000) (ht : 0 < t) (ht2 : t < D) (hE : -8000 ≤ E ∧ E ≤ 8000) : min 0 E ≤ divd (w64 (w64 (2 * t * E) + D)) (2 * D) ∧ divd (w64 (w64 (2 * t * E) + D)) (2 * D) ≤ max 0 E := by
  have hm : 2 * t * E = 2 * (t * E) := by rw [Int.mul_assoc]
  have hb := mul_small (x := t) (y := E) (A := 4000) (B := 8000) (by omega) (by omega) (by omega) hE
  have h1 : w64 (w64 (2 * t * E) + D) = 2 * (t * E) + D := by rw [hm]; unfold w64; omega
  rw [h1]
  unfold divd
  rw [if_neg (by omega)]
  have hq := Int.mul_fdiv_add_fmod (2 * (t * E) + D) (2 * D)
  have f1 := Int.fmod_nonneg_of_pos (2 * (t * E) + D) (show 0 < 2 * D by omega)
  have f2 := Int.fmod_lt_of_pos (2 * (t * E) + D) (show 0 < 2 * D by omega)
  generalize (2 * (t * E) + D).fdiv (2 * D) = q at *
  generalize (2 * (t * E) + D).fmod (2 * D) = f at *
  have hqm : 2 * D * q = 2 * (D * q) := by rw [Int.mul_assoc]
  rw [hqm] at hq
  rcases Int.lt_or_le E 0 with hneg | hpos
  · have h3 : t * E ≤ 0 := Int.mul_nonpos_of_nonneg_of_nonpos (by omega) (by omega)
    have h3' : t * E < 0 := Int.mul_neg_of_pos_of_neg ht hneg
    have h4 : D * E ≤ t * E := Int.mul_le_mul_of_nonpos_right (a := D) (b := t) (by omega) (by omega)
    refine ⟨?_, ?_⟩
    · rcases Int.lt_or_le q E with hh | hh
      · have h5 : D * q ≤ D * (E - 1) := Int.mul_le_mul_of_nonneg_left (by omega) (by omega)
        rw [Int.mul_sub, Int.mul_one] at h5
        omega
      · omega
    · rcases Int.lt_or_le 0 q with hh | hh
      · have h5 : D * 1 ≤ D * q := Int.mul_le_mul_of_nonneg_left (by omega) (by omega)
        omega
      · omega
  · have h3 : 0 ≤ t * E := Int.mul_nonneg (by omega) hpos
    have h4 : t * E ≤ D * E := Int.mul_le_mul_of_nonneg_right (by omega) hpos
    refine ⟨?_, ?_⟩
    · rcases Int.lt_or_le q 0 with hh | hh
      · have h5 : D * q ≤ D * (-1) := Int.mul_le_mul_of_nonneg_left (by omega) (by omega)
        omega
      · omega
    · rcases Int.lt_or_le E q with hh | hh
      · have h5 : D * (E + 1) ≤ D * q := Int.mul_le_mul_of_nonneg_left (by omega) (by omega)
        rw [Int.mul_add, Int.mul_one] at h5
        omega
      · omega
theorem between_is (wa o wb ia ib y0 y1 y2 : Int) : between [(wa, y0), (o, y1), (wb, y2)] [(ia, y0), (o, y1), (ib, y2)] 0 1 0 2 =
    if wb < wa then (if o ≤ wb then o + ib - wb else if wa ≤ o then o + ia - wa else ib + divd (w64 (w64 (2 * (o - wb) * (ia - ib)) + (wa - wb))) (2 * (wa - wb)))
    else (if o ≤ wa then o + ia - wa else if wb ≤ o then o + ib - wb else ia + divd (w64 (w64 (2 * (o - wa) * (ib - ia)) + (wb - wa))) (2 * (wb - wa))) := by
  unfold between
  simp only [coord, List.getD_cons_zero, List.getD_cons_succ]
  have h01 : ¬ (0 : Int) = 1 := by decide
  simp only [if_neg h01]
  by_cases h : wb < wa
  · simp only [if_pos h, List.getD_cons_zero, List.getD_cons_succ]
  · simp only [if_neg h, List.getD_cons_zero, List.getD_cons_succ]
theorem inX_ok (a o b da db : Int) (ha : -2000 < a ∧ a < 2000) (ho : -2000 < o ∧ o < 2000) (hb : -2000 < b ∧ b < 2000) (hda : -2000 < da ∧ da < 2000) (hdb : -2000 < db ∧ db < 2000) :
    -9000 ≤ inX a o b da db ∧ inX a o b da db ≤ 9000 ∧ (min a b < o ∧ o < max a b → min (a + da) (b + db) ≤ inX a o b da db ∧ inX a o b da db ≤ max (a + da) (b + db)) ∧ (¬ (min a b < o ∧ o < max a b) → inX a o b da db = o + da ∨ inX a o b da db = o + db) := by
  unfold inX inCur
  rw [k32_small (n := a) (by omega) (by omega), k32_small (n := b) (by omega) (by omega), k32_small (n := o) (by omega) (by omega), k32_small (n := da) (by omega) (by omega), k32_small (n := db) (by omega) (by omega),
    k32_small (n := a + da) (by omega) (by omega), k32_small (n := b + db) (by omega) (by omega), between_is]
  have fin : ∀ v : Int, (-9000 ≤ v ∧ v ≤ 9000 ∧ (min a b < o ∧ o < max a b → min (a + da) (b + db) ≤ v ∧ v ≤ max (a + da) (b + db)) ∧ (¬ (min a b < o ∧ o < max a b) → v = o + da ∨ v = o + db)) →
      -9000 ≤ k32 (w64 v) ∧ k32 (w64 v) ≤ 9000 ∧ (min a b < o ∧ o < max a b → min (a + da) (b + db) ≤ k32 (w64 v) ∧ k32 (w64 v) ≤ max (a + da) (b + db)) ∧ (¬ (min a b < o ∧ o < max a b) → k32 (w64 v) = o + da ∨ k32 (w64 v) = o + db) := fun v hv => by
    have : k32 (w64 v) = v := by unfold k32 w64; omega
    rw [this]
    exact hv
  refine fin _ ?_
  by_cases h : b < a
  · rw [if_pos h]
    by_cases h1 : o ≤ b
    · rw [if_pos h1]; omega
    · rw [if_neg h1]
      by_cases h2 : a ≤ o
      · rw [if_pos h2]; omega
      · rw [if_neg h2]
        have := inner (a - b) (o - b) (a + da - (b + db)) (by omega) (by omega) (by omega) (by omega) (by omega)
        generalize divd (w64 (w64 (2 * (o - b) * (a + da - (b + db))) + (a - b))) (2 * (a - b)) = q at *
        omega
  · rw [if_neg h]
    by_cases h1 : o ≤ a
    · rw [if_pos h1]; omega
    · rw [if_neg h1]
      by_cases h2 : b ≤ o
      · rw [if_pos h2]; omega
      · rw [if_neg h2]
        have := inner (b - a) (o - a) (b + db - (a + da)) (by omega) (by omega) (by omega) (by omega) (by omega)
        generalize divd (w64 (w64 (2 * (o - a) * (b + db - (a + da))) + (b - a))) (2 * (b - a)) = q at *
        omega
theorem ZnAt.ce_ {W : World} {g g' : Nat} {l : List (Int × Int)} {es : List Int} (hb : Blk W g 29 (pts l).toArray) (he : Blk W g' 3 (ints es).toArray) : ZnAt W W.heap.size ⟨[], l, [], es⟩ none (some ⟨g, 0, none⟩) none (some ⟨g', 0, none⟩) :=
  ⟨Reads.none_, ⟨by rw [pts_len], fun _ => ⟨g, 0, rfl, hb.lt, fun j u hu => by rw [Nat.zero_add, hb.cell]; simpa using hu⟩⟩, Reads.none_, ⟨by simp [ints], fun _ => ⟨g', 0, rfl, he.lt, fun j u hu => by rw [Nat.zero_add, he.cell]; simpa using hu⟩⟩⟩
set_option maxRecDepth 100000 in
set_option maxHeartbeats 4000000 in
theorem machineInter_walk (x0 x1 x2 y0 y1 : Int) (w : World) :
    Calls Try.prog 5 #[.agg #[.int .i64 x0, .int .i64 x1, .int .i64 x2], .agg #[.int .i64 y0, .int .i64 y1]] w fun e w' => e = .returned (.bool true) ∧ Below w.heap.size w w' := by
  have ha := tmod_bd x0 2000 (by decide)
  have ho := tmod_bd x1 2000 (by decide)
  have hb := tmod_bd x2 2000 (by decide)
  have hda := tmod_bd y0 2000 (by decide)
  have hdb := tmod_bd y1 2000 (by decide)
  generalize hxa : x0.tmod 2000 = a at *
  generalize hxo : x1.tmod 2000 = o at *
  generalize hxb : x2.tmod 2000 = b at *
  generalize hxda : y0.tmod 2000 = da at *
  generalize hxdb : y1.tmod 2000 = db at *
  have HL := Lib.hid (inX_ok a o b da db ha ho hb hda hdb)
  have HIS := Lib.hid (inRun_is a o b da db)
  go_enter Try.func5, Try.ntmps5
  go_wp2_with fail
  have hA0 : Blk ((w.alloc (.cells #[.int .i64 x0, .int .i64 x1, .int .i64 x2] 26)).alloc (.cells #[.int .i64 y0, .int .i64 y1] 27)) w.heap.size 26 #[.int .i64 x0, .int .i64 x1, .int .i64 x2] := (Blk.new _ _ _).alloc _
  have hB0 : Blk ((w.alloc (.cells #[.int .i64 x0, .int .i64 x1, .int .i64 x2] 26)).alloc (.cells #[.int .i64 y0, .int .i64 y1] 27)) (w.heap.size + 1) 27 #[.int .i64 y0, .int .i64 y1] := Blk.new_at _ _ _ (by simp)
  have hG0 : Below w.heap.size w ((w.alloc (.cells #[.int .i64 x0, .int .i64 x1, .int .i64 x2] 26)).alloc (.cells #[.int .i64 y0, .int .i64 y1] 27)) := ((Below.refl _ _).alloc (Nat.le_refl _) _).alloc (by simp) _
  generalize ((w.alloc (.cells #[.int .i64 x0, .int .i64 x1, .int .i64 x2] 26)).alloc (.cells #[.int .i64 y0, .int .i64 y1] 27)) = X at *
  refine (awake_any X).mono ?_
  rintro e' w1 ⟨rfl, hbl⟩
  have hA := hA0.below hbl hA0.lt
  have hB := hB0.below hbl hB0.lt
  have HG := Lib.hid (hG0.trans (hbl.mono hG0.size))
  clear hA0 hB0 hG0 hbl X
  have a0 := hA.cell 0
  have a1 := hA.cell 1
  have a2 := hA.cell 2
  have b0 := hB.cell 0
  have b1 := hB.cell 1
  simp only [List.getElem?_toArray, List.getElem?_cons_zero, List.getElem?_cons_succ] at a0 a1 a2 b0 b1
  have hz1 : w.heap.size ≤ w1.heap.size := HG.out.size
  clear hA hB
  go_upto_region 7 with fail
  clear a0 a1 a2 b0 b1
  have HA := Lib.hid ha
  have HO := Lib.hid ho
  have HB := Lib.hid hb
  have HDA := Lib.hid hda
  have HDB := Lib.hid hdb
  clear hxa hxo hxb hxda hxdb ha ho hb hda hdb
  have HZ1 : Hid (ZnOk ⟨[], [(a, 5), (o, 6), (b, 7)], [], [2]⟩) := Lib.hid ⟨by simp, by simp, by simp, by simp⟩
  have HP1 : Hid (PgOk ⟨[], [(1, 0), (1, da), (31, 0), (1, 2), (1, db), (31, 0), (34, 0)], [], 0⟩) := Lib.hid ⟨by simp, by simp, by simp, by simp⟩
  go_upto_region 8 with fail
  obtain ⟨X, hX⟩ : ∃ X, X = (((w1.alloc (.cells #[.int .i64 a, .int .i64 5, .int .i64 o, .int .i64 6, .int .i64 b, .int .i64 7] 29)).alloc (.cells #[.int .i64 2] 3)).alloc (.cells #[.slice none 0 0, .slice (some ⟨w1.heap.size, 0, none⟩) 3 3, .slice none 0 0, .slice (some ⟨w1.heap.size + 1, 0, none⟩) 1 1] 33)) := ⟨_, rfl⟩
  have hXz : X.heap.size = w1.heap.size + 1 + 1 + 1 := by rw [hX]; simp
  have hXG : Below w.heap.size w X := by rw [hX]; exact ((HG.out.alloc hz1 _).alloc (by simp; omega) _).alloc (by simp; omega) _
  have hbp : Blk X w1.heap.size 29 #[.int .i64 a, .int .i64 5, .int .i64 o, .int .i64 6, .int .i64 b, .int .i64 7] := by rw [hX]; exact ((Blk.new _ _ _).alloc _).alloc _
  have hbe : Blk X (w1.heap.size + 1) 3 #[.int .i64 2] := by rw [hX]; exact (Blk.new_at _ _ _ (by simp)).alloc _
  have hbz : Blk X (w1.heap.size + 1 + 1) 33 #[.slice none 0 0, .slice (some ⟨w1.heap.size, 0, none⟩) 3 3, .slice none 0 0, .slice (some ⟨w1.heap.size + 1, 0, none⟩) 1 1] := by rw [hX]; exact Blk.new_at _ _ _ (by simp)
  rw [← hX]
  clear hX
  have z0 := hbz.cell 0
  have z1 := hbz.cell 1
  have z2 := hbz.cell 2
  have z3 := hbz.cell 3
  simp only [List.getElem?_toArray, List.getElem?_cons_zero, List.getElem?_cons_succ] at z0 z1 z2 z3
  have hzl := hbz.lt
  obtain ⟨zl1, zl2, zl3, -⟩ := lts hzl
  have HXZ := Lib.hid hXz
  have HXG := Lib.hid hXG
  have HBP := Lib.hid hbp
  have HBE := Lib.hid hbe
  clear hXz hXG hbp hbe hbz HG
  go_wp2_with fail
  have hbi := Blk.new X 39 (pts [(1, 0), (1, da), (31, 0), (1, 2), (1, db), (31, 0), (34, 0)]).toArray
  refine (run_any _ ⟨[], [(1, 0), (1, da), (31, 0), (1, 2), (1, db), (31, 0), (34, 0)], [], 0⟩ ⟨[], [(a, 5), (o, 6), (b, 7)], [], [2]⟩ HP1.out HZ1.out none (some ⟨X.heap.size, 0, none⟩) none none none (some ⟨w1.heap.size + 1, 0, none⟩) (some ⟨w1.heap.size, 0, none⟩) 0 7 0 0 0 1 3 (PgAt.main_ hbi) (ZnAt.ce_ (HBP.out.alloc _) (HBE.out.alloc _)) 9 (by omega)).mono ?_
  rintro e w2 ⟨og, cu, to, en, cv, st, sk, rfl, hra, hbl⟩
  have hra1 : RanAt _ (inRun a o b da db) w2 og cu to en cv st sk := hra
  obtain ⟨e1, e2⟩ := HIS.out
  have hcu := hra1.cu
  have hto := hra1.to
  rw [e1] at hcu
  rw [e2] at hto
  have hog := owns_form hra1.og
  have hen := owns_form hra1.en
  have hcv := owns_form hra1.cv
  have hst := owns_form hra1.st
  have hsk := owns_form hra1.sk
  obtain ⟨A1, c1, rfl, _⟩ := hog
  obtain ⟨A2, c2, rfl, _⟩ := hen
  obtain ⟨A3, c3, rfl, _⟩ := hcv
  obtain ⟨A4, c4, rfl, _⟩ := hst
  obtain ⟨A5, c5, rfl, _⟩ := hsk
  obtain ⟨gc, cc, rfl, hc3, hgcb, hgcl, hgcc⟩ := owns_at hcu (by simp)
  obtain ⟨gt, ct, rfl, ht3, hgtb, hgtl, hgtc⟩ := owns_at hto (by simp)
  have u0 := hgcc 0 _ rfl
  have u1 := hgcc 1 _ rfl
  have u2 := hgcc 2 _ rfl
  have u3 := hgcc 3 _ rfl
  have u4 := hgcc 4 _ rfl
  have u5 := hgcc 5 _ rfl
  have t0 := hgtc 0 _ rfl
  have t1 := hgtc 1 _ rfl
  have t2 := hgtc 2 _ rfl
  have HW : Hid (Below w.heap.size w w2) := Lib.hid ((HXG.out.alloc (by have := HXZ.out; omega) _).trans (hbl.mono (by have := HXZ.out; simp; omega)))
  have hw2 := HW.out.size
  rw [show Mc.run (9 : Int).toNat (begin_ ⟨[], [(1, 0), (1, da), (31, 0), (1, 2), (1, db), (31, 0), (34, 0)], [], 0⟩ ⟨[], [(a, 5), (o, 6), (b, 7)], [], [2]⟩) = inRun a o b da db from rfl]
  simp only [List.length_cons, List.length_nil, Nat.zero_add, Nat.reduceAdd]
  have q1 : k32 (k32 a + k32 da) = a + da := by have := HA.out; have := HDA.out; rw [k32_small (n := a) (by omega) (by omega), k32_small (n := da) (by omega) (by omega), k32_small (by omega) (by omega)]
  have q2 : k32 (k32 b + k32 db) = b + db := by have := HB.out; have := HDB.out; rw [k32_small (n := b) (by omega) (by omega), k32_small (n := db) (by omega) (by omega), k32_small (by omega) (by omega)]
  simp only [q1, q2] at u0 u1 u2 u3 u4 u5
  clear q1 q2 hra hra1 hcu hto hgcc hgtc hbl hbi HBP HBE HXG HXZ HZ1 HP1 e1 e2 z0 z1 z2 z3 zl1 zl2 zl3 hzl
  generalize hS : inRun a o b da db = S at *
  clear hS HIS
  generalize hI : inX a o b da db = I at *
  clear hI
  go_upto_region 9 with fail
  have hR := Blk.new w2 36 #[.slice A1 S.org.length c1, .slice (some ⟨gc, 0, none⟩) 3 cc, .slice (some ⟨gt, 0, none⟩) 3 ct, .slice A2 S.ends.length c2, .slice A3 S.cvt.length c3, .slice A4 32 c4, .slice A5 S.stack.length c5, .int .i64 S.steps, .int .i64 S.peak, .int .i64 S.err]
  have hY : Below w2.heap.size w2 (w2.alloc (.cells #[.slice A1 S.org.length c1, .slice (some ⟨gc, 0, none⟩) 3 cc, .slice (some ⟨gt, 0, none⟩) 3 ct, .slice A2 S.ends.length c2, .slice A3 S.cvt.length c3, .slice A4 32 c4, .slice A5 S.stack.length c5, .int .i64 S.steps, .int .i64 S.peak, .int .i64 S.err] 36)) := (Below.refl _ _).alloc (Nat.le_refl _) _
  have HWY : Hid (Below w.heap.size w (w2.alloc (.cells #[.slice A1 S.org.length c1, .slice (some ⟨gc, 0, none⟩) 3 cc, .slice (some ⟨gt, 0, none⟩) 3 ct, .slice A2 S.ends.length c2, .slice A3 S.cvt.length c3, .slice A4 32 c4, .slice A5 S.stack.length c5, .int .i64 S.steps, .int .i64 S.peak, .int .i64 S.err] 36))) := Lib.hid (HW.out.alloc hw2 _)
  have v0 := (hY.cell (p := ⟨gc, 0, none⟩) hgcl).trans u0
  have v1 := (hY.cell (p := ⟨gc, 1, none⟩) hgcl).trans u1
  have v2 := (hY.cell (p := ⟨gc, 2, none⟩) hgcl).trans u2
  have v3 := (hY.cell (p := ⟨gc, 3, none⟩) hgcl).trans u3
  have v4 := (hY.cell (p := ⟨gc, 4, none⟩) hgcl).trans u4
  have v5 := (hY.cell (p := ⟨gc, 5, none⟩) hgcl).trans u5
  have s0 := (hY.cell (p := ⟨gt, 0, none⟩) hgtl).trans t0
  have s1 := (hY.cell (p := ⟨gt, 1, none⟩) hgtl).trans t1
  have s2 := (hY.cell (p := ⟨gt, 2, none⟩) hgtl).trans t2
  generalize (w2.alloc (.cells #[.slice A1 S.org.length c1, .slice (some ⟨gc, 0, none⟩) 3 cc, .slice (some ⟨gt, 0, none⟩) 3 ct, .slice A2 S.ends.length c2, .slice A3 S.cvt.length c3, .slice A4 32 c4, .slice A5 S.stack.length c5, .int .i64 S.steps, .int .i64 S.peak, .int .i64 S.err] 36)) = Y at *
  have r0 := hR.cell 0
  have r1 := hR.cell 1
  have r2 := hR.cell 2
  have r3 := hR.cell 3
  simp only [List.getElem?_toArray, List.getElem?_cons_zero, List.getElem?_cons_succ] at r0 r1 r2 r3
  have hla := HA.out
  have hlo := HO.out
  have hlb := HB.out
  have hlda := HDA.out
  have hldb := HDB.out
  obtain ⟨i1, i2, i3, i4⟩ := HL.out
  have HI3 := Lib.hid i3
  have HI4 := Lib.hid i4
  clear i3 i4 HL HA HO HB HDA HDB HW hR hY u0 u1 u2 u3 u4 u5 t0 t1 t2
  go_upto_region 12 with fail
  clear v0 v1 v2 v3 v4 v5 s0 s1 s2 r0 r1 r2 r3
  have hmn := min_if
  have hmx := max_if1
  have hmn2 := min_if2
  have hmx2 := max_if2
  go_upto_region 14 with fail
  by_cases h1 : min b a < o
  · by_cases h2 : o < max a b
    · obtain ⟨g1, g2⟩ := HI3.out ⟨by omega, h2⟩
      have g3 : min (b + db) (a + da) ≤ I := by omega
      have g4 : I ≤ max (b + db) (a + da) := by omega
      go_wp2_with fail
      go_ret
      exact ⟨rfl, HWY.out⟩
    · have h3 : max a b ≤ o := by omega
      rcases HI4.out (fun h => h2 h.2) with g | g
      · subst g
        go_wp2_with fail
        go_ret
        exact ⟨rfl, HWY.out⟩
      · subst g
        go_wp2_with fail
        all_goals go_ret
        all_goals exact ⟨rfl, HWY.out⟩
  · have h3 : o ≤ min b a := by omega
    rcases HI4.out (fun h => h1 (by omega)) with g | g
    · subst g
      go_wp2_with fail
      go_ret
      exact ⟨rfl, HWY.out⟩
    · subst g
      go_wp2_with fail
      all_goals go_ret
      all_goals exact ⟨rfl, HWY.out⟩
end Go.Proofs.Ythdmdgmchkhngaa

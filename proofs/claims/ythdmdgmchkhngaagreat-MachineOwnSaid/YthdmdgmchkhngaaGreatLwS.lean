/- The chapter's examples: awake, its contract. · MachineRounds: the reference's Rounded, and the walk. · A zone that is made by appends: its block, and its four rows. · The reference of layer 18: rows of points and of numbers compared. -/
import Derived.Test.YthdmdgmchkhngaaGreatMnE
namespace Go.Proofs.YthdmdgmchkhngaaGreat
open Go.RowKit Mc

theorem owns_at {W : World} {base size n : Nat} {t : TypeId} {v : Value} {xs : List Value} (h : W.ownsRow base t size v n xs) (hn : 0 < n) :
    ∃ g c, v = .slice (some ⟨g, 0, none⟩) n c ∧ n ≤ c ∧ base ≤ g ∧ g < W.heap.size ∧ ∀ j u, xs[j]? = some u → W.cell? ⟨g, j, none⟩ = some u := by
  rcases h.2 with ⟨_, h0⟩ | ⟨g, cap, cur, rfl, hg, hh, h1, h2, h3, h4⟩
  · omega
  · have hb : Blk W g t cur := hh
    refine ⟨g, cap, rfl, h1, hg, hb.lt, fun j u hu => ?_⟩
    rw [hb.cell]
    rw [← h4, List.getElem?_take] at hu
    split at hu
    · simpa using hu
    · cases hu
/-- a program of main code alone that lies in a block -/
theorem PgAt.main_ {W : World} {g : Nat} {l : List (Int × Int)} {sz : Int} (hb : Blk W g 61 (pts l).toArray) : PgAt W W.heap.size ⟨[], l, [], sz⟩ none (some ⟨g, 0, none⟩) none :=
  ⟨⟨[], Reads.none_, fun i c hc => by simp at hc⟩, ⟨by rw [pts_len], fun _ => ⟨g, 0, rfl, hb.lt, fun j u hu => by rw [Nat.zero_add, hb.cell]; simpa using hu⟩⟩, Reads.none_⟩
theorem ZnAt.cur_ {W : World} {g : Nat} {l : List (Int × Int)} (hb : Blk W g 50 (pts l).toArray) : ZnAt W W.heap.size ⟨[], l, [], []⟩ none (some ⟨g, 0, none⟩) none none :=
  ⟨Reads.none_, ⟨by rw [pts_len], fun _ => ⟨g, 0, rfl, hb.lt, fun j u hu => by rw [Nat.zero_add, hb.cell]; simpa using hu⟩⟩, Reads.none_, Reads.none_⟩
def aw1 : St := Mc.run 9 (begin_ ⟨[], [(1, 0), (1, 0), (29, 0), (15, 0), (32, 0)], [], 0⟩ ⟨[], [(70, 10)], [], []⟩)
def aw2 : St := Mc.run 9 (begin_ ⟨[], [(1, 1), (36, 1), (2, 0)], [], 0⟩ ⟨[], [(70, 10)], [], []⟩)
theorem aw1_is : aw1.cur = [(64, 10)] ∧ aw1.touch = [1] ∧ aw1.steps = 5 ∧ aw1.peak = 2 := ⟨by kernel_rfl, by kernel_rfl, by kernel_rfl, by kernel_rfl⟩
theorem aw2_is : aw2.err = 51 ∧ aw2.steps = 2 := ⟨by kernel_rfl, by kernel_rfl⟩

set_option maxRecDepth 100000 in
theorem awake_any (w : World) : Calls Tryz.prog 9 #[] w fun e w' => e = .returned (.bool true) ∧ Below w.heap.size w w' := by
  go_enter Tryz.func9, Tryz.ntmps9
  have HZ1 : Hid (ZnOk ⟨[], [(70, 10)], [], []⟩) := Lib.hid ⟨by simp, by simp, by simp, by simp⟩
  have HP1 : Hid (PgOk ⟨[], [(1, 0), (1, 0), (29, 0), (15, 0), (32, 0)], [], 0⟩) := Lib.hid ⟨by simp, by simp, by simp, by simp⟩
  have HP2 : Hid (PgOk ⟨[], [(1, 1), (36, 1), (2, 0)], [], 0⟩) := Lib.hid ⟨by simp, by simp, by simp, by simp⟩
  go_wp2_with fail
  obtain ⟨X, hX⟩ : ∃ X, X = ((w.alloc (.cells #[.int .i64 70, .int .i64 10] 50)).alloc (.cells #[.slice none 0 0, .slice (some ⟨w.heap.size, 0, none⟩) 1 1, .slice none 0 0, .slice none 0 0] 33)) := ⟨_, rfl⟩
  have hXz : X.heap.size = w.heap.size + 1 + 1 := by rw [hX]; simp
  have hXG : Below w.heap.size w X := by rw [hX]; exact ((Below.refl _ _).alloc (Nat.le_refl _) _).alloc (by simp) _
  have hbp : Blk X w.heap.size 50 #[.int .i64 70, .int .i64 10] := by rw [hX]; exact (Blk.new _ _ _).alloc _
  have hbz : Blk X (w.heap.size + 1) 33 #[.slice none 0 0, .slice (some ⟨w.heap.size, 0, none⟩) 1 1, .slice none 0 0, .slice none 0 0] := by rw [hX]; exact Blk.new_at _ _ _ (by simp)
  rw [← hX]
  clear hX
  have hbi := Blk.new_at X 61 (pts [(1, 0), (1, 0), (29, 0), (15, 0), (32, 0)]).toArray hXz.symm
  have HXZ := Lib.hid hXz
  clear hXz
  refine (run_any _ ⟨[], [(1, 0), (1, 0), (29, 0), (15, 0), (32, 0)], [], 0⟩ ⟨[], [(70, 10)], [], []⟩ HP1.out HZ1.out none (some ⟨w.heap.size + 1 + 1, 0, none⟩) none none none none (some ⟨w.heap.size, 0, none⟩) 0 5 0 0 0 0 1 (PgAt.main_ hbi) (ZnAt.cur_ (hbp.alloc _)) 9 (by omega)).mono ?_
  rintro e w1 ⟨og, cu, to, en, cv, st, sk, rfl, hra, hbl⟩
  have hra1 : RanAt _ aw1 w1 og cu to en cv st sk := hra
  obtain ⟨e1, e2, e3, e4⟩ := aw1_is
  have hcu := hra1.cu
  have hto := hra1.to
  rw [e1] at hcu
  rw [e2] at hto
  have hog := owns_form hra1.og
  have hen := owns_form hra1.en
  have hcv := owns_form hra1.cv
  have hst := owns_form hra1.st
  have hsk := owns_form hra1.sk
  change ∃ A c, og = .slice A aw1.org.length c ∧ _ at hog
  obtain ⟨A1, c1, rfl, _⟩ := hog
  obtain ⟨A2, c2, rfl, _⟩ := hen
  obtain ⟨A3, c3, rfl, _⟩ := hcv
  obtain ⟨A4, c4, rfl, _⟩ := hst
  obtain ⟨A5, c5, rfl, _⟩ := hsk
  obtain ⟨gc, cc, rfl, _, hgcb, hgcl, hgcc⟩ := owns_at hcu (by simp)
  obtain ⟨gt, ct, rfl, _, hgtb, hgtl, hgtc⟩ := owns_at hto (by simp)
  have x0 := hgcc 0 _ rfl
  have x1 := hgcc 1 _ rfl
  have x2 := hgtc 0 _ rfl
  have hb1 := (hbz.alloc _).below hbl (hbz.alloc _).lt
  have hp1 := (hbp.alloc _).below hbl (hbp.alloc _).lt
  have hB1 : Below w.heap.size w w1 := (hXG.alloc (by have := hXG.size; omega) _).trans (hbl.mono (by have := HXZ.out; simp; omega))
  rw [show Mc.run (9 : Int).toNat (begin_ ⟨[], [(1, 0), (1, 0), (29, 0), (15, 0), (32, 0)], [], 0⟩ ⟨[], [(70, 10)], [], []⟩) = aw1 from rfl, e3, e4]
  have HP := Lib.hid hp1
  have HZ := Lib.hid hb1
  have HB1 := Lib.hid hB1
  have z0 := hb1.cell 0
  have z1 := hb1.cell 1
  have z2 := hb1.cell 2
  have z3 := hb1.cell 3
  simp only [List.getElem?_toArray, List.getElem?_cons_zero, List.getElem?_cons_succ] at z0 z1 z2 z3
  have hzl := hb1.lt
  clear hra hra1 hcu hto hgcc hgtc hbl hbp hbz hXG hbi hb1 hp1 hB1 e1 e2 e3 e4
  have hw1 : w.heap.size ≤ w1.heap.size := HB1.out.size
  obtain ⟨zl1, zl2, zl3, -⟩ := lts hzl
  go_wp2_with fail
  have hR := Blk.new w1 43 #[.slice A1 aw1.org.length c1, .slice (some ⟨gc, 0, none⟩) 1 cc, .slice (some ⟨gt, 0, none⟩) 1 ct, .slice A2 aw1.ends.length c2, .slice A3 aw1.cvt.length c3, .slice A4 32 c4, .slice A5 aw1.stack.length c5, .int .i64 5, .int .i64 2, .int .i64 aw1.err]
  have hY : Below w1.heap.size w1 (w1.alloc (.cells #[.slice A1 aw1.org.length c1, .slice (some ⟨gc, 0, none⟩) 1 cc, .slice (some ⟨gt, 0, none⟩) 1 ct, .slice A2 aw1.ends.length c2, .slice A3 aw1.cvt.length c3, .slice A4 32 c4, .slice A5 aw1.stack.length c5, .int .i64 5, .int .i64 2, .int .i64 aw1.err] 43)) := (Below.refl _ _).alloc (Nat.le_refl _) _
  have hYz : w1.heap.size + 1 = (w1.alloc (.cells #[.slice A1 aw1.org.length c1, .slice (some ⟨gc, 0, none⟩) 1 cc, .slice (some ⟨gt, 0, none⟩) 1 ct, .slice A2 aw1.ends.length c2, .slice A3 aw1.cvt.length c3, .slice A4 32 c4, .slice A5 aw1.stack.length c5, .int .i64 5, .int .i64 2, .int .i64 aw1.err] 43)).heap.size := by simp
  generalize (w1.alloc (.cells #[.slice A1 aw1.org.length c1, .slice (some ⟨gc, 0, none⟩) 1 cc, .slice (some ⟨gt, 0, none⟩) 1 ct, .slice A2 aw1.ends.length c2, .slice A3 aw1.cvt.length c3, .slice A4 32 c4, .slice A5 aw1.stack.length c5, .int .i64 5, .int .i64 2, .int .i64 aw1.err] 43)) = Y at *
  have hbi := Blk.new_at Y 61 (pts [(1, 1), (36, 1), (2, 0)]).toArray hYz
  have hpY := HP.out.below hY HP.out.lt
  refine (run_any _ ⟨[], [(1, 1), (36, 1), (2, 0)], [], 0⟩ ⟨[], [(70, 10)], [], []⟩ HP2.out HZ1.out none (some ⟨w1.heap.size + 1, 0, none⟩) none none none none (some ⟨w.heap.size, 0, none⟩) 0 3 0 0 0 0 1 (PgAt.main_ hbi) (ZnAt.cur_ (hpY.alloc _)) 9 (by omega)).mono ?_
  rintro e w2 ⟨og, cu, to, en, cv, st, sk, rfl, hra, hbl⟩
  obtain ⟨A6, c6, rfl, _⟩ := owns_form hra.og
  obtain ⟨A7, c7, rfl, _⟩ := owns_form hra.cu
  obtain ⟨A8, c8, rfl, _⟩ := owns_form hra.to
  obtain ⟨A9, c9, rfl, _⟩ := owns_form hra.en
  obtain ⟨A10, c10, rfl, _⟩ := owns_form hra.cv
  obtain ⟨A11, c11, rfl, _⟩ := owns_form hra.st
  obtain ⟨A12, c12, rfl, _⟩ := owns_form hra.sk
  rw [show Mc.run (9 : Int).toNat (begin_ ⟨[], [(1, 1), (36, 1), (2, 0)], [], 0⟩ ⟨[], [(70, 10)], [], []⟩) = aw2 from rfl, aw2_is.1, aw2_is.2]
  have hA : Below w1.heap.size Y w2 := ((Below.refl _ _).alloc (by omega) _).trans (hbl.mono (by simp; omega))
  have hB : Below Y.heap.size Y w2 := ((Below.refl _ _).alloc (Nat.le_refl _) _).trans (hbl.mono (by simp))
  have hC : Below w1.heap.size w1 w2 := hY.trans hA
  have hR2 := hR.below hB hR.lt
  have HW : Hid (Below w.heap.size w w2) := Lib.hid (HB1.out.trans (hC.mono hw1))
  have r0 := hR2.cell 0
  have r1 := hR2.cell 1
  have r2 := hR2.cell 2
  have r3 := hR2.cell 3
  have r7 := hR2.cell 7
  have r8 := hR2.cell 8
  simp only [List.getElem?_toArray, List.getElem?_cons_zero, List.getElem?_cons_succ] at r0 r1 r2 r3 r7 r8
  have rl := hR2.lt
  have y0 := (hC.cell (p := ⟨gc, 0, none⟩) hgcl).trans x0
  have y1 := (hC.cell (p := ⟨gc, 1, none⟩) hgcl).trans x1
  have y2 := (hC.cell (p := ⟨gt, 0, none⟩) hgtl).trans x2
  have hgc2 : gc < w2.heap.size := Nat.lt_of_lt_of_le hgcl hC.size
  have hgt2 : gt < w2.heap.size := Nat.lt_of_lt_of_le hgtl hC.size
  have hw2 := HW.out.size
  clear hra hbl hA hB hC hR hR2 hY hbi hpY x0 x1 x2 hgcb hgtb z0 z1 z2 z3 HP HZ HP1 HP2 HZ1 HB1 HXZ hYz zl1 zl2 zl3 hzl
  go_wp2_with fail
  go_ret
  exact ⟨rfl, HW.out.alloc hw2 _⟩
end Go.Proofs.YthdmdgmchkhngaaGreat
namespace Go.Proofs.YthdmdgmchkhngaaGreat
open Go.RowKit Mc

theorem rkeep_any (n : Int) (w : World) : Calls Tryz.prog 116 #[.int .i64 n] w fun e w' => e = .returned (.int .i64 (Mc.k32 n)) ∧ w = w' := by
  go_enter Tryz.func116, Tryz.ntmps116
  go_wp2
  go_ret
  exact ⟨ret_i64 (k32_wrap n), rfl⟩
theorem tmod_twice (n d : Int) (hd : 0 < d) : (n.tmod d + d) % d = n % d ∧ -d ≤ n.tmod d ∧ n.tmod d < d := by
  have h1 := tmod_emod n d hd
  have h2 := Int.emod_nonneg n (show d ≠ 0 by omega)
  have h3 := Int.emod_lt_of_pos n hd
  generalize n.tmod d = t at *
  generalize n % d = r at *
  by_cases ht : t < 0
  · rw [if_pos ht] at h1
    refine ⟨?_, by omega, by omega⟩
    rw [← h1]
    exact Int.emod_eq_of_lt h2 h3
  · rw [if_neg ht] at h1
    refine ⟨?_, by omega, by omega⟩
    rw [← h1, Int.add_emod_right]
    exact Int.emod_eq_of_lt h2 h3
theorem rrest_any (n d : Int) (w : World) (hd : 0 < d) (hd2 : d ≤ 1000000) : Calls Tryz.prog 26 #[.int .i64 n, .int .i64 d] w fun e w' => e = .returned (.int .i64 (n % d)) ∧ w = w' := by
  obtain ⟨h1, h2, h3⟩ := tmod_twice n d hd
  have HM := Lib.hid h1
  have hw : IntKind.i64.wrap (n.tmod d + d) = n.tmod d + d := by rw [IntWalk.i64_in _ (by omega)]
  clear h1
  go_enter Tryz.func26, Tryz.ntmps26
  go_wp2
  go_ret
  exact ⟨ret_i64 HM.out, rfl⟩
theorem lrest_any (n d : Int) (w : World) (hd : 0 < d) (hd2 : d ≤ 1000000) : Calls Tryz.prog 13 #[.int .i64 n, .int .i64 d] w fun e w' => e = .returned (.int .i64 (n % d)) ∧ w = w' := by
  obtain ⟨h1, h2, h3⟩ := tmod_twice n d hd
  have HM := Lib.hid h1
  have hw : IntKind.i64.wrap (n.tmod d + d) = n.tmod d + d := by rw [IntWalk.i64_in _ (by omega)]
  clear h1
  go_enter Tryz.func13, Tryz.ntmps13
  go_wp2
  go_ret
  exact ⟨ret_i64 HM.out, rfl⟩
theorem rdown_any (a b : Int) (w : World) (hb : 0 < b) (hb2 : b ≤ 1000000) (ha1 : -1000000000000 ≤ a) (ha2 : a ≤ 1000000000000) : Calls Tryz.prog 140 #[.int .i64 a, .int .i64 b] w fun e w' => e = .returned (.int .i64 (a / b)) ∧ w = w' := by
  have h1 := fdiv_tdiv a b (by omega)
  have h2 : a.fdiv b = a / b := Int.fdiv_eq_ediv_of_nonneg a (by omega)
  rw [h2] at h1
  have h3 : -1000000000000 ≤ a.tdiv b ∧ a.tdiv b ≤ 1000000000000 := by
    have h5 : (a.tdiv b).natAbs ≤ a.natAbs := by rw [Int.natAbs_tdiv]; exact Nat.div_le_self _ _
    omega
  have H1 := Lib.hid h1
  have hb0 : ¬ b = 0 := by omega
  have hbn : ¬ b < 0 := by omega
  have hw1 : IntKind.i64.wrap (a.tdiv b) = a.tdiv b := by rw [IntWalk.i64_in _ (by omega)]
  have hw2 : IntKind.i64.wrap (a.tdiv b - 1) = a.tdiv b - 1 := by rw [IntWalk.i64_in _ (by omega)]
  clear h1 h2 ha1 ha2 h3
  by_cases hn : 0 ≤ a
  · have HT := Lib.hid (Int.tdiv_eq_ediv_of_nonneg (b := b) hn)
    go_enter Tryz.func140, Tryz.ntmps140
    go_wp2
    all_goals go_ret
    all_goals exact ⟨ret_i64 HT.out, rfl⟩
  · have hn' : a < 0 := by omega
    by_cases hm : a.tmod b = 0
    · have HQ : Hid (a / b = a.tdiv b) := Lib.hid (by rw [H1.out, if_neg (fun h => h.1 hm)])
      go_enter Tryz.func140, Tryz.ntmps140
      go_wp2
      go_ret
      exact ⟨ret_i64 HQ.out.symm, rfl⟩
    · have HQ : Hid (a / b = a.tdiv b - 1) := Lib.hid (by rw [H1.out, if_pos ⟨hm, by simp [hn', hbn]⟩])
      go_enter Tryz.func140, Tryz.ntmps140
      go_wp2
      go_ret
      exact ⟨ret_i64 HQ.out.symm, rfl⟩
set_option maxRecDepth 100000 in
theorem rrounded_any (mode n : Int) (w : World) : Calls Tryz.prog 141 #[.int .i64 mode, .int .i64 n] w fun e w' => e = .returned (.int .i64 (rounded mode n)) ∧ w = w' := by
  obtain ⟨k1, k2⟩ := k32_in n
  have m0 := Int.emod_nonneg mode (show (6 : Int) ≠ 0 by omega)
  have m1 := Int.emod_lt_of_pos mode (show (0 : Int) < 6 by omega)
  have hr : rounded mode n = k32 (if mode % 6 = 1 then (k32 n + 32) / 64 * 64 else if mode % 6 = 2 then k32 n / 64 * 64 + 32 else if mode % 6 = 3 then (k32 n + 16) / 32 * 32 else if mode % 6 = 4 then k32 n / 64 * 64 else if mode % 6 = 5 then (k32 n + 63) / 64 * 64 else k32 n) := rfl
  have HR := Lib.hid hr
  clear hr
  generalize hk : k32 n = k at *
  have HK := Lib.hid hk
  clear hk
  generalize hm : mode % 6 = m at *
  have HM := Lib.hid hm
  clear hm
  have h : m = 0 ∨ m = 1 ∨ m = 2 ∨ m = 3 ∨ m = 4 ∨ m = 5 := by omega
  have hb1 : -40000000 ≤ (k + 32) / 64 ∧ (k + 32) / 64 ≤ 40000000 := by omega
  have hb2 : -40000000 ≤ k / 64 ∧ k / 64 ≤ 40000000 := by omega
  have hb3 : -80000000 ≤ (k + 16) / 32 ∧ (k + 16) / 32 ≤ 80000000 := by omega
  have hb5 : -40000000 ≤ (k + 63) / 64 ∧ (k + 63) / 64 ≤ 40000000 := by omega
  rcases h with rfl | rfl | rfl | rfl | rfl | rfl
  all_goals
    clear m0 m1
    go_enter Tryz.func141, Tryz.ntmps141
    go_wp2_with fail
    refine (rkeep_any n _).mono ?_
    rintro e w1 ⟨rfl, rfl⟩
    rw [HK.out]
    go_wp2_with fail
    refine (rrest_any mode 6 _ (by decide) (by decide)).mono ?_
    rintro e w1 ⟨rfl, rfl⟩
    rw [HM.out]
    go_wp2_with fail
    try (refine (rdown_any _ _ _ (by decide) (by decide) (by omega) (by omega)).mono ?_
         rintro e w1 ⟨rfl, rfl⟩
         go_wp2_with fail)
    refine (rkeep_any _ _).mono ?_
    rintro e w1 ⟨rfl, rfl⟩
    go_wp2
    go_ret
    rw [HR.out]
    refine ⟨ret_i64 ?_, rfl⟩
    first | rfl | simp
end Go.Proofs.YthdmdgmchkhngaaGreat
namespace Go.Proofs.YthdmdgmchkhngaaGreat
open Go.RowKit Mc

/-- append onto a row of the call's own, in a region that draws its order -/
theorem step_own {P : Program} (w : World) {ops : Array Oper} {o : Oper} {a : Act} {K : Act → World → Prop} {Q : Exit → Act → World → Prop} {E : Prop} (hgd : o.guard = none) (s x : Operand) (t : TypeId)
    (ho : o.op = .call { callee := .builtin .append, args := #[s, x], argTypes := #[t, t] }) (base : Nat) (e : TypeId) (i : TypeInfo) (z : Value) (size bytes : Nat) (ht : P.underlying t = some (.slice e)) (hi : P.info? e = some i) (hz : i.zero = some z)
    (hsize : i.size = size) (hby : i.bytes = bytes) (hzs : z.cells.size = size) (hsz : 0 < size)
    (v : Value) (n : Nat) (xs : List Value) (hs : a.eval s = v) (hrow : w.ownsRow base e size v n xs)
    (B : Nat) (A : Option Addr) (m c : Nat) (news : List Value) (hx : a.eval x = .slice A m c) (hr : Reads w B size A m news) (h1 : ∀ u ∈ news, u.oneCell' = true)
    (h63 : n + m ≤ maxLen) (hbytes : (n + m) * bytes ≤ 140737488355328) (hbase : base ≤ w.heap.size)
    (h : ∀ v' w', w'.ownsRow base e size v' (n + m) (xs ++ news) → w.grownBy w' v.ownBlock → (v'.ownBlock = v.ownBlock ∨ v'.ownBlock = some w.heap.size) → K (a.put o.dst v') w') :
    if Region.wanted o (yielded ops a.tmps) = true then Oper.wp P o a w K Q else E := by
  have hw : Region.wanted o (yielded ops a.tmps) = true := by simp [Region.wanted, hgd]
  rw [if_pos hw]
  exact wp_append_any w s x t ho base e i z size bytes ht hi hz hsize hby hzs hsz v n xs hs hrow B A m c news hx hr h1 h63 hbytes hbase h
theorem owns_block {w : World} {base size n g : Nat} {t : TypeId} {v : Value} {xs : List Value} (h : w.ownsRow base t size v n xs) (hg : v.ownBlock = some g) : base ≤ g ∧ g < w.heap.size ∧ ∃ cs, Blk w g t cs := by
  rcases h.2 with ⟨rfl, _⟩ | ⟨g', cap, cur, rfl, hb, hh, _⟩
  · simp [Value.ownBlock] at hg
  · simp only [Value.ownBlock, Option.some.injEq] at hg
    subst hg
    exact ⟨hb, (Array.getElem?_eq_some_iff.1 hh).1, cur, hh⟩
theorem owns_keep {w w' : World} {base size n : Nat} {t : TypeId} {v : Value} {xs : List Value} (h : w.ownsRow base t size v n xs) (k : ∀ g, v.ownBlock = some g → w'.heap[g]? = w.heap[g]?) : w'.ownsRow base t size v n xs := by
  refine ⟨h.1, ?_⟩
  rcases h.2 with h1 | ⟨g, cap, cur, hv, hb, hh, hr⟩
  · exact .inl h1
  · exact .inr ⟨g, cap, cur, hv, hb, (k g (by rw [hv]; rfl)).trans hh, hr⟩
/-- a row that another one's append leaves as it is -/
theorem owns_grownBy {w w' : World} {base size n : Nat} {t : TypeId} {v u : Value} {xs : List Value} (h : w.ownsRow base t size v n xs) (hg : w.grownBy w' u.ownBlock) (ha : Apart v u) : w'.ownsRow base t size v n xs :=
  owns_keep h fun g e => hg.block g (owns_block h e).2.1 (fun e2 => ha g e e2.symm)
theorem apart_types {w : World} {b1 b2 s1 s2 n1 n2 : Nat} {t1 t2 : TypeId} {v u : Value} {xs ys : List Value} (h : w.ownsRow b1 t1 s1 v n1 xs) (k : w.ownsRow b2 t2 s2 u n2 ys) (hne : t1 ≠ t2) : Apart v u := fun g h1 h2 => by
  obtain ⟨_, _, cs, hb⟩ := owns_block h h1
  obtain ⟨_, _, cs', hb'⟩ := owns_block k h2
  exact (hb.ne_ hb' hne) rfl
theorem apart_pushed {w : World} {v u v' : Value} {base size n : Nat} {t : TypeId} {xs : List Value} (hu : w.ownsRow base t size u n xs) (ha : Apart v u) (h5 : v'.ownBlock = v.ownBlock ∨ v'.ownBlock = some w.heap.size) : Apart v' u := fun g h1 h2 => by
  rcases h5 with h5 | h5
  · exact ha g (h5 ▸ h1) h2
  · rw [h5] at h1
    injection h1 with h1
    have := (owns_block hu h2).2.1
    omega
structure ZnI (w : World) (zb : Nat) (wr : World) (vo vu vt ve : Value) (z : Zn) : Prop where
  box : Blk wr zb 33 #[vo, vu, vt, ve]
  org : wr.ownsRow w.heap.size 50 2 vo z.org.length (pts z.org)
  cur : wr.ownsRow w.heap.size 50 2 vu z.cur.length (pts z.cur)
  touch : wr.ownsRow w.heap.size 3 1 vt z.touch.length (ints z.touch)
  ends : wr.ownsRow w.heap.size 3 1 ve z.ends.length (ints z.ends)
  ap1 : Apart vo vu
  ap2 : Apart vt ve
  fr : Fr (· = zb) w wr
  hzb : zb < w.heap.size
section
variable {w wr w1 : World} {zb : Nat} {vo vu vt ve : Value} {z : Zn}
theorem ZnI.go (h : ZnI w zb wr vo vu vt ve z) (hg : Grow wr w1) : ZnI w zb w1 vo vu vt ve z :=
  ⟨hg.blk h.box (fun x => x), owns_grow h.org hg, owns_grow h.cur hg, owns_grow h.touch hg, owns_grow h.ends hg, h.ap1, h.ap2, h.fr.trans (hg.mono fun _ _ x => x.elim), h.hzb⟩
theorem ZnI.alloc (h : ZnI w zb wr vo vu vt ve z) (o : Obj) : ZnI w zb (wr.alloc o) vo vu vt ve z := h.go ((Fr.refl _ _).alloc o)
theorem ZnI.drew (h : ZnI w zb wr vo vu vt ve z) : ZnI w zb wr.drew vo vu vt ve z := h.go ((Fr.refl _ _).drew)
theorem ZnI.drewN (h : ZnI w zb wr vo vu vt ve z) (n : Nat) : ZnI w zb (wr.drewN n) vo vu vt ve z := h.go ((Fr.refl _ _).drewN n)
/-- what is above the base is no box -/
theorem ZnI.fr_push (h : ZnI w zb wr vo vu vt ve z) {v : Value} (hv : ∀ g, v.ownBlock = some g → w.heap.size ≤ g) (hg : wr.grownBy w1 v.ownBlock) (i : Nat) (u : Value) : Fr (· = zb) w (w1.setCell ⟨zb, i, none⟩ u) :=
  Fr.setCell ⟨hg.os.trans h.fr.os, hg.tape.trans h.fr.tape, hg.output.trans h.fr.output, Nat.le_trans h.fr.size hg.size, fun k hk hs => (hg.block k (Nat.lt_of_lt_of_le hk h.fr.size) (fun e => by have := hv k e.symm; omega)).trans (h.fr.block k hk hs)⟩ (.inl rfl) _
theorem owns_box {base size n g0 : Nat} {t t0 : TypeId} {v : Value} {xs : List Value} {cs : Array Value} (h : w.ownsRow base t size v n xs) (hb : Blk w g0 t0 cs) (hne : t0 ≠ t) (i : Nat) (u : Value) : (w.setCell ⟨g0, i, none⟩ u).ownsRow base t size v n xs := owns_set h hb hne i u
theorem ZnI.push_org (h : ZnI w zb wr vo vu vt ve z) {v' : Value} {p : (Int × Int)} (hr : w1.ownsRow w.heap.size 50 2 v' (z.org.length + 1) (pts z.org ++ [.int .i64 p.1, .int .i64 p.2])) (hg : wr.grownBy w1 vo.ownBlock) (h5 : v'.ownBlock = vo.ownBlock ∨ v'.ownBlock = some wr.heap.size) :
    Blk w1 zb 33 #[vo, vu, vt, ve] ∧ ZnI w zb (w1.setCell ⟨zb, 0, none⟩ v') v' vu vt ve { z with org := z.org ++ [p] } := by
  have hb1 : Blk w1 zb 33 #[vo, vu, vt, ve] := h.box.grown hg fun e => by
    obtain ⟨_, _, cs, hb⟩ := owns_block h.org e.symm
    exact (h.box.ne_ hb (by decide)) rfl
  refine ⟨hb1, by have := hb1.set_ 0 v'; simpa using this, by have := owns_box hr hb1 (by decide) 0 v'; simpa [pts, List.flatMap_append] using this, owns_box (owns_grownBy h.cur hg (by exact h.ap1.symm)) hb1 (by decide) 0 v', owns_box (owns_grownBy h.touch hg (apart_types h.touch h.org (by decide))) hb1 (by decide) 0 v', owns_box (owns_grownBy h.ends hg (apart_types h.ends h.org (by decide))) hb1 (by decide) 0 v', apart_pushed h.cur h.ap1 h5, h.ap2, h.fr_push (fun g e => (owns_block h.org e).1) hg _ _, h.hzb⟩
theorem ZnI.push_cur (h : ZnI w zb wr vo vu vt ve z) {v' : Value} {p : (Int × Int)} (hr : w1.ownsRow w.heap.size 50 2 v' (z.cur.length + 1) (pts z.cur ++ [.int .i64 p.1, .int .i64 p.2])) (hg : wr.grownBy w1 vu.ownBlock) (h5 : v'.ownBlock = vu.ownBlock ∨ v'.ownBlock = some wr.heap.size) :
    Blk w1 zb 33 #[vo, vu, vt, ve] ∧ ZnI w zb (w1.setCell ⟨zb, 1, none⟩ v') vo v' vt ve { z with cur := z.cur ++ [p] } := by
  have hb1 : Blk w1 zb 33 #[vo, vu, vt, ve] := h.box.grown hg fun e => by
    obtain ⟨_, _, cs, hb⟩ := owns_block h.cur e.symm
    exact (h.box.ne_ hb (by decide)) rfl
  refine ⟨hb1, by have := hb1.set_ 1 v'; simpa using this, owns_box (owns_grownBy h.org hg (by exact h.ap1)) hb1 (by decide) 1 v', by have := owns_box hr hb1 (by decide) 1 v'; simpa [pts, List.flatMap_append] using this, owns_box (owns_grownBy h.touch hg (apart_types h.touch h.cur (by decide))) hb1 (by decide) 1 v', owns_box (owns_grownBy h.ends hg (apart_types h.ends h.cur (by decide))) hb1 (by decide) 1 v', (apart_pushed h.org h.ap1.symm h5).symm, h.ap2, h.fr_push (fun g e => (owns_block h.cur e).1) hg _ _, h.hzb⟩
theorem ZnI.push_touch (h : ZnI w zb wr vo vu vt ve z) {v' : Value} {p : Int} (hr : w1.ownsRow w.heap.size 3 1 v' (z.touch.length + 1) (ints z.touch ++ [.int .i64 p])) (hg : wr.grownBy w1 vt.ownBlock) (h5 : v'.ownBlock = vt.ownBlock ∨ v'.ownBlock = some wr.heap.size) :
    Blk w1 zb 33 #[vo, vu, vt, ve] ∧ ZnI w zb (w1.setCell ⟨zb, 2, none⟩ v') vo vu v' ve { z with touch := z.touch ++ [p] } := by
  have hb1 : Blk w1 zb 33 #[vo, vu, vt, ve] := h.box.grown hg fun e => by
    obtain ⟨_, _, cs, hb⟩ := owns_block h.touch e.symm
    exact (h.box.ne_ hb (by decide)) rfl
  refine ⟨hb1, by have := hb1.set_ 2 v'; simpa using this, owns_box (owns_grownBy h.org hg (apart_types h.org h.touch (by decide))) hb1 (by decide) 2 v', owns_box (owns_grownBy h.cur hg (apart_types h.cur h.touch (by decide))) hb1 (by decide) 2 v', by have := owns_box hr hb1 (by decide) 2 v'; simpa [ints, List.flatMap_append] using this, owns_box (owns_grownBy h.ends hg (by exact h.ap2.symm)) hb1 (by decide) 2 v', h.ap1, apart_pushed h.ends h.ap2 h5, h.fr_push (fun g e => (owns_block h.touch e).1) hg _ _, h.hzb⟩
theorem ZnI.push_ends (h : ZnI w zb wr vo vu vt ve z) {v' : Value} {p : Int} (hr : w1.ownsRow w.heap.size 3 1 v' (z.ends.length + 1) (ints z.ends ++ [.int .i64 p])) (hg : wr.grownBy w1 ve.ownBlock) (h5 : v'.ownBlock = ve.ownBlock ∨ v'.ownBlock = some wr.heap.size) :
    Blk w1 zb 33 #[vo, vu, vt, ve] ∧ ZnI w zb (w1.setCell ⟨zb, 3, none⟩ v') vo vu vt v' { z with ends := z.ends ++ [p] } := by
  have hb1 : Blk w1 zb 33 #[vo, vu, vt, ve] := h.box.grown hg fun e => by
    obtain ⟨_, _, cs, hb⟩ := owns_block h.ends e.symm
    exact (h.box.ne_ hb (by decide)) rfl
  refine ⟨hb1, by have := hb1.set_ 3 v'; simpa using this, owns_box (owns_grownBy h.org hg (apart_types h.org h.ends (by decide))) hb1 (by decide) 3 v', owns_box (owns_grownBy h.cur hg (apart_types h.cur h.ends (by decide))) hb1 (by decide) 3 v', owns_box (owns_grownBy h.touch hg (by exact h.ap2)) hb1 (by decide) 3 v', by have := owns_box hr hb1 (by decide) 3 v'; simpa [ints, List.flatMap_append] using this, h.ap1, (apart_pushed h.touch h.ap2.symm h5).symm, h.fr_push (fun g e => (owns_block h.ends e).1) hg _ _, h.hzb⟩
/-- the zone in the end -/
def ZnOwn (B : Nat) (W : World) (z : Zn) (og cu to en : Value) : Prop := W.ownsRow B 50 2 og z.org.length (pts z.org) ∧ W.ownsRow B 50 2 cu z.cur.length (pts z.cur) ∧ W.ownsRow B 3 1 to z.touch.length (ints z.touch) ∧ W.ownsRow B 3 1 en z.ends.length (ints z.ends)
def ZnPost (w : World) (z : Zn) (e : Ending) (w' : World) : Prop := ∃ og cu to en, e = .returned (.agg #[og, cu, to, en]) ∧ ZnOwn w.heap.size w' z og cu to en ∧ Grow w w'
end
end Go.Proofs.YthdmdgmchkhngaaGreat
namespace Go.Proofs.YthdmdgmchkhngaaGreat
open Go.RowKit Mc

theorem pts_at : ∀ (l : List (Int × Int)) (k : Nat) (x : Int × Int), l[k]? = some x → (pts l)[k * 2]? = some (.int .i64 x.1) ∧ (pts l)[k * 2 + 1]? = some (.int .i64 x.2)
  | [], k, x, h => by simp at h
  | y :: r, 0, x, h => by
    simp only [List.getElem?_cons_zero, Option.some.injEq] at h
    subst h
    exact ⟨rfl, rfl⟩
  | y :: r, k + 1, x, h => by
    have := pts_at r k x (by simpa using h)
    rw [Nat.add_mul]
    exact this
theorem ints_at (l : List Int) (k : Nat) (x : Int) (h : l[k]? = some x) : (ints l)[k]? = some (.int .i64 x) := by
  unfold ints
  rw [List.getElem?_map, h]
  rfl
theorem take_ne {α : Type} {l l' : List α} {k : Nat} {x x' : α} (h : l[k]? = some x) (h' : l'[k]? = some x') (hn : x ≠ x') : l ≠ l' := fun e => by
  subst e
  rw [h] at h'
  injection h' with h'
  exact hn h'
theorem take_more {α : Type} {l l' : List α} {k : Nat} {x : α} (h : l[k]? = some x) (h' : l'[k]? = some x) (ht : l.take k = l'.take k) : l.take (k + 1) = l'.take (k + 1) := by
  rw [List.take_add_one, List.take_add_one, ht, h, h']
set_option maxRecDepth 100000 in
theorem rnums_any (A A' : Option Addr) (c c' B B' : Nat) (l l' : List Int) (w : World) (h : Reads w B 1 A l.length (ints l)) (h' : Reads w B' 1 A' l'.length (ints l')) (hl : l.length ≤ 1000000) (_hl' : l'.length ≤ 1000000) :
    Calls Tryz.prog 35 #[.slice A l.length c, .slice A' l'.length c'] w fun e w' => e = .returned (.bool (decide (l = l'))) ∧ Grow w w' := by
  by_cases hne : l.length = l'.length
  · obtain ⟨n, hn⟩ : ∃ n, n = l.length := ⟨_, rfl⟩
    rw [← hne] at h' _hl' ⊢
    rw [← hn] at h h' hl ⊢
    have HN := Lib.hid hn
    have HNE := Lib.hid hne
    have H := Lib.hid h
    have H' := Lib.hid h'
    clear h h' hn hne _hl'
    have hnb : ((n : Int) != (n : Int)) = false := by simp
    go_enter Tryz.func35, Tryz.ntmps35
    go_wp2_with fail
    go_loopw [5] (fun i wr => ∃ k : Nat, k ≤ n ∧ i = .int .i64 k ∧ Grow w wr ∧ wr.heap = w.heap ∧ l.take k = l'.take k) (fun i _ => n - (intOf i).toNat)
    case atStart => exact ⟨0, by omega, rfl, Fr.refl _ _, rfl, rfl⟩
    case round =>
      obtain ⟨k, hk, rfl, hb, hh, htk⟩ := hrel
      have HH := Lib.hid hh
      have hcell : ∀ p, wr.cell? p = w.cell? p := fun p => by unfold World.cell?; rw [hh]
      have HCE := Lib.hid hcell
      have HTK := Lib.hid htk
      have HB := Lib.hid hb
      clear hh hcell htk hb
      by_cases hlt : k < n
      · obtain ⟨x, hx⟩ : ∃ x, l[k]? = some x := ⟨_, List.getElem?_eq_getElem (by have := HN.out; omega)⟩
        obtain ⟨y, hy⟩ : ∃ y, l'[k]? = some y := ⟨_, List.getElem?_eq_getElem (by have := HN.out; have := HNE.out; omega)⟩
        obtain ⟨b, off, rfl, hbB, hcells⟩ := H.out.2 (by omega)
        obtain ⟨b', off', rfl, hbB', hcells'⟩ := H'.out.2 (by omega)
        have d0 := hcells _ _ (ints_at l k x hx)
        have e0 := hcells' _ _ (ints_at l' k y hy)
        rw [← HCE.out] at d0 e0
        have HX := Lib.hid hx
        have HY := Lib.hid hy
        clear hcells hcells' hx hy
        have i1 : (0 : Int) ≤ (k : Int) := by omega
        have i2 : (k : Int) < (n : Int) := by omega
        by_cases hxy : x = y
        · subst hxy
          go_wp2_with fail
          go_quiet (fail)
          go_wp2
          go_roundw
          case rel => exact ⟨k + 1, by omega, by go_num, HB.out.drewN _, HH.out, take_more HX.out HY.out HTK.out⟩
          case measure => simp [intOf]; omega
        · have hbn : (x != y) = true := by simpa using hxy
          go_wp2_with fail
          go_quiet (fail)
          go_wp2
          go_ret
          exact ⟨ret_bool (decide_eq_false (take_ne HX.out HY.out hxy)).symm, HB.out.drewN _⟩
      · have hkn : k = n := by omega
        subst hkn
        go_wp2
        go_ret
        have he : l = l' := by
          have := HTK.out
          rw [List.take_of_length_le (by have := HN.out; omega), List.take_of_length_le (by have := HN.out; have := HNE.out; omega)] at this
          exact this
        exact ⟨ret_bool (decide_eq_true he).symm, HB.out⟩
  · have hnb : ((l.length : Int) != (l'.length : Int)) = true := by simp; omega
    have hno : ¬ l = l' := fun e => hne (by rw [e])
    have HNO := Lib.hid hno
    clear h h' hno
    generalize l.length = n at *
    generalize l'.length = n' at *
    go_enter Tryz.func35, Tryz.ntmps35
    go_wp2_with fail
    go_ret
    exact ⟨ret_bool (decide_eq_false HNO.out).symm, Fr.refl _ _⟩
set_option maxRecDepth 100000 in
theorem rpoints_any (A A' : Option Addr) (c c' B B' : Nat) (l l' : List (Int × Int)) (w : World) (h : Reads w B 2 A l.length (pts l)) (h' : Reads w B' 2 A' l'.length (pts l')) (hl : l.length ≤ 1000000) (_hl' : l'.length ≤ 1000000) :
    Calls Tryz.prog 36 #[.slice A l.length c, .slice A' l'.length c'] w fun e w' => e = .returned (.bool (decide (l = l'))) ∧ Grow w w' := by
  by_cases hne : l.length = l'.length
  · obtain ⟨n, hn⟩ : ∃ n, n = l.length := ⟨_, rfl⟩
    rw [← hne] at h' _hl' ⊢
    rw [← hn] at h h' hl ⊢
    have HN := Lib.hid hn
    have HNE := Lib.hid hne
    have H := Lib.hid h
    have H' := Lib.hid h'
    clear h h' hn hne _hl'
    have hnb : ((n : Int) != (n : Int)) = false := by simp
    go_enter Tryz.func36, Tryz.ntmps36
    go_wp2_with fail
    go_loopw [5] (fun i wr => ∃ k : Nat, k ≤ n ∧ i = .int .i64 k ∧ Grow w wr ∧ wr.heap = w.heap ∧ l.take k = l'.take k) (fun i _ => n - (intOf i).toNat)
    case atStart => exact ⟨0, by omega, rfl, Fr.refl _ _, rfl, rfl⟩
    case round =>
      obtain ⟨k, hk, rfl, hb, hh, htk⟩ := hrel
      have HH := Lib.hid hh
      have hcell : ∀ p, wr.cell? p = w.cell? p := fun p => by unfold World.cell?; rw [hh]
      have HCE := Lib.hid hcell
      have HTK := Lib.hid htk
      have HB := Lib.hid hb
      clear hh hcell htk hb
      by_cases hlt : k < n
      · obtain ⟨x, hx⟩ : ∃ x, l[k]? = some x := ⟨_, List.getElem?_eq_getElem (by have := HN.out; omega)⟩
        obtain ⟨y, hy⟩ : ∃ y, l'[k]? = some y := ⟨_, List.getElem?_eq_getElem (by have := HN.out; have := HNE.out; omega)⟩
        obtain ⟨b, off, rfl, hbB, hcells⟩ := H.out.2 (by omega)
        obtain ⟨b', off', rfl, hbB', hcells'⟩ := H'.out.2 (by omega)
        obtain ⟨g0, g1⟩ := pts_at l k x hx
        obtain ⟨g2, g3⟩ := pts_at l' k y hy
        have d0 := hcells _ _ g0
        have d1 := hcells _ _ g1
        have e0 := hcells' _ _ g2
        have e1 := hcells' _ _ g3
        rw [← Nat.add_assoc] at d1 e1
        rw [← HCE.out] at d0 d1 e0 e1
        have HX := Lib.hid hx
        have HY := Lib.hid hy
        clear hcells hcells' hx hy g0 g1 g2 g3
        have i1 : (0 : Int) ≤ (k : Int) := by omega
        have i2 : (k : Int) < (n : Int) := by omega
        obtain ⟨x1, x2⟩ := x
        obtain ⟨y1, y2⟩ := y
        simp only at d0 d1 e0 e1
        by_cases hx1 : x1 = y1
        · subst hx1
          by_cases hx2 : x2 = y2
          · subst hx2
            go_wp2_with fail
            go_quiet (fail)
            go_wp2
            go_roundw
            case rel => exact ⟨k + 1, by omega, by go_num, HB.out.drewN _, HH.out, take_more HX.out HY.out HTK.out⟩
            case measure => simp [intOf]; omega
          · have hbn : (x2 != y2) = true := by simpa using hx2
            go_wp2_with fail
            go_quiet (fail)
            go_wp2
            go_ret
            exact ⟨ret_bool (decide_eq_false (take_ne HX.out HY.out (fun e => hx2 (by injection e)))).symm, HB.out.drewN _⟩
        · have hbn : (x1 != y1) = true := by simpa using hx1
          go_wp2_with fail
          go_quiet (fail)
          go_wp2
          go_ret
          exact ⟨ret_bool (decide_eq_false (take_ne HX.out HY.out (fun e => hx1 (by injection e)))).symm, HB.out.drewN _⟩
      · have hkn : k = n := by omega
        subst hkn
        go_wp2
        go_ret
        have he : l = l' := by
          have := HTK.out
          rw [List.take_of_length_le (by have := HN.out; omega), List.take_of_length_le (by have := HN.out; have := HNE.out; omega)] at this
          exact this
        exact ⟨ret_bool (decide_eq_true he).symm, HB.out⟩
  · have hnb : ((l.length : Int) != (l'.length : Int)) = true := by simp; omega
    have hno : ¬ l = l' := fun e => hne (by rw [e])
    have HNO := Lib.hid hno
    clear h h' hno
    generalize l.length = n at *
    generalize l'.length = n' at *
    go_enter Tryz.func36, Tryz.ntmps36
    go_wp2_with fail
    go_ret
    exact ⟨ret_bool (decide_eq_false HNO.out).symm, Fr.refl _ _⟩
set_option maxRecDepth 100000 in
theorem rsameZone_any (z z' : Zn) (B : Nat) (oA uA tA eA oA' uA' tA' eA' : Option Addr) (oc uc tc ec oc' uc' tc' ec' : Nat) (w : World) (hB : B ≤ w.heap.size) (h : ZnAt w B z oA uA tA eA) (h' : ZnAt w B z' oA' uA' tA' eA') (hz : ZnOk z) (hz' : ZnOk z') :
    Calls Tryz.prog 21 #[.agg #[.slice oA z.org.length oc, .slice uA z.cur.length uc, .slice tA z.touch.length tc, .slice eA z.ends.length ec], .agg #[.slice oA' z'.org.length oc', .slice uA' z'.cur.length uc', .slice tA' z'.touch.length tc', .slice eA' z'.ends.length ec']] w
      fun e w' => e = .returned (.bool (decide (z.org = z'.org ∧ z.cur = z'.cur ∧ z.touch = z'.touch ∧ z.ends = z'.ends))) ∧ Grow w w' := by
  obtain ⟨X, hX⟩ : ∃ X, X = (w.alloc (.cells #[.slice oA z.org.length oc, .slice uA z.cur.length uc, .slice tA z.touch.length tc, .slice eA z.ends.length ec] 33)).alloc (.cells #[.slice oA' z'.org.length oc', .slice uA' z'.cur.length uc', .slice tA' z'.touch.length tc', .slice eA' z'.ends.length ec'] 33) := ⟨_, rfl⟩
  have hXG : Grow w X := by rw [hX]; exact ((Fr.refl _ w).alloc _).alloc _
  have hb0 : Blk X w.heap.size 33 #[.slice oA z.org.length oc, .slice uA z.cur.length uc, .slice tA z.touch.length tc, .slice eA z.ends.length ec] := by rw [hX]; exact (Blk.new _ _ _).alloc _
  have hb1 : Blk X (w.heap.size + 1) 33 #[.slice oA' z'.org.length oc', .slice uA' z'.cur.length uc', .slice tA' z'.touch.length tc', .slice eA' z'.ends.length ec'] := by rw [hX]; exact Blk.new_at _ _ _ (by simp)
  have HZ := Lib.hid (h.keep (W' := X) fun q hq => hXG.cell (by omega) (fun x => x))
  have HZ' := Lib.hid (h'.keep (W' := X) fun q hq => hXG.cell (by omega) (fun x => x))
  have HXG := Lib.hid hXG
  have HX := Lib.hid hX
  have HO := Lib.hid hz
  have HO' := Lib.hid hz'
  have HB := Lib.hid hB
  have HB0 := Lib.hid hb0
  have HB1 := Lib.hid hb1
  have hw1 : w.heap.size < X.heap.size := hb0.lt
  clear h h' hz hz' hX hXG hb0 hb1 hB
  go_enter Tryz.func21, Tryz.ntmps21
  go_upto_region 1 with fail
  rw [← HX.out]
  have p0 := HB0.out.cell 0
  have q0 := HB1.out.cell 0
  simp only [List.getElem?_toArray, List.getElem?_cons_zero] at p0 q0
  go_wp2_with fail
  refine (rpoints_any oA oA' oc oc' B B z.org z'.org _ HZ.out.org HZ'.out.org HO.out.org HO'.out.org).mono ?_
  rintro e w1 ⟨rfl, hg⟩
  have HG0 := Lib.hid (HXG.out.trans hg)
  have HC0 := Lib.hid (hg.blk HB0.out (fun x => x))
  have HC1 := Lib.hid (hg.blk HB1.out (fun x => x))
  have HY := Lib.hid (HZ.out.keep (W' := w1) fun q hq => hg.cell (by have := HB.out; have := HXG.out.size; omega) (fun x => x))
  have HY' := Lib.hid (HZ'.out.keep (W' := w1) fun q hq => hg.cell (by have := HB.out; have := HXG.out.size; omega) (fun x => x))
  clear p0 q0 hg HXG HB0 HB1 HZ HZ' HX
  obtain ⟨HXG, HB0, HB1, HZ, HZ'⟩ : Hid _ ∧ Hid _ ∧ Hid _ ∧ Hid _ ∧ Hid _ := ⟨HG0, HC0, HC1, HY, HY'⟩
  clear HG0 HC0 HC1 HY HY'
  by_cases hc0 : z.org = z'.org
  · rw [decide_eq_true hc0]
    have HC0e := Lib.hid hc0
    clear hc0
    have p1 := HB0.out.cell 1
    have q1 := HB1.out.cell 1
    simp only [List.getElem?_toArray, List.getElem?_cons_zero, List.getElem?_cons_succ] at p1 q1
    go_wp2_with fail
    refine (rpoints_any uA uA' uc uc' B B z.cur z'.cur _ HZ.out.cur HZ'.out.cur HO.out.cur HO'.out.cur).mono ?_
    rintro e w2 ⟨rfl, hg⟩
    have HG1 := Lib.hid (HXG.out.trans hg)
    have HC0 := Lib.hid (hg.blk HB0.out (fun x => x))
    have HC1 := Lib.hid (hg.blk HB1.out (fun x => x))
    have HY := Lib.hid (HZ.out.keep (W' := w2) fun q hq => hg.cell (by have := HB.out; have := HXG.out.size; omega) (fun x => x))
    have HY' := Lib.hid (HZ'.out.keep (W' := w2) fun q hq => hg.cell (by have := HB.out; have := HXG.out.size; omega) (fun x => x))
    clear p1 q1 hg HXG HB0 HB1 HZ HZ' 
    obtain ⟨HXG, HB0, HB1, HZ, HZ'⟩ : Hid _ ∧ Hid _ ∧ Hid _ ∧ Hid _ ∧ Hid _ := ⟨HG1, HC0, HC1, HY, HY'⟩
    clear HG1 HC0 HC1 HY HY'
    by_cases hc1 : z.cur = z'.cur
    · rw [decide_eq_true hc1]
      have HC1e := Lib.hid hc1
      clear hc1
      have p2 := HB0.out.cell 2
      have q2 := HB1.out.cell 2
      simp only [List.getElem?_toArray, List.getElem?_cons_zero, List.getElem?_cons_succ] at p2 q2
      go_wp2_with fail
      refine (rnums_any tA tA' tc tc' B B z.touch z'.touch _ HZ.out.touch HZ'.out.touch HO.out.touch HO'.out.touch).mono ?_
      rintro e w3 ⟨rfl, hg⟩
      have HG2 := Lib.hid (HXG.out.trans hg)
      have HC0 := Lib.hid (hg.blk HB0.out (fun x => x))
      have HC1 := Lib.hid (hg.blk HB1.out (fun x => x))
      have HY := Lib.hid (HZ.out.keep (W' := w3) fun q hq => hg.cell (by have := HB.out; have := HXG.out.size; omega) (fun x => x))
      have HY' := Lib.hid (HZ'.out.keep (W' := w3) fun q hq => hg.cell (by have := HB.out; have := HXG.out.size; omega) (fun x => x))
      clear p2 q2 hg HXG HB0 HB1 HZ HZ' 
      obtain ⟨HXG, HB0, HB1, HZ, HZ'⟩ : Hid _ ∧ Hid _ ∧ Hid _ ∧ Hid _ ∧ Hid _ := ⟨HG2, HC0, HC1, HY, HY'⟩
      clear HG2 HC0 HC1 HY HY'
      by_cases hc2 : z.touch = z'.touch
      · rw [decide_eq_true hc2]
        have HC2e := Lib.hid hc2
        clear hc2
        have p3 := HB0.out.cell 3
        have q3 := HB1.out.cell 3
        simp only [List.getElem?_toArray, List.getElem?_cons_zero, List.getElem?_cons_succ] at p3 q3
        go_wp2_with fail
        refine (rnums_any eA eA' ec ec' B B z.ends z'.ends _ HZ.out.ends HZ'.out.ends HO.out.ends HO'.out.ends).mono ?_
        rintro e w4 ⟨rfl, hg⟩
        have HG3 := Lib.hid (HXG.out.trans hg)
        have HC0 := Lib.hid (hg.blk HB0.out (fun x => x))
        have HC1 := Lib.hid (hg.blk HB1.out (fun x => x))
        have HY := Lib.hid (HZ.out.keep (W' := w4) fun q hq => hg.cell (by have := HB.out; have := HXG.out.size; omega) (fun x => x))
        have HY' := Lib.hid (HZ'.out.keep (W' := w4) fun q hq => hg.cell (by have := HB.out; have := HXG.out.size; omega) (fun x => x))
        clear p3 q3 hg HXG HB0 HB1 HZ HZ' 
        obtain ⟨HXG, HB0, HB1, HZ, HZ'⟩ : Hid _ ∧ Hid _ ∧ Hid _ ∧ Hid _ ∧ Hid _ := ⟨HG3, HC0, HC1, HY, HY'⟩
        clear HG3 HC0 HC1 HY HY'
        by_cases hc3 : z.ends = z'.ends
        · rw [decide_eq_true hc3]
          have HC3e := Lib.hid hc3
          clear hc3
          go_wp2_with fail
          go_ret
          exact ⟨ret_bool (decide_eq_true ⟨HC0e.out, HC1e.out, HC2e.out, HC3e.out⟩).symm, HXG.out⟩
        · have hno : ¬ (z.org = z'.org ∧ z.cur = z'.cur ∧ z.touch = z'.touch ∧ z.ends = z'.ends) := fun h => hc3 h.2.2.2
          have HNO := Lib.hid hno
          rw [decide_eq_false hc3]
          clear hno hc3
          go_wp2_with fail
          go_ret
          exact ⟨ret_bool (decide_eq_false HNO.out).symm, HXG.out⟩
      · have hno : ¬ (z.org = z'.org ∧ z.cur = z'.cur ∧ z.touch = z'.touch ∧ z.ends = z'.ends) := fun h => hc2 h.2.2.1
        have HNO := Lib.hid hno
        rw [decide_eq_false hc2]
        clear hno hc2
        go_wp2_with fail
        go_ret
        exact ⟨ret_bool (decide_eq_false HNO.out).symm, HXG.out⟩
    · have hno : ¬ (z.org = z'.org ∧ z.cur = z'.cur ∧ z.touch = z'.touch ∧ z.ends = z'.ends) := fun h => hc1 h.2.1
      have HNO := Lib.hid hno
      rw [decide_eq_false hc1]
      clear hno hc1
      go_wp2_with fail
      go_ret
      exact ⟨ret_bool (decide_eq_false HNO.out).symm, HXG.out⟩
  · have hno : ¬ (z.org = z'.org ∧ z.cur = z'.cur ∧ z.touch = z'.touch ∧ z.ends = z'.ends) := fun h => hc0 h.1
    have HNO := Lib.hid hno
    rw [decide_eq_false hc0]
    clear hno hc0
    go_wp2_with fail
    go_ret
    exact ⟨ret_bool (decide_eq_false HNO.out).symm, HXG.out⟩
end Go.Proofs.YthdmdgmchkhngaaGreat

/- fleuronref02: Times: its contract. -/
import Derived.Test.YtnalbkjbidaojaaNumB
import Derived.Test.YtnalbkjbidaojaaNumTm
import Derived.Test.YtnalbkjbidaojaaSeqs
namespace Go.Proofs.Ytnalbkjbidaojaa
open Go.RowKit Nm

theorem madeCells_one7 (z : Value) (n : Nat) : madeCells #[z] n = (List.replicate n z).toArray := by
  unfold madeCells
  apply Array.toList_inj.1
  simp only [Array.toList_map, Array.toList_range]
  rw [List.eq_replicate_iff]
  exact ⟨by simp, by intro b hb; simp at hb; obtain ⟨a, ha, rfl⟩ := hb; rw [show a % 1 = 0 by omega]; rfl⟩
theorem make_dints (n : Nat) (hn : n ≤ 1000000) (w : World) : (Instr.makeSlice 30 (.int .i64 (n : Int)) (.int .i64 (n : Int))).run Try.prog w = .ok (.slice (some ⟨w.heap.size, 0, none⟩) n n) (w.alloc (.cells (dints (List.replicate n 0)).toArray 3)) := by
  obtain ⟨i, hi, hz0, hz1, hz2⟩ := info7 int_info7
  have hb : (i.bytes : Int) * (n : Int) ≤ 281474976710656 := by rw [hz2]; omega
  have hr := run_make (P := Try.prog) w 30 3 i _ Try.underlying30 hi hz0 .i64 .i64 n n (by omega) (by omega) hb (by omega)
  simp only [Int.toNat_natCast] at hr
  rw [hz1, Nat.mul_one, show (Value.int .i64 0).cells = #[.int .i64 0] from rfl, madeCells_one7, ← List.map_replicate (f := Value.int .i64)] at hr
  exact hr
theorem dints_length (l : List Int) : (dints l).length = l.length := List.length_map ..
theorem dints_set (l : List Int) (j : Nat) (x : Int) : (dints l).toArray.setIfInBounds j (.int .i64 x) = (dints (l.set j x)).toArray := by
  unfold dints
  simp
theorem reads_blk7 {w : World} {g : Nat} {o : List Int} (h : Blk w g 3 (dints o).toArray) : Reads w w.heap.size 1 (some ⟨g, 0, none⟩) o.length (dints o) :=
  ⟨by rw [dints_length, Nat.mul_one], fun _ => ⟨g, 0, rfl, h.lt, fun j u hu => by rw [Nat.zero_add, h.cell, List.getElem?_toArray]; exact hu⟩⟩
def TmI (a b : List Int) (X : World) (g na L : Nat) (i : Value) (wr : World) : Prop := ∃ (k : Nat) (o : List Int), i = .int .i64 k ∧ k ≤ na ∧ o.length = L ∧ Dig o ∧ val o = val (a.take k) * val b ∧ Blk wr g 3 (dints o).toArray ∧ Below g X wr
def TmK (a b : List Int) (X : World) (g L i nb : Nat) (cy k : Value) (wr : World) : Prop := ∃ (q : Nat) (o : List Int) (c : Int), k = .int .i64 q ∧ q ≤ nb + 1 ∧ cy = .int .i64 c ∧ 0 ≤ c ∧ c < 65536 ∧ o.length = L ∧ Dig o ∧ TmE a b o i q c ∧ Blk wr g 3 (dints o).toArray ∧ Below g X wr
def TmD (a b : List Int) (X : World) (g L i : Nat) (wr : World) : Prop := ∃ (o : List Int), o.length = L ∧ Dig o ∧ val o = val (a.take (i + 1)) * val b ∧ Blk wr g 3 (dints o).toArray ∧ Below g X wr
set_option maxHeartbeats 1000000 in
set_option maxRecDepth 100000 in
theorem ntimes_any (v v2 : Value) (x y : Int) (N M B : Nat) (w : World) (h : NumIs w B v x N) (h2 : NumIs w B v2 y M) (hB : B ≤ w.heap.size) (hN : N ≤ 10000) (hM : M ≤ 10000) :
    Calls Try.prog 32 #[v, v2] w (NumP w (x * y) (N + M + 1)) := by
  obtain ⟨b, A, d, c, rfl, hr, hok, hsv, hl, hc1, hc2⟩ := h
  obtain ⟨b2, A2, d2, c2, rfl, hr2, hok2, hsv2, hl2, hc12, hc22⟩ := h2
  obtain ⟨na, hna⟩ : ∃ n, n = d.length := ⟨_, rfl⟩
  obtain ⟨nb, hnb⟩ : ∃ n, n = d2.length := ⟨_, rfl⟩
  rw [← hna] at hl hc1
  rw [← hnb] at hl2 hc12
  obtain ⟨L, hL⟩ : ∃ L, L = na + nb + 1 := ⟨_, rfl⟩
  obtain ⟨Y, hY⟩ : ∃ Y, Y = ((w.alloc (.cells #[.bool b, .slice A na c] 89)).alloc (.cells #[.bool b2, .slice A2 nb c2] 89)).alloc (.cells #[.bool false, .slice none 0 0] 89) := ⟨_, rfl⟩
  have hYz : Y.heap.size = w.heap.size + 3 := by rw [hY]; simp
  have hY1 : Blk Y w.heap.size 89 #[.bool b, .slice A na c] := by rw [hY]; exact ((Blk.new _ _ _).alloc _).alloc _
  have hY2 : Blk Y (w.heap.size + 1) 89 #[.bool b2, .slice A2 nb c2] := by rw [hY]; exact (Blk.new_at _ _ _ (by simp)).alloc _
  have hY3 : Blk Y (w.heap.size + 1 + 1) 89 #[.bool false, .slice none 0 0] := by rw [hY]; exact Blk.new_at _ _ _ (by simp)
  have hYw : Below w.heap.size w Y := by rw [hY]; exact (((Below.refl _ _).alloc (Nat.le_refl _) _).alloc (by simp) _).alloc (by simp; omega) _
  obtain ⟨X, hX⟩ : ∃ X, X = Y.alloc (.cells (dints (List.replicate L 0)).toArray 3) := ⟨_, rfl⟩
  have hYX : Below Y.heap.size Y X := by rw [hX]; exact (Below.refl _ _).alloc (Nat.le_refl _) _
  have hX0 : Blk X Y.heap.size 3 (dints (List.replicate L 0)).toArray := by rw [hX]; exact Blk.new _ _ _
  have hmk := make_dints L (by omega) Y
  rw [← hX] at hmk
  have hadd : ((na : Int) + (nb : Int) + 1) = (L : Int) := by omega
  have HL := Lib.hid hL
  have hLB : L ≤ 1000000 := by omega
  have HMK := Lib.hid hmk
  have HY := Lib.hid hY
  have HX := Lib.hid hX
  have HW := Lib.hid (hYw.trans (hYX.mono hYw.size))
  have HB1 := Lib.hid (hY1.below hYX (by omega))
  have HB2 := Lib.hid (hY2.below hYX (by omega))
  have HB3 := Lib.hid (hY3.below hYX (by omega))
  have HR := Lib.hid ((hr.below hYw hB).below hYX (by omega))
  have HR2 := Lib.hid ((hr2.below hYw hB).below hYX (by omega))
  have HOK := Lib.hid hok
  have HOK2 := Lib.hid hok2
  have HSV := Lib.hid (And.intro hsv hsv2)
  have HNA := Lib.hid hna
  have HNB := Lib.hid hnb
  obtain ⟨g, hg⟩ : ∃ g, g = Y.heap.size := ⟨_, rfl⟩
  rw [← hg] at hX0
  have HG := Lib.hid (And.intro hg hYz)
  have hgB : w.heap.size + 2 < g := by omega
  have H0 := Lib.hid (show TmI d d2 X g na L (.int .i64 (0 : Nat)) X from ⟨0, _, rfl, Nat.zero_le _, List.length_replicate .., dig_zeros _, by rw [val_zeros, List.take_zero]; simp [val], hX0, Below.refl _ _⟩)
  have p0 := hY1.cell 0
  have p1 := hY1.cell 1
  have q0 := hY2.cell 0
  have q1 := hY2.cell 1
  simp only [List.getElem?_toArray, List.getElem?_cons_zero, List.getElem?_cons_succ] at p0 p1 q0 q1
  have pl := hY1.lt
  have ql := hY2.lt
  rw [← hna, ← hnb]
  clear hL hX hX0 hY hY1 hY2 hY3 hYw hYX hYz hr hr2 hok hok2 hsv hsv2 hmk hc2 hc22 hna hnb hg
  go_enter Try.func32, Try.ntmps32
  go_upto_region 1 with fail
  rw [← HY.out]
  have hmk := HMK.out
  rw [← HG.out.1] at hmk
  go_upto_region 2 with fail
  clear hmk p0 p1 q0 q1 pl ql
  have p1 : X.cell? ⟨w.heap.size, 1, none⟩ = some (.slice A na c) := by rw [HB1.out.cell]; rfl
  have q1 : X.cell? ⟨w.heap.size + 1, 1, none⟩ = some (.slice A2 nb c2) := by rw [HB2.out.cell]; rfl
  have pl := HB1.out.lt
  have ql := HB2.out.lt
  go_wp2_with fail
  go_loopw [6] (fun i wr => TmI d d2 X g na L i wr) (fun i _ => na - (intOf i).toNat)
  case atStart => exact H0.out
  case round =>
    clear H0 p1 q1 pl ql
    obtain ⟨i, o, rfl, hi, hol, hod, hval, hblk, hbl⟩ := hrel
    have HB1' := Lib.hid (HB1.out.below hbl (by omega))
    have HB2' := Lib.hid (HB2.out.below hbl (by omega))
    have p1 : wr.cell? ⟨w.heap.size, 1, none⟩ = some (.slice A na c) := by rw [HB1'.out.cell]; rfl
    have q1 : wr.cell? ⟨w.heap.size + 1, 1, none⟩ = some (.slice A2 nb c2) := by rw [HB2'.out.cell]; rfl
    have pl := HB1'.out.lt
    have ql := HB2'.out.lt
    have HV := Lib.hid hval
    have HBK := Lib.hid hblk
    have HBL := Lib.hid hbl
    have HOD := Lib.hid hod
    have HOL := Lib.hid hol
    clear hol hod hval hblk hbl
    by_cases hlt : (i : Int) < (na : Int)
    · go_upto_block 1 with fail
      go_cut [] (fun wx => TmD d d2 X g L i wx)
      case first =>
        have HK0 := Lib.hid (show TmK d d2 X g L i nb (.int .i64 0) (.int .i64 (0 : Nat)) wr from ⟨0, o, 0, rfl, Nat.zero_le _, rfl, by decide, by decide, HOL.out, HOD.out, TmE.starts HV.out, HBK.out, HBL.out⟩)
        go_wp2_with fail
        go_loopw [7, 8] (fun cy k wx => TmK d d2 X g L i nb cy k wx) (fun _ k _ => nb + 2 - (intOf k).toNat)
        case atStart => exact HK0.out
        case round =>
          clear HK0 HV HBK HBL HOD HOL p1 q1 pl ql HB1' HB2'
          clear o
          obtain ⟨q, o, cr, rfl, hq, rfl, hc0, hc3, hol, hod, hE, hblk, hbl⟩ := hrel
          have HE := Lib.hid hE
          have HBK := Lib.hid hblk
          have HBL := Lib.hid hbl
          have HOD := Lib.hid hod
          have HOL := Lib.hid hol
          have HB1' := Lib.hid (HB1.out.below hbl (by omega))
          have HB2' := Lib.hid (HB2.out.below hbl (by omega))
          have p1 := HB1'.out.cell 1
          have q1 := HB2'.out.cell 1
          simp only [List.getElem?_toArray, List.getElem?_cons_zero, List.getElem?_cons_succ] at p1 q1
          have pl := HB1'.out.lt
          have ql := HB2'.out.lt
          have gl := hblk.lt
          by_cases hgo : (q : Int) < (nb : Int) ∨ 0 < cr
          · have hqb : q ≤ nb := by
              rcases hgo with h1 | h1
              · omega
              · rw [HNB.out]; exact hE.fit HOK.out.dig HOK2.out.dig hod h1 (by have := HNA.out; omega)
            obtain ⟨j, hj⟩ : ∃ j, j = i + q := ⟨_, rfl⟩
            have hjL : j < L := by have := HL.out; omega
            have hjLi : (j : Int) < (L : Int) := by omega
            have hij : (i : Int) + (q : Int) = (j : Int) := by omega
            have HJ := Lib.hid hj
            obtain ⟨blk, off, rfl, hb, hcell⟩ := (HR.out.below hbl (by omega)).2 (by have := HNA.out; omega)
            have a0 := hcell i _ (dints_at d i (by have := HNA.out; omega))
            have hblt : blk < wr.heap.size := by have := hbl.size; have := HW.out.size; omega
            have o0 := hblk.cell j
            rw [List.getElem?_toArray, dints_at o j (by omega)] at o0
            have of0 := hblk.frozen j
            have HDG := Lib.hid (digit_any A2 c2 B d2 q wr.drew ((HR2.out.below hbl (by omega)).keep fun _ _ => rfl) (by have := hbl.size; have := HW.out.size; show B ≤ wr.heap.size; omega) (by have := HNB.out; omega) (by omega))
            have hx := HOK.out.dig.at i
            have hy := HOK2.out.dig.at q
            have ho := hod.at j
            have hbd := tm_bound hx hy ho ⟨hc0, hc3⟩
            have hst : ∀ r q', o.getD j 0 + d.getD i 0 * d2.getD q 0 + cr = 65536 * q' + r → TmE d d2 (o.set j r) i (q + 1) q' := fun r q' h => by
              rw [hj] at h ⊢
              exact hE.step (by omega) h
            have HST := Lib.hid hst
            rw [← HNB.out] at HDG
            clear hE hol hod hblk hbl hcell hj hst
            generalize d.getD i 0 = x1 at *
            generalize d2.getD q 0 = y1 at *
            generalize o.getD j 0 = oj at *
            obtain ⟨tt, htt⟩ : ∃ tt, tt = x1 * y1 := ⟨_, rfl⟩
            rw [← htt] at hbd HST
            have htt2 : x1 * y1 = tt := htt.symm
            clear htt
            obtain ⟨r, hr⟩ : ∃ r, r = (oj + tt + cr) % 65536 := ⟨_, rfl⟩
            obtain ⟨z, hz⟩ : ∃ z, z = (oj + tt + cr) / 65536 := ⟨_, rfl⟩
            have HS2 := Lib.hid (HST.out r z (by omega))
            have hrz : 0 ≤ r ∧ r < 65536 ∧ 0 ≤ z ∧ z < 65536 := by omega
            have tm : (oj + tt + cr) % 65536 = r := hr.symm
            have td : (oj + tt + cr) / 65536 = z := hz.symm
            obtain ⟨hx0, hx1⟩ := hx
            obtain ⟨hy0, hy1⟩ := hy
            obtain ⟨ho0, ho1⟩ := ho
            obtain ⟨hb0, hb1, hb2, hb3⟩ := hbd
            clear hr hz HST
            have hgo2 : (q : Int) < (nb : Int) ∨ (¬ (q : Int) < (nb : Int) ∧ 0 < cr) := by omega
            clear hgo
            have hS : (fun w' : World => w'.cell? ⟨g, j, none⟩ = some (.int .i64 oj) ∧ w'.cell? ⟨w.heap.size, 1, none⟩ = some (.slice (some ⟨blk, off, none⟩) na c) ∧ w'.cell? ⟨blk, off + i, none⟩ = some (.int .i64 x1) ∧ w'.cell? ⟨w.heap.size + 1, 1, none⟩ = some (.slice A2 nb c2)) wr.drew := ⟨o0, p1, a0, q1⟩
            have o0' : wr.drew.cell? ⟨g, j, none⟩ = some (.int .i64 oj) := o0
            have of' : wr.drew.frozen? ⟨g, j, none⟩ = false := of0
            have gl' : g < wr.drew.heap.size := gl
            have HSET := Lib.hid (HBK.out.drew.set_ j (.int .i64 r))
            have HBS := Lib.hid ((HBL.out.trans ((Below.refl g wr).drew.mono (Nat.le_refl _))).setCell (p := ⟨g, j, none⟩) (Nat.le_refl _) (.int .i64 r))
            rcases hgo2 with hA | ⟨hA, hB2⟩
            all_goals
              go_upto_region 9 with fail
              refine wp_region_seqT (fun i => !([14] : List Nat).contains i) (fun i => ([5, 7, 10, 12] : List Nat).contains i) (fun i => ([14] : List Nat).contains i) [0, 1, 2, 3, 4, 5, 6, 7, 8, 9, 10, 11, 12, 13, 17, 14, 15, 16, 18, 19] (fun w' : World => w'.cell? ⟨g, j, none⟩ = some (.int .i64 oj) ∧ w'.cell? ⟨w.heap.size, 1, none⟩ = some (.slice (some ⟨blk, off, none⟩) na c) ∧ w'.cell? ⟨blk, off + i, none⟩ = some (.int .i64 x1) ∧ w'.cell? ⟨w.heap.size + 1, 1, none⟩ = some (.slice A2 nb c2)) (by kernel_rfl) (by kernel_rfl) (by kernel_rfl) (by kernel_rfl) ?_
              clear p1 q1 o0 a0 of0
              refine wpSeq_pure (v := _) rfl rfl rfl (by kernel_rfl) (fun _ _ _ h => h) (fun wq => by first | (go_simp; done) | (go_simp; rfl)) ?_
              refine wpSeq_pure (v := _) rfl rfl rfl (by kernel_rfl) (fun _ _ _ h => h) (fun wq => by first | (go_simp; done) | (go_simp; rfl)) ?_
              refine wpSeq_pure (v := _) rfl rfl rfl (by kernel_rfl) (fun _ _ _ h => h) (fun wq => by first | (go_simp; done) | (go_simp; rfl)) ?_
              refine wpSeq_pure (v := .int .i64 (j : Int)) rfl rfl rfl (by kernel_rfl) (fun _ _ _ h => h) (fun wq => by (go_simp; rw [IntWalk.i64_in _ (by omega)])) ?_
              refine wpSeq_pure (v := _) rfl rfl rfl (by kernel_rfl) (fun _ _ _ h => h) (fun wq => by first | (go_simp; done) | (go_simp; rfl)) ?_
              refine wpSeq_load (v := _) rfl rfl (by kernel_rfl) (fun _ _ _ h => h) hS rfl (fun wq hq => by (try have hq1 := hq.1); (try have hq2 := hq.2.1); (try have hq3 := hq.2.2.1); (try have hq4 := hq.2.2.2.1); (try have hq5 := hq.2.2.2.2.1); (try have hq6 := hq.2.2.2.2.2.1); (try have hq7 := hq.2.2.2.2.2.2); (try have hr2 := hq.2); (try have hr3 := hq.2.2); (try have hr4 := hq.2.2.2); (try have hr5 := hq.2.2.2.2); first | (go_simp; done) | (go_simp; rfl)) ?_
              refine wpSeq_pure (v := _) rfl rfl rfl (by kernel_rfl) (fun _ _ _ h => h) (fun wq => by first | (go_simp; done) | (go_simp; rfl)) ?_
              refine wpSeq_load (v := _) rfl rfl (by kernel_rfl) (fun _ _ _ h => h) hS rfl (fun wq hq => by (try have hq1 := hq.1); (try have hq2 := hq.2.1); (try have hq3 := hq.2.2.1); (try have hq4 := hq.2.2.2.1); (try have hq5 := hq.2.2.2.2.1); (try have hq6 := hq.2.2.2.2.2.1); (try have hq7 := hq.2.2.2.2.2.2); (try have hr2 := hq.2); (try have hr3 := hq.2.2); (try have hr4 := hq.2.2.2); (try have hr5 := hq.2.2.2.2); first | (go_simp; done) | (go_simp; rfl)) ?_
              refine wpSeq_pure (v := _) rfl rfl rfl (by kernel_rfl) (fun _ _ _ h => h) (fun wq => by first | (go_simp; done) | (go_simp; rfl)) ?_
              refine wpSeq_pure (v := _) rfl rfl rfl (by kernel_rfl) (fun _ _ _ h => h) (fun wq => by first | (go_simp; done) | (go_simp; rfl)) ?_
              refine wpSeq_load (v := _) rfl rfl (by kernel_rfl) (fun _ _ _ h => h) hS rfl (fun wq hq => by (try have hq1 := hq.1); (try have hq2 := hq.2.1); (try have hq3 := hq.2.2.1); (try have hq4 := hq.2.2.2.1); (try have hq5 := hq.2.2.2.2.1); (try have hq6 := hq.2.2.2.2.2.1); (try have hq7 := hq.2.2.2.2.2.2); (try have hr2 := hq.2); (try have hr3 := hq.2.2); (try have hr4 := hq.2.2.2); (try have hr5 := hq.2.2.2.2); first | (go_simp; done) | (go_simp; rfl)) ?_
              refine wpSeq_pure (v := _) rfl rfl rfl (by kernel_rfl) (fun _ _ _ h => h) (fun wq => by first | (go_simp; done) | (go_simp; rfl)) ?_
              refine wpSeq_load (v := _) rfl rfl (by kernel_rfl) (fun _ _ _ h => h) hS rfl (fun wq hq => by (try have hq1 := hq.1); (try have hq2 := hq.2.1); (try have hq3 := hq.2.2.1); (try have hq4 := hq.2.2.2.1); (try have hq5 := hq.2.2.2.2.1); (try have hq6 := hq.2.2.2.2.2.1); (try have hq7 := hq.2.2.2.2.2.2); (try have hr2 := hq.2); (try have hr3 := hq.2.2); (try have hr4 := hq.2.2.2); (try have hr5 := hq.2.2.2.2); first | (go_simp; done) | (go_simp; rfl)) ?_
              refine wpSeq_pure (v := _) rfl rfl rfl (by kernel_rfl) (fun _ _ _ h => h) (fun wq => by first | (go_simp; done) | (go_simp; rfl)) ?_
              refine wpSeq_pure (v := _) rfl rfl rfl (by kernel_rfl) (fun _ _ _ h => h) (fun wq => by first | (go_simp; done) | (go_simp; rfl)) ?_
              refine wpSeq_heavy rfl rfl (fun K hK => ?_); go_simp
              refine HDG.out.mono ?_
              rintro e w1 ⟨rfl, rfl⟩
              dsimp only
              refine hK _ _ (fun _ => hS) ?_; clear hK K
              refine wpSeq_pure (v := .int .i64 tt) rfl rfl rfl (by kernel_rfl) (fun _ _ _ h => h) (fun wq => by (go_simp; rw [IntWalk.i64_in _ (by omega)])) ?_
              refine wpSeq_pure (v := .int .i64 (oj + tt)) rfl rfl rfl (by kernel_rfl) (fun _ _ _ h => h) (fun wq => by (go_simp; rw [IntWalk.i64_in _ (by omega)])) ?_
              refine wpSeq_pure (v := .int .i64 (oj + tt + cr)) rfl rfl rfl (by kernel_rfl) (fun _ _ _ h => h) (fun wq => by (go_simp; rw [IntWalk.i64_in _ (by omega)])) ?_
              refine wpSeq_pure (v := _) rfl rfl rfl (by kernel_rfl) (fun _ _ _ h => h) (fun wq => by first | (go_simp; done) | (go_simp; rfl)) ?_
              refine wpSeq_end ?_
              clear hS
              go_wp2_with fail
              refine ⟨⟨q + 1, o.set j r, z, by first | rfl | simp, by omega, by rw [td], hrz.2.2.1, hrz.2.2.2, by rw [List.length_set]; exact HOL.out, dig_set HOD.out j hrz.1 hrz.2.1, HS2.out, ?_, HBS.out⟩, by simp [intOf]; omega⟩
              have h5 := HSET.out
              rw [dints_set] at h5
              exact h5
          · have hn1 : ¬ (q : Int) < (nb : Int) := by omega
            have hn2 : ¬ 0 < cr := by omega
            obtain rfl : cr = 0 := by omega
            clear hgo hE hol hod hblk hbl
            go_wp2_with fail
            go_meet
            exact ⟨o, HOL.out, HOD.out, HE.out.ends (by have := HNB.out; omega), HBK.out, HBL.out⟩
      case rest =>
        clear HV HBK HBL HOD HOL p1 q1 pl ql HB1' HB2'
        clear o
        obtain ⟨o, hol, hod, hval, hblk, hbl⟩ := hcut
        go_wp2_with fail
        go_roundw
        case rel => exact ⟨i + 1, o, by first | rfl | simp, by omega, hol, hod, hval, hblk, hbl⟩
        case measure => simp [intOf]; omega
    · obtain rfl : i = na := by omega
      have hrd := reads_blk7 HBK.out
      have HWH := Lib.hid (whole_any (!(b == b2)) (some ⟨g, 0, none⟩) L wr.heap.size o wr hrd (Nat.le_refl _) HOD.out (by have := HOL.out; omega) (by have := HOL.out; omega) (by unfold maxLen; omega))
      rw [HOL.out] at HWH
      have p0 := HB1'.out.cell 0
      have q0 := HB2'.out.cell 0
      simp only [List.getElem?_toArray, List.getElem?_cons_zero] at p0 q0
      have HB3W := Lib.hid (HB3.out.below HBL.out (by omega))
      have HWW := Lib.hid (HW.out.trans (HBL.out.mono (by omega)))
      have hsx : sv (!(b == b2)) o = x * y := by
        have h1 := HV.out
        rw [take_all d (by have := HNA.out; omega)] at h1
        exact tm_sign b b2 d d2 h1 HSV.out.1 HSV.out.2
      have HSX := Lib.hid hsx
      clear hrd hsx
      go_wp2_with fail
      refine HWH.out.mono ?_
      rintro e w3 ⟨v, rfl, ⟨b3, A3, d3, c3, rfl, ho3, hok3, hsv3, hl3⟩, hbl3⟩
      have hb3 := HB3W.out.below hbl3 HB3W.out.lt
      have b0 := hb3.cell
      have b1 := hb3.frozen
      have b2 := hb3.lt
      have hgeB : w.heap.size ≤ w.heap.size + 1 + 1 := (by omega)
      have HB4 := Lib.hid ((hb3.set_ 0 (.bool b3)).set_ 1 (.slice A3 d3.length c3))
      have HE := Lib.hid (((HWW.out.trans (hbl3.mono HWW.out.size)).setCell (p := ⟨w.heap.size + 1 + 1, 0, none⟩) hgeB (.bool b3)).setCell (p := ⟨w.heap.size + 1 + 1, 1, none⟩) hgeB (.slice A3 d3.length c3))
      have HO4 := Lib.hid (own_mono7 (base' := w.heap.size) (own_keep (w' := (w3.setCell ⟨w.heap.size + 1 + 1, 0, none⟩ (.bool b3)).setCell ⟨w.heap.size + 1 + 1, 1, none⟩ (.slice A3 d3.length c3)) ho3 fun g hg => by
        have hge := own_ge ho3 hg
        have hne : g ≠ w.heap.size + 1 + 1 := by have := HB3W.out.lt; omega
        rw [Below.heap_setCell _ _ _ _ hne, Below.heap_setCell _ _ _ _ hne]) (by have := HWW.out.size; omega))
      have HOK3 := Lib.hid hok3
      have HS3 := Lib.hid hsv3
      clear hb3 ho3 hok3 hsv3 hbl3
      dsimp only
      go_wp2_with fail
      clear b0 b1 b2
      generalize (w3.setCell ⟨w.heap.size + 1 + 1, 0, none⟩ (.bool b3)).setCell ⟨w.heap.size + 1 + 1, 1, none⟩ (.slice A3 d3.length c3) = W4 at *
      have y0 := HB4.out.cell 0
      have y1 := HB4.out.cell 1
      simp at y0 y1
      refine bodyPost_ret (v := .agg #[.bool b3, .slice A3 d3.length c3]) (by simp [results, Try.results32, go_sem, y0, y1]) rfl ?_
      exact ⟨_, rfl, ⟨b3, A3, d3, c3, rfl, HO4.out, HOK3.out, by rw [HS3.out]; exact HSX.out, by have := HL.out; omega⟩, HE.out⟩
end Go.Proofs.Ytnalbkjbidaojaa

/- fleuronref18.Points4: its contract. -/
import Derived.Test.YthdmdgmchkhngaaGreatLwS
import Derived.Test.YthdmdgmchkhngaaGreatSeqs
namespace Go.Proofs.YthdmdgmchkhngaaGreat
open Go.RowKit Mc

def ptOf (s : List Int) (j : Nat) : Int × Int := (s.getD (2 * j) 0 % 4000 - 1000, s.getD (2 * j + 1) 0 % 4000 - 1000)
def zn4 (s : List Int) (j : Nat) : Zn := ⟨(List.range j).map (ptOf s), (List.range j).map (ptOf s), List.replicate j 0, (List.range (j / 4)).map fun (t : Nat) => 4 * (t : Int) + 3⟩
/-- how many points -/
def n4 (s : List Int) : Nat := min (s.length / 2) 40
theorem zn4_pts (s : List Int) (j : Nat) : (List.range (j + 1)).map (ptOf s) = (List.range j).map (ptOf s) ++ [ptOf s j] := by rw [List.range_succ, List.map_append]; rfl
theorem zn4_touch (j : Nat) : List.replicate (j + 1) (0 : Int) = List.replicate j 0 ++ [0] := by rw [List.replicate_succ']
theorem zn4_ends_yes {j : Nat} (h : (j + 1) % 4 = 0) : (List.range ((j + 1) / 4)).map (fun (t : Nat) => 4 * (t : Int) + 3) = (List.range (j / 4)).map (fun (t : Nat) => 4 * (t : Int) + 3) ++ [(j : Int)] := by
  rw [show (j + 1) / 4 = j / 4 + 1 by omega, List.range_succ, List.map_append]
  congr 1
  simp only [List.map_cons, List.map_nil, List.cons.injEq, and_true]
  omega
theorem zn4_ends_no {j : Nat} (h : (j + 1) % 4 ≠ 0) : (j + 1) / 4 = j / 4 := by omega
theorem zn4_ok (s : List Int) (j : Nat) (h : j ≤ 40) : ZnOk (zn4 s j) := ⟨by simp [zn4]; omega, by simp [zn4]; omega, by simp [zn4]; omega, by simp [zn4]; omega⟩
/-- the rounds -/
def P4I (w : World) (zb : Nat) (s : List Int) (i : Value) (wr : World) : Prop := ∃ (j : Nat) (vo vu vt ve : Value), j ≤ n4 s ∧ (∃ k : Nat, k = 2 * j ∧ i = .int .i64 (k : Int)) ∧ ZnI w zb wr vo vu vt ve (zn4 s j)

set_option maxHeartbeats 4000000 in
set_option maxRecDepth 100000 in
theorem points4_any (A : Option Addr) (c B : Nat) (s : List Int) (w : World) (h : Reads w B 1 A s.length (ints s)) (hB : B ≤ w.heap.size) (hl : s.length ≤ 1000000000) :
    Calls Tryz.prog 12 #[.slice A s.length c] w (ZnPost w (zn4 s (n4 s))) := by
  obtain ⟨X, hX⟩ : ∃ X, X = ((w.alloc (.cells #[.slice none 0 0, .slice none 0 0, .slice none 0 0, .slice none 0 0] 33)).alloc (.cells #[.slice none 0 0, .slice none 0 0, .slice none 0 0, .slice none 0 0] 33)) := ⟨_, rfl⟩
  have hXG : Grow w X := by rw [hX]; exact ((Fr.refl _ w).alloc _).alloc _
  have hXz : X.heap.size = w.heap.size + 1 + 1 := by rw [hX]; simp
  have hb0 : Blk X w.heap.size 33 #[.slice none 0 0, .slice none 0 0, .slice none 0 0, .slice none 0 0] := by rw [hX]; exact (Blk.new _ _ _).alloc _
  have hb1 : Blk X (w.heap.size + 1) 33 #[.slice none 0 0, .slice none 0 0, .slice none 0 0, .slice none 0 0] := by rw [hX]; exact Blk.new_at _ _ _ (by simp)
  have hI0 : ZnI X (w.heap.size + 1) X (.slice none 0 0) (.slice none 0 0) (.slice none 0 0) (.slice none 0 0) (zn4 s 0) := ⟨hb1, owns_nil _ _ _ _, owns_nil _ _ _ _, owns_nil _ _ _ _, owns_nil _ _ _ _, apart_nil, apart_nil, Fr.refl _ _, by omega⟩
  have HR := Lib.hid (h.keep (w' := X) fun q hq => hXG.cell (by omega) (fun x => x))
  have H0 : Hid (P4I X (w.heap.size + 1) s (.int .i64 0) X) := Lib.hid ⟨0, _, _, _, _, Nat.zero_le _, ⟨0, rfl, rfl⟩, hI0⟩
  have HX := Lib.hid hX
  have HXG := Lib.hid hXG
  have HXZ := Lib.hid hXz
  have HB0 := Lib.hid hb0
  have HL := Lib.hid hl
  have HBB := Lib.hid hB
  obtain ⟨n, hn⟩ : ∃ n, n = s.length := ⟨_, rfl⟩
  obtain ⟨i0, hi0, hi1, hi2, hi3⟩ := info_m info_pt
  obtain ⟨j0, hj0, hj1, hj2, hj3⟩ := info_m info_int
  rw [← hn] at HR HL ⊢
  have HN := Lib.hid hn
  clear h hX hXG hb0 hb1 hI0 hl hB hXz hn
  go_enter Tryz.func12, Tryz.ntmps12
  go_upto_region 2 with fail
  rw [← HX.out]
  go_wp2_with fail
  go_loopw [4] (fun i wr => P4I X (w.heap.size + 1) s i wr) (fun i _ => 2 * n4 s - (intOf i).toNat)
  case atStart => exact H0.out
  case round =>
    clear H0
    obtain ⟨j, vo, vu, vt, ve, hj, ⟨k, hk, rfl⟩, hI⟩ := hrel
    have hnn : n4 s = min (n / 2) 40 := by rw [HN.out]; rfl
    by_cases hlt : j < n4 s
    · have hlen := HN.out
      have hn9 := HL.out
      obtain ⟨x, hx⟩ : ∃ x, s[k]? = some x := ⟨_, List.getElem?_eq_getElem (by omega)⟩
      obtain ⟨y, hy⟩ : ∃ y, s[k + 1]? = some y := ⟨_, List.getElem?_eq_getElem (by omega)⟩
      obtain ⟨b, off, rfl, hbB, hcells⟩ := HR.out.2 (by omega)
      have hbw : b < w.heap.size := by have := HBB.out; omega
      have hbz : ¬ b = w.heap.size + 1 := by omega
      have hxz := HXZ.out
      have d0 := (hI.fr.cell (p := ⟨b, off + k, none⟩) (by simp; omega) hbz).trans (hcells _ _ (ints_at s k x hx))
      have d1 := (hI.fr.cell (p := ⟨b, off + (k + 1), none⟩) (by simp; omega) hbz).trans (hcells _ _ (ints_at s (k + 1) y hy))
      have dl : b < wr.heap.size := by have := hI.fr.size; omega
      have HPT : Hid (ptOf s j = (x % 4000 - 1000, y % 4000 - 1000)) := Lib.hid (by unfold ptOf; rw [← hk, List.getD_eq_getElem?_getD, List.getD_eq_getElem?_getD, hx, hy]; rfl)
      have hk80 : (k : Int) + 1 < n ∧ (k : Int) < 80 := by omega
      have bx : 0 ≤ x % 4000 ∧ x % 4000 < 4000 := by omega
      have by' : 0 ≤ y % 4000 ∧ y % 4000 < 4000 := by omega
      have HLT := Lib.hid hlt
      have HK := Lib.hid hk
      have HI := Lib.hid hI
      have hzl := hI.box.lt
      have z0 := hI.box.cell 0
      have z1 := hI.box.cell 1
      have z2 := hI.box.cell 2
      have z3 := hI.box.cell 3
      simp only [List.getElem?_toArray, List.getElem?_cons_zero, List.getElem?_cons_succ] at z0 z1 z2 z3
      clear hcells hx hy hI hlt hj hnn hbz hk hxz hlen hn9
      go_wp2_with fail
      have ho1 := HI.out.drew
      have i1 : k < n := by omega
      have i2 : (k : Int) + 1 < n := hk80.1
      have i3 : (0 : Int) ≤ (k : Int) + 1 := by omega
      have i4 : IntKind.i64.wrap ((k : Int) + 1) = (k : Int) + 1 := by rw [IntWalk.i64_in _ (by omega)]
      have i6 : IntKind.i64.wrap (x % 4000 - 1000) = x % 4000 - 1000 := by rw [IntWalk.i64_in _ (by omega)]
      have i7 : IntKind.i64.wrap (y % 4000 - 1000) = y % 4000 - 1000 := by rw [IntWalk.i64_in _ (by omega)]
      have i5 : ((k : Int) + 1).toNat = k + 1 := by omega
      have hS : wr.drew.cell? ⟨w.heap.size + 1, 1, none⟩ = some vu ∧ wr.drew.cell? ⟨b, off + k, none⟩ = some (.int .i64 x) ∧ wr.drew.cell? ⟨b, off + (k + 1), none⟩ = some (.int .i64 y) := ⟨z1, d0, d1⟩
      refine wp_region_seqT (fun i => !([6, 13, 16, 17, 19] : List Nat).contains i) (fun i => ([1, 5, 12] : List Nat).contains i) (fun i => ([6, 13, 16] : List Nat).contains i) [0, 1, 2, 3, 4, 5, 8, 9, 10, 11, 12, 6, 7, 13, 14, 15, 16, 17, 18, 19] (fun w' => w'.cell? ⟨w.heap.size + 1, 1, none⟩ = some vu ∧ w'.cell? ⟨b, off + k, none⟩ = some (.int .i64 x) ∧ w'.cell? ⟨b, off + (k + 1), none⟩ = some (.int .i64 y)) (by kernel_rfl) (by kernel_rfl) (by kernel_rfl) (by kernel_rfl) ?_
      refine wpSeq_pure (v := _) rfl rfl rfl (by kernel_rfl) (fun _ _ _ h => h) (fun wq => by first | (go_simp; done) | (go_simp; rfl)) ?_
      refine wpSeq_load (v := _) rfl rfl (by kernel_rfl) (fun _ _ _ h => h) hS rfl (fun wq hq => by (try have hq1 := hq.1); (try have hq2 := hq.2.1); (try have hq3 := hq.2.2.1); (try have hq4 := hq.2.2.2.1); (try have hq5 := hq.2.2.2.2.1); (try have hq6 := hq.2.2.2.2.2.1); (try have hq7 := hq.2.2.2.2.2.2); (try have hr2 := hq.2); (try have hr3 := hq.2.2); (try have hr4 := hq.2.2.2); (try have hr5 := hq.2.2.2.2); first | (go_simp; done) | (go_simp; rfl)) ?_
      refine wpSeq_pure (v := _) rfl rfl rfl (by kernel_rfl) (fun _ _ _ h => h) (fun wq => by first | (go_simp; done) | (go_simp; rfl)) ?_
      refine wpSeq_pure (v := _) rfl rfl rfl (by kernel_rfl) (fun _ _ _ h => h) (fun wq => by first | (go_simp; done) | (go_simp; rfl)) ?_
      refine wpSeq_pure (v := _) rfl rfl rfl (by kernel_rfl) (fun _ _ _ h => h) (fun wq => by first | (go_simp; done) | (go_simp; rfl)) ?_
      refine wpSeq_load (v := _) rfl rfl (by kernel_rfl) (fun _ _ _ h => h) hS rfl (fun wq hq => by (try have hq1 := hq.1); (try have hq2 := hq.2.1); (try have hq3 := hq.2.2.1); (try have hq4 := hq.2.2.2.1); (try have hq5 := hq.2.2.2.2.1); (try have hq6 := hq.2.2.2.2.2.1); (try have hq7 := hq.2.2.2.2.2.2); (try have hr2 := hq.2); (try have hr3 := hq.2.2); (try have hr4 := hq.2.2.2); (try have hr5 := hq.2.2.2.2); first | (go_simp; done) | (go_simp; rfl)) ?_
      refine wpSeq_pure (v := _) rfl rfl rfl (by kernel_rfl) (fun _ _ _ h => h) (fun wq => by first | (go_simp; done) | (go_simp; rfl)) ?_
      refine wpSeq_pure (v := _) rfl rfl rfl (by kernel_rfl) (fun _ _ _ h => h) (fun wq => by first | (go_simp; done) | (go_simp; rfl)) ?_
      refine wpSeq_pure (v := _) rfl rfl rfl (by kernel_rfl) (fun _ _ _ h => h) (fun wq => by first | (go_simp; done) | (go_simp; rfl)) ?_
      refine wpSeq_pure (v := _) rfl rfl rfl (by kernel_rfl) (fun _ _ _ h => h) (fun wq => by first | (go_simp; done) | (go_simp; rfl)) ?_
      refine wpSeq_load (v := _) rfl rfl (by kernel_rfl) (fun _ _ _ h => h) hS rfl (fun wq hq => by (try have hq1 := hq.1); (try have hq2 := hq.2.1); (try have hq3 := hq.2.2.1); (try have hq4 := hq.2.2.2.1); (try have hq5 := hq.2.2.2.2.1); (try have hq6 := hq.2.2.2.2.2.1); (try have hq7 := hq.2.2.2.2.2.2); (try have hr2 := hq.2); (try have hr3 := hq.2.2); (try have hr4 := hq.2.2.2); (try have hr5 := hq.2.2.2.2); first | (go_simp; done) | (go_simp; rfl)) ?_
      refine wpSeq_heavy rfl rfl (fun K hK => ?_); go_simp
      refine (rrest_any x 4000 wr.drew (by decide) (by decide)).mono ?_
      rintro e w2 ⟨rfl, rfl⟩
      dsimp only
      refine hK _ _ (fun _ => hS) ?_; clear hK K
      refine wpSeq_pure (v := _) rfl rfl rfl (by kernel_rfl) (fun _ _ _ h => h) (fun wq => by first | (go_simp; done) | (go_simp; rfl)) ?_
      refine wpSeq_heavy rfl rfl (fun K hK => ?_); go_simp
      refine (rrest_any y 4000 wr.drew (by decide) (by decide)).mono ?_
      rintro e w2 ⟨rfl, rfl⟩
      dsimp only
      refine hK _ _ (fun _ => hS) ?_; clear hK K
      refine wpSeq_pure (v := _) rfl rfl rfl (by kernel_rfl) (fun _ _ _ h => h) (fun wq => by first | (go_simp; done) | (go_simp; rfl)) ?_
      refine wpSeq_pure (v := _) rfl rfl rfl (by kernel_rfl) (fun _ _ _ h => h) (fun wq => by first | (go_simp; done) | (go_simp; rfl)) ?_
      refine wpSeq_heavy rfl rfl (fun K hK => ?_); go_simp
      have ho2 := (HI.out.alloc (.cells #[.int .i64 (x % 4000 - 1000), .int .i64 (y % 4000 - 1000)] 50)).drew
      have hblk2 := (Blk.new wr 50 #[.int .i64 (x % 4000 - 1000), .int .i64 (y % 4000 - 1000)]).drew
      have hlen2 : (zn4 s j).cur.length = j := by simp [zn4]
      have hj40 : j < 40 := by have := HK.out; omega
      have hxs := HI.out.fr.size
      have hlt' : (wr.alloc (.cells #[.int .i64 (x % 4000 - 1000), .int .i64 (y % 4000 - 1000)] 50)).drew.cell? ⟨w.heap.size + 1, 1, none⟩ = some vu := by rw [ho2.box.cell]; rfl
      have hlb : (wr.alloc (.cells #[.int .i64 (x % 4000 - 1000), .int .i64 (y % 4000 - 1000)] 50)).drew.cell? ⟨b, off + k, none⟩ = some (.int .i64 x) := by rw [← d0]; exact World.cell?_alloc_lt _ _ _ (by simpa using dl)
      have hlb2 : (wr.alloc (.cells #[.int .i64 (x % 4000 - 1000), .int .i64 (y % 4000 - 1000)] 50)).drew.cell? ⟨b, off + (k + 1), none⟩ = some (.int .i64 y) := by rw [← d1]; exact World.cell?_alloc_lt _ _ _ (by simpa using dl)
      refine hK _ _ (fun _ => ⟨hlt', hlb, hlb2⟩) ?_; clear hK K
      refine wpSeq_heavy rfl rfl (fun K hK => ?_)
      refine step_own _ rfl (.tmp 17) (.tmp 32) _ rfl X.heap.size 50 i0 _ 2 16 Tryz.underlying31 hi0 hi1 hi2 hi3 rfl (show 0 < 2 by decide) vu (zn4 s j).cur.length (pts (zn4 s j).cur) rfl ho2.cur _ _ 1 1 [.int .i64 (x % 4000 - 1000), .int .i64 (y % 4000 - 1000)] rfl (Reads.blk (cs := [.int .i64 (x % 4000 - 1000), .int .i64 (y % 4000 - 1000)]) hblk2 2 1 rfl) (by simp [Value.oneCell']) (by unfold maxLen; omega) (by omega) (by simp [World.drew]; omega) ?_
      intro v' w3 ho3 hg3 h5
      obtain ⟨hbx, hI3⟩ := ho2.push_cur (p := (x % 4000 - 1000, y % 4000 - 1000)) ho3 hg3 h5
      have b0 := hbx.cell 1
      have b1 := hbx.frozen 1
      have b2 := hbx.lt
      obtain ⟨A5, c5, e5, _⟩ := owns_form ho3
      subst e5
      simp only [List.getElem?_toArray, List.getElem?_cons_zero, List.getElem?_cons_succ] at b0
      refine hK _ _ (fun h => by cases h) ?_; clear hK K
      refine wpSeq_pure (v := _) rfl rfl rfl (by kernel_rfl) (fun _ _ _ h => h) (fun wq => by first | (go_simp; done) | (go_simp; rfl)) ?_
      refine wpSeq_heavy rfl rfl (fun K hK => ?_); go_simp
      refine hK _ _ (fun h => by cases h) ?_; clear hK K
      refine wpSeq_end ?_
      have HI5 := Lib.hid hI3
      clear ho1 ho2 hblk2 hlt' hlb hlb2 ho3 hg3 h5 hbx hI3 b0 b1 b2 z0 z1 z2 z3 hS d0 d1 dl i1 i2 i3 i4 i5 i6 i7 HI hzl bx by'
      rw [hlen2] at HI5
      generalize w3.setCell ⟨w.heap.size + 1, 1, none⟩ (.slice A5 (j + 1) c5) = W5 at HI5 ⊢
      go_wp2_with fail
      have ho5 := HI5.out.drew
      obtain ⟨g5, c5', e5, _, _, g5l, g5c⟩ := owns_at HI5.out.cur (by simp)
      have e5a : A5 = some ⟨g5, 0, none⟩ := by injection e5
      subst e5a
      have hp := pts_at ((zn4 s j).cur ++ [(x % 4000 - 1000, y % 4000 - 1000)]) j (x % 4000 - 1000, y % 4000 - 1000) (by rw [List.getElem?_append_right (by omega), hlen2, Nat.sub_self]; rfl)
      have v0 := g5c _ _ hp.1
      have v1 := g5c _ _ hp.2
      have y0 := HI5.out.box.cell 0
      have y1 := HI5.out.box.cell 1
      simp only [List.getElem?_toArray, List.getElem?_cons_zero, List.getElem?_cons_succ] at y0 y1
      have yl := HI5.out.box.lt
      have i2 : (j : Int) < (j : Int) + 1 := by omega
      have i4 : IntKind.i64.wrap (j : Int) = (j : Int) := by rw [IntWalk.i64_in _ (by omega)]
      clear hp g5c e5
      have hS : W5.drew.cell? ⟨w.heap.size + 1, 0, none⟩ = some vo ∧ W5.drew.cell? ⟨w.heap.size + 1, 1, none⟩ = some (.slice (some ⟨g5, 0, none⟩) (j + 1) c5) ∧ W5.drew.cell? ⟨g5, j * 2, none⟩ = some (.int .i64 (x % 4000 - 1000)) ∧ W5.drew.cell? ⟨g5, j * 2 + 1, none⟩ = some (.int .i64 (y % 4000 - 1000)) := ⟨y0, y1, v0, v1⟩
      refine wp_region_seqT (fun i => !([10, 11, 13] : List Nat).contains i) (fun i => ([1, 3, 5, 9] : List Nat).contains i) (fun i => ([10] : List Nat).contains i) [0, 1, 2, 3, 4, 5, 6, 7, 8, 9, 10, 11, 12, 13] (fun w' => w'.cell? ⟨w.heap.size + 1, 0, none⟩ = some vo ∧ w'.cell? ⟨w.heap.size + 1, 1, none⟩ = some (.slice (some ⟨g5, 0, none⟩) (j + 1) c5) ∧ w'.cell? ⟨g5, j * 2, none⟩ = some (.int .i64 (x % 4000 - 1000)) ∧ w'.cell? ⟨g5, j * 2 + 1, none⟩ = some (.int .i64 (y % 4000 - 1000))) (by kernel_rfl) (by kernel_rfl) (by kernel_rfl) (by kernel_rfl) ?_
      refine wpSeq_pure (v := _) rfl rfl rfl (by kernel_rfl) (fun _ _ _ h => h) (fun wq => by first | (go_simp; done) | (go_simp; rfl)) ?_
      refine wpSeq_load (v := _) rfl rfl (by kernel_rfl) (fun _ _ _ h => h) hS rfl (fun wq hq => by (try have hq1 := hq.1); (try have hq2 := hq.2.1); (try have hq3 := hq.2.2.1); (try have hq4 := hq.2.2.2.1); (try have hq5 := hq.2.2.2.2.1); (try have hq6 := hq.2.2.2.2.2.1); (try have hq7 := hq.2.2.2.2.2.2); (try have hr2 := hq.2); (try have hr3 := hq.2.2); (try have hr4 := hq.2.2.2); (try have hr5 := hq.2.2.2.2); first | (go_simp; done) | (go_simp; rfl)) ?_
      refine wpSeq_pure (v := _) rfl rfl rfl (by kernel_rfl) (fun _ _ _ h => h) (fun wq => by first | (go_simp; done) | (go_simp; rfl)) ?_
      refine wpSeq_load (v := _) rfl rfl (by kernel_rfl) (fun _ _ _ h => h) hS rfl (fun wq hq => by (try have hq1 := hq.1); (try have hq2 := hq.2.1); (try have hq3 := hq.2.2.1); (try have hq4 := hq.2.2.2.1); (try have hq5 := hq.2.2.2.2.1); (try have hq6 := hq.2.2.2.2.2.1); (try have hq7 := hq.2.2.2.2.2.2); (try have hr2 := hq.2); (try have hr3 := hq.2.2); (try have hr4 := hq.2.2.2); (try have hr5 := hq.2.2.2.2); first | (go_simp; done) | (go_simp; rfl)) ?_
      refine wpSeq_pure (v := _) rfl rfl rfl (by kernel_rfl) (fun _ _ _ h => h) (fun wq => by first | (go_simp; done) | (go_simp; rfl)) ?_
      refine wpSeq_load (v := _) rfl rfl (by kernel_rfl) (fun _ _ _ h => h) hS rfl (fun wq hq => by (try have hq1 := hq.1); (try have hq2 := hq.2.1); (try have hq3 := hq.2.2.1); (try have hq4 := hq.2.2.2.1); (try have hq5 := hq.2.2.2.2.1); (try have hq6 := hq.2.2.2.2.2.1); (try have hq7 := hq.2.2.2.2.2.2); (try have hr2 := hq.2); (try have hr3 := hq.2.2); (try have hr4 := hq.2.2.2); (try have hr5 := hq.2.2.2.2); first | (go_simp; done) | (go_simp; rfl)) ?_
      refine wpSeq_pure (v := _) rfl rfl rfl (by kernel_rfl) (fun _ _ _ h => h) (fun wq => by first | (go_simp; done) | (go_simp; rfl)) ?_
      refine wpSeq_pure (v := _) rfl rfl rfl (by kernel_rfl) (fun _ _ _ h => h) (fun wq => by first | (go_simp; done) | (go_simp; rfl)) ?_
      refine wpSeq_pure (v := _) rfl rfl rfl (by kernel_rfl) (fun _ _ _ h => h) (fun wq => by first | (go_simp; done) | (go_simp; rfl)) ?_
      refine wpSeq_load (v := _) rfl rfl (by kernel_rfl) (fun _ _ _ h => h) hS rfl (fun wq hq => by (try have hq1 := hq.1); (try have hq2 := hq.2.1); (try have hq3 := hq.2.2.1); (try have hq4 := hq.2.2.2.1); (try have hq5 := hq.2.2.2.2.1); (try have hq6 := hq.2.2.2.2.2.1); (try have hq7 := hq.2.2.2.2.2.2); (try have hr2 := hq.2); (try have hr3 := hq.2.2); (try have hr4 := hq.2.2.2); (try have hr5 := hq.2.2.2.2); first | (go_simp; done) | (go_simp; rfl)) ?_
      refine wpSeq_heavy rfl rfl (fun K hK => ?_); go_simp
      have ho6 := (HI5.out.alloc (.cells #[.int .i64 (x % 4000 - 1000), .int .i64 (y % 4000 - 1000)] 50)).drew
      have hblk6 := (Blk.new W5 50 #[.int .i64 (x % 4000 - 1000), .int .i64 (y % 4000 - 1000)]).drew
      have hlen3 : (zn4 s j).org.length = j := by simp [zn4]
      have hxs5 := HI5.out.fr.size
      have q0 : (W5.alloc (.cells #[.int .i64 (x % 4000 - 1000), .int .i64 (y % 4000 - 1000)] 50)).drew.cell? ⟨w.heap.size + 1, 0, none⟩ = some vo := by rw [ho6.box.cell]; rfl
      have q1 : (W5.alloc (.cells #[.int .i64 (x % 4000 - 1000), .int .i64 (y % 4000 - 1000)] 50)).drew.cell? ⟨w.heap.size + 1, 1, none⟩ = some (.slice (some ⟨g5, 0, none⟩) (j + 1) c5) := by rw [ho6.box.cell]; rfl
      have q2 : (W5.alloc (.cells #[.int .i64 (x % 4000 - 1000), .int .i64 (y % 4000 - 1000)] 50)).drew.cell? ⟨g5, j * 2, none⟩ = some (.int .i64 (x % 4000 - 1000)) := by rw [← v0]; exact World.cell?_alloc_lt _ _ _ (by simpa using g5l)
      have q3 : (W5.alloc (.cells #[.int .i64 (x % 4000 - 1000), .int .i64 (y % 4000 - 1000)] 50)).drew.cell? ⟨g5, j * 2 + 1, none⟩ = some (.int .i64 (y % 4000 - 1000)) := by rw [← v1]; exact World.cell?_alloc_lt _ _ _ (by simpa using g5l)
      refine hK _ _ (fun _ => ⟨q0, q1, q2, q3⟩) ?_; clear hK K
      refine wpSeq_heavy rfl rfl (fun K hK => ?_)
      refine step_own _ rfl (.tmp 36) (.tmp 45) _ rfl X.heap.size 50 i0 _ 2 16 Tryz.underlying31 hi0 hi1 hi2 hi3 rfl (show 0 < 2 by decide) vo (zn4 s j).org.length (pts (zn4 s j).org) rfl ho6.org _ _ 1 1 [.int .i64 (x % 4000 - 1000), .int .i64 (y % 4000 - 1000)] rfl (Reads.blk (cs := [.int .i64 (x % 4000 - 1000), .int .i64 (y % 4000 - 1000)]) hblk6 2 1 rfl) (by simp [Value.oneCell']) (by unfold maxLen; omega) (by omega) (by simp [World.drew]; omega) ?_
      intro v' w6 ho7 hg7 h7
      obtain ⟨hbx, hI7⟩ := ho6.push_org (p := (x % 4000 - 1000, y % 4000 - 1000)) ho7 hg7 h7
      have b0 := hbx.cell 0
      have b1 := hbx.frozen 0
      have b2 := hbx.lt
      obtain ⟨A7, c7, e7, _⟩ := owns_form ho7
      subst e7
      simp only [List.getElem?_toArray, List.getElem?_cons_zero] at b0
      refine hK _ _ (fun h => by cases h) ?_; clear hK K
      refine wpSeq_pure (v := _) rfl rfl rfl (by kernel_rfl) (fun _ _ _ h => h) (fun wq => by first | (go_simp; done) | (go_simp; rfl)) ?_
      refine wpSeq_heavy rfl rfl (fun K hK => ?_); go_simp
      refine hK _ _ (fun h => by cases h) ?_; clear hK K
      refine wpSeq_end ?_
      rw [hlen3] at hI7
      have HI7 := Lib.hid hI7
      clear ho5 ho6 hblk6 q0 q1 q2 q3 ho7 hg7 h7 hbx hI7 b0 b1 b2 y0 y1 v0 v1 hS HI5 i2 g5l yl
      generalize w6.setCell ⟨w.heap.size + 1, 0, none⟩ (.slice A7 (j + 1) c7) = W6 at HI7 ⊢
      have z0 := HI7.out.box.cell 2
      have z1 := HI7.out.box.cell 1
      simp only [List.getElem?_toArray, List.getElem?_cons_zero, List.getElem?_cons_succ] at z0 z1
      have zl := HI7.out.box.lt
      have hlen4 : (zn4 s j).touch.length = j := by simp [zn4]
      have hxs6 := HI7.out.fr.size
      go_upto_region 8 with (at_builtin; refine wpList_append_any _ rfl (.tmp 49) (.tmp 50) _ rfl X.heap.size 3 j0 _ 1 8 Tryz.underlying22 hj0 hj1 hj2 hj3 rfl (show 0 < 1 by decide) vt (zn4 s j).touch.length (ints (zn4 s j).touch) rfl (HI7.out.alloc _).touch _ _ 1 1 [.int .i64 0] rfl (Reads.blk (cs := [.int .i64 0]) (Blk.new _ _ _) 1 1 rfl) (by simp [Value.oneCell']) (by unfold maxLen; omega) (by omega) (by simp; omega) ?_; intro v' w8 ho8 hg8 h8; obtain ⟨hbx, hI8⟩ := (HI7.out.alloc _).push_touch (p := 0) ho8 hg8 h8; have b0 := hbx.cell 2; have b1 := hbx.frozen 2; have b2 := hbx.lt; obtain ⟨A8, c8, e8, _⟩ := owns_form ho8; subst e8; simp only [List.getElem?_toArray, List.getElem?_cons_zero, List.getElem?_cons_succ] at b0; have HI8 := Lib.hid hI8; clear hI8 ho8 hg8 h8 hbx)
      have hz9 : ZnI X (w.heap.size + 1) (w8.setCell ⟨w.heap.size + 1, 2, none⟩ (.slice A8 (j + 1) c8)) (.slice A7 (j + 1) c7) (.slice (some ⟨g5, 0, none⟩) (j + 1) c5) (.slice A8 (j + 1) c8) ve ⟨(zn4 s (j + 1)).org, (zn4 s (j + 1)).cur, (zn4 s (j + 1)).touch, (zn4 s j).ends⟩ := by
        have := HI8.out
        rw [hlen4, ← HPT.out] at this
        simp only [zn4, zn4_pts, zn4_touch] at this ⊢
        exact this
      have HI9 := Lib.hid hz9
      clear hz9 HI7 HI8 b0 b1 b2 z0 z1 zl hlen4
      generalize w8.setCell ⟨w.heap.size + 1, 2, none⟩ (.slice A8 (j + 1) c8) = W8 at HI9 ⊢
      have z0 := HI9.out.box.cell 3
      have z1 := HI9.out.box.cell 1
      simp only [List.getElem?_toArray, List.getElem?_cons_zero, List.getElem?_cons_succ] at z0 z1
      have zl := HI9.out.box.lt
      have hlen4 : (zn4 s j).ends.length = j / 4 := by simp [zn4]
      have hxs8 := HI9.out.fr.size
      have htm : ((j : Int) + 1).tmod 4 = (((j + 1) % 4 : Nat) : Int) := by rw [Int.tmod_eq_emod_of_nonneg (by omega)]; omega
      by_cases hm : (j + 1) % 4 = 0
      · rw [hm] at htm
        go_wp2_with (at_builtin; refine wpList_append_any _ rfl (.tmp 59) (.tmp 64) _ rfl X.heap.size 3 j0 _ 1 8 Tryz.underlying22 hj0 hj1 hj2 hj3 rfl (show 0 < 1 by decide) ve (zn4 s j).ends.length (ints (zn4 s j).ends) rfl (HI9.out.alloc _).ends _ _ 1 1 [.int .i64 (j : Int)] rfl (Reads.blk (cs := [.int .i64 (j : Int)]) (Blk.new _ _ _) 1 1 rfl) (by simp [Value.oneCell']) (by unfold maxLen; omega) (by omega) (by simp; omega) ?_; intro v' w10 ho8 hg8 h8; obtain ⟨hbx, hI8⟩ := (HI9.out.alloc _).push_ends (p := (j : Int)) ho8 hg8 h8; have b0 := hbx.cell 3; have b1 := hbx.frozen 3; have b2 := hbx.lt; obtain ⟨A10, c10, e8, _⟩ := owns_form ho8; subst e8; simp only [List.getElem?_toArray, List.getElem?_cons_zero, List.getElem?_cons_succ] at b0; have HI8 := Lib.hid hI8; clear hI8 ho8 hg8 h8 hbx)
        have hk2 := HK.out
        have hlt2 := HLT.out
        refine ⟨⟨j + 1, .slice A7 (j + 1) c7, .slice (some ⟨g5, 0, none⟩) (j + 1) c5, .slice A8 (j + 1) c8, .slice A10 (j / 4 + 1) c10, by omega, ⟨k + 2, by omega, by simp⟩, ?_⟩, by simp [intOf]; omega⟩
        have := HI8.out
        rw [hlen4] at this
        have h9 : zn4 s (j + 1) = ⟨(zn4 s (j + 1)).org, (zn4 s (j + 1)).cur, (zn4 s (j + 1)).touch, (zn4 s j).ends ++ [(j : Int)]⟩ := by simp only [zn4, zn4_ends_yes hm]
        rw [h9]
        exact this
      · have hmb : ((((j + 1) % 4 : Nat) : Int) == 0) = false := by simp; omega
        go_wp2_with fail
        have hk2 := HK.out
        have hlt2 := HLT.out
        refine ⟨⟨j + 1, .slice A7 (j + 1) c7, .slice (some ⟨g5, 0, none⟩) (j + 1) c5, .slice A8 (j + 1) c8, ve, by omega, ⟨k + 2, by omega, by simp⟩, ?_⟩, by simp [intOf]; omega⟩
        have h9 : zn4 s (j + 1) = ⟨(zn4 s (j + 1)).org, (zn4 s (j + 1)).cur, (zn4 s (j + 1)).touch, (zn4 s j).ends⟩ := by simp only [zn4, zn4_ends_no hm]
        rw [h9]
        exact HI9.out
    · obtain ⟨Ao, co, rfl, _⟩ := owns_form hI.org
      obtain ⟨Au, cu, rfl, _⟩ := owns_form hI.cur
      obtain ⟨At, ct, rfl, _⟩ := owns_form hI.touch
      obtain ⟨Ae, ce, rfl, _⟩ := owns_form hI.ends
      have hje : j = n4 s := by omega
      have hk80 : ¬ ((k : Int) + 1 < n ∧ (k : Int) < 80) := by have := HL.out; omega
      have hn9 := HL.out
      have HE : Hid (ZnI X (w.heap.size + 1) wr (.slice Ao (zn4 s j).org.length co) (.slice Au (zn4 s j).cur.length cu) (.slice At (zn4 s j).touch.length ct) (.slice Ae (zn4 s j).ends.length ce) (zn4 s (n4 s))) := Lib.hid (hje ▸ hI)
      have hxz := HXZ.out
      have hrb := hI.fr.blk HB0.out (by omega)
      have HRB := Lib.hid hrb
      have x0 := hI.box.cell 0
      have x1 := hI.box.cell 1
      have x2 := hI.box.cell 2
      have x3 := hI.box.cell 3
      simp only [List.getElem?_toArray, List.getElem?_cons_zero, List.getElem?_cons_succ] at x0 x1 x2 x3
      have xl := hI.box.lt
      have y0 := hrb.cell 0
      have y1 := hrb.cell 1
      have y2 := hrb.cell 2
      have y3 := hrb.cell 3
      simp only [List.getElem?_toArray, List.getElem?_cons_zero, List.getElem?_cons_succ] at y0 y1 y2 y3
      have yf := hrb.frozen
      have yl := hrb.lt
      have hnk : w.heap.size + 1 ≠ w.heap.size := by omega
      have hend : ∀ W', W' = ((((wr.setCell ⟨w.heap.size, 0, none⟩ (.slice Ao (zn4 s j).org.length co)).setCell ⟨w.heap.size, 1, none⟩ (.slice Au (zn4 s j).cur.length cu)).setCell ⟨w.heap.size, 2, none⟩ (.slice At (zn4 s j).touch.length ct)).setCell ⟨w.heap.size, 3, none⟩ (.slice Ae (zn4 s j).ends.length ce)) → ZnPost w (zn4 s (n4 s)) (.returned (.agg #[(.slice Ao (zn4 s j).org.length co), (.slice Au (zn4 s j).cur.length cu), (.slice At (zn4 s j).touch.length ct), (.slice Ae (zn4 s j).ends.length ce)])) W' := by
        intro W' hW'
        have h := HE.out
        have k0 := HRB.out
        have k1 := k0.set_ 0 (.slice Ao (zn4 s j).org.length co)
        have k2 := k1.set_ 1 (.slice Au (zn4 s j).cur.length cu)
        have k3 := k2.set_ 2 (.slice At (zn4 s j).touch.length ct)
        have hX := HXG.out
        refine ⟨(.slice Ao (zn4 s j).org.length co), (.slice Au (zn4 s j).cur.length cu), (.slice At (zn4 s j).touch.length ct), (.slice Ae (zn4 s j).ends.length ce), rfl, ?_, ?_⟩
        · rw [hW']
          have hb : w.heap.size ≤ X.heap.size := by omega
          exact ⟨owns_box (owns_box (owns_box (owns_box (owns_mono h.org hb) k0 (by decide) _ _) k1 (by decide) _ _) k2 (by decide) _ _) k3 (by decide) _ _,
            owns_box (owns_box (owns_box (owns_box (owns_mono h.cur hb) k0 (by decide) _ _) k1 (by decide) _ _) k2 (by decide) _ _) k3 (by decide) _ _,
            owns_box (owns_box (owns_box (owns_box (owns_mono h.touch hb) k0 (by decide) _ _) k1 (by decide) _ _) k2 (by decide) _ _) k3 (by decide) _ _,
            owns_box (owns_box (owns_box (owns_box (owns_mono h.ends hb) k0 (by decide) _ _) k1 (by decide) _ _) k2 (by decide) _ _) k3 (by decide) _ _⟩
        · rw [hW']
          have hf : Grow w wr := ⟨h.fr.os.trans hX.os, h.fr.tape.trans hX.tape, h.fr.output.trans hX.output, by have := h.fr.size; omega, fun k hk _ => (h.fr.block k (by omega) (by omega)).trans (hX.block k hk (fun x => x))⟩
          exact (((hf.setCell (.inr (Nat.le_refl _)) _).setCell (.inr (Nat.le_refl _)) _).setCell (.inr (Nat.le_refl _)) _).setCell (.inr (Nat.le_refl _)) _
      have HEND := Lib.hid hend
      have hkb : (k : Int) ≤ 80 := by omega
      clear hend hrb hI hje hxz hn9 hlt hj hnn hk
      by_cases h1 : (k : Int) + 1 < n
      · have h2 : ¬ (k : Int) < 80 := fun h => hk80 ⟨h1, h⟩
        go_wp2
        refine bodyPost_ret (v := .agg #[(.slice Ao (zn4 s j).org.length co), (.slice Au (zn4 s j).cur.length cu), (.slice At (zn4 s j).touch.length ct), (.slice Ae (zn4 s j).ends.length ce)]) (by simp [results, Tryz.results12, go_sem, y0, y1, y2, y3]) rfl ?_
        exact HEND.out _ rfl
      · go_wp2
        refine bodyPost_ret (v := .agg #[(.slice Ao (zn4 s j).org.length co), (.slice Au (zn4 s j).cur.length cu), (.slice At (zn4 s j).touch.length ct), (.slice Ae (zn4 s j).ends.length ce)]) (by simp [results, Tryz.results12, go_sem, y0, y1, y2, y3]) rfl ?_
        exact HEND.out _ rfl
end Go.Proofs.YthdmdgmchkhngaaGreat

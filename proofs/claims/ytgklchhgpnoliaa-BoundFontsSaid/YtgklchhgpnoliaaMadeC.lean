/- fleuronref07's maker: an outline, its contract. -/
import Derived.Test.YtgklchhgpnoliaaMadeB
import Derived.Test.YtgklchhgpnoliaaSeq
import Derived.Deep.CutBlock
namespace Go.Proofs.Ytgklchhgpnoliaa
open Go.RowKit

def OutSome (N0 : Nat) (m : MkC) (w0 : World) (ob a b : Nat) (wx : World) : Prop := ∃ vp ve l es, OutI N0 m w0 ob wx vp ve l es ∧ l.length ≤ a ∧ es.length ≤ b
def OutPost (N0 : Nat) (m : MkC) (w : World) (e : Ending) (w' : World) : Prop :=
  ∃ vp ve l es, e = .returned (.agg #[vp, ve]) ∧ (outlineR N0).rel w' w'.heap.size (l, es) [vp, ve] ∧ l.length ≤ 10 ∧ es.length ≤ 2 ∧ Mk w' m ∧ FrM m.M w w'

set_option maxHeartbeats 4000000 in
set_option maxRecDepth 100000 in
theorem outline_any (N0 : Nat) (m : MkC) (w : World) (h : Mk w m) (hN : N0 ≤ m.M) :
    Calls Try.prog 49 #[.pointer (some ⟨m.M, 0, none⟩)] w (OutPost N0 m w) := by
  obtain ⟨i0, hi, hz0, hz1, hz2⟩ := info_parts point_info
  obtain ⟨i1, ji, jz0, jz1, jz2⟩ := info_parts intM_info
  have hMl := h.lt
  have HMK := Lib.hid h
  clear h
  go_enter Try.func49, Try.ntmps49
  go_wp2_with fail
  obtain ⟨w0, hw0⟩ : ∃ w0, w0 = w.alloc (.cells #[.slice none 0 0, .slice none 0 0] 68) := ⟨_, rfl⟩
  have hz : w0.heap.size = w.heap.size + 1 := by rw [hw0]; simp
  have hmk0 : Mk (w0.alloc (.cells #[.slice none 0 0, .slice none 0 0] 68)) m := by
    obtain ⟨at_, ha, hs, hBM, hb, xs, hr, hx⟩ := HMK.out
    rw [hw0]
    exact ⟨at_, ha, hs, hBM, (hb.alloc _).alloc _, xs, (hr.alloc (by omega) _).alloc (by simp; omega) _, hx⟩
  have hres : Blk w0 w.heap.size 68 #[.slice none 0 0, .slice none 0 0] := by rw [hw0]; exact Blk.new _ _ _
  have hout : OutI N0 m w0 (w.heap.size + 1) (w0.alloc (.cells #[.slice none 0 0, .slice none 0 0] 68)) (.slice none 0 0) (.slice none 0 0) [] [] :=
    ⟨Blk.new_at _ _ _ (by omega), OwnAt.nil _ _ _ _, OwnAt.nil _ _ _ _, hmk0, (Fr.refl _ _).alloc _, by omega, hN, by omega⟩
  have hfw : FrM m.M w w0 := by rw [hw0]; exact (Fr.refl _ _).alloc _
  rw [← hw0]
  have HOUT := Lib.hid hout
  have HRES := Lib.hid hres
  clear hw0 hout hmk0
  refine (next_any _ m 3 HOUT.out.hmk (by omega) (by omega)).mono ?_
  rintro e w1 ⟨n, hn0, hn1, rfl, hmk1, hfr1, -⟩
  have hout1 := HOUT.out.next hmk1 hfr1
  have HI : Hid (OutSome N0 m w0 (w.heap.size + 1) 0 0 w1) := ⟨_, _, _, _, hout1, by simp, by simp⟩
  clear HOUT hout1 hmk1 hfr1
  go_wp2_with fail
  go_loopw [5] (fun i wr => ∃ k : Nat, k ≤ n.toNat ∧ i = .int .i64 k ∧ OutSome N0 m w0 (w.heap.size + 1) (5 * k) k wr) (fun i _ => n.toNat - (intOf i).toNat)
  case atStart => exact ⟨0, by omega, rfl, HI.out⟩
  case round =>
    clear HI
    obtain ⟨k, hk, rfl, hso⟩ := hrel
    obtain ⟨vp, ve, l, es, hoi, hl, he⟩ := hso
    have HOI := Lib.hid hoi
    clear hoi
    by_cases hlt : (k : Int) < n
    · go_wp2_with fail
      refine (next_any _ m 4 HOI.out.hmk (by omega) (by omega)).mono ?_
      rintro e w2 ⟨q, hq0, hq1, rfl, hmk2, hfr2, -⟩
      have hout2 := HOI.out.next hmk2 hfr2
      have HI : Hid (OutSome N0 m w0 (w.heap.size + 1) (5 * k) k w2) := ⟨_, _, _, _, hout2, hl, he⟩
      clear HOI hmk2 hfr2 hout2 hl he
      go_wp2_with fail
      go_loopw [7] (fun i wr => ∃ p : Nat, p ≤ (2 + q).toNat ∧ i = .int .i64 p ∧ OutSome N0 m w0 (w.heap.size + 1) (5 * k + p) k wr) (fun i _ => (2 + q).toNat - (intOf i).toNat)
      case atStart => exact ⟨0, by omega, rfl, HI.out⟩
      case round =>
        clear HI
        obtain ⟨p, hp, rfl, hso⟩ := hrel
        obtain ⟨vp, ve, l, es, hoi, hl, he⟩ := hso
        by_cases hplt : (p : Int) < 2 + q
        · go_upto_block 3 with (fail)
          go_cut [] (fun wx => OutSome N0 m w0 (w.heap.size + 1) (5 * k + p + 1) k wx)
          case first =>
            have hoid := hoi.drew
            have hS : wr.drew.cell? ⟨w.heap.size + 1, 0, none⟩ = some vp := by rw [hoid.box.cell]; rfl
            have hll : l.length ≤ 100 := by omega
            have hw0z : w0.heap.size ≤ wr.heap.size := hoi.fr.size
            by_cases hp0 : p = 0
            · subst hp0
              go_wp2_with fail
              refine wp_region_seq (fun i => !([3, 7, 18, 19, 21] : List Nat).contains i) (fun i => ([1] : List Nat).contains i) (fun i => ([3, 7, 18] : List Nat).contains i) [0, 1, 2, 6, 10, 11, 3, 4, 5, 7, 8, 9, 12, 13, 14, 15, 16, 17, 18, 19, 20, 21] (fun w' => w'.cell? ⟨w.heap.size + 1, 0, none⟩ = some vp) (by kernel_rfl) (by kernel_rfl) (by kernel_rfl) (by kernel_rfl) ?_
              refine wpSeq_pure (v := _) rfl rfl rfl (by kernel_rfl) (fun _ _ _ h => h) (fun wq => by first | (go_simp; done) | (go_simp; rfl)) ?_
              refine wpSeq_load (v := _) rfl rfl (by kernel_rfl) (fun _ _ _ h => h) hS rfl (fun wq hq => by (try dsimp only at hq); first | (go_simp; done) | (go_simp; rfl)) ?_
              refine wpSeq_pure (v := _) rfl rfl rfl (by kernel_rfl) (fun _ _ _ h => h) (fun wq => by first | (go_simp; done) | (go_simp; rfl)) ?_
              refine wpSeq_pure (v := _) rfl rfl rfl (by kernel_rfl) (fun _ _ _ h => h) (fun wq => by first | (go_simp; done) | (go_simp; rfl)) ?_
              refine wpSeq_pure (v := _) rfl rfl rfl (by kernel_rfl) (fun _ _ _ h => h) (fun wq => by first | (go_simp; done) | (go_simp; rfl)) ?_
              refine wpSeq_pure (v := _) rfl rfl rfl (by kernel_rfl) (fun _ _ _ h => h) (fun wq => by first | (go_simp; done) | (go_simp; rfl)) ?_
              refine wpSeq_heavy rfl rfl (fun K hK => ?_); go_simp
              refine (next_any _ m _ hoid.hmk (by omega) (by omega)).mono ?_
              rintro e wn1 ⟨r1, hr1a, hr1b, rfl, hmk1, hfr1, -⟩
              have ho1 := hoid.next hmk1 hfr1
              have hS : wn1.cell? ⟨w.heap.size + 1, 0, none⟩ = some vp := by rw [ho1.box.cell]; rfl
              dsimp only
              refine hK _ _ (fun _ => hS) ?_; clear hK K
              refine wpSeq_pure (v := _) rfl rfl rfl (by kernel_rfl) (fun _ _ _ h => h) (fun wq => by first | (go_simp; done) | (go_simp; rfl)) ?_
              refine wpSeq_pure (v := _) rfl rfl rfl (by kernel_rfl) (fun _ _ _ h => h) (fun wq => by first | (go_simp; done) | (go_simp; rfl)) ?_
              refine wpSeq_heavy rfl rfl (fun K hK => ?_); go_simp
              refine (next_any _ m _ ho1.hmk (by omega) (by omega)).mono ?_
              rintro e wn2 ⟨r2, hr2a, hr2b, rfl, hmk2, hfr2, -⟩
              have ho2 := ho1.next hmk2 hfr2
              have hS : wn2.cell? ⟨w.heap.size + 1, 0, none⟩ = some vp := by rw [ho2.box.cell]; rfl
              dsimp only
              refine hK _ _ (fun _ => hS) ?_; clear hK K
              refine wpSeq_pure (v := _) rfl rfl rfl (by kernel_rfl) (fun _ _ _ h => h) (fun wq => by first | (go_simp; done) | (go_simp; rfl)) ?_
              refine wpSeq_pure (v := _) rfl rfl rfl (by kernel_rfl) (fun _ _ _ h => h) (fun wq => by first | (go_simp; done) | (go_simp; rfl)) ?_
              refine wpSeq_pure (v := _) rfl rfl rfl (by kernel_rfl) (fun _ _ _ h => h) (fun wq => by first | (go_simp; done) | (go_simp; rfl)) ?_
              refine wpSeq_skip rfl rfl rfl (by kernel_rfl) (fun _ _ _ h => h) ?_
              refine wpSeq_skip rfl rfl rfl (by kernel_rfl) (fun _ _ _ h => h) ?_
              refine wpSeq_skip rfl rfl rfl (by kernel_rfl) (fun _ _ _ h => h) ?_
              refine wpSeq_pure (v := _) rfl rfl rfl (by kernel_rfl) (fun _ _ _ h => h) (fun wq => by first | (go_simp; done) | (go_simp; rfl)) ?_
              refine wpSeq_pure (v := _) rfl rfl rfl (by kernel_rfl) (fun _ _ _ h => h) (fun wq => by first | (go_simp; done) | (go_simp; rfl)) ?_
              refine wpSeq_heavy rfl rfl (fun K hK => ?_); go_simp
              refine hK _ _ (fun _ => by rw [(ho2.alloc _).box.cell]; rfl) ?_; clear hK K
              refine wpSeq_heavy rfl rfl (fun K hK => ?_)
              refine step_push _ rfl (.tmp 24) (.tmp 41) _ rfl (pointR N0) w0.heap.size 148 i0 _ 24 Try.underlying66 hi hz0 hz1 hz2 rfl (show 0 < 3 by decide) (by simp [pointR, Repr.pair, Repr.int, Repr.bool]) (by omega) vp l rfl (ho2.alloc _).pts wn2.heap.size _ _ rfl (Blk.new _ _ _) (pointR_mk _ _ _ _ _ _ (i64_wrap _) (i64_wrap _)) (by unfold maxLen; omega) (by omega) (by simp; have := ho2.fr.size; omega) ?_
              intro A' c' w3 hown3 hg3
              obtain ⟨hbb, hoo⟩ := ho2.push hown3 hg3
              have b0 := hbb.cell 0
              have b1 := hbb.frozen 0
              have b2 := hbb.lt
              simp only [List.getElem?_toArray, List.getElem?_cons_zero] at b0
              refine hK _ _ (fun h => by cases h) ?_; clear hK K
              refine wpSeq_pure (v := _) rfl rfl rfl (by kernel_rfl) (fun _ _ _ h => h) (fun wq => by first | (go_simp; done) | (go_simp; rfl)) ?_
              refine wpSeq_heavy rfl rfl (fun K hK => ?_); go_simp
              refine hK _ _ (fun h => by cases h) ?_; clear hK K
              refine wpSeq_end ?_
              go_wp2_with fail
              go_meet
              exact ⟨_, _, _, _, hoo, by simp; omega, he⟩
            · have hpb : ((p : Int) == 0) = false := by simpa using (by omega : ¬ (p : Int) = 0)
              go_wp2_with fail
              refine wp_region_seq (fun i => !([3, 7, 14, 18, 19, 21] : List Nat).contains i) (fun i => ([1] : List Nat).contains i) (fun i => ([3, 7, 14, 18] : List Nat).contains i) [0, 1, 2, 6, 10, 11, 3, 4, 5, 7, 8, 9, 12, 13, 14, 15, 16, 17, 18, 19, 20, 21] (fun w' => w'.cell? ⟨w.heap.size + 1, 0, none⟩ = some vp) (by kernel_rfl) (by kernel_rfl) (by kernel_rfl) (by kernel_rfl) ?_
              refine wpSeq_pure (v := _) rfl rfl rfl (by kernel_rfl) (fun _ _ _ h => h) (fun wq => by first | (go_simp; done) | (go_simp; rfl)) ?_
              refine wpSeq_load (v := _) rfl rfl (by kernel_rfl) (fun _ _ _ h => h) hS rfl (fun wq hq => by (try dsimp only at hq); first | (go_simp; done) | (go_simp; rfl)) ?_
              refine wpSeq_pure (v := _) rfl rfl rfl (by kernel_rfl) (fun _ _ _ h => h) (fun wq => by first | (go_simp; done) | (go_simp; rfl)) ?_
              refine wpSeq_pure (v := _) rfl rfl rfl (by kernel_rfl) (fun _ _ _ h => h) (fun wq => by first | (go_simp; done) | (go_simp; rfl)) ?_
              refine wpSeq_pure (v := _) rfl rfl rfl (by kernel_rfl) (fun _ _ _ h => h) (fun wq => by first | (go_simp; done) | (go_simp; rfl)) ?_
              refine wpSeq_pure (v := _) rfl rfl rfl (by kernel_rfl) (fun _ _ _ h => h) (fun wq => by first | (go_simp; done) | (go_simp; rfl)) ?_
              refine wpSeq_heavy rfl rfl (fun K hK => ?_); go_simp
              refine (next_any _ m _ hoid.hmk (by omega) (by omega)).mono ?_
              rintro e wn1 ⟨r1, hr1a, hr1b, rfl, hmk1, hfr1, -⟩
              have ho1 := hoid.next hmk1 hfr1
              have hS : wn1.cell? ⟨w.heap.size + 1, 0, none⟩ = some vp := by rw [ho1.box.cell]; rfl
              dsimp only
              refine hK _ _ (fun _ => hS) ?_; clear hK K
              refine wpSeq_pure (v := _) rfl rfl rfl (by kernel_rfl) (fun _ _ _ h => h) (fun wq => by first | (go_simp; done) | (go_simp; rfl)) ?_
              refine wpSeq_pure (v := _) rfl rfl rfl (by kernel_rfl) (fun _ _ _ h => h) (fun wq => by first | (go_simp; done) | (go_simp; rfl)) ?_
              refine wpSeq_heavy rfl rfl (fun K hK => ?_); go_simp
              refine (next_any _ m _ ho1.hmk (by omega) (by omega)).mono ?_
              rintro e wn2 ⟨r2, hr2a, hr2b, rfl, hmk2, hfr2, -⟩
              have ho2 := ho1.next hmk2 hfr2
              have hS : wn2.cell? ⟨w.heap.size + 1, 0, none⟩ = some vp := by rw [ho2.box.cell]; rfl
              dsimp only
              refine hK _ _ (fun _ => hS) ?_; clear hK K
              refine wpSeq_pure (v := _) rfl rfl rfl (by kernel_rfl) (fun _ _ _ h => h) (fun wq => by first | (go_simp; done) | (go_simp; rfl)) ?_
              refine wpSeq_pure (v := _) rfl rfl rfl (by kernel_rfl) (fun _ _ _ h => h) (fun wq => by first | (go_simp; done) | (go_simp; rfl)) ?_
              refine wpSeq_pure (v := _) rfl rfl rfl (by kernel_rfl) (fun _ _ _ h => h) (fun wq => by first | (go_simp; done) | (go_simp; rfl)) ?_
              refine wpSeq_pure (v := _) rfl rfl rfl (by kernel_rfl) (fun _ _ _ h => h) (fun wq => by first | (go_simp; done) | (go_simp; rfl)) ?_
              refine wpSeq_heavy rfl rfl (fun K hK => ?_); go_simp
              refine (next_any _ m _ ho2.hmk (by omega) (by omega)).mono ?_
              rintro e wn3 ⟨r3, hr3a, hr3b, rfl, hmk3, hfr3, -⟩
              have ho3 := ho2.next hmk3 hfr3
              have hS : wn3.cell? ⟨w.heap.size + 1, 0, none⟩ = some vp := by rw [ho3.box.cell]; rfl
              dsimp only
              refine hK _ _ (fun _ => hS) ?_; clear hK K
              refine wpSeq_pure (v := _) rfl rfl rfl (by kernel_rfl) (fun _ _ _ h => h) (fun wq => by first | (go_simp; done) | (go_simp; rfl)) ?_
              refine wpSeq_pure (v := _) rfl rfl rfl (by kernel_rfl) (fun _ _ _ h => h) (fun wq => by first | (go_simp; done) | (go_simp; rfl)) ?_
              refine wpSeq_pure (v := _) rfl rfl rfl (by kernel_rfl) (fun _ _ _ h => h) (fun wq => by first | (go_simp; done) | (go_simp; rfl)) ?_
              refine wpSeq_heavy rfl rfl (fun K hK => ?_); go_simp
              refine hK _ _ (fun _ => by rw [(ho3.alloc _).box.cell]; rfl) ?_; clear hK K
              refine wpSeq_heavy rfl rfl (fun K hK => ?_)
              refine step_push _ rfl (.tmp 24) (.tmp 41) _ rfl (pointR N0) w0.heap.size 148 i0 _ 24 Try.underlying66 hi hz0 hz1 hz2 rfl (show 0 < 3 by decide) (by simp [pointR, Repr.pair, Repr.int, Repr.bool]) (by omega) vp l rfl (ho3.alloc _).pts wn3.heap.size _ _ rfl (Blk.new _ _ _) (pointR_mk _ _ _ _ _ _ (i64_wrap _) (i64_wrap _)) (by unfold maxLen; omega) (by omega) (by simp; have := ho3.fr.size; omega) ?_
              intro A' c' w3 hown3 hg3
              obtain ⟨hbb, hoo⟩ := ho3.push hown3 hg3
              have b0 := hbb.cell 0
              have b1 := hbb.frozen 0
              have b2 := hbb.lt
              simp only [List.getElem?_toArray, List.getElem?_cons_zero] at b0
              refine hK _ _ (fun h => by cases h) ?_; clear hK K
              refine wpSeq_pure (v := _) rfl rfl rfl (by kernel_rfl) (fun _ _ _ h => h) (fun wq => by first | (go_simp; done) | (go_simp; rfl)) ?_
              refine wpSeq_heavy rfl rfl (fun K hK => ?_); go_simp
              refine hK _ _ (fun h => by cases h) ?_; clear hK K
              refine wpSeq_end ?_
              go_wp2_with fail
              go_meet
              exact ⟨_, _, _, _, hoo, by simp; omega, he⟩
          case rest =>
            go_wp2_with fail
            go_roundw
            case rel => exact ⟨p + 1, by omega, by go_num, hcut⟩
            case measure => simp [intOf]; omega
        · have hpe : (p : Int) = 2 + q := by omega
          have hl2 : l.length ≤ 100 := by omega
          obtain ⟨A1, c1, rfl, _, _, _⟩ := hoi.pts.form
          have x0 := hoi.box.cell 0
          have x1 := hoi.box.cell 1
          have x2 := hoi.box.lt
          have x3 := hoi.fr.size
          have hM := hoi.hM
          simp only [List.getElem?_toArray, List.getElem?_cons_zero, List.getElem?_cons_succ] at x0 x1
          have HOI := Lib.hid hoi
          have HPE := Lib.hid hpe
          clear hoi hpe
          go_wp2_with (at_builtin; refine wpList_push _ rfl (.tmp 45) (.tmp 50) _ rfl (Repr.int (N0 := N0)) w0.heap.size 3 i1 _ 8 Try.underlying43 ji jz0 jz1 jz2 rfl (show 0 < 1 by decide) (by simp [Repr.int]) (by omega) ve es rfl (HOI.out.alloc _).ends wr.heap.size [_] ((l.length : Int) - 1) rfl (Blk.new _ _ _) ⟨rfl, (by unfold I64; omega)⟩ (by unfold maxLen; omega) (by omega) (by simp; omega) ?_; intro A' c' w3 hown3 hg3; obtain ⟨hbb, hoo⟩ := HOI.out.pushE hown3 hg3; have b0 := hbb.cell 1; have b1 := hbb.frozen 1; have b2 := hbb.lt; simp only [List.getElem?_toArray, List.getElem?_cons_zero, List.getElem?_cons_succ] at b0; have HOO := Lib.hid hoo; clear hoo hbb hown3)
          exact ⟨⟨k + 1, by omega, by go_num, ⟨_, _, _, _, HOO.out, by omega, by simp; omega⟩⟩, by simp [intOf]; omega⟩
    · obtain ⟨A1, c1, rfl, e1, e2, e3⟩ := HOI.out.pts.form
      obtain ⟨A2, c2, rfl, f1, f2, f3⟩ := HOI.out.ends.form
      have x := HOI.out.box.cell
      have x2 := HOI.out.box.lt
      have hfr := HOI.out.fr
      have hrb := hfr.blk HRES.out (by omega)
      have y := hrb.cell
      have z := hrb.frozen
      have y2 := hrb.lt
      have hM := HOI.out.hM
      have hnk : w.heap.size + 1 ≠ w.heap.size := by omega
      have HRB := Lib.hid hrb
      clear hrb hres
      go_wp2
      refine bodyPost_ret (v := .agg #[.slice A1 l.length c1, .slice A2 es.length c2]) (by simp [results, Try.results49, go_sem, y]) rfl ?_
      have hrb' := HRB.out
      refine ⟨_, _, l, es, rfl, ?_, by omega, by omega, ?_, ?_⟩
      · have hrel : (outlineR N0).rel wr wr.heap.size (l, es) [.slice A1 l.length c1, .slice A2 es.length c2] := ⟨[_], [_], rfl, ⟨_, _, rfl, e1, e2, e3⟩, ⟨_, _, rfl, f1, f2, f3⟩⟩
        have hb1 := hrb'.set_ 0 (.slice A1 l.length c1)
        rw [size_setCell, size_setCell]
        exact (outlineR N0).setCell ((outlineR N0).setCell hrel hrb' (by simp [outlineR, pointR, intsR, Repr.row, Repr.pair, Repr.int, Repr.bool]) (by omega) 0 _) hb1 (by simp [outlineR, pointR, intsR, Repr.row, Repr.pair, Repr.int, Repr.bool]) (by omega) 1 _
      · exact (HOI.out.hmk.setCell (by simp; omega) _).setCell (by simp; omega) _
      · exact ((hfw.trans hfr).setCell (.inr (by simp)) _).setCell (.inr (by simp)) _
end Go.Proofs.Ytgklchhgpnoliaa

/- fleuronref07's maker: an outline, its contract. · fleuronref07.piece. · fleuronref07's maker: hint, set, row. · fleuronref07's maker: a rule while it is made. -/
import Derived.Test.YtnalbkjbidaojaaMkA
import Derived.Test.YtnalbkjbidaojaaSeqs
import Derived.Deep.CutBlock
namespace Go.Proofs.Ytnalbkjbidaojaa
open Go.RowKit

def OutSome (N0 : Nat) (m : MkC) (w0 : World) (ob a b : Nat) (wx : World) : Prop := ∃ vp ve l es, OutI N0 m w0 ob wx vp ve l es ∧ l.length ≤ a ∧ es.length ≤ b
def OutPost (N0 : Nat) (m : MkC) (w : World) (e : Ending) (w' : World) : Prop :=
  ∃ vp ve l es, e = .returned (.agg #[vp, ve]) ∧ (outlineR N0).rel w' w'.heap.size (l, es) [vp, ve] ∧ l.length ≤ 10 ∧ es.length ≤ 2 ∧ Mk w' m ∧ FrM m.M w w'

set_option maxHeartbeats 4000000 in
set_option maxRecDepth 100000 in
theorem outline_any (N0 : Nat) (m : MkC) (w : World) (h : Mk w m) (hN : N0 ≤ m.M) :
    Calls Try.prog 52 #[.pointer (some ⟨m.M, 0, none⟩)] w (OutPost N0 m w) := by
  obtain ⟨i0, hi, hz0, hz1, hz2⟩ := info_parts point_info
  obtain ⟨i1, ji, jz0, jz1, jz2⟩ := info_parts intM_info
  have hMl := h.lt
  have HMK := Lib.hid h
  clear h
  go_enter Try.func52, Try.ntmps52
  go_wp2_with fail
  obtain ⟨w0, hw0⟩ : ∃ w0, w0 = w.alloc (.cells #[.slice none 0 0, .slice none 0 0] 32) := ⟨_, rfl⟩
  have hz : w0.heap.size = w.heap.size + 1 := by rw [hw0]; simp
  have hmk0 : Mk (w0.alloc (.cells #[.slice none 0 0, .slice none 0 0] 32)) m := by
    obtain ⟨at_, ha, hs, hBM, hb, xs, hr, hx⟩ := HMK.out
    rw [hw0]
    exact ⟨at_, ha, hs, hBM, (hb.alloc _).alloc _, xs, (hr.alloc (by omega) _).alloc (by simp; omega) _, hx⟩
  have hres : Blk w0 w.heap.size 32 #[.slice none 0 0, .slice none 0 0] := by rw [hw0]; exact Blk.new _ _ _
  have hout : OutI N0 m w0 (w.heap.size + 1) (w0.alloc (.cells #[.slice none 0 0, .slice none 0 0] 32)) (.slice none 0 0) (.slice none 0 0) [] [] :=
    ⟨Blk.new_at _ _ _ (by omega), OwnAt.nil _ _ _ _, OwnAt.nil _ _ _ _, hmk0, (Fr.refl _ _).alloc _, by omega, hN, by omega⟩
  have hfw : FrM m.M w w0 := by rw [hw0]; exact (Fr.refl _ _).alloc _
  rw [← hw0]
  have HOUT := Lib.hid hout
  have HRES := Lib.hid hres
  clear hw0 hout hmk0
  refine (mkNext_any _ m 3 HOUT.out.hmk (by omega) (by omega)).mono ?_
  rintro e w1 ⟨n, hn0, hn1, rfl, hmk1, hfr1, -⟩
  have hout1 := HOUT.out.next hmk1 hfr1
  have HI : Hid (OutSome N0 m w0 (w.heap.size + 1) 0 0 w1) := ⟨_, _, _, _, hout1, by simp, by simp⟩
  clear HOUT hout1 hmk1 hfr1
  go_wp2_with fail
  go_loopw [5] (fun i wr => ∃ k : Nat, k ≤ n.toNat ∧ i = .int .i64 k ∧ OutSome N0 m w0 (w.heap.size + 1) (5 * k) k wr) (fun i _ => n.toNat - (intOf i).toNat)
  case atStart => exact ⟨0, by omega, rfl, HI.out⟩
  case round =>
    clear HI
    obtain ⟨k, hk, rfl, hso⟩ := hrel
    obtain ⟨vp, ve, l, es, hoi, hl, he⟩ := hso
    have HOI := Lib.hid hoi
    clear hoi
    by_cases hlt : (k : Int) < n
    · go_wp2_with fail
      refine (mkNext_any _ m 4 HOI.out.hmk (by omega) (by omega)).mono ?_
      rintro e w2 ⟨q, hq0, hq1, rfl, hmk2, hfr2, -⟩
      have hout2 := HOI.out.next hmk2 hfr2
      have HI : Hid (OutSome N0 m w0 (w.heap.size + 1) (5 * k) k w2) := ⟨_, _, _, _, hout2, hl, he⟩
      clear HOI hmk2 hfr2 hout2 hl he
      go_wp2_with fail
      go_loopw [7] (fun i wr => ∃ p : Nat, p ≤ (2 + q).toNat ∧ i = .int .i64 p ∧ OutSome N0 m w0 (w.heap.size + 1) (5 * k + p) k wr) (fun i _ => (2 + q).toNat - (intOf i).toNat)
      case atStart => exact ⟨0, by omega, rfl, HI.out⟩
      case round =>
        clear HI
        obtain ⟨p, hp, rfl, hso⟩ := hrel
        obtain ⟨vp, ve, l, es, hoi, hl, he⟩ := hso
        by_cases hplt : (p : Int) < 2 + q
        · go_upto_block 3 with (fail)
          go_cut [] (fun wx => OutSome N0 m w0 (w.heap.size + 1) (5 * k + p + 1) k wx)
          case first =>
            have hoid := hoi.drew
            have hS : wr.drew.cell? ⟨w.heap.size + 1, 0, none⟩ = some vp := by rw [hoid.box.cell]; rfl
            have hll : l.length ≤ 100 := by omega
            have hw0z : w0.heap.size ≤ wr.heap.size := hoi.fr.size
            by_cases hp0 : p = 0
            · subst hp0
              go_wp2_with fail
              refine wp_region_seq (fun i => !([3, 7, 18, 19, 21] : List Nat).contains i) (fun i => ([1] : List Nat).contains i) (fun i => ([3, 7, 18] : List Nat).contains i) [0, 1, 2, 6, 10, 11, 3, 4, 5, 7, 8, 9, 12, 13, 14, 15, 16, 17, 18, 19, 20, 21] (fun w' => w'.cell? ⟨w.heap.size + 1, 0, none⟩ = some vp) (by kernel_rfl) (by kernel_rfl) (by kernel_rfl) (by kernel_rfl) ?_
              refine wpSeq_pure (v := _) rfl rfl rfl (by kernel_rfl) (fun _ _ _ h => h) (fun wq => by first | (go_simp; done) | (go_simp; rfl)) ?_
              refine wpSeq_load (v := _) rfl rfl (by kernel_rfl) (fun _ _ _ h => h) hS rfl (fun wq hq => by (try dsimp only at hq); first | (go_simp; done) | (go_simp; rfl)) ?_
              refine wpSeq_pure (v := _) rfl rfl rfl (by kernel_rfl) (fun _ _ _ h => h) (fun wq => by first | (go_simp; done) | (go_simp; rfl)) ?_
              refine wpSeq_pure (v := _) rfl rfl rfl (by kernel_rfl) (fun _ _ _ h => h) (fun wq => by first | (go_simp; done) | (go_simp; rfl)) ?_
              refine wpSeq_pure (v := _) rfl rfl rfl (by kernel_rfl) (fun _ _ _ h => h) (fun wq => by first | (go_simp; done) | (go_simp; rfl)) ?_
              refine wpSeq_pure (v := _) rfl rfl rfl (by kernel_rfl) (fun _ _ _ h => h) (fun wq => by first | (go_simp; done) | (go_simp; rfl)) ?_
              refine wpSeq_heavy rfl rfl (fun K hK => ?_); go_simp
              refine (mkNext_any _ m _ hoid.hmk (by omega) (by omega)).mono ?_
              rintro e wn1 ⟨r1, hr1a, hr1b, rfl, hmk1, hfr1, -⟩
              have ho1 := hoid.next hmk1 hfr1
              have hS : wn1.cell? ⟨w.heap.size + 1, 0, none⟩ = some vp := by rw [ho1.box.cell]; rfl
              dsimp only
              refine hK _ _ (fun _ => hS) ?_; clear hK K
              refine wpSeq_pure (v := _) rfl rfl rfl (by kernel_rfl) (fun _ _ _ h => h) (fun wq => by first | (go_simp; done) | (go_simp; rfl)) ?_
              refine wpSeq_pure (v := _) rfl rfl rfl (by kernel_rfl) (fun _ _ _ h => h) (fun wq => by first | (go_simp; done) | (go_simp; rfl)) ?_
              refine wpSeq_heavy rfl rfl (fun K hK => ?_); go_simp
              refine (mkNext_any _ m _ ho1.hmk (by omega) (by omega)).mono ?_
              rintro e wn2 ⟨r2, hr2a, hr2b, rfl, hmk2, hfr2, -⟩
              have ho2 := ho1.next hmk2 hfr2
              have hS : wn2.cell? ⟨w.heap.size + 1, 0, none⟩ = some vp := by rw [ho2.box.cell]; rfl
              dsimp only
              refine hK _ _ (fun _ => hS) ?_; clear hK K
              refine wpSeq_pure (v := _) rfl rfl rfl (by kernel_rfl) (fun _ _ _ h => h) (fun wq => by first | (go_simp; done) | (go_simp; rfl)) ?_
              refine wpSeq_pure (v := _) rfl rfl rfl (by kernel_rfl) (fun _ _ _ h => h) (fun wq => by first | (go_simp; done) | (go_simp; rfl)) ?_
              refine wpSeq_pure (v := _) rfl rfl rfl (by kernel_rfl) (fun _ _ _ h => h) (fun wq => by first | (go_simp; done) | (go_simp; rfl)) ?_
              refine wpSeq_skip rfl rfl rfl (by kernel_rfl) (fun _ _ _ h => h) ?_
              refine wpSeq_skip rfl rfl rfl (by kernel_rfl) (fun _ _ _ h => h) ?_
              refine wpSeq_skip rfl rfl rfl (by kernel_rfl) (fun _ _ _ h => h) ?_
              refine wpSeq_pure (v := _) rfl rfl rfl (by kernel_rfl) (fun _ _ _ h => h) (fun wq => by first | (go_simp; done) | (go_simp; rfl)) ?_
              refine wpSeq_pure (v := _) rfl rfl rfl (by kernel_rfl) (fun _ _ _ h => h) (fun wq => by first | (go_simp; done) | (go_simp; rfl)) ?_
              refine wpSeq_heavy rfl rfl (fun K hK => ?_); go_simp
              refine hK _ _ (fun _ => by rw [(ho2.alloc _).box.cell]; rfl) ?_; clear hK K
              refine wpSeq_heavy rfl rfl (fun K hK => ?_)
              refine step_push _ rfl (.tmp 24) (.tmp 41) _ rfl (pointR N0) w0.heap.size 61 i0 _ 24 Try.underlying29 hi hz0 hz1 hz2 rfl (show 0 < 3 by decide) (by simp [pointR, Repr.pair, Repr.int, Repr.bool]) (by omega) vp l rfl (ho2.alloc _).pts wn2.heap.size _ _ rfl (Blk.new _ _ _) (pointR_mk _ _ _ _ _ _ (i64_wrap _) (i64_wrap _)) (by unfold maxLen; omega) (by omega) (by simp; have := ho2.fr.size; omega) ?_
              intro A' c' w3 hown3 hg3
              obtain ⟨hbb, hoo⟩ := ho2.push hown3 hg3
              have b0 := hbb.cell 0
              have b1 := hbb.frozen 0
              have b2 := hbb.lt
              simp only [List.getElem?_toArray, List.getElem?_cons_zero] at b0
              refine hK _ _ (fun h => by cases h) ?_; clear hK K
              refine wpSeq_pure (v := _) rfl rfl rfl (by kernel_rfl) (fun _ _ _ h => h) (fun wq => by first | (go_simp; done) | (go_simp; rfl)) ?_
              refine wpSeq_heavy rfl rfl (fun K hK => ?_); go_simp
              refine hK _ _ (fun h => by cases h) ?_; clear hK K
              refine wpSeq_end ?_
              go_wp2_with fail
              go_meet
              exact ⟨_, _, _, _, hoo, by simp; omega, he⟩
            · have hpb : ((p : Int) == 0) = false := by simpa using (by omega : ¬ (p : Int) = 0)
              go_wp2_with fail
              refine wp_region_seq (fun i => !([3, 7, 14, 18, 19, 21] : List Nat).contains i) (fun i => ([1] : List Nat).contains i) (fun i => ([3, 7, 14, 18] : List Nat).contains i) [0, 1, 2, 6, 10, 11, 3, 4, 5, 7, 8, 9, 12, 13, 14, 15, 16, 17, 18, 19, 20, 21] (fun w' => w'.cell? ⟨w.heap.size + 1, 0, none⟩ = some vp) (by kernel_rfl) (by kernel_rfl) (by kernel_rfl) (by kernel_rfl) ?_
              refine wpSeq_pure (v := _) rfl rfl rfl (by kernel_rfl) (fun _ _ _ h => h) (fun wq => by first | (go_simp; done) | (go_simp; rfl)) ?_
              refine wpSeq_load (v := _) rfl rfl (by kernel_rfl) (fun _ _ _ h => h) hS rfl (fun wq hq => by (try dsimp only at hq); first | (go_simp; done) | (go_simp; rfl)) ?_
              refine wpSeq_pure (v := _) rfl rfl rfl (by kernel_rfl) (fun _ _ _ h => h) (fun wq => by first | (go_simp; done) | (go_simp; rfl)) ?_
              refine wpSeq_pure (v := _) rfl rfl rfl (by kernel_rfl) (fun _ _ _ h => h) (fun wq => by first | (go_simp; done) | (go_simp; rfl)) ?_
              refine wpSeq_pure (v := _) rfl rfl rfl (by kernel_rfl) (fun _ _ _ h => h) (fun wq => by first | (go_simp; done) | (go_simp; rfl)) ?_
              refine wpSeq_pure (v := _) rfl rfl rfl (by kernel_rfl) (fun _ _ _ h => h) (fun wq => by first | (go_simp; done) | (go_simp; rfl)) ?_
              refine wpSeq_heavy rfl rfl (fun K hK => ?_); go_simp
              refine (mkNext_any _ m _ hoid.hmk (by omega) (by omega)).mono ?_
              rintro e wn1 ⟨r1, hr1a, hr1b, rfl, hmk1, hfr1, -⟩
              have ho1 := hoid.next hmk1 hfr1
              have hS : wn1.cell? ⟨w.heap.size + 1, 0, none⟩ = some vp := by rw [ho1.box.cell]; rfl
              dsimp only
              refine hK _ _ (fun _ => hS) ?_; clear hK K
              refine wpSeq_pure (v := _) rfl rfl rfl (by kernel_rfl) (fun _ _ _ h => h) (fun wq => by first | (go_simp; done) | (go_simp; rfl)) ?_
              refine wpSeq_pure (v := _) rfl rfl rfl (by kernel_rfl) (fun _ _ _ h => h) (fun wq => by first | (go_simp; done) | (go_simp; rfl)) ?_
              refine wpSeq_heavy rfl rfl (fun K hK => ?_); go_simp
              refine (mkNext_any _ m _ ho1.hmk (by omega) (by omega)).mono ?_
              rintro e wn2 ⟨r2, hr2a, hr2b, rfl, hmk2, hfr2, -⟩
              have ho2 := ho1.next hmk2 hfr2
              have hS : wn2.cell? ⟨w.heap.size + 1, 0, none⟩ = some vp := by rw [ho2.box.cell]; rfl
              dsimp only
              refine hK _ _ (fun _ => hS) ?_; clear hK K
              refine wpSeq_pure (v := _) rfl rfl rfl (by kernel_rfl) (fun _ _ _ h => h) (fun wq => by first | (go_simp; done) | (go_simp; rfl)) ?_
              refine wpSeq_pure (v := _) rfl rfl rfl (by kernel_rfl) (fun _ _ _ h => h) (fun wq => by first | (go_simp; done) | (go_simp; rfl)) ?_
              refine wpSeq_pure (v := _) rfl rfl rfl (by kernel_rfl) (fun _ _ _ h => h) (fun wq => by first | (go_simp; done) | (go_simp; rfl)) ?_
              refine wpSeq_pure (v := _) rfl rfl rfl (by kernel_rfl) (fun _ _ _ h => h) (fun wq => by first | (go_simp; done) | (go_simp; rfl)) ?_
              refine wpSeq_heavy rfl rfl (fun K hK => ?_); go_simp
              refine (mkNext_any _ m _ ho2.hmk (by omega) (by omega)).mono ?_
              rintro e wn3 ⟨r3, hr3a, hr3b, rfl, hmk3, hfr3, -⟩
              have ho3 := ho2.next hmk3 hfr3
              have hS : wn3.cell? ⟨w.heap.size + 1, 0, none⟩ = some vp := by rw [ho3.box.cell]; rfl
              dsimp only
              refine hK _ _ (fun _ => hS) ?_; clear hK K
              refine wpSeq_pure (v := _) rfl rfl rfl (by kernel_rfl) (fun _ _ _ h => h) (fun wq => by first | (go_simp; done) | (go_simp; rfl)) ?_
              refine wpSeq_pure (v := _) rfl rfl rfl (by kernel_rfl) (fun _ _ _ h => h) (fun wq => by first | (go_simp; done) | (go_simp; rfl)) ?_
              refine wpSeq_pure (v := _) rfl rfl rfl (by kernel_rfl) (fun _ _ _ h => h) (fun wq => by first | (go_simp; done) | (go_simp; rfl)) ?_
              refine wpSeq_heavy rfl rfl (fun K hK => ?_); go_simp
              refine hK _ _ (fun _ => by rw [(ho3.alloc _).box.cell]; rfl) ?_; clear hK K
              refine wpSeq_heavy rfl rfl (fun K hK => ?_)
              refine step_push _ rfl (.tmp 24) (.tmp 41) _ rfl (pointR N0) w0.heap.size 61 i0 _ 24 Try.underlying29 hi hz0 hz1 hz2 rfl (show 0 < 3 by decide) (by simp [pointR, Repr.pair, Repr.int, Repr.bool]) (by omega) vp l rfl (ho3.alloc _).pts wn3.heap.size _ _ rfl (Blk.new _ _ _) (pointR_mk _ _ _ _ _ _ (i64_wrap _) (i64_wrap _)) (by unfold maxLen; omega) (by omega) (by simp; have := ho3.fr.size; omega) ?_
              intro A' c' w3 hown3 hg3
              obtain ⟨hbb, hoo⟩ := ho3.push hown3 hg3
              have b0 := hbb.cell 0
              have b1 := hbb.frozen 0
              have b2 := hbb.lt
              simp only [List.getElem?_toArray, List.getElem?_cons_zero] at b0
              refine hK _ _ (fun h => by cases h) ?_; clear hK K
              refine wpSeq_pure (v := _) rfl rfl rfl (by kernel_rfl) (fun _ _ _ h => h) (fun wq => by first | (go_simp; done) | (go_simp; rfl)) ?_
              refine wpSeq_heavy rfl rfl (fun K hK => ?_); go_simp
              refine hK _ _ (fun h => by cases h) ?_; clear hK K
              refine wpSeq_end ?_
              go_wp2_with fail
              go_meet
              exact ⟨_, _, _, _, hoo, by simp; omega, he⟩
          case rest =>
            go_wp2_with fail
            go_roundw
            case rel => exact ⟨p + 1, by omega, by go_num, hcut⟩
            case measure => simp [intOf]; omega
        · have hpe : (p : Int) = 2 + q := by omega
          have hl2 : l.length ≤ 100 := by omega
          obtain ⟨A1, c1, rfl, _, _, _⟩ := hoi.pts.form
          have x0 := hoi.box.cell 0
          have x1 := hoi.box.cell 1
          have x2 := hoi.box.lt
          have x3 := hoi.fr.size
          have hM := hoi.hM
          simp only [List.getElem?_toArray, List.getElem?_cons_zero, List.getElem?_cons_succ] at x0 x1
          have HOI := Lib.hid hoi
          have HPE := Lib.hid hpe
          clear hoi hpe
          go_wp2_with (at_builtin; refine wpList_push _ rfl (.tmp 45) (.tmp 50) _ rfl (Repr.int (N0 := N0)) w0.heap.size 3 i1 _ 8 Try.underlying30 ji jz0 jz1 jz2 rfl (show 0 < 1 by decide) (by simp [Repr.int]) (by omega) ve es rfl (HOI.out.alloc _).ends wr.heap.size [_] ((l.length : Int) - 1) rfl (Blk.new _ _ _) ⟨rfl, (by unfold I64; omega)⟩ (by unfold maxLen; omega) (by omega) (by simp; omega) ?_; intro A' c' w3 hown3 hg3; obtain ⟨hbb, hoo⟩ := HOI.out.pushE hown3 hg3; have b0 := hbb.cell 1; have b1 := hbb.frozen 1; have b2 := hbb.lt; simp only [List.getElem?_toArray, List.getElem?_cons_zero, List.getElem?_cons_succ] at b0; have HOO := Lib.hid hoo; clear hoo hbb hown3)
          exact ⟨⟨k + 1, by omega, by go_num, ⟨_, _, _, _, HOO.out, by omega, by simp; omega⟩⟩, by simp [intOf]; omega⟩
    · obtain ⟨A1, c1, rfl, e1, e2, e3⟩ := HOI.out.pts.form
      obtain ⟨A2, c2, rfl, f1, f2, f3⟩ := HOI.out.ends.form
      have x := HOI.out.box.cell
      have x2 := HOI.out.box.lt
      have hfr := HOI.out.fr
      have hrb := hfr.blk HRES.out (by omega)
      have y := hrb.cell
      have z := hrb.frozen
      have y2 := hrb.lt
      have hM := HOI.out.hM
      have hnk : w.heap.size + 1 ≠ w.heap.size := by omega
      have HRB := Lib.hid hrb
      clear hrb hres
      go_wp2
      refine bodyPost_ret (v := .agg #[.slice A1 l.length c1, .slice A2 es.length c2]) (by simp [results, Try.results52, go_sem, y]) rfl ?_
      have hrb' := HRB.out
      refine ⟨_, _, l, es, rfl, ?_, by omega, by omega, ?_, ?_⟩
      · have hrel : (outlineR N0).rel wr wr.heap.size (l, es) [.slice A1 l.length c1, .slice A2 es.length c2] := ⟨[_], [_], rfl, ⟨_, _, rfl, e1, e2, e3⟩, ⟨_, _, rfl, f1, f2, f3⟩⟩
        have hb1 := hrb'.set_ 0 (.slice A1 l.length c1)
        rw [size_setCell, size_setCell]
        exact (outlineR N0).setCell ((outlineR N0).setCell hrel hrb' (by simp [outlineR, pointR, intsR, Repr.row, Repr.pair, Repr.int, Repr.bool]) (by omega) 0 _) hb1 (by simp [outlineR, pointR, intsR, Repr.row, Repr.pair, Repr.int, Repr.bool]) (by omega) 1 _
      · exact (HOI.out.hmk.setCell (by simp; omega) _).setCell (by simp; omega) _
      · exact ((hfw.trans hfr).setCell (.inr (by simp)) _).setCell (.inr (by simp)) _
end Go.Proofs.Ytnalbkjbidaojaa
namespace Go.Proofs.Ytnalbkjbidaojaa
open Go.RowKit

/-- how much an instruction weighs, if a call weighs M, and a loop L -/
def wtI (M L : Nat) (x : Int × Int) : Nat := if x.1 = 37 then M else if x.1 = 38 then L else 1
def wt (M L : Nat) : List (Int × Int) → Nat
  | [] => 0
  | x :: r => wtI M L x + wt M L r
theorem wt_append (M L : Nat) : ∀ (l k : List (Int × Int)), wt M L (l ++ k) = wt M L l + wt M L k
  | [], k => by simp [wt]
  | x :: r, k => by rw [List.cons_append, wt, wt, wt_append M L r k]; omega
def plainB (l : List (Int × Int)) : Bool := l.all fun x => x.1 != 37 && x.1 != 38
theorem plain_at {l : List (Int × Int)} (h : plainB l = true) : ∀ x ∈ l, x.1 ≠ 37 ∧ x.1 ≠ 38 := fun x hx => by
  have := List.all_eq_true.1 h x hx
  simpa using this
theorem plain_wt (M L : Nat) : ∀ (l : List (Int × Int)), (∀ x ∈ l, x.1 ≠ 37 ∧ x.1 ≠ 38) → wt M L l = l.length
  | [], _ => rfl
  | x :: r, h => by
    have h1 := h x List.mem_cons_self
    rw [wt, wtI, if_neg h1.1, if_neg h1.2, plain_wt M L r (fun y hy => h y (List.mem_cons_of_mem _ hy)), List.length_cons]
    omega
/-- calls are of functions below fu -/
def Tg (fu : Int) (l : List (Int × Int)) : Prop := ∀ x ∈ l, (x.1 = 37 ∨ x.1 = 38) → 0 ≤ x.2 ∧ x.2 < fu
def PieceW (fu lo lo' : Int) (l : List (Int × Int)) : Prop := Tg fu l ∧ ((lo' = lo ∧ (∀ x ∈ l, x.1 ≠ 38) ∧ ∀ M L, 9 ≤ M → wt M L l ≤ M) ∨ (lo' = lo - 1 ∧ 0 < lo ∧ ∀ M L, wt M L l = L + 1))
def HintW (fu : Int) (k : Nat) (lo lo' : Int) (l : List (Int × Int)) : Prop := Tg fu l ∧ lo' ≤ lo ∧ (lo' = lo → ∀ x ∈ l, x.1 ≠ 38) ∧ ∀ M D : Nat, 9 ≤ M → (wt M (M + D - 1) l : Int) + lo' * D ≤ k * M + lo * D
theorem plain_w {fu lo : Int} (l : List (Int × Int)) (h : plainB l = true) (hl : l.length ≤ 9) : PieceW fu lo lo l :=
  ⟨fun x hx hh => by have := plain_at h x hx; omega, .inl ⟨rfl, fun x hx => (plain_at h x hx).2, fun M L hM => by rw [plain_wt M L l (plain_at h)]; omega⟩⟩
theorem HintW.nil (fu lo : Int) : HintW fu 0 lo lo [] := ⟨fun x hx => by simp at hx, Int.le_refl _, fun _ x hx => by simp at hx, fun M D _ => by simp [wt]⟩
theorem HintW.step {fu lo0 lo lo2 : Int} {k : Nat} {l l2 : List (Int × Int)} (h : HintW fu k lo0 lo l) (p : PieceW fu lo lo2 l2) : HintW fu (k + 1) lo0 lo2 (l ++ l2) := by
  obtain ⟨h1, h2, h3, h4⟩ := h
  obtain ⟨p1, p2⟩ := p
  refine ⟨fun x hx => (List.mem_append.1 hx).elim (h1 x) (p1 x), ?_, ?_, ?_⟩
  · rcases p2 with ⟨e, _⟩ | ⟨e, _⟩ <;> omega
  · intro e x hx
    rcases p2 with ⟨e1, e2, _⟩ | ⟨e1, _⟩
    · exact (List.mem_append.1 hx).elim (h3 (by omega) x) (e2 x)
    · omega
  · intro M D hM
    have a := h4 M D hM
    rw [wt_append]
    have c : ((k + 1 : Nat) : Int) * M = k * M + M := by rw [Int.natCast_add, Int.add_mul]; simp
    rw [c]
    rcases p2 with ⟨rfl, _, e⟩ | ⟨rfl, _, e⟩
    · have := e M (M + D - 1) hM
      omega
    · have := e M (M + D - 1)
      rw [Int.sub_mul]
      omega
theorem HintW.mono {fu lo lo' : Int} {k k' : Nat} {l : List (Int × Int)} (h : HintW fu k lo lo' l) (hk : k ≤ k') : HintW fu k' lo lo' l :=
  ⟨h.1, h.2.1, h.2.2.1, fun M D hM => by
    have a := h.2.2.2 M D hM
    have : (k : Int) * M ≤ (k' : Int) * M := Int.mul_le_mul_of_nonneg_right (by omega) (by omega)
    omega⟩
/-- a glyph's program -/
def HintOk (l : List (Int × Int)) : Prop := l.length ≤ 54 ∧ ∀ M D : Nat, 9 ≤ M → wt M (M + D - 1) l ≤ 5 * M + 2 * D
theorem hintOk_of {fu lo' : Int} {l : List (Int × Int)} (h : HintW fu 5 2 lo' l) (h0 : 0 ≤ lo') (hl : l.length ≤ 54) : HintOk l := ⟨hl, fun M D hM => by
  have a := h.2.2.2 M D hM
  have : 0 ≤ lo' * (D : Int) := Int.mul_nonneg h0 (by omega)
  omega⟩
/-- functions -/
def FnW (i : Nat) (f : List (Int × Int)) : Prop := Tg i f ∧ (∀ x ∈ f, x.1 ≠ 38) ∧ ∀ M L, 9 ≤ M → wt M L f ≤ 3 * M
def FnsOk (fl : List (List (Int × Int))) : Prop := (∀ f ∈ fl, f.length ≤ 36) ∧ ∀ i f, fl[i]? = some f → FnW i f
theorem wt_loop (M L L' : Nat) : ∀ (l : List (Int × Int)), (∀ x ∈ l, x.1 ≠ 38) → wt M L l = wt M L' l
  | [], _ => rfl
  | x :: r, h => by rw [wt, wt, wtI, wtI, if_neg (h x List.mem_cons_self), if_neg (h x List.mem_cons_self), wt_loop M L L' r (fun y hy => h y (List.mem_cons_of_mem _ hy))]
theorem fnW_of {i : Nat} {lo' : Int} {l : List (Int × Int)} (h : HintW i 3 0 lo' l) (h0 : 0 ≤ lo') : FnW i l := by
  have e : lo' = 0 := by have := h.2.1; omega
  refine ⟨h.1, h.2.2.1 e, fun M L hM => ?_⟩
  have a := h.2.2.2 M 0 hM
  rw [wt_loop M L (M + 0 - 1) l (h.2.2.1 e)]
  omega
theorem FnsOk.push {fl : List (List (Int × Int))} {f : List (Int × Int)} (h : FnsOk fl) (h1 : f.length ≤ 36) (h2 : FnW fl.length f) : FnsOk (fl ++ [f]) := by
  refine ⟨fun g hg => ?_, fun i g hg => ?_⟩
  · rcases List.mem_append.1 hg with hg | hg
    · exact h.1 g hg
    · simp only [List.mem_singleton] at hg; subst hg; exact h1
  · rw [List.getElem?_append] at hg
    split at hg
    · exact h.2 i g hg
    · rename_i hi
      have : i - fl.length = 0 := by
        by_cases e : i - fl.length = 0
        · exact e
        · rw [List.getElem?_eq_none (by simp; omega)] at hg; cases hg
      rw [this] at hg
      simp only [List.getElem?_cons_zero, Option.some.injEq] at hg
      subst hg
      rw [show i = fl.length by omega]
      exact h2
theorem FnsOk.nil : FnsOk [] := ⟨fun f hf => by simp at hf, fun i f hf => by simp at hf⟩
def PiecePost (N0 : Nat) (m : MkC) (w : World) (fu lo0 : Int) (e : Ending) (w' : World) : Prop :=
  ∃ (l : List (Int × Int)) (A : Option Addr) (c : Nat) (lo : Int), e = .returned (.slice A l.length c) ∧ l.length ≤ c ∧ c ≤ maxLen ∧ RowAt (insR N0) 68 w' w'.heap.size A l ∧ l.length ≤ 9 ∧ Mk w' {m with c11 := .int .i64 lo} ∧ 0 ≤ lo ∧ lo ≤ 2 ∧ FrM m.M w w' ∧ PieceW fu lo0 lo l
theorem insRow_new (N0 : Nat) (w : World) (l : List (Int × Int)) (hi : Ints l) : RowAt (insR N0) 68 (w.alloc (.cells (insCells l).toArray 68)) (w.alloc (.cells (insCells l).toArray 68)).heap.size (some ⟨w.heap.size, 0, none⟩) l := by
  have hb : Blk (w.alloc (.cells (insCells l).toArray 68)) w.heap.size 68 ((l.map fun x => [Value.int .i64 x.1, Value.int .i64 x.2]).flatten).toArray := by
    rw [← List.flatMap_def, ← insCells_flat]; exact Blk.new _ _ _
  refine RowAt.of_blk _ hb (by simp) ?_
  clear hb
  generalize (w.alloc (.cells (insCells l).toArray 68)) = W
  generalize W.heap.size = B
  induction l with
  | nil => trivial
  | cons x r ih => exact ⟨insR_mk _ _ _ _ _ (hi x List.mem_cons_self).1 (hi x List.mem_cons_self).2, ih fun y hy => hi y (List.mem_cons_of_mem _ hy)⟩
theorem Mk.setLoops {w : World} {m : MkC} (h : Mk w m) (lo : Int) : Mk (w.setCell ⟨m.M, 11, none⟩ (.int .i64 lo)) {m with c11 := .int .i64 lo} := by
  obtain ⟨at_, ha, hs, hBM, hb, xs, hr, hx⟩ := h
  exact ⟨at_, ha, hs, hBM, by simpa using hb.set_ 11 (.int .i64 lo), xs, hr.setCell hBM _, hx⟩
theorem piece_ret {N0 : Nat} {m0 m : MkC} {w w' : World} {fu lo0 lo : Int} (l : List (Int × Int)) (h : Mk w' m) (hf : FrM m0.M w w') (hc : m.c11 = .int .i64 lo) (hlo : 0 ≤ lo ∧ lo ≤ 2) (hi : Ints l) (hl : l.length ≤ 9) (hw : PieceW fu lo0 lo l := by exact plain_w _ (by simp [plainB]) (by simp)) (hm : m = {m0 with c11 := m.c11} := by rfl) :
    PiecePost N0 m0 w fu lo0 (.returned (.slice (some ⟨w'.heap.size, 0, none⟩) l.length l.length)) (w'.alloc (.cells (insCells l).toArray 68)) := by
  refine ⟨l, _, _, lo, rfl, Nat.le_refl _, by unfold maxLen; omega, insRow_new N0 w' l hi, hl, ?_, hlo.1, hlo.2, hf.alloc _, hw⟩
  rw [← hc, ← hm]
  exact h.alloc _

set_option maxHeartbeats 4000000 in
set_option maxRecDepth 100000 in
theorem piece_any (N0 : Nat) (m : MkC) (w : World) (n fu lo : Int) (h : Mk w m) (_hN : N0 ≤ m.M) (hn0 : 0 ≤ n) (hn1 : n ≤ 1000) (hf0 : 0 ≤ fu) (hf1 : fu ≤ 1000) (hc : m.c11 = .int .i64 lo) (hlo : 0 ≤ lo ∧ lo ≤ 2) :
    Calls Try.prog 51 #[.pointer (some ⟨m.M, 0, none⟩), .int .i64 n, .int .i64 fu] w (PiecePost N0 m w fu lo) := by
  have HMK := Lib.hid h
  have HC := Lib.hid hc
  clear h hc
  go_enter Try.func51, Try.ntmps51
  go_wp2_with fail
  refine (mkNext_any _ m _ HMK.out (by omega) (by omega)).mono ?_
  rintro e w1 ⟨p, hp0, hp1, rfl, hmk1, hfr1, -⟩
  have HM1 := Lib.hid hmk1
  clear hmk1 HMK
  go_wp2_with fail
  refine (mkNext_any _ m _ HM1.out (by omega) (by omega)).mono ?_
  rintro e w2 ⟨q, hq0, hq1, rfl, hmk2, hfr2, -⟩
  have HM2 := Lib.hid hmk2
  clear hmk2 HM1
  go_wp2_with fail
  refine (mkNext_any _ m _ HM2.out (by omega) (by omega)).mono ?_
  rintro e w3 ⟨a, ha0, ha1, rfl, hmk3, hfr3, -⟩
  have HM3 := Lib.hid hmk3
  clear hmk3 HM2
  go_wp2_with fail
  refine (mkNext_any _ m _ HM3.out (by omega) (by omega)).mono ?_
  rintro e w4 ⟨s, hs0, hs1, rfl, hmk4, hfr4, -⟩
  have hf4 : FrM m.M w w4 := ((hfr1.trans hfr2).trans hfr3).trans hfr4
  have hml := hmk4.lt
  have HM4 := Lib.hid hmk4
  clear hmk4 HM3 hfr1 hfr2 hfr3 hfr4
  have hs : s = 0 ∨ s = 1 ∨ s = 2 ∨ s = 3 ∨ s = 4 ∨ s = 5 ∨ s = 6 ∨ s = 7 ∨ s = 8 ∨ s = 9 ∨ s = 10 ∨ s = 11 := by omega
  rcases hs with rfl | rfl | rfl | rfl | rfl | rfl | rfl | rfl | rfl | rfl | rfl | rfl
  · go_wp2
    go_ret
    exact piece_ret [(22, a), (23, a)] HM4.out hf4 HC.out hlo (by intro x hx; simp only [List.mem_cons, List.not_mem_nil, or_false] at hx; rcases hx with rfl | rfl <;> exact ⟨by unfold I64; simp only; omega, by unfold I64; simp only; omega⟩) (by simp)
  · go_wp2_with fail
    refine (mkNext_any _ m _ HM4.out (by omega) (by omega)).mono ?_
    rintro e w5 ⟨r, hr0, hr1, rfl, hmk5, hfr5, -⟩
    have HM5 := Lib.hid hmk5
    have hf5 : FrM m.M w w5 := hf4.trans hfr5
    clear hmk5
    go_wp2
    go_ret
    exact piece_ret [(24, r)] HM5.out hf5 HC.out hlo (by intro x hx; simp only [List.mem_cons, List.not_mem_nil, or_false] at hx; rcases hx with rfl <;> exact ⟨by unfold I64; simp only; omega, by unfold I64; simp only; omega⟩) (by simp)
  · go_wp2
    go_ret
    exact piece_ret [(1, p), (1, p), (29, 0), (15, 0), (32, 0)] HM4.out hf4 HC.out hlo (by intro x hx; simp only [List.mem_cons, List.not_mem_nil, or_false] at hx; rcases hx with rfl | rfl | rfl | rfl | rfl <;> exact ⟨by unfold I64; simp only; omega, by unfold I64; simp only; omega⟩) (by simp)
  · go_wp2
    go_ret
    exact piece_ret [(1, p), (1, p), (29, 0), (15, 0), (32, 0)] HM4.out hf4 HC.out hlo (by intro x hx; simp only [List.mem_cons, List.not_mem_nil, or_false] at hx; rcases hx with rfl | rfl | rfl | rfl | rfl <;> exact ⟨by unfold I64; simp only; omega, by unfold I64; simp only; omega⟩) (by simp)
  · go_wp2_with fail
    refine (mkNext_any _ m _ HM4.out (by omega) (by omega)).mono ?_
    rintro e w5 ⟨r, hr0, hr1, rfl, hmk5, hfr5, -⟩
    have HM5 := Lib.hid hmk5
    have hf5 : FrM m.M w w5 := hf4.trans hfr5
    clear hmk5
    go_wp2
    go_ret
    exact piece_ret [(1, p), (1, r - 100), (31, 0)] HM5.out hf5 HC.out hlo (by intro x hx; simp only [List.mem_cons, List.not_mem_nil, or_false] at hx; rcases hx with rfl | rfl | rfl <;> exact ⟨by unfold I64; simp only; omega, by unfold I64; simp only; omega⟩) (by simp)
  · go_wp2
    go_ret
    exact piece_ret [(1, p), (1, q), (33, 0)] HM4.out hf4 HC.out hlo (by intro x hx; simp only [List.mem_cons, List.not_mem_nil, or_false] at hx; rcases hx with rfl | rfl | rfl <;> exact ⟨by unfold I64; simp only; omega, by unfold I64; simp only; omega⟩) (by simp)
  · go_wp2
    go_ret
    exact piece_ret [(34, a)] HM4.out hf4 HC.out hlo (by intro x hx; simp only [List.mem_cons, List.not_mem_nil, or_false] at hx; rcases hx with rfl <;> exact ⟨by unfold I64; simp only; omega, by unfold I64; simp only; omega⟩) (by simp)
  · go_wp2
    go_ret
    exact piece_ret [(1, a), (1, q), (25, 0), (1, 3), (5, 0), (26, 0)] HM4.out hf4 HC.out hlo (by intro x hx; simp only [List.mem_cons, List.not_mem_nil, or_false] at hx; rcases hx with rfl | rfl | rfl | rfl | rfl | rfl <;> exact ⟨by unfold I64; simp only; omega, by unfold I64; simp only; omega⟩) (by simp)
  · by_cases hfu : 0 < fu
    · go_wp2_with fail
      refine (mkNext_any _ m _ HM4.out (by omega) (by omega)).mono ?_
      rintro e w5 ⟨r, hr0, hr1, rfl, hmk5, hfr5, -⟩
      have HM5 := Lib.hid hmk5
      have hf5 : FrM m.M w w5 := hf4.trans hfr5
      clear hmk5
      go_wp2
      go_ret
      exact piece_ret [(37, r)] HM5.out hf5 HC.out hlo (by intro x hx; simp only [List.mem_cons, List.not_mem_nil, or_false] at hx; rcases hx with rfl <;> exact ⟨by unfold I64; simp only; omega, by unfold I64; simp only; omega⟩) (by simp) ⟨fun x hx _ => by simp only [List.mem_cons, List.not_mem_nil, or_false] at hx; subst hx; exact ⟨hr0, hr1⟩, .inl ⟨rfl, fun x hx => by simp only [List.mem_cons, List.not_mem_nil, or_false] at hx; subst hx; simp, fun M L hM => by simp [wt, wtI]⟩⟩
    · go_wp2
      go_ret
      exact piece_ret [(39, 0), (1, 16), (17, 0), (36, 2), (1, q), (2, 0)] HM4.out hf4 HC.out hlo (by intro x hx; simp only [List.mem_cons, List.not_mem_nil, or_false] at hx; rcases hx with rfl | rfl | rfl | rfl | rfl | rfl <;> exact ⟨by unfold I64; simp only; omega, by unfold I64; simp only; omega⟩) (by simp)
  · have hcl := HM4.out.cells.1 11 (by omega)
    have hcz := HM4.out.cells.2 11
    simp only [Nat.reduceSub, List.getElem?_toArray, List.getElem?_cons_succ, List.getElem?_cons_zero] at hcl
    rw [HC.out] at hcl
    by_cases hfu : 0 < fu
    · by_cases hl0 : 0 < lo
      · have hmk5 := HM4.out.setLoops (lo - 1)
        have hf5 : FrM m.M w (w4.setCell ⟨m.M, 11, none⟩ (.int .i64 (lo - 1))) := hf4.setCell (.inl rfl) _
        have HM5 := Lib.hid hmk5
        clear hmk5
        go_wp2_with fail
        generalize hW5 : w4.setCell _ _ = w5 at *
        refine (mkNext_any _ {m with c11 := .int .i64 (lo - 1)} _ HM5.out (by omega) (by omega)).mono ?_
        rintro e w6 ⟨r, hr0, hr1, rfl, hmk6, hfr6, -⟩
        have HM6 := Lib.hid hmk6
        have hf6 : FrM m.M w w6 := hf5.trans hfr6
        clear hmk6 hW5 hcl hcz
        go_wp2_with fail
        refine (mkNext_any _ {m with c11 := .int .i64 (lo - 1)} _ HM6.out (by omega) (by omega)).mono ?_
        rintro e w7 ⟨r', hr0', hr1', rfl, hmk7, hfr7, -⟩
        have HM7 := Lib.hid hmk7
        have hf7 : FrM m.M w w7 := hf6.trans hfr7
        clear hmk7
        go_wp2
        go_ret
        exact piece_ret (m0 := m) [(1, r), (38, r')] HM7.out hf7 rfl ⟨(by omega : 0 ≤ lo - 1), (by omega : lo - 1 ≤ 2)⟩ (by intro x hx; simp only [List.mem_cons, List.not_mem_nil, or_false] at hx; rcases hx with rfl | rfl <;> exact ⟨by unfold I64; simp only; omega, by unfold I64; simp only; omega⟩) (by simp) ⟨fun x hx hh => by simp only [List.mem_cons, List.not_mem_nil, or_false] at hx; rcases hx with rfl | rfl; (simp at hh); exact ⟨hr0', hr1'⟩, .inr ⟨rfl, hl0, fun M L => by simp [wt, wtI]; omega⟩⟩
      · go_wp2
        go_ret
        exact piece_ret [(39, 0), (1, 16), (17, 0), (36, 2), (1, q), (2, 0)] HM4.out hf4 HC.out hlo (by intro x hx; simp only [List.mem_cons, List.not_mem_nil, or_false] at hx; rcases hx with rfl | rfl | rfl | rfl | rfl | rfl <;> exact ⟨by unfold I64; simp only; omega, by unfold I64; simp only; omega⟩) (by simp)
    · go_wp2
      go_ret
      exact piece_ret [(39, 0), (1, 16), (17, 0), (36, 2), (1, q), (2, 0)] HM4.out hf4 HC.out hlo (by intro x hx; simp only [List.mem_cons, List.not_mem_nil, or_false] at hx; rcases hx with rfl | rfl | rfl | rfl | rfl | rfl <;> exact ⟨by unfold I64; simp only; omega, by unfold I64; simp only; omega⟩) (by simp)
  · go_wp2
    go_ret
    exact piece_ret [(1, p), (30, 0), (1, q), (29, 0), (16, 0), (36, 3), (1, q), (1, 64), (31, 0)] HM4.out hf4 HC.out hlo (by intro x hx; simp only [List.mem_cons, List.not_mem_nil, or_false] at hx; rcases hx with rfl | rfl | rfl | rfl | rfl | rfl | rfl | rfl | rfl <;> exact ⟨by unfold I64; simp only; omega, by unfold I64; simp only; omega⟩) (by simp)
  · go_wp2
    go_ret
    exact piece_ret [(39, 0), (1, 16), (17, 0), (36, 2), (1, q), (2, 0)] HM4.out hf4 HC.out hlo (by intro x hx; simp only [List.mem_cons, List.not_mem_nil, or_false] at hx; rcases hx with rfl | rfl | rfl | rfl | rfl | rfl <;> exact ⟨by unfold I64; simp only; omega, by unfold I64; simp only; omega⟩) (by simp)
end Go.Proofs.Ytnalbkjbidaojaa
namespace Go.Proofs.Ytnalbkjbidaojaa
open Go.RowKit

def HintPost (N0 : Nat) (m : MkC) (w : World) (b : Nat) (fu : Int) (K : Nat) (lo0 : Int) (e : Ending) (w' : World) : Prop :=
  ∃ (l : List (Int × Int)) (A : Option Addr) (c : Nat) (lo : Int), e = .returned (.slice A l.length c) ∧ l.length ≤ c ∧ c ≤ maxLen ∧ RowAt (insR N0) 68 w' w'.heap.size A l ∧ l.length ≤ b ∧ Mk w' {m with c11 := .int .i64 lo} ∧ 0 ≤ lo ∧ lo ≤ 2 ∧ FrM m.M w w' ∧ HintW fu K lo0 lo l
def HInv (N0 : Nat) (m : MkC) (w : World) (fu lo0 : Int) (K : Nat) (v i : Value) (wr : World) : Prop :=
  ∃ (k : Nat) (l : List (Int × Int)) (A : Option Addr) (c : Nat) (lo : Int), k ≤ K ∧ i = .int .i64 k ∧ v = .slice A l.length c ∧ OwnAt (insR N0) 68 w.heap.size wr v l ∧ l.length ≤ 9 * k ∧ Mk wr {m with c11 := .int .i64 lo} ∧ 0 ≤ lo ∧ lo ≤ 2 ∧ FrM m.M w wr ∧ HintW fu k lo0 lo l

theorem Mk.blk {w : World} {m : MkC} (h : Mk w m) : ∃ xs, Blk w m.M 96 xs := by obtain ⟨_, _, _, _, hb, _⟩ := h; exact ⟨_, hb⟩

set_option maxHeartbeats 2000000 in
theorem hint_any (N0 : Nat) (m : MkC) (w : World) (n fu most lo0 : Int) (h : Mk w m) (hN : N0 ≤ m.M) (hn0 : 0 ≤ n) (hn1 : n ≤ 1000) (hf0 : 0 ≤ fu) (hf1 : fu ≤ 1000) (ho0 : 1 ≤ most) (ho1 : most ≤ 100) (hc : m.c11 = .int .i64 lo0) (hlo : 0 ≤ lo0 ∧ lo0 ≤ 2) :
    Calls Try.prog 37 #[.pointer (some ⟨m.M, 0, none⟩), .int .i64 n, .int .i64 fu, .int .i64 most] w (HintPost N0 m w (9 * most.toNat) fu (most - 1).toNat lo0) := by
  obtain ⟨i0, hi, hz0, hz1, hz2⟩ := info_parts ins_info
  have hMl := h.lt
  have HMK := Lib.hid h
  have HC := Lib.hid hc
  clear h hc
  go_enter Try.func37, Try.ntmps37
  go_wp2_with fail
  refine (mkNext_any _ m _ HMK.out (by omega) (by omega)).mono ?_
  rintro e w1 ⟨K, hK0, hK1, rfl, hmk1, hfr1, -⟩
  have h0 : HInv N0 m w fu lo0 K.toNat (.slice none 0 0) (.int .i64 0) w1 := ⟨0, [], none, 0, lo0, by omega, rfl, rfl, OwnAt.nil _ _ _ _, by simp, by rw [← HC.out]; exact hmk1, hlo.1, hlo.2, hfr1, HintW.nil _ _⟩
  have H0 := Lib.hid h0
  clear h0 hmk1 hfr1 HMK
  go_wp2_with fail
  go_loopw [9, 11] (fun v i wr => HInv N0 m w fu lo0 K.toNat v i wr) (fun _ i _ => K.toNat - (intOf i).toNat)
  case atStart => exact H0.out
  case round =>
    clear H0
    obtain ⟨k, l, A, c, lo, hk, rfl, rfl, hown, hl, hmk, hl0, hl1, hfr, hw⟩ := hrel
    have hsz := hfr.size
    have HOWN := Lib.hid hown
    have HM := Lib.hid hmk
    have HWT := Lib.hid hw
    clear hown hmk hw
    by_cases hlt : (k : Int) < K
    · go_wp2_with fail
      refine (piece_any N0 {m with c11 := .int .i64 lo} _ n fu lo HM.out hN hn0 hn1 hf0 hf1 rfl ⟨hl0, hl1⟩).mono ?_
      rintro e w2 ⟨l2, A2, c2, lo2, rfl, e1, e2, hrow, hl2, hmk2, g0, g1, hfr2, hw2⟩
      have HWT2 := Lib.hid (HWT.out.step hw2)
      clear hw2
      obtain ⟨xM, hbM⟩ := HM.out.blk
      have hown2 := HOWN.out.fr hfr2 hbM (by simp [insR, Repr.pair, Repr.int]) hN
      have hf2 : FrM m.M w w2 := hfr.trans hfr2
      have hsz2 := hf2.size
      have HOWN2 := Lib.hid hown2
      have HROW := Lib.hid hrow
      have HM2 := Lib.hid hmk2
      clear hown2 hrow hmk2 hbM HM HOWN
      go_wp2_with (at_builtin; refine wpList_pushAll _ rfl (.tmp 20) (.tmp 24) _ rfl (insR N0) w.heap.size 68 i0 _ 16 Try.underlying49 hi hz0 hz1 hz2 rfl (show 0 < 2 by decide) (by simp [insR, Repr.pair, Repr.int]) (by omega) (.slice A l.length c) l rfl HOWN2.out A2 l2.length c2 l2 rfl rfl _ HROW.out (by unfold maxLen; omega) (by omega) (by omega) ?_; intro A3 c3 w3 hown3 hg3)
      refine ⟨⟨k + 1, l ++ l2, A3, c3, lo2, by omega, by go_num, by simp, hown3, by simp; omega, ?_, g0, g1, ?_, HWT2.out⟩, by simp [intOf]; omega⟩
      · exact HM2.out.grown HOWN2.out hg3 (by decide) hMl
      · exact hf2.grownM hg3 fun g e => (HOWN2.out.block e).1
    · obtain ⟨A', c', e', e1, e2, e3⟩ := HOWN.out.form
      injection e' with q1 q2 q3
      subst q1 q3
      clear q2
      go_wp2
      go_ret
      exact ⟨l, A, c, lo, rfl, e1, e2, e3, by omega, HM.out, hl0, hl1, hfr, HWT.out.mono (by omega)⟩

/-- what hands back a row, of at most b elements, out of the maker -/
def RowPost {N0 : Nat} {α : Type} (R : Repr N0 α) (t : TypeId) (m : MkC) (w : World) (b : Nat) (e : Ending) (w' : World) : Prop :=
  ∃ (l : List α) (A : Option Addr) (c : Nat), e = .returned (.slice A l.length c) ∧ l.length ≤ c ∧ c ≤ maxLen ∧ RowAt R t w' w'.heap.size A l ∧ l.length ≤ b ∧ Mk w' m ∧ FrM m.M w w'
def SInv (N0 : Nat) (m : MkC) (w : World) (gn : Nat) (v i : Value) (wr : World) : Prop :=
  ∃ (k : Nat) (l : List Int) (A : Option Addr) (c : Nat), k ≤ gn ∧ i = .int .i64 k ∧ v = .slice A l.length c ∧ OwnAt (Repr.int (N0 := N0)) 3 w.heap.size wr v l ∧ l.length ≤ 4 ∧ Mk wr m ∧ FrM m.M w wr

set_option maxHeartbeats 2000000 in
theorem mkSet_any (N0 : Nat) (m : MkC) (w : World) (gA : Option Addr) (gn gc : Nat) (h : Mk w m) (hN : N0 ≤ m.M) (hc : m.c3 = .slice gA gn gc) (hg0 : 1 ≤ gn) (hg1 : gn ≤ 1000) :
    Calls Try.prog 59 #[.pointer (some ⟨m.M, 0, none⟩)] w (RowPost (Repr.int (N0 := N0)) 3 m w 4) := by
  obtain ⟨i1, ji, jz0, jz1, jz2⟩ := info_parts intM_info
  have hMl := h.lt
  have hcl := h.cells.1 3 (by omega)
  simp only [Nat.reduceSub, List.getElem?_toArray, List.getElem?_cons_succ, List.getElem?_cons_zero] at hcl
  rw [hc] at hcl
  have HMK := Lib.hid h
  clear h hc
  go_enter Try.func59, Try.ntmps59
  go_wp2_with fail
  refine (mkNext_any _ m _ HMK.out (by omega) (by omega)).mono ?_
  rintro e w1 ⟨a, ha0, ha1, rfl, hmk1, hfr1, -⟩
  have hsz1 := hfr1.size
  obtain ⟨ak, rfl⟩ := Int.eq_ofNat_of_zero_le ha0
  have h0 : SInv N0 m w gn (.slice (some ⟨w1.heap.size, 0, none⟩) 1 1) (.int .i64 ((ak + 1 : Nat) : Int)) (w1.alloc (.cells #[.int .i64 ak] 3)) :=
    ⟨ak + 1, [(ak : Int)], _, _, by omega, rfl, rfl, OwnAt.one (cs := [_]) (Blk.new _ _ _) (by omega) ⟨rfl, by unfold I64; omega⟩, by simp, hmk1.alloc _, hfr1.alloc _⟩
  rw [show ((ak + 1 : Nat) : Int) = (ak : Int) + 1 by omega] at h0
  have H0 := Lib.hid h0
  clear h0 hmk1 hfr1 HMK hcl
  go_wp2_with fail
  go_loopw [5, 6] (fun v i wr => SInv N0 m w gn v i wr) (fun _ i _ => gn - (intOf i).toNat)
  case atStart => exact H0.out
  case round =>
    clear H0
    obtain ⟨k, l, A, c, hk, rfl, rfl, hown, hl, hmk, hfr⟩ := hrel
    have hsz := hfr.size
    have HOWN := Lib.hid hown
    have HM := Lib.hid hmk
    clear hown hmk
    by_cases hlt : (k : Int) < gn ∧ l.length < 4
    · obtain ⟨hlt1, hlt2⟩ := hlt
      have hli : (l.length : Int) < 4 := by omega
      go_wp2_with fail
      refine (mkNext_any _ m _ HM.out (by omega) (by omega)).mono ?_
      rintro e w2 ⟨r, hr0, hr1, rfl, hmk2, hfr2, -⟩
      obtain ⟨xM, hbM⟩ := HM.out.blk
      have hown2 := HOWN.out.fr hfr2 hbM (by simp [Repr.int]) hN
      have hf2 : FrM m.M w w2 := hfr.trans hfr2
      have hsz2 := hf2.size
      have HOWN2 := Lib.hid hown2
      have HM2 := Lib.hid hmk2
      clear hown2 hmk2 hbM HM HOWN
      by_cases hr : r = 0
      · subst hr
        have HOWN3 := Lib.hid (HOWN2.out.below ((Below.refl _ _).alloc (Nat.le_refl _) (.cells #[.int .i64 (k : Int)] 3)) (Nat.le_refl _))
        go_wp2_with (at_builtin; refine wpList_push _ rfl (.tmp 33) (.tmp 35) _ rfl (Repr.int (N0 := N0)) w.heap.size 3 i1 _ 8 Try.underlying30 ji jz0 jz1 jz2 rfl (show 0 < 1 by decide) (by simp [Repr.int]) (by omega) (.slice A l.length c) l rfl HOWN3.out w2.heap.size [_] (k : Int) rfl (Blk.new _ _ _) ⟨rfl, (by unfold I64; omega)⟩ (by unfold maxLen; omega) (by omega) (by simp; omega) ?_; intro A3 c3 w3 hown3 hg3)
        refine ⟨⟨k + 1, l ++ [(k : Int)], A3, c3, by omega, by go_num, by simp, hown3, by simp; omega, ?_, ?_⟩, by simp [intOf]; omega⟩
        · exact (HM2.out.alloc _).grown HOWN3.out hg3 (by decide) hMl
        · exact (hf2.alloc _).grownM hg3 fun g e => (HOWN3.out.block e).1
      · have hrb : (r == 0) = false := by simpa using hr
        go_wp2_with fail
        refine ⟨⟨k + 1, l, A, c, by omega, by go_num, rfl, HOWN2.out, hl, HM2.out, hf2⟩, by simp [intOf]; omega⟩
    · obtain ⟨A', c', e', e1, e2, e3⟩ := HOWN.out.form
      injection e' with q1 q2 q3
      subst q1 q3
      clear q2
      by_cases hlt1 : (k : Int) < gn
      · have hli : ¬ (l.length : Int) < 4 := by omega
        go_wp2
        go_ret
        exact ⟨l, A, c, rfl, e1, e2, e3, by omega, HM.out, hfr⟩
      · go_wp2
        go_ret
        exact ⟨l, A, c, rfl, e1, e2, e3, by omega, HM.out, hfr⟩

def RInvM (N0 : Nat) (m : MkC) (w : World) (K : Nat) (v i : Value) (wr : World) : Prop :=
  ∃ (k : Nat) (l : List (List Int)) (A : Option Addr) (c : Nat), k ≤ K ∧ i = .int .i64 k ∧ v = .slice A l.length c ∧ OwnAt (intsR N0) 30 w.heap.size wr v l ∧ l.length ≤ k ∧ Mk wr m ∧ FrM m.M w wr
theorem introws_info : (Try.prog.info? 30).map (fun i => (i.zero, i.size, i.bytes)) = some (some (.slice none 0 0), 1, 24) := by kernel_rfl
set_option maxHeartbeats 2000000 in
theorem row_any (N0 : Nat) (m : MkC) (w : World) (most : Int) (gA : Option Addr) (gn gc : Nat) (h : Mk w m) (hN : N0 ≤ m.M) (hc : m.c3 = .slice gA gn gc) (hg0 : 1 ≤ gn) (hg1 : gn ≤ 1000) (ho0 : 0 ≤ most) (ho1 : most ≤ 100) :
    Calls Try.prog 60 #[.pointer (some ⟨m.M, 0, none⟩), .int .i64 most] w (RowPost (intsR N0) 30 m w most.toNat) := by
  obtain ⟨i1, ji, jz0, jz1, jz2⟩ := info_parts introws_info
  have hMl := h.lt
  have HMK := Lib.hid h
  have HC := Lib.hid hc
  clear h hc
  go_enter Try.func60, Try.ntmps60
  go_wp2_with fail
  refine (mkNext_any _ m _ HMK.out (by omega) (by omega)).mono ?_
  rintro e w1 ⟨K, hK0, hK1, rfl, hmk1, hfr1, -⟩
  have h0 : RInvM N0 m w K.toNat (.slice none 0 0) (.int .i64 0) w1 := ⟨0, [], none, 0, by omega, rfl, rfl, OwnAt.nil _ _ _ _, by simp, hmk1, hfr1⟩
  have H0 := Lib.hid h0
  clear h0 hmk1 hfr1 HMK
  go_wp2_with fail
  go_loopw [5, 7] (fun v i wr => RInvM N0 m w K.toNat v i wr) (fun _ i _ => K.toNat - (intOf i).toNat)
  case atStart => exact H0.out
  case round =>
    clear H0
    obtain ⟨k, l, A, c, hk, rfl, rfl, hown, hl, hmk, hfr⟩ := hrel
    have hsz := hfr.size
    have HOWN := Lib.hid hown
    have HM := Lib.hid hmk
    clear hown hmk
    by_cases hlt : (k : Int) < K
    · go_wp2_with fail
      refine (mkSet_any N0 m _ gA gn gc HM.out hN HC.out hg0 hg1).mono ?_
      rintro e w2 ⟨l2, A2, c2, rfl, e1, e2, hrow, hl2, hmk2, hfr2⟩
      obtain ⟨xM, hbM⟩ := HM.out.blk
      have hown2 := (HOWN.out.fr hfr2 hbM (by simp [intsR, Repr.row, Repr.int]) hN).below ((Below.refl _ _).alloc (Nat.le_refl _) (.cells #[.slice A2 l2.length c2] 30)) (Nat.le_refl _)
      have hf2 : FrM m.M w w2 := hfr.trans hfr2
      have hsz2 := hf2.size
      have hrel2 : (intsR N0).rel (w2.alloc (.cells #[.slice A2 l2.length c2] 30)) (w2.alloc (.cells #[.slice A2 l2.length c2] 30)).heap.size l2 [.slice A2 l2.length c2] := ⟨_, _, rfl, e1, e2, (hrow.below ((Below.refl _ _).alloc (Nat.le_refl _) _) (Nat.le_refl _)).more (by simp)⟩
      have HOWN2 := Lib.hid hown2
      have HREL := Lib.hid hrel2
      have HM2 := Lib.hid hmk2
      clear hown2 hrow hmk2 hbM HM HOWN hrel2
      generalize l2.length = n2 at *
      go_wp2_with (at_builtin; refine wpList_push _ rfl (.tmp 17) (.tmp 20) _ rfl (intsR N0) w.heap.size 30 i1 _ 24 Try.underlying136 ji jz0 jz1 jz2 rfl (show 0 < 1 by decide) (by simp [intsR, Repr.row, Repr.int]) (by omega) (.slice A l.length c) l rfl HOWN2.out w2.heap.size [_] l2 rfl (Blk.new _ _ _) HREL.out (by unfold maxLen; omega) (by omega) (by simp; omega) ?_; intro A3 c3 w3 hown3 hg3)
      refine ⟨⟨k + 1, l ++ [l2], A3, c3, by omega, by go_num, by simp, hown3, by simp; omega, ?_, ?_⟩, by simp [intOf]; omega⟩
      · exact (HM2.out.alloc _).grown HOWN2.out hg3 (by decide) hMl
      · exact (hf2.alloc _).grownM hg3 fun g e => (HOWN2.out.block e).1
    · obtain ⟨A', c', e', e1, e2, e3⟩ := HOWN.out.form
      injection e' with q1 q2 q3
      subst q1 q3
      clear q2
      go_wp2
      go_ret
      exact ⟨l, A, c, rfl, e1, e2, e3, by omega, HM.out, hfr⟩
end Go.Proofs.Ytnalbkjbidaojaa
namespace Go.Proofs.Ytnalbkjbidaojaa
open Go.RowKit

def rowsIR (N0 : Nat) : Repr N0 (List (List Int)) := Repr.row 30 (intsR N0)
def callR (N0 : Nat) : Repr N0 (Int × Int) := Repr.pair Repr.int Repr.int
structure RuleD where
  back : List (List Int)
  inn : List (List Int)
  ahead : List (List Int)
  out : List Int
  calls : List (Int × Int)
  x : Int
def ruleR (N0 : Nat) : Repr N0 RuleD := Repr.map (fun r => (r.back, r.inn, r.ahead, r.out, r.calls, r.x)) (Repr.pair (rowsIR N0) (Repr.pair (rowsIR N0) (Repr.pair (rowsIR N0) (Repr.pair (intsR N0) (Repr.pair (Repr.row 150 (callR N0)) Repr.int)))))
theorem call_info : (Try.prog.info? 150).map (fun i => (i.zero, i.size, i.bytes)) = some (some (.agg #[.int .i64 0, .int .i64 0]), 2, 16) := by kernel_rfl

theorem Repr.grownB {N0 : Nat} {α : Type} (R : Repr N0 α) {w w' : World} {B : Nat} {a : α} {cs : List Value} (h : R.rel w B a cs) {row : Option Nat} (hg : w.grownBy w' row) (hr : ∀ g, row = some g → B ≤ g) : R.rel w' B a cs :=
  R.keep h fun g t xs fz hgB _ hh => by
    have hlt : g < w.heap.size := (Array.getElem?_eq_some_iff.1 hh).1
    rw [hg.block g hlt (fun e => by have := hr g e.symm; omega)]; exact hh

/-- while a rule is made: its box, its rows; Out and Calls are of its own, from base B1 on; the others lie below -/
structure RuleI (N0 : Nat) (m : MkC) (w0 : World) (rb B1 : Nat) (wx : World) (vb vi va vo vc : Value) (r : RuleD) : Prop where
  box : Blk wx rb 139 #[vb, vi, va, vo, vc, .int .i64 r.x]
  back : (rowsIR N0).rel wx B1 r.back [vb]
  inn : (rowsIR N0).rel wx B1 r.inn [vi]
  ahead : (rowsIR N0).rel wx B1 r.ahead [va]
  out : OwnAt (Repr.int (N0 := N0)) 3 B1 wx vo r.out
  calls : OwnAt (callR N0) 150 B1 wx vc r.calls
  x : I64 r.x
  hmk : Mk wx m
  fr : FrM m.M w0 wx
  hob : w0.heap.size ≤ rb ∧ rb < B1
  hM : N0 ≤ m.M ∧ m.M < w0.heap.size
  hB : w0.heap.size ≤ B1 ∧ B1 ≤ wx.heap.size

section
variable {N0 : Nat} {m : MkC} {w0 wx wy : World} {rb B1 : Nat} {vb vi va vo vc : Value} {r : RuleD}
theorem RuleI.next (h : RuleI N0 m w0 rb B1 wx vb vi va vo vc r) (hm : Mk wy m) (hf : FrM m.M wx wy) : RuleI N0 m w0 rb B1 wy vb vi va vo vc r := by
  obtain ⟨xM, hb⟩ := h.hmk.blk
  have hM := h.hM
  have hob := h.hob
  have hz := hf.size
  have hB := h.hB
  exact ⟨hf.blk h.box (by omega), (rowsIR N0).fr h.back hf hb (by simp [rowsIR, intsR, Repr.row, Repr.int]) hM.1, (rowsIR N0).fr h.inn hf hb (by simp [rowsIR, intsR, Repr.row, Repr.int]) hM.1, (rowsIR N0).fr h.ahead hf hb (by simp [rowsIR, intsR, Repr.row, Repr.int]) hM.1,
    h.out.fr hf hb (by simp [Repr.int]) hM.1, h.calls.fr hf hb (by simp [callR, Repr.pair, Repr.int]) hM.1, h.x, hm, h.fr.trans hf, hob, hM, hB.1, by omega⟩
theorem RuleI.below (h : RuleI N0 m w0 rb B1 wx vb vi va vo vc r) (hb : Below wx.heap.size wx wy) : RuleI N0 m w0 rb B1 wy vb vi va vo vc r := by
  have hM := h.hM
  have hob := h.hob
  have hz := hb.size
  have hB := h.hB
  obtain ⟨at_, ha, hs, hBM, hbk, xs, hr, hx⟩ := h.hmk
  have hl := hbk.lt
  exact ⟨h.box.below hb (by omega), (rowsIR N0).below h.back hb hB.2, (rowsIR N0).below h.inn hb hB.2, (rowsIR N0).below h.ahead hb hB.2, h.out.below hb (Nat.le_refl _), h.calls.below hb (Nat.le_refl _), h.x,
    ⟨at_, ha, hs, hBM, hbk.below hb hl, xs, hr.below hb (by omega), hx⟩, h.fr.trans (Fr.of_below hb fun k hk _ => hk), hob, hM, hB.1, by omega⟩
theorem RuleI.alloc (h : RuleI N0 m w0 rb B1 wx vb vi va vo vc r) (o : Obj) : RuleI N0 m w0 rb B1 (wx.alloc o) vb vi va vo vc r := h.below ((Below.refl _ _).alloc (Nat.le_refl _) _)
theorem RuleI.drew (h : RuleI N0 m w0 rb B1 wx vb vi va vo vc r) : RuleI N0 m w0 rb B1 wx.drew vb vi va vo vc r := h.below (Below.refl _ _).drew
/-- as long as nothing is of its own, all lies below what there is -/
theorem RuleI.adv (h : RuleI N0 m w0 rb B1 wx vb vi va (.slice none 0 0) (.slice none 0 0) r) (ho : r.out = []) (hc : r.calls = []) : RuleI N0 m w0 rb wx.heap.size wx vb vi va (.slice none 0 0) (.slice none 0 0) r := by
  have hB := h.hB
  have hob := h.hob
  exact ⟨h.box, (rowsIR N0).more h.back hB.2, (rowsIR N0).more h.inn hB.2, (rowsIR N0).more h.ahead hB.2, by rw [ho]; exact OwnAt.nil _ _ _ _, by rw [hc]; exact OwnAt.nil _ _ _ _, h.x, h.hmk, h.fr, ⟨hob.1, by omega⟩, h.hM, by omega, Nat.le_refl _⟩
/-- a cell of its box is written -/
theorem RuleI.set (h : RuleI N0 m w0 rb B1 wx vb vi va vo vc r) (i : Nat) (u : Value) {vb' vi' va' vo' vc' : Value} {r' : RuleD} (hbox : #[vb, vi, va, vo, vc, .int .i64 r.x].setIfInBounds i u = #[vb', vi', va', vo', vc', .int .i64 r'.x])
    (h1 : (rowsIR N0).rel wx B1 r'.back [vb']) (h2 : (rowsIR N0).rel wx B1 r'.inn [vi']) (h3 : (rowsIR N0).rel wx B1 r'.ahead [va']) (h4 : OwnAt (Repr.int (N0 := N0)) 3 B1 wx vo' r'.out) (h5 : OwnAt (callR N0) 150 B1 wx vc' r'.calls) (h6 : I64 r'.x) :
    RuleI N0 m w0 rb B1 (wx.setCell ⟨rb, i, none⟩ u) vb' vi' va' vo' vc' r' := by
  have hM := h.hM
  have hob := h.hob
  have hB := h.hB
  exact ⟨by rw [← hbox]; exact h.box.set_ i u, (rowsIR N0).setCell h1 h.box (by simp [rowsIR, intsR, Repr.row, Repr.int]) (by omega) _ _, (rowsIR N0).setCell h2 h.box (by simp [rowsIR, intsR, Repr.row, Repr.int]) (by omega) _ _, (rowsIR N0).setCell h3 h.box (by simp [rowsIR, intsR, Repr.row, Repr.int]) (by omega) _ _,
    h4.setCell h.box (by simp [Repr.int]) (by omega) _ _, h5.setCell h.box (by simp [callR, Repr.pair, Repr.int]) (by omega) _ _, h6, h.hmk.setCell (by simp; omega) _, h.fr.setCell (.inr hob.1) _, hob, hM, hB.1, by rw [size_setCell]; exact hB.2⟩
/-- Out has grown -/
theorem RuleI.pushOut (h : RuleI N0 m w0 rb B1 wx vb vi va vo vc r) {A' : Option Addr} {n' c' : Nat} {l' : List Int} (ho : OwnAt (Repr.int (N0 := N0)) 3 B1 wy (.slice A' n' c') l') (hg : wx.grownBy wy vo.ownBlock) :
    Blk wy rb 139 #[vb, vi, va, vo, vc, .int .i64 r.x] ∧ RuleI N0 m w0 rb B1 (wy.setCell ⟨rb, 3, none⟩ (.slice A' n' c')) vb vi va (.slice A' n' c') vc {r with out := l'} := by
  have hM := h.hM
  have hob := h.hob
  have hB := h.hB
  have hb := h.box.grownOwn h.out hg (by decide)
  have hrow := fun g e => (h.out.block (g := g) e).1
  have hc : OwnAt (callR N0) 150 B1 wy vc r.calls := h.calls.grown hg fun g t' xs fz e hh => by
    obtain ⟨h1, _, ys, hy⟩ := h.out.block e
    rw [hy] at hh
    injection hh with hh
    injection hh with _ ht
    subst ht
    exact ⟨by omega, by simp [callR, Repr.pair, Repr.int]⟩
  refine ⟨hb, ⟨by simpa using hb.set_ 3 (.slice A' n' c'), (rowsIR N0).setCell ((rowsIR N0).grownB h.back hg hrow) hb (by simp [rowsIR, intsR, Repr.row, Repr.int]) (by omega) _ _, (rowsIR N0).setCell ((rowsIR N0).grownB h.inn hg hrow) hb (by simp [rowsIR, intsR, Repr.row, Repr.int]) (by omega) _ _, (rowsIR N0).setCell ((rowsIR N0).grownB h.ahead hg hrow) hb (by simp [rowsIR, intsR, Repr.row, Repr.int]) (by omega) _ _,
    ho.setCell hb (by simp [Repr.int]) (by omega) _ _, hc.setCell hb (by simp [callR, Repr.pair, Repr.int]) (by omega) _ _, h.x, (h.hmk.grown h.out hg (by decide) (by omega)).setCell (by simp; omega) _, ?_, hob, hM, hB.1, by rw [size_setCell]; have := hg.size; omega⟩⟩
  exact (h.fr.grownM hg fun g e => by have := hrow g e; omega).setCell (.inr hob.1) _
/-- Calls has grown -/
theorem RuleI.pushCalls (h : RuleI N0 m w0 rb B1 wx vb vi va vo vc r) {A' : Option Addr} {n' c' : Nat} {l' : List (Int × Int)} (ho : OwnAt (callR N0) 150 B1 wy (.slice A' n' c') l') (hg : wx.grownBy wy vc.ownBlock) :
    Blk wy rb 139 #[vb, vi, va, vo, vc, .int .i64 r.x] ∧ RuleI N0 m w0 rb B1 (wy.setCell ⟨rb, 4, none⟩ (.slice A' n' c')) vb vi va vo (.slice A' n' c') {r with calls := l'} := by
  have hM := h.hM
  have hob := h.hob
  have hB := h.hB
  have hb := h.box.grownOwn h.calls hg (by decide)
  have hrow := fun g e => (h.calls.block (g := g) e).1
  have hc : OwnAt (Repr.int (N0 := N0)) 3 B1 wy vo r.out := h.out.grown hg fun g t' xs fz e hh => by
    obtain ⟨h1, _, ys, hy⟩ := h.calls.block e
    rw [hy] at hh
    injection hh with hh
    injection hh with _ ht
    subst ht
    exact ⟨by omega, by simp [Repr.int]⟩
  refine ⟨hb, ⟨by simpa using hb.set_ 4 (.slice A' n' c'), (rowsIR N0).setCell ((rowsIR N0).grownB h.back hg hrow) hb (by simp [rowsIR, intsR, Repr.row, Repr.int]) (by omega) _ _, (rowsIR N0).setCell ((rowsIR N0).grownB h.inn hg hrow) hb (by simp [rowsIR, intsR, Repr.row, Repr.int]) (by omega) _ _, (rowsIR N0).setCell ((rowsIR N0).grownB h.ahead hg hrow) hb (by simp [rowsIR, intsR, Repr.row, Repr.int]) (by omega) _ _,
    hc.setCell hb (by simp [Repr.int]) (by omega) _ _, ho.setCell hb (by simp [callR, Repr.pair, Repr.int]) (by omega) _ _, h.x, (h.hmk.grown h.calls hg (by decide) (by omega)).setCell (by simp; omega) _, ?_, hob, hM, hB.1, by rw [size_setCell]; have := hg.size; omega⟩⟩
  exact (h.fr.grownM hg fun g e => by have := hrow g e; omega).setCell (.inr hob.1) _
end
end Go.Proofs.Ytnalbkjbidaojaa

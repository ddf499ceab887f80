/- fleuronref21: rows of instructions, and programs, compared. -/
import Derived.Test.YtnalbkjbidaojaaGzC
namespace Go.Proofs.Ytnalbkjbidaojaa
open Go.RowKit Mc

set_option maxRecDepth 100000 in
theorem rcode2_any (A A' : Option Addr) (c c' B B' : Nat) (l l' : List (Int × Int)) (w : World) (h : Reads w B 2 A l.length (pts l)) (h' : Reads w B' 2 A' l'.length (pts l')) (hl : l.length ≤ 1000000) (_hl' : l'.length ≤ 1000000) :
    Calls Try.prog 27 #[.slice A l.length c, .slice A' l'.length c'] w fun e w' => e = .returned (.bool (decide (l = l'))) ∧ Grow w w' := by
  by_cases hne : l.length = l'.length
  · obtain ⟨n, hn⟩ : ∃ n, n = l.length := ⟨_, rfl⟩
    rw [← hne] at h' _hl' ⊢
    rw [← hn] at h h' hl ⊢
    have HN := Lib.hid hn
    have HNE := Lib.hid hne
    have H := Lib.hid h
    have H' := Lib.hid h'
    clear h h' hn hne _hl'
    have hnb : ((n : Int) != (n : Int)) = false := by simp
    go_enter Try.func27, Try.ntmps27
    go_wp2_with fail
    go_loopw [5] (fun i wr => ∃ k : Nat, k ≤ n ∧ i = .int .i64 k ∧ Grow w wr ∧ wr.heap = w.heap ∧ l.take k = l'.take k) (fun i _ => n - (intOf i).toNat)
    case atStart => exact ⟨0, by omega, rfl, Fr.refl _ _, rfl, rfl⟩
    case round =>
      obtain ⟨k, hk, rfl, hb, hh, htk⟩ := hrel
      have HH := Lib.hid hh
      have hcell : ∀ p, wr.cell? p = w.cell? p := fun p => by unfold World.cell?; rw [hh]
      have HCE := Lib.hid hcell
      have HTK := Lib.hid htk
      have HB := Lib.hid hb
      clear hh hcell htk hb
      by_cases hlt : k < n
      · obtain ⟨x, hx⟩ : ∃ x, l[k]? = some x := ⟨_, List.getElem?_eq_getElem (by have := HN.out; omega)⟩
        obtain ⟨y, hy⟩ : ∃ y, l'[k]? = some y := ⟨_, List.getElem?_eq_getElem (by have := HN.out; have := HNE.out; omega)⟩
        obtain ⟨b, off, rfl, hbB, hcells⟩ := H.out.2 (by omega)
        obtain ⟨b', off', rfl, hbB', hcells'⟩ := H'.out.2 (by omega)
        obtain ⟨g0, g1⟩ := pts_at l k x hx
        obtain ⟨g2, g3⟩ := pts_at l' k y hy
        have d0 := hcells _ _ g0
        have d1 := hcells _ _ g1
        have e0 := hcells' _ _ g2
        have e1 := hcells' _ _ g3
        rw [← Nat.add_assoc] at d1 e1
        rw [← HCE.out] at d0 d1 e0 e1
        have HX := Lib.hid hx
        have HY := Lib.hid hy
        clear hcells hcells' hx hy g0 g1 g2 g3
        have i1 : (0 : Int) ≤ (k : Int) := by omega
        have i2 : (k : Int) < (n : Int) := by omega
        obtain ⟨x1, x2⟩ := x
        obtain ⟨y1, y2⟩ := y
        simp only at d0 d1 e0 e1
        by_cases hx1 : x1 = y1
        · subst hx1
          by_cases hx2 : x2 = y2
          · subst hx2
            go_wp2_with fail
            go_quiet (fail)
            go_wp2
            go_roundw
            case rel => exact ⟨k + 1, by omega, by go_num, HB.out.drewN _, HH.out, take_more HX.out HY.out HTK.out⟩
            case measure => simp [intOf]; omega
          · have hbn : (x2 != y2) = true := by simpa using hx2
            go_wp2_with fail
            go_quiet (fail)
            go_wp2
            go_ret
            exact ⟨ret_bool (decide_eq_false (take_ne HX.out HY.out (fun e => hx2 (by injection e)))).symm, HB.out.drewN _⟩
        · have hbn : (x1 != y1) = true := by simpa using hx1
          go_wp2_with fail
          go_quiet (fail)
          go_wp2
          go_ret
          exact ⟨ret_bool (decide_eq_false (take_ne HX.out HY.out (fun e => hx1 (by injection e)))).symm, HB.out.drewN _⟩
      · have hkn : k = n := by omega
        subst hkn
        go_wp2
        go_ret
        have he : l = l' := by
          have := HTK.out
          rw [List.take_of_length_le (by have := HN.out; omega), List.take_of_length_le (by have := HN.out; have := HNE.out; omega)] at this
          exact this
        exact ⟨ret_bool (decide_eq_true he).symm, HB.out⟩
  · have hnb : ((l.length : Int) != (l'.length : Int)) = true := by simp; omega
    have hno : ¬ l = l' := fun e => hne (by rw [e])
    have HNO := Lib.hid hno
    clear h h' hno
    generalize l.length = n at *
    generalize l'.length = n' at *
    go_enter Try.func27, Try.ntmps27
    go_wp2_with fail
    go_ret
    exact ⟨ret_bool (decide_eq_false HNO.out).symm, Fr.refl _ _⟩

theorem rcode2_same (A A' : Option Addr) (c c' B B' : Nat) (l : List (Int × Int)) (w : World) (h : Reads w B 2 A l.length (pts l)) (h' : Reads w B' 2 A' l.length (pts l)) (hl : l.length ≤ 1000000) :
    Calls Try.prog 27 #[.slice A l.length c, .slice A' l.length c'] w fun e w' => e = .returned (.bool true) ∧ Grow w w' :=
  (rcode2_any A A' c c' B B' l l w h h' hl hl).mono fun _ _ k => ⟨by rw [k.1, decide_eq_true rfl], k.2⟩
set_option maxHeartbeats 2000000 in
set_option maxRecDepth 100000 in
theorem rsameprog_true (N0 N1 : Nat) (w : World) (B : Nat) (hB : B ≤ w.heap.size) (fl : List (List (Int × Int))) (ml : List (Int × Int)) (cl : List Int) (size : Int) (fA mA cA fA' mA' cA' : Option Addr) (fc mc cc fc' mc' cc' : Nat)
    (hf : RowAt (codeR N0) 49 w B fA fl) (hf' : RowAt (codeR N1) 49 w B fA' fl) (hm : Reads w B 2 mA ml.length (pts ml)) (hm' : Reads w B 2 mA' ml.length (pts ml)) (hc : Reads w B 1 cA cl.length (ints cl)) (hc' : Reads w B 1 cA' cl.length (ints cl))
    (h1 : fl.length ≤ 1000000) (h2 : ml.length ≤ 1000000) (h3 : cl.length ≤ 1000000) (h4 : ∀ l ∈ fl, l.length ≤ 1000000) :
    Calls Try.prog 15 #[.agg #[.slice fA fl.length fc, .slice mA ml.length mc, .slice cA cl.length cc, .int .i64 size], .agg #[.slice fA' fl.length fc', .slice mA' ml.length mc', .slice cA' cl.length cc', .int .i64 size]] w fun e w' => e = .returned (.bool true) ∧ Grow w w' := by
  obtain ⟨X, hX⟩ : ∃ X, X = (w.alloc (.cells #[.slice fA fl.length fc, .slice mA ml.length mc, .slice cA cl.length cc, .int .i64 size] 51)).alloc (.cells #[.slice fA' fl.length fc', .slice mA' ml.length mc', .slice cA' cl.length cc', .int .i64 size] 51) := ⟨_, rfl⟩
  have hXw : Grow w X := by rw [hX]; exact ((Fr.refl _ w).alloc _).alloc _
  have hb0 : Blk X w.heap.size 51 #[.slice fA fl.length fc, .slice mA ml.length mc, .slice cA cl.length cc, .int .i64 size] := by rw [hX]; exact (Blk.new _ _ _).alloc _
  have hb1 : Blk X (w.heap.size + 1) 51 #[.slice fA' fl.length fc', .slice mA' ml.length mc', .slice cA' cl.length cc', .int .i64 size] := by rw [hX]; exact Blk.new_at _ _ _ (by simp)
  have hbl := Grow.below hXw (Nat.le_refl _)
  have HX := Lib.hid hX
  have HXG := Lib.hid hXw
  have HB0 := Lib.hid hb0
  have HB1 := Lib.hid hb1
  have HF := Lib.hid (hf.below hbl hB)
  have HF' := Lib.hid (hf'.below hbl hB)
  have HC := Lib.hid (hc.below hbl hB)
  have HC' := Lib.hid (hc'.below hbl hB)
  have HCC := Lib.hid (rcode2_same mA mA' mc mc' B B ml X (hm.below hbl hB) (hm'.below hbl hB) h2)
  have HBX := Lib.hid (Nat.le_trans hB hXw.size)
  have HL := Lib.hid h4
  have x0 := hb0.cell 0
  have x1 := hb0.cell 1
  have x2 := hb0.cell 2
  have x3 := hb0.cell 3
  have y0 := hb1.cell 0
  have y1 := hb1.cell 1
  have y2 := hb1.cell 2
  have y3 := hb1.cell 3
  simp only [List.getElem?_toArray, List.getElem?_cons_zero, List.getElem?_cons_succ] at x0 x1 x2 x3 y0 y1 y2 y3
  have xl := hb0.lt
  have yl := hb1.lt
  have n1 : ((fl.length : Int) != (fl.length : Int)) = false := by simp
  have n2 : ((cl.length : Int) != (cl.length : Int)) = false := by simp
  have n3 : (size != size) = false := by simp
  clear hf hf' hm hm' hc hc' hX hXw hb0 hb1 hbl h2 h4 hB
  go_enter Try.func15, Try.ntmps15
  go_upto_region 1 with fail
  rw [← HX.out]
  go_wp2_with fail
  refine HCC.out.mono ?_
  rintro e w2 ⟨rfl, hg2⟩
  clear x0 x1 x2 x3 y0 y1 y2 y3 n1 n2 n3 HCC
  have HG2 := Lib.hid hg2
  clear hg2
  go_wp2_with fail
  go_loopw [5] (fun i wr => ∃ k : Nat, k ≤ fl.length ∧ i = .int .i64 (k : Int) ∧ Grow X wr) (fun i _ => fl.length - (intOf i).toNat)
  case atStart => exact ⟨0, by omega, rfl, HG2.out⟩
  case round =>
    clear HG2
    obtain ⟨k, hk, rfl, hg⟩ := hrel
    have HG := Lib.hid hg
    have hb0 := hg.blk HB0.out (fun x => x)
    have hb1 := hg.blk HB1.out (fun x => x)
    have x0 := hb0.cell 0
    have y0 := hb1.cell 0
    have x2 := hb0.cell 2
    have y2 := hb1.cell 2
    simp only [List.getElem?_toArray, List.getElem?_cons_zero, List.getElem?_cons_succ] at x0 y0 x2 y2
    have xl2 := hb0.lt
    have yl2 := hb1.lt
    by_cases hlt : (k : Int) < (fl.length : Int)
    · obtain ⟨l, hl⟩ : ∃ l, fl[k]? = some l := ⟨_, List.getElem?_eq_getElem (by omega)⟩
      obtain ⟨b, o, cs, rfl, hcb, hrel, hcc⟩ := HF.out.get hl
      obtain ⟨Al, lc, rfl, _, _, hrow⟩ := hrel
      obtain ⟨b', o', cs', rfl, hcb', hrel', hcc'⟩ := HF'.out.get hl
      obtain ⟨Al', lc', rfl, _, _, hrow'⟩ := hrel'
      have hbx := HBX.out
      have hbs := hg.size
      have z0 := (hg.cell (p := ⟨b, o + k * 1 + 0, none⟩) (by simp; omega) (fun x => x)).trans (hcc 0 _ rfl)
      have z1 := (hg.cell (p := ⟨b', o' + k * 1 + 0, none⟩) (by simp; omega) (fun x => x)).trans (hcc' 0 _ rfl)
      rw [Nat.add_zero, Nat.mul_one] at z0 z1
      have hbl : b < wr.heap.size := by omega
      have hbl' : b' < wr.heap.size := by omega
      have HRD : Hid (Reads wr B 2 Al l.length (pts l)) := Lib.hid (by rw [← insCells_pts]; exact (codeR_reads hrow).keep fun q hq => hg.cell (by omega) (fun x => x))
      have HRD' : Hid (Reads wr B 2 Al' l.length (pts l)) := Lib.hid (by rw [← insCells_pts]; exact (codeR_reads hrow').keep fun q hq => hg.cell (by omega) (fun x => x))
      have hll := HL.out l (List.mem_of_getElem? hl)
      clear hcc hcc' hrow hrow' hl hg hb0 hb1 x2 y2 hbx hbs
      go_upto_region 6 with fail
      have hS : (fun w' : World => w'.cell? ⟨w.heap.size, 0, none⟩ = some (.slice (some ⟨b, o, none⟩) fl.length fc) ∧ w'.cell? ⟨w.heap.size + 1, 0, none⟩ = some (.slice (some ⟨b', o', none⟩) fl.length fc') ∧ w'.cell? ⟨b, o + k, none⟩ = some (.slice Al l.length lc) ∧ w'.cell? ⟨b', o' + k, none⟩ = some (.slice Al' l.length lc')) wr.drew := ⟨x0, y0, z0, z1⟩
      clear x0 y0 z0 z1
      refine wp_region_seqT (fun i => !([10] : List Nat).contains i) (fun i => ([1, 4, 6, 9] : List Nat).contains i) (fun i => ([] : List Nat).contains i) [0, 1, 2, 3, 4, 5, 6, 7, 8, 9, 10, 11] (fun w' : World => w'.cell? ⟨w.heap.size, 0, none⟩ = some (.slice (some ⟨b, o, none⟩) fl.length fc) ∧ w'.cell? ⟨w.heap.size + 1, 0, none⟩ = some (.slice (some ⟨b', o', none⟩) fl.length fc') ∧ w'.cell? ⟨b, o + k, none⟩ = some (.slice Al l.length lc) ∧ w'.cell? ⟨b', o' + k, none⟩ = some (.slice Al' l.length lc')) (by kernel_rfl) (by kernel_rfl) (by kernel_rfl) (by kernel_rfl) ?_
      refine wpSeq_pure (v := _) rfl rfl rfl (by kernel_rfl) (fun _ _ _ h => h) (fun wq => by first | (go_simp; done) | (go_simp; rfl)) ?_
      refine wpSeq_load (v := _) rfl rfl (by kernel_rfl) (fun _ _ _ h => h) hS rfl (fun wq hq => by (try have hq1 := hq.1); (try have hq2 := hq.2.1); (try have hq3 := hq.2.2.1); (try have hq4 := hq.2.2.2.1); (try have hq5 := hq.2.2.2.2.1); (try have hq6 := hq.2.2.2.2.2.1); (try have hq7 := hq.2.2.2.2.2.2); (try have hr2 := hq.2); (try have hr3 := hq.2.2); (try have hr4 := hq.2.2.2); (try have hr5 := hq.2.2.2.2); first | (go_simp; done) | (go_simp; rfl)) ?_
      refine wpSeq_pure (v := _) rfl rfl rfl (by kernel_rfl) (fun _ _ _ h => h) (fun wq => by first | (go_simp; done) | (go_simp; rfl)) ?_
      refine wpSeq_pure (v := _) rfl rfl rfl (by kernel_rfl) (fun _ _ _ h => h) (fun wq => by first | (go_simp; done) | (go_simp; rfl)) ?_
      refine wpSeq_load (v := _) rfl rfl (by kernel_rfl) (fun _ _ _ h => h) hS rfl (fun wq hq => by (try have hq1 := hq.1); (try have hq2 := hq.2.1); (try have hq3 := hq.2.2.1); (try have hq4 := hq.2.2.2.1); (try have hq5 := hq.2.2.2.2.1); (try have hq6 := hq.2.2.2.2.2.1); (try have hq7 := hq.2.2.2.2.2.2); (try have hr2 := hq.2); (try have hr3 := hq.2.2); (try have hr4 := hq.2.2.2); (try have hr5 := hq.2.2.2.2); first | (go_simp; done) | (go_simp; rfl)) ?_
      refine wpSeq_pure (v := _) rfl rfl rfl (by kernel_rfl) (fun _ _ _ h => h) (fun wq => by first | (go_simp; done) | (go_simp; rfl)) ?_
      refine wpSeq_load (v := _) rfl rfl (by kernel_rfl) (fun _ _ _ h => h) hS rfl (fun wq hq => by (try have hq1 := hq.1); (try have hq2 := hq.2.1); (try have hq3 := hq.2.2.1); (try have hq4 := hq.2.2.2.1); (try have hq5 := hq.2.2.2.2.1); (try have hq6 := hq.2.2.2.2.2.1); (try have hq7 := hq.2.2.2.2.2.2); (try have hr2 := hq.2); (try have hr3 := hq.2.2); (try have hr4 := hq.2.2.2); (try have hr5 := hq.2.2.2.2); first | (go_simp; done) | (go_simp; rfl)) ?_
      refine wpSeq_pure (v := _) rfl rfl rfl (by kernel_rfl) (fun _ _ _ h => h) (fun wq => by first | (go_simp; done) | (go_simp; rfl)) ?_
      refine wpSeq_pure (v := _) rfl rfl rfl (by kernel_rfl) (fun _ _ _ h => h) (fun wq => by first | (go_simp; done) | (go_simp; rfl)) ?_
      refine wpSeq_load (v := _) rfl rfl (by kernel_rfl) (fun _ _ _ h => h) hS rfl (fun wq hq => by (try have hq1 := hq.1); (try have hq2 := hq.2.1); (try have hq3 := hq.2.2.1); (try have hq4 := hq.2.2.2.1); (try have hq5 := hq.2.2.2.2.1); (try have hq6 := hq.2.2.2.2.2.1); (try have hq7 := hq.2.2.2.2.2.2); (try have hr2 := hq.2); (try have hr3 := hq.2.2); (try have hr4 := hq.2.2.2); (try have hr5 := hq.2.2.2.2); first | (go_simp; done) | (go_simp; rfl)) ?_
      refine wpSeq_heavy rfl rfl (fun K hK => ?_); go_simp
      refine (rcode2_same Al Al' lc lc' B B l wr.drew HRD.out HRD'.out hll).mono ?_
      rintro e w5 ⟨rfl, hg5⟩
      have HG5 := Lib.hid ((HG.out.drew).trans hg5)
      clear hS hg5
      refine hK _ _ (fun h => by cases h) ?_; clear hK K
      refine wpSeq_pure (v := _) rfl rfl rfl (by kernel_rfl) (fun _ _ _ h => h) (fun wq => by first | (go_simp; done) | (go_simp; rfl)) ?_
      refine wpSeq_end ?_
      go_wp2_with fail
      exact ⟨⟨k + 1, by omega, by first | rfl | go_num, HG5.out⟩, by simp [intOf]; omega⟩
    · have hke : k = fl.length := by omega
      subst hke
      clear hg hb0 hb1
      go_upto_region 9 with fail
      clear x0 y0 x2 y2 xl2 yl2 hlt hk
      go_wp2_with fail
      go_loopw [6] (fun i wr => ∃ k : Nat, k ≤ cl.length ∧ i = .int .i64 (k : Int) ∧ Grow X wr) (fun i _ => cl.length - (intOf i).toNat)
      case atStart => exact ⟨0, by omega, rfl, HG.out⟩
      case round =>
        clear HG
        obtain ⟨k, hk, rfl, hg⟩ := hrel
        have HG := Lib.hid hg
        have hb0 := hg.blk HB0.out (fun x => x)
        have hb1 := hg.blk HB1.out (fun x => x)
        have x2 := hb0.cell 2
        have y2 := hb1.cell 2
        simp only [List.getElem?_toArray, List.getElem?_cons_zero, List.getElem?_cons_succ] at x2 y2
        have xl2 := hb0.lt
        have yl2 := hb1.lt
        by_cases hlt : (k : Int) < (cl.length : Int)
        · obtain ⟨x, hx⟩ : ∃ x, cl[k]? = some x := ⟨_, List.getElem?_eq_getElem (by omega)⟩
          obtain ⟨b, o, rfl, hcb, hcc⟩ := HC.out.at_ (by omega)
          obtain ⟨b', o', rfl, hcb', hcc'⟩ := HC'.out.at_ (by omega)
          have hbx := HBX.out
          have hbs := hg.size
          have z0 := (hg.cell (p := ⟨b, o + k, none⟩) (by simp; omega) (fun x => x)).trans (hcc _ _ (ints_at cl k x hx))
          have z1 := (hg.cell (p := ⟨b', o' + k, none⟩) (by simp; omega) (fun x => x)).trans (hcc' _ _ (ints_at cl k x hx))
          have hbl : b < wr.heap.size := by omega
          have hbl' : b' < wr.heap.size := by omega
          have n1 : (x != x) = false := by simp
          clear hcc hcc' hx hg hb0 hb1 hbx hbs
          go_upto_region 11 with fail
          go_quiet (fail)
          go_wp2_with fail
          exact ⟨⟨k + 1, by omega, by first | rfl | go_num, HG.out.drewN _⟩, by simp [intOf]; omega⟩
        · have HEND := Lib.hid (HXG.out.trans hg)
          clear hg hb0 hb1
          go_wp2
          go_ret
          exact ⟨rfl, HEND.out⟩
end Go.Proofs.Ytnalbkjbidaojaa

/- Points of the machine: the deeds Move, Set, Align: their contracts. -/
import Derived.Test.YthdmdgmchkhngaaMaL
namespace Go.Proofs.Ythdmdgmchkhngaa
open Go.RowKit Mc
set_option maxRecDepth 100000 in
set_option maxHeartbeats 2000000 in
theorem align_any (w : World) (mb : Nat) (O : Nat → Prop) (L : Lay) (s : St) (h : MaL w mb O L s) (x y : Int) (r : List Int) (hs : s.stack = y :: x :: r) :
    Calls Try.prog 78 #[.pointer (some ⟨mb, 0, none⟩)] w (MPost w mb O (alignV s r x y)) := by
  have H := Lib.hid h
  have HS := Lib.hid hs
  have hmv := h.ok.move
  have hcl := h.ok.curl
  clear h hs
  by_cases hlm : s.look = s.move
  · have HLM := Lib.hid hlm
    clear hlm
    by_cases hx : has s x = true
    · have HX := Lib.hid hx
      obtain ⟨i, rfl, hil⟩ := has_nat hx
      clear hx
      by_cases hy : has s y = true
      · have HY := Lib.hid hy
        obtain ⟨j, rfl, hjl⟩ := has_nat hy
        clear hy
        go_enter Try.func78, Try.ntmps78
        go_wp2_with fail
        refine (take2_new w mb O L s H.out _ _ r HS.out _ _).mono ?_
        rintro e w' ⟨rfl, ht, hb1, hb2⟩; obtain ⟨L', hM⟩ := ht.ma; have HM := Lib.hid hM; have HT := Lib.hid ht; have hlt := ht.lt; have b1 := hb1.cell 0; have b1l := hb1.lt; have b1f := hb1.frozen 0; have b2 := hb2.cell 0; have b2l := hb2.lt; have b2f := hb2.frozen 0; simp only [List.getElem?_toArray, List.getElem?_cons_zero] at b1 b2; clear ht hM hb1 hb2
        go_wp2_with fail
        have c42 := HM.out.blk.cell 42
        rw [HM.out.c.c42] at c42
        dsimp only at c42
        have c43 := HM.out.blk.cell 43
        rw [HM.out.c.c43] at c43
        dsimp only at c43
        rw [HLM.out] at c42
        have hS : w'.drew.cell? ⟨mb, 42, none⟩ = some (.int .i64 s.move) ∧ w'.drew.cell? ⟨mb, 43, none⟩ = some (.int .i64 s.move) ∧ w'.drew.cell? ⟨w.heap.size, 0, none⟩ = some (.int .i64 i) ∧ w'.drew.cell? ⟨w.heap.size + 1, 0, none⟩ = some (.int .i64 j) := ⟨c42, c43, b1, b2⟩
        refine wp_region_seqT (fun i => !([12, 17] : List Nat).contains i) (fun i => ([3, 7, 11, 16] : List Nat).contains i) (fun i => ([12] : List Nat).contains i) [0, 1, 2, 3, 4, 5, 6, 7, 8, 9, 10, 11, 12, 13, 14, 15, 16, 17, 18] (fun w' : World => w'.cell? ⟨mb, 42, none⟩ = some (.int .i64 s.move) ∧ w'.cell? ⟨mb, 43, none⟩ = some (.int .i64 s.move) ∧ w'.cell? ⟨w.heap.size, 0, none⟩ = some (.int .i64 i) ∧ w'.cell? ⟨w.heap.size + 1, 0, none⟩ = some (.int .i64 j)) (by kernel_rfl) (by kernel_rfl) (by kernel_rfl) (by kernel_rfl) ?_
        refine wpSeq_pure (v := _) rfl rfl rfl (by kernel_rfl) (fun _ _ _ h => h) (fun wq => by first | (go_simp; done) | (go_simp; rfl)) ?_
        refine wpSeq_pure (v := _) rfl rfl rfl (by kernel_rfl) (fun _ _ _ h => h) (fun wq => by first | (go_simp; done) | (go_simp; rfl)) ?_
        refine wpSeq_pure (v := _) rfl rfl rfl (by kernel_rfl) (fun _ _ _ h => h) (fun wq => by first | (go_simp; done) | (go_simp; rfl)) ?_
        refine wpSeq_load (v := _) rfl rfl (by kernel_rfl) (fun _ _ _ h => h) hS rfl (fun wq hq => by (try have hq1 := hq.1); (try have hq2 := hq.2.1); (try have hq3 := hq.2.2.1); (try have hq4 := hq.2.2.2.1); (try have hq5 := hq.2.2.2.2.1); (try have hq6 := hq.2.2.2.2.2.1); (try have hq7 := hq.2.2.2.2.2.2); (try have hr2 := hq.2); (try have hr3 := hq.2.2); (try have hr4 := hq.2.2.2); (try have hr5 := hq.2.2.2.2); first | (go_simp; done) | (go_simp; rfl)) ?_
        refine wpSeq_pure (v := _) rfl rfl rfl (by kernel_rfl) (fun _ _ _ h => h) (fun wq => by first | (go_simp; done) | (go_simp; rfl)) ?_
        refine wpSeq_pure (v := _) rfl rfl rfl (by kernel_rfl) (fun _ _ _ h => h) (fun wq => by first | (go_simp; done) | (go_simp; rfl)) ?_
        refine wpSeq_pure (v := _) rfl rfl rfl (by kernel_rfl) (fun _ _ _ h => h) (fun wq => by first | (go_simp; done) | (go_simp; rfl)) ?_
        refine wpSeq_load (v := _) rfl rfl (by kernel_rfl) (fun _ _ _ h => h) hS rfl (fun wq hq => by (try have hq1 := hq.1); (try have hq2 := hq.2.1); (try have hq3 := hq.2.2.1); (try have hq4 := hq.2.2.2.1); (try have hq5 := hq.2.2.2.2.1); (try have hq6 := hq.2.2.2.2.2.1); (try have hq7 := hq.2.2.2.2.2.2); (try have hr2 := hq.2); (try have hr3 := hq.2.2); (try have hr4 := hq.2.2.2); (try have hr5 := hq.2.2.2.2); first | (go_simp; done) | (go_simp; rfl)) ?_
        refine wpSeq_pure (v := _) rfl rfl rfl (by kernel_rfl) (fun _ _ _ h => h) (fun wq => by first | (go_simp; done) | (go_simp; rfl)) ?_
        refine wpSeq_pure (v := _) rfl rfl rfl (by kernel_rfl) (fun _ _ _ h => h) (fun wq => by first | (go_simp; done) | (go_simp; rfl)) ?_
        refine wpSeq_pure (v := _) rfl rfl rfl (by kernel_rfl) (fun _ _ _ h => h) (fun wq => by first | (go_simp; done) | (go_simp; rfl)) ?_
        go_simp
        refine wpSeq_load (v := _) rfl rfl (by kernel_rfl) (fun _ _ _ h => h) hS rfl (fun wq hq => by (try have hq1 := hq.1); (try have hq2 := hq.2.1); (try have hq3 := hq.2.2.1); (try have hq4 := hq.2.2.2.1); (try have hq5 := hq.2.2.2.2.1); (try have hq6 := hq.2.2.2.2.2.1); (try have hq7 := hq.2.2.2.2.2.2); (try have hr2 := hq.2); (try have hr3 := hq.2.2); (try have hr4 := hq.2.2.2); (try have hr5 := hq.2.2.2.2); first | (go_simp; done) | (go_simp; rfl)) ?_
        refine wpSeq_heavy rfl rfl (fun K hK => ?_); go_simp
        refine (has_any w'.drew mb O L' _ HM.out.drew _).mono ?_
        rintro e w5 ⟨rfl, rfl⟩
        have hh : has { s with stack := r } ((i : Int)) = true := HX.out
        rw [hh]
        clear hh
        dsimp only
        refine hK _ _ (fun _ => hS) ?_; clear hK K
        refine wpSeq_pure (v := _) rfl rfl rfl (by kernel_rfl) (fun _ _ _ h => h) (fun wq => by first | (go_simp; done) | (go_simp; rfl)) ?_
        refine wpSeq_pure (v := _) rfl rfl rfl (by kernel_rfl) (fun _ _ _ h => h) (fun wq => by first | (go_simp; done) | (go_simp; rfl)) ?_
        refine wpSeq_pure (v := _) rfl rfl rfl (by kernel_rfl) (fun _ _ _ h => h) (fun wq => by first | (go_simp; done) | (go_simp; rfl)) ?_
        go_simp
        refine wpSeq_load (v := _) rfl rfl (by kernel_rfl) (fun _ _ _ h => h) hS rfl (fun wq hq => by (try have hq1 := hq.1); (try have hq2 := hq.2.1); (try have hq3 := hq.2.2.1); (try have hq4 := hq.2.2.2.1); (try have hq5 := hq.2.2.2.2.1); (try have hq6 := hq.2.2.2.2.2.1); (try have hq7 := hq.2.2.2.2.2.2); (try have hr2 := hq.2); (try have hr3 := hq.2.2); (try have hr4 := hq.2.2.2); (try have hr5 := hq.2.2.2.2); first | (go_simp; done) | (go_simp; rfl)) ?_
        refine wpSeq_heavy rfl rfl (fun K hK => ?_); go_simp
        refine (has_any w'.drew mb O L' _ HM.out.drew _).mono ?_
        rintro e w5 ⟨rfl, rfl⟩
        have hh : has { s with stack := r } ((j : Int)) = true := HY.out
        rw [hh]
        clear hh
        dsimp only
        refine hK _ _ (fun h => by cases h) ?_; clear hK K
        refine wpSeq_pure (v := _) rfl rfl rfl (by kernel_rfl) (fun _ _ _ h => h) (fun wq => by first | (go_simp; done) | (go_simp; rfl)) ?_
        refine wpSeq_end ?_
        have HM2 := Lib.hid HM.out.drew
        have HT2 := Lib.hid HT.out.fr.drew
        have e1 : w'.drew.cell? ⟨w.heap.size, 0, none⟩ = some (.int .i64 i) := b1
        have e2 : w'.drew.cell? ⟨w.heap.size + 1, 0, none⟩ = some (.int .i64 j) := b2
        have e3 : w'.drew.cell? ⟨mb, 43, none⟩ = some (.int .i64 s.move) := c43
        have e1l : w.heap.size < w'.drew.heap.size := b1l
        have e2l : w.heap.size + 1 < w'.drew.heap.size := b2l
        have mbl : mb < w'.drew.heap.size := HM2.out.blk.lt
        obtain ⟨g, c, pt, hv, hc1, hpt, hgl, hcell⟩ := HM2.out.pt (p := i) hil
        dsimp only at hpt hv hc1
        have HPT := Lib.hid hpt
        have e4 := HM2.out.blk.cell 3
        rw [HM2.out.c.c3, hv] at e4
        have d0 := hcell s.move
        clear hcell hpt hv hS c42 c43 b1 b2 b1l b2l b1f b2f
        generalize hd : (if s.move = 1 then 1 else 0 : Nat) = d at d0
        have HD := Lib.hid hd
        clear hd
        generalize w'.drew = W at *
        go_wp2_with fail
        have hS : W.drew.cell? ⟨mb, 43, none⟩ = some (.int .i64 s.move) ∧ W.drew.cell? ⟨mb, 3, none⟩ = some (.slice (some ⟨g, 0, none⟩) s.cur.length c) ∧ W.drew.cell? ⟨w.heap.size, 0, none⟩ = some (.int .i64 i) ∧ W.drew.cell? ⟨w.heap.size + 1, 0, none⟩ = some (.int .i64 j) ∧ W.drew.cell? ⟨g, i * 2 + d, none⟩ = some (.int .i64 (coord s.move pt)) := ⟨e3, e4, e1, e2, d0⟩
        refine wp_region_seqT (fun i => !([17, 20] : List Nat).contains i) (fun i => ([1, 5, 10, 11, 16, 19] : List Nat).contains i) (fun i => ([17] : List Nat).contains i) [0, 1, 2, 3, 4, 5, 6, 7, 8, 9, 10, 11, 12, 13, 14, 15, 16, 17, 18, 19, 20] (fun w' : World => w'.cell? ⟨mb, 43, none⟩ = some (.int .i64 s.move) ∧ w'.cell? ⟨mb, 3, none⟩ = some (.slice (some ⟨g, 0, none⟩) s.cur.length c) ∧ w'.cell? ⟨w.heap.size, 0, none⟩ = some (.int .i64 i) ∧ w'.cell? ⟨w.heap.size + 1, 0, none⟩ = some (.int .i64 j) ∧ w'.cell? ⟨g, i * 2 + d, none⟩ = some (.int .i64 (coord s.move pt))) (by kernel_rfl) (by kernel_rfl) (by kernel_rfl) (by kernel_rfl) ?_
        refine wpSeq_pure (v := _) rfl rfl rfl (by kernel_rfl) (fun _ _ _ h => h) (fun wq => by first | (go_simp; done) | (go_simp; rfl)) ?_
        refine wpSeq_load (v := _) rfl rfl (by kernel_rfl) (fun _ _ _ h => h) hS rfl (fun wq hq => by (try have hq1 := hq.1); (try have hq2 := hq.2.1); (try have hq3 := hq.2.2.1); (try have hq4 := hq.2.2.2.1); (try have hq5 := hq.2.2.2.2.1); (try have hq6 := hq.2.2.2.2.2.1); (try have hq7 := hq.2.2.2.2.2.2); (try have hr2 := hq.2); (try have hr3 := hq.2.2); (try have hr4 := hq.2.2.2); (try have hr5 := hq.2.2.2.2); first | (go_simp; done) | (go_simp; rfl)) ?_
        refine wpSeq_pure (v := _) rfl rfl rfl (by kernel_rfl) (fun _ _ _ h => h) (fun wq => by first | (go_simp; done) | (go_simp; rfl)) ?_
        refine wpSeq_pure (v := _) rfl rfl rfl (by kernel_rfl) (fun _ _ _ h => h) (fun wq => by first | (go_simp; done) | (go_simp; rfl)) ?_
        refine wpSeq_pure (v := _) rfl rfl rfl (by kernel_rfl) (fun _ _ _ h => h) (fun wq => by first | (go_simp; done) | (go_simp; rfl)) ?_
        refine wpSeq_load (v := _) rfl rfl (by kernel_rfl) (fun _ _ _ h => h) hS rfl (fun wq hq => by (try have hq1 := hq.1); (try have hq2 := hq.2.1); (try have hq3 := hq.2.2.1); (try have hq4 := hq.2.2.2.1); (try have hq5 := hq.2.2.2.2.1); (try have hq6 := hq.2.2.2.2.2.1); (try have hq7 := hq.2.2.2.2.2.2); (try have hr2 := hq.2); (try have hr3 := hq.2.2); (try have hr4 := hq.2.2.2); (try have hr5 := hq.2.2.2.2); first | (go_simp; done) | (go_simp; rfl)) ?_
        refine wpSeq_pure (v := _) rfl rfl rfl (by kernel_rfl) (fun _ _ _ h => h) (fun wq => by first | (go_simp; done) | (go_simp; rfl)) ?_
        refine wpSeq_pure (v := _) rfl rfl rfl (by kernel_rfl) (fun _ _ _ h => h) (fun wq => by first | (go_simp; done) | (go_simp; rfl)) ?_
        refine wpSeq_pure (v := _) rfl rfl rfl (by kernel_rfl) (fun _ _ _ h => h) (fun wq => by first | (go_simp; done) | (go_simp; rfl)) ?_
        refine wpSeq_pure (v := _) rfl rfl rfl (by kernel_rfl) (fun _ _ _ h => h) (fun wq => by first | (go_simp; done) | (go_simp; rfl)) ?_
        refine wpSeq_load (v := _) rfl rfl (by kernel_rfl) (fun _ _ _ h => h) hS rfl (fun wq hq => by (try have hq1 := hq.1); (try have hq2 := hq.2.1); (try have hq3 := hq.2.2.1); (try have hq4 := hq.2.2.2.1); (try have hq5 := hq.2.2.2.2.1); (try have hq6 := hq.2.2.2.2.2.1); (try have hq7 := hq.2.2.2.2.2.2); (try have hr2 := hq.2); (try have hr3 := hq.2.2); (try have hr4 := hq.2.2.2); (try have hr5 := hq.2.2.2.2); first | (go_simp; done) | (go_simp; rfl)) ?_
        refine wpSeq_load (v := _) rfl rfl (by kernel_rfl) (fun _ _ _ h => h) hS rfl (fun wq hq => by (try have hq1 := hq.1); (try have hq2 := hq.2.1); (try have hq3 := hq.2.2.1); (try have hq4 := hq.2.2.2.1); (try have hq5 := hq.2.2.2.2.1); (try have hq6 := hq.2.2.2.2.2.1); (try have hq7 := hq.2.2.2.2.2.2); (try have hr2 := hq.2); (try have hr3 := hq.2.2); (try have hr4 := hq.2.2.2); (try have hr5 := hq.2.2.2.2); first | (go_simp; done) | (go_simp; rfl)) ?_
        refine wpSeq_pure (v := _) rfl rfl rfl (by kernel_rfl) (fun _ _ _ h => h) (fun wq => by first | (go_simp; done) | (go_simp; rfl)) ?_
        refine wpSeq_pure (v := _) rfl rfl rfl (by kernel_rfl) (fun _ _ _ h => h) (fun wq => by first | (go_simp; done) | (go_simp; rfl)) ?_
        refine wpSeq_pure (v := _) rfl rfl rfl (by kernel_rfl) (fun _ _ _ h => h) (fun wq => by first | (go_simp; done) | (go_simp; rfl)) ?_
        refine wpSeq_pure (v := _) rfl rfl rfl (by kernel_rfl) (fun _ _ _ h => h) (fun wq => by first | (go_simp; done) | (go_simp; rfl)) ?_
        refine wpSeq_load (v := _) rfl rfl (by kernel_rfl) (fun _ _ _ h => h) hS rfl (fun wq hq => by (try have hq1 := hq.1); (try have hq2 := hq.2.1); (try have hq3 := hq.2.2.1); (try have hq4 := hq.2.2.2.1); (try have hq5 := hq.2.2.2.2.1); (try have hq6 := hq.2.2.2.2.2.1); (try have hq7 := hq.2.2.2.2.2.2); (try have hr2 := hq.2); (try have hr3 := hq.2.2); (try have hr4 := hq.2.2.2); (try have hr5 := hq.2.2.2.2); first | (go_simp; done) | (go_simp; rfl)) ?_
        refine wpSeq_heavy rfl rfl (fun K hK => ?_); go_simp
        refine (coordinate_any _ _ _ _).mono ?_
        rintro e w5 ⟨rfl, rfl⟩
        rw [HD.out]
        dsimp only
        refine hK _ _ (fun _ => hS) ?_; clear hK K
        refine wpSeq_pure (v := _) rfl rfl rfl (by kernel_rfl) (fun _ _ _ h => h) (fun wq => by first | (go_simp; done) | (go_simp; rfl)) ?_
        refine wpSeq_load (v := _) rfl rfl (by kernel_rfl) (fun _ _ _ h => h) hS rfl (fun wq hq => by (try have hq1 := hq.1); (try have hq2 := hq.2.1); (try have hq3 := hq.2.2.1); (try have hq4 := hq.2.2.2.1); (try have hq5 := hq.2.2.2.2.1); (try have hq6 := hq.2.2.2.2.2.1); (try have hq7 := hq.2.2.2.2.2.2); (try have hr2 := hq.2); (try have hr3 := hq.2.2); (try have hr4 := hq.2.2.2); (try have hr5 := hq.2.2.2.2); first | (go_simp; done) | (go_simp; rfl)) ?_
        refine wpSeq_heavy rfl rfl (fun K hK => ?_); go_simp
        refine (put_any W.drew mb O L' _ HM2.out.drew j s.move _ hjl hmv).mono ?_
        intro e w9 hp
        have HP := Lib.hid (hp.from_ HT2.out.drew)
        obtain ⟨rfl, _⟩ := hp
        dsimp only
        refine hK _ _ (fun h => by cases h) ?_; clear hK K
        refine wpSeq_end ?_
        go_wp2
        go_end0
        rw [alignV_yes HLM.out HX.out HY.out HPT.out]
        exact HP.out
      · have HY := Lib.hid hy
        have hy' : has s y = false := by simpa using hy
        have HY' := Lib.hid hy'
        clear hy hy'
        go_enter Try.func78, Try.ntmps78
        go_wp2_with fail
        refine (take2_new w mb O L s H.out _ _ r HS.out _ _).mono ?_
        rintro e w' ⟨rfl, ht, hb1, hb2⟩; obtain ⟨L', hM⟩ := ht.ma; have HM := Lib.hid hM; have HT := Lib.hid ht; have hlt := ht.lt; have b1 := hb1.cell 0; have b1l := hb1.lt; have b1f := hb1.frozen 0; have b2 := hb2.cell 0; have b2l := hb2.lt; have b2f := hb2.frozen 0; simp only [List.getElem?_toArray, List.getElem?_cons_zero] at b1 b2; clear ht hM hb1 hb2
        go_wp2_with fail
        have c42 := HM.out.blk.cell 42
        rw [HM.out.c.c42] at c42
        dsimp only at c42
        have c43 := HM.out.blk.cell 43
        rw [HM.out.c.c43] at c43
        dsimp only at c43
        rw [HLM.out] at c42
        have hS : w'.drew.cell? ⟨mb, 42, none⟩ = some (.int .i64 s.move) ∧ w'.drew.cell? ⟨mb, 43, none⟩ = some (.int .i64 s.move) ∧ w'.drew.cell? ⟨w.heap.size, 0, none⟩ = some (.int .i64 i) ∧ w'.drew.cell? ⟨w.heap.size + 1, 0, none⟩ = some (.int .i64 y) := ⟨c42, c43, b1, b2⟩
        refine wp_region_seqT (fun i => !([12, 17] : List Nat).contains i) (fun i => ([3, 7, 11, 16] : List Nat).contains i) (fun i => ([12] : List Nat).contains i) [0, 1, 2, 3, 4, 5, 6, 7, 8, 9, 10, 11, 12, 13, 14, 15, 16, 17, 18] (fun w' : World => w'.cell? ⟨mb, 42, none⟩ = some (.int .i64 s.move) ∧ w'.cell? ⟨mb, 43, none⟩ = some (.int .i64 s.move) ∧ w'.cell? ⟨w.heap.size, 0, none⟩ = some (.int .i64 i) ∧ w'.cell? ⟨w.heap.size + 1, 0, none⟩ = some (.int .i64 y)) (by kernel_rfl) (by kernel_rfl) (by kernel_rfl) (by kernel_rfl) ?_
        refine wpSeq_pure (v := _) rfl rfl rfl (by kernel_rfl) (fun _ _ _ h => h) (fun wq => by first | (go_simp; done) | (go_simp; rfl)) ?_
        refine wpSeq_pure (v := _) rfl rfl rfl (by kernel_rfl) (fun _ _ _ h => h) (fun wq => by first | (go_simp; done) | (go_simp; rfl)) ?_
        refine wpSeq_pure (v := _) rfl rfl rfl (by kernel_rfl) (fun _ _ _ h => h) (fun wq => by first | (go_simp; done) | (go_simp; rfl)) ?_
        refine wpSeq_load (v := _) rfl rfl (by kernel_rfl) (fun _ _ _ h => h) hS rfl (fun wq hq => by (try have hq1 := hq.1); (try have hq2 := hq.2.1); (try have hq3 := hq.2.2.1); (try have hq4 := hq.2.2.2.1); (try have hq5 := hq.2.2.2.2.1); (try have hq6 := hq.2.2.2.2.2.1); (try have hq7 := hq.2.2.2.2.2.2); (try have hr2 := hq.2); (try have hr3 := hq.2.2); (try have hr4 := hq.2.2.2); (try have hr5 := hq.2.2.2.2); first | (go_simp; done) | (go_simp; rfl)) ?_
        refine wpSeq_pure (v := _) rfl rfl rfl (by kernel_rfl) (fun _ _ _ h => h) (fun wq => by first | (go_simp; done) | (go_simp; rfl)) ?_
        refine wpSeq_pure (v := _) rfl rfl rfl (by kernel_rfl) (fun _ _ _ h => h) (fun wq => by first | (go_simp; done) | (go_simp; rfl)) ?_
        refine wpSeq_pure (v := _) rfl rfl rfl (by kernel_rfl) (fun _ _ _ h => h) (fun wq => by first | (go_simp; done) | (go_simp; rfl)) ?_
        refine wpSeq_load (v := _) rfl rfl (by kernel_rfl) (fun _ _ _ h => h) hS rfl (fun wq hq => by (try have hq1 := hq.1); (try have hq2 := hq.2.1); (try have hq3 := hq.2.2.1); (try have hq4 := hq.2.2.2.1); (try have hq5 := hq.2.2.2.2.1); (try have hq6 := hq.2.2.2.2.2.1); (try have hq7 := hq.2.2.2.2.2.2); (try have hr2 := hq.2); (try have hr3 := hq.2.2); (try have hr4 := hq.2.2.2); (try have hr5 := hq.2.2.2.2); first | (go_simp; done) | (go_simp; rfl)) ?_
        refine wpSeq_pure (v := _) rfl rfl rfl (by kernel_rfl) (fun _ _ _ h => h) (fun wq => by first | (go_simp; done) | (go_simp; rfl)) ?_
        refine wpSeq_pure (v := _) rfl rfl rfl (by kernel_rfl) (fun _ _ _ h => h) (fun wq => by first | (go_simp; done) | (go_simp; rfl)) ?_
        refine wpSeq_pure (v := _) rfl rfl rfl (by kernel_rfl) (fun _ _ _ h => h) (fun wq => by first | (go_simp; done) | (go_simp; rfl)) ?_
        go_simp
        refine wpSeq_load (v := _) rfl rfl (by kernel_rfl) (fun _ _ _ h => h) hS rfl (fun wq hq => by (try have hq1 := hq.1); (try have hq2 := hq.2.1); (try have hq3 := hq.2.2.1); (try have hq4 := hq.2.2.2.1); (try have hq5 := hq.2.2.2.2.1); (try have hq6 := hq.2.2.2.2.2.1); (try have hq7 := hq.2.2.2.2.2.2); (try have hr2 := hq.2); (try have hr3 := hq.2.2); (try have hr4 := hq.2.2.2); (try have hr5 := hq.2.2.2.2); first | (go_simp; done) | (go_simp; rfl)) ?_
        refine wpSeq_heavy rfl rfl (fun K hK => ?_); go_simp
        refine (has_any w'.drew mb O L' _ HM.out.drew _).mono ?_
        rintro e w5 ⟨rfl, rfl⟩
        have hh : has { s with stack := r } ((i : Int)) = true := HX.out
        rw [hh]
        clear hh
        dsimp only
        refine hK _ _ (fun _ => hS) ?_; clear hK K
        refine wpSeq_pure (v := _) rfl rfl rfl (by kernel_rfl) (fun _ _ _ h => h) (fun wq => by first | (go_simp; done) | (go_simp; rfl)) ?_
        refine wpSeq_pure (v := _) rfl rfl rfl (by kernel_rfl) (fun _ _ _ h => h) (fun wq => by first | (go_simp; done) | (go_simp; rfl)) ?_
        refine wpSeq_pure (v := _) rfl rfl rfl (by kernel_rfl) (fun _ _ _ h => h) (fun wq => by first | (go_simp; done) | (go_simp; rfl)) ?_
        go_simp
        refine wpSeq_load (v := _) rfl rfl (by kernel_rfl) (fun _ _ _ h => h) hS rfl (fun wq hq => by (try have hq1 := hq.1); (try have hq2 := hq.2.1); (try have hq3 := hq.2.2.1); (try have hq4 := hq.2.2.2.1); (try have hq5 := hq.2.2.2.2.1); (try have hq6 := hq.2.2.2.2.2.1); (try have hq7 := hq.2.2.2.2.2.2); (try have hr2 := hq.2); (try have hr3 := hq.2.2); (try have hr4 := hq.2.2.2); (try have hr5 := hq.2.2.2.2); first | (go_simp; done) | (go_simp; rfl)) ?_
        refine wpSeq_heavy rfl rfl (fun K hK => ?_); go_simp
        refine (has_any w'.drew mb O L' _ HM.out.drew _).mono ?_
        rintro e w5 ⟨rfl, rfl⟩
        have hh : has { s with stack := r } (y) = false := HY'.out
        rw [hh]
        clear hh
        dsimp only
        refine hK _ _ (fun h => by cases h) ?_; clear hK K
        refine wpSeq_pure (v := _) rfl rfl rfl (by kernel_rfl) (fun _ _ _ h => h) (fun wq => by first | (go_simp; done) | (go_simp; rfl)) ?_
        refine wpSeq_end ?_
        have HM2 := Lib.hid HM.out.drew
        have HT2 := Lib.hid HT.out.fr.drew
        go_wp2
        go_end0
        rw [alignV_no (fun e => HY.out e.2.2)]
        exact .here HM2.out HT2.out
    · have HX := Lib.hid hx
      have hx' : has s x = false := by simpa using hx
      have HX' := Lib.hid hx'
      clear hx hx'
      go_enter Try.func78, Try.ntmps78
      go_wp2_with fail
      refine (take2_new w mb O L s H.out _ _ r HS.out _ _).mono ?_
      rintro e w' ⟨rfl, ht, hb1, hb2⟩; obtain ⟨L', hM⟩ := ht.ma; have HM := Lib.hid hM; have HT := Lib.hid ht; have hlt := ht.lt; have b1 := hb1.cell 0; have b1l := hb1.lt; have b1f := hb1.frozen 0; have b2 := hb2.cell 0; have b2l := hb2.lt; have b2f := hb2.frozen 0; simp only [List.getElem?_toArray, List.getElem?_cons_zero] at b1 b2; clear ht hM hb1 hb2
      go_wp2_with fail
      have c42 := HM.out.blk.cell 42
      rw [HM.out.c.c42] at c42
      dsimp only at c42
      have c43 := HM.out.blk.cell 43
      rw [HM.out.c.c43] at c43
      dsimp only at c43
      rw [HLM.out] at c42
      have hS : w'.drew.cell? ⟨mb, 42, none⟩ = some (.int .i64 s.move) ∧ w'.drew.cell? ⟨mb, 43, none⟩ = some (.int .i64 s.move) ∧ w'.drew.cell? ⟨w.heap.size, 0, none⟩ = some (.int .i64 x) ∧ w'.drew.cell? ⟨w.heap.size + 1, 0, none⟩ = some (.int .i64 y) := ⟨c42, c43, b1, b2⟩
      refine wp_region_seqT (fun i => !([12] : List Nat).contains i) (fun i => ([3, 7, 11] : List Nat).contains i) (fun i => ([] : List Nat).contains i) [0, 1, 2, 3, 4, 5, 6, 7, 8, 9, 10, 11, 12, 13, 14, 15, 16, 17, 18] (fun w' : World => w'.cell? ⟨mb, 42, none⟩ = some (.int .i64 s.move) ∧ w'.cell? ⟨mb, 43, none⟩ = some (.int .i64 s.move) ∧ w'.cell? ⟨w.heap.size, 0, none⟩ = some (.int .i64 x) ∧ w'.cell? ⟨w.heap.size + 1, 0, none⟩ = some (.int .i64 y)) (by kernel_rfl) (by kernel_rfl) (by kernel_rfl) (by kernel_rfl) ?_
      refine wpSeq_pure (v := _) rfl rfl rfl (by kernel_rfl) (fun _ _ _ h => h) (fun wq => by first | (go_simp; done) | (go_simp; rfl)) ?_
      refine wpSeq_pure (v := _) rfl rfl rfl (by kernel_rfl) (fun _ _ _ h => h) (fun wq => by first | (go_simp; done) | (go_simp; rfl)) ?_
      refine wpSeq_pure (v := _) rfl rfl rfl (by kernel_rfl) (fun _ _ _ h => h) (fun wq => by first | (go_simp; done) | (go_simp; rfl)) ?_
      refine wpSeq_load (v := _) rfl rfl (by kernel_rfl) (fun _ _ _ h => h) hS rfl (fun wq hq => by (try have hq1 := hq.1); (try have hq2 := hq.2.1); (try have hq3 := hq.2.2.1); (try have hq4 := hq.2.2.2.1); (try have hq5 := hq.2.2.2.2.1); (try have hq6 := hq.2.2.2.2.2.1); (try have hq7 := hq.2.2.2.2.2.2); (try have hr2 := hq.2); (try have hr3 := hq.2.2); (try have hr4 := hq.2.2.2); (try have hr5 := hq.2.2.2.2); first | (go_simp; done) | (go_simp; rfl)) ?_
      refine wpSeq_pure (v := _) rfl rfl rfl (by kernel_rfl) (fun _ _ _ h => h) (fun wq => by first | (go_simp; done) | (go_simp; rfl)) ?_
      refine wpSeq_pure (v := _) rfl rfl rfl (by kernel_rfl) (fun _ _ _ h => h) (fun wq => by first | (go_simp; done) | (go_simp; rfl)) ?_
      refine wpSeq_pure (v := _) rfl rfl rfl (by kernel_rfl) (fun _ _ _ h => h) (fun wq => by first | (go_simp; done) | (go_simp; rfl)) ?_
      refine wpSeq_load (v := _) rfl rfl (by kernel_rfl) (fun _ _ _ h => h) hS rfl (fun wq hq => by (try have hq1 := hq.1); (try have hq2 := hq.2.1); (try have hq3 := hq.2.2.1); (try have hq4 := hq.2.2.2.1); (try have hq5 := hq.2.2.2.2.1); (try have hq6 := hq.2.2.2.2.2.1); (try have hq7 := hq.2.2.2.2.2.2); (try have hr2 := hq.2); (try have hr3 := hq.2.2); (try have hr4 := hq.2.2.2); (try have hr5 := hq.2.2.2.2); first | (go_simp; done) | (go_simp; rfl)) ?_
      refine wpSeq_pure (v := _) rfl rfl rfl (by kernel_rfl) (fun _ _ _ h => h) (fun wq => by first | (go_simp; done) | (go_simp; rfl)) ?_
      refine wpSeq_pure (v := _) rfl rfl rfl (by kernel_rfl) (fun _ _ _ h => h) (fun wq => by first | (go_simp; done) | (go_simp; rfl)) ?_
      refine wpSeq_pure (v := _) rfl rfl rfl (by kernel_rfl) (fun _ _ _ h => h) (fun wq => by first | (go_simp; done) | (go_simp; rfl)) ?_
      go_simp
      refine wpSeq_load (v := _) rfl rfl (by kernel_rfl) (fun _ _ _ h => h) hS rfl (fun wq hq => by (try have hq1 := hq.1); (try have hq2 := hq.2.1); (try have hq3 := hq.2.2.1); (try have hq4 := hq.2.2.2.1); (try have hq5 := hq.2.2.2.2.1); (try have hq6 := hq.2.2.2.2.2.1); (try have hq7 := hq.2.2.2.2.2.2); (try have hr2 := hq.2); (try have hr3 := hq.2.2); (try have hr4 := hq.2.2.2); (try have hr5 := hq.2.2.2.2); first | (go_simp; done) | (go_simp; rfl)) ?_
      refine wpSeq_heavy rfl rfl (fun K hK => ?_); go_simp
      refine (has_any w'.drew mb O L' _ HM.out.drew _).mono ?_
      rintro e w5 ⟨rfl, rfl⟩
      have hh : has { s with stack := r } (x) = false := HX'.out
      rw [hh]
      clear hh
      dsimp only
      refine hK _ _ (fun h => by cases h) ?_; clear hK K
      refine wpSeq_pure (v := _) rfl rfl rfl (by kernel_rfl) (fun _ _ _ h => h) (fun wq => by first | (go_simp; done) | (go_simp; rfl)) ?_
      refine wpSeq_pure (v := _) rfl rfl rfl (by kernel_rfl) (fun _ _ _ h => h) (fun wq => by first | (go_simp; done) | (go_simp; rfl)) ?_
      go_simp
      refine wpSeq_skip rfl rfl rfl (by kernel_rfl) (fun _ _ _ h => h) ?_
      refine wpSeq_skip rfl rfl rfl (by kernel_rfl) (fun _ _ _ h => h) ?_
      refine wpSeq_skip rfl rfl rfl (by kernel_rfl) (fun _ _ _ h => h) ?_
      refine wpSeq_pure (v := _) rfl rfl rfl (by kernel_rfl) (fun _ _ _ h => h) (fun wq => by first | (go_simp; done) | (go_simp; rfl)) ?_
      refine wpSeq_end ?_
      have HM2 := Lib.hid HM.out.drew
      have HT2 := Lib.hid HT.out.fr.drew
      go_wp2
      go_end0
      rw [alignV_no (fun e => HX.out e.2.1)]
      exact .here HM2.out HT2.out
  · have HLM := Lib.hid hlm
    have hb : (s.look == s.move) = false := by simpa using hlm
    clear hlm
    go_enter Try.func78, Try.ntmps78
    go_wp2_with fail
    refine (take2_new w mb O L s H.out _ _ r HS.out _ _).mono ?_
    rintro e w' ⟨rfl, ht, hb1, hb2⟩; obtain ⟨L', hM⟩ := ht.ma; have HM := Lib.hid hM; have HT := Lib.hid ht; have hlt := ht.lt; have b1 := hb1.cell 0; have b1l := hb1.lt; have b1f := hb1.frozen 0; have b2 := hb2.cell 0; have b2l := hb2.lt; have b2f := hb2.frozen 0; simp only [List.getElem?_toArray, List.getElem?_cons_zero] at b1 b2; clear ht hM hb1 hb2
    go_wp2_with fail
    have c42 := HM.out.blk.cell 42
    rw [HM.out.c.c42] at c42
    dsimp only at c42
    have c43 := HM.out.blk.cell 43
    rw [HM.out.c.c43] at c43
    dsimp only at c43
    have hS : w'.drew.cell? ⟨mb, 42, none⟩ = some (.int .i64 s.look) ∧ w'.drew.cell? ⟨mb, 43, none⟩ = some (.int .i64 s.move) ∧ w'.drew.cell? ⟨w.heap.size, 0, none⟩ = some (.int .i64 x) ∧ w'.drew.cell? ⟨w.heap.size + 1, 0, none⟩ = some (.int .i64 y) := ⟨c42, c43, b1, b2⟩
    refine wp_region_seqT (fun i => !([] : List Nat).contains i) (fun i => ([3, 7] : List Nat).contains i) (fun i => ([] : List Nat).contains i) [0, 1, 2, 3, 4, 5, 6, 7, 8, 9, 10, 11, 12, 13, 14, 15, 16, 17, 18] (fun w' : World => w'.cell? ⟨mb, 42, none⟩ = some (.int .i64 s.look) ∧ w'.cell? ⟨mb, 43, none⟩ = some (.int .i64 s.move) ∧ w'.cell? ⟨w.heap.size, 0, none⟩ = some (.int .i64 x) ∧ w'.cell? ⟨w.heap.size + 1, 0, none⟩ = some (.int .i64 y)) (by kernel_rfl) (by kernel_rfl) (by kernel_rfl) (by kernel_rfl) ?_
    refine wpSeq_pure (v := _) rfl rfl rfl (by kernel_rfl) (fun _ _ _ h => h) (fun wq => by first | (go_simp; done) | (go_simp; rfl)) ?_
    refine wpSeq_pure (v := _) rfl rfl rfl (by kernel_rfl) (fun _ _ _ h => h) (fun wq => by first | (go_simp; done) | (go_simp; rfl)) ?_
    refine wpSeq_pure (v := _) rfl rfl rfl (by kernel_rfl) (fun _ _ _ h => h) (fun wq => by first | (go_simp; done) | (go_simp; rfl)) ?_
    refine wpSeq_load (v := _) rfl rfl (by kernel_rfl) (fun _ _ _ h => h) hS rfl (fun wq hq => by (try have hq1 := hq.1); (try have hq2 := hq.2.1); (try have hq3 := hq.2.2.1); (try have hq4 := hq.2.2.2.1); (try have hq5 := hq.2.2.2.2.1); (try have hq6 := hq.2.2.2.2.2.1); (try have hq7 := hq.2.2.2.2.2.2); (try have hr2 := hq.2); (try have hr3 := hq.2.2); (try have hr4 := hq.2.2.2); (try have hr5 := hq.2.2.2.2); first | (go_simp; done) | (go_simp; rfl)) ?_
    refine wpSeq_pure (v := _) rfl rfl rfl (by kernel_rfl) (fun _ _ _ h => h) (fun wq => by first | (go_simp; done) | (go_simp; rfl)) ?_
    refine wpSeq_pure (v := _) rfl rfl rfl (by kernel_rfl) (fun _ _ _ h => h) (fun wq => by first | (go_simp; done) | (go_simp; rfl)) ?_
    refine wpSeq_pure (v := _) rfl rfl rfl (by kernel_rfl) (fun _ _ _ h => h) (fun wq => by first | (go_simp; done) | (go_simp; rfl)) ?_
    refine wpSeq_load (v := _) rfl rfl (by kernel_rfl) (fun _ _ _ h => h) hS rfl (fun wq hq => by (try have hq1 := hq.1); (try have hq2 := hq.2.1); (try have hq3 := hq.2.2.1); (try have hq4 := hq.2.2.2.1); (try have hq5 := hq.2.2.2.2.1); (try have hq6 := hq.2.2.2.2.2.1); (try have hq7 := hq.2.2.2.2.2.2); (try have hr2 := hq.2); (try have hr3 := hq.2.2); (try have hr4 := hq.2.2.2); (try have hr5 := hq.2.2.2.2); first | (go_simp; done) | (go_simp; rfl)) ?_
    refine wpSeq_pure (v := _) rfl rfl rfl (by kernel_rfl) (fun _ _ _ h => h) (fun wq => by first | (go_simp; done) | (go_simp; rfl)) ?_
    refine wpSeq_pure (v := _) rfl rfl rfl (by kernel_rfl) (fun _ _ _ h => h) (fun wq => by first | (go_simp; done) | (go_simp; rfl)) ?_
    go_simp
    refine wpSeq_skip rfl rfl rfl (by kernel_rfl) (fun _ _ _ h => h) ?_
    refine wpSeq_skip rfl rfl rfl (by kernel_rfl) (fun _ _ _ h => h) ?_
    refine wpSeq_skip rfl rfl rfl (by kernel_rfl) (fun _ _ _ h => h) ?_
    refine wpSeq_pure (v := _) rfl rfl rfl (by kernel_rfl) (fun _ _ _ h => h) (fun wq => by first | (go_simp; done) | (go_simp; rfl)) ?_
    refine wpSeq_pure (v := _) rfl rfl rfl (by kernel_rfl) (fun _ _ _ h => h) (fun wq => by first | (go_simp; done) | (go_simp; rfl)) ?_
    go_simp
    refine wpSeq_skip rfl rfl rfl (by kernel_rfl) (fun _ _ _ h => h) ?_
    refine wpSeq_skip rfl rfl rfl (by kernel_rfl) (fun _ _ _ h => h) ?_
    refine wpSeq_skip rfl rfl rfl (by kernel_rfl) (fun _ _ _ h => h) ?_
    refine wpSeq_pure (v := _) rfl rfl rfl (by kernel_rfl) (fun _ _ _ h => h) (fun wq => by first | (go_simp; done) | (go_simp; rfl)) ?_
    refine wpSeq_end ?_
    have HM2 := Lib.hid HM.out.drew
    have HT2 := Lib.hid HT.out.fr.drew
    go_wp2
    go_end0
    rw [alignV_no (fun e => HLM.out e.1)]
    exact .here HM2.out HT2.out
theorem move_deed (w : World) (mb : Nat) (O : Nat → Prop) (L : Lay) (s : St) (h : MaL w mb O L s) (a x y : Int) (r : List Int) (hs : s.stack = y :: x :: r) :
    Calls Try.prog 73 #[.pointer (some ⟨mb, 0, none⟩), .int .i64 a] w (MPost w mb O (moveV s r x y)) := by
  have HC := Lib.hid (shove_any w mb O L s h x y r hs)
  clear h hs
  go_enter Try.func73, Try.ntmps73
  go_wp2_with fail
  refine HC.out.mono ?_
  intro e w9 hp; have HP := Lib.hid hp; obtain ⟨rfl, _⟩ := hp; go_wp2; go_end0; exact HP.out
theorem set_deed (w : World) (mb : Nat) (O : Nat → Prop) (L : Lay) (s : St) (h : MaL w mb O L s) (a x y : Int) (r : List Int) (hs : s.stack = y :: x :: r) :
    Calls Try.prog 75 #[.pointer (some ⟨mb, 0, none⟩), .int .i64 a] w (MPost w mb O (setV s r x y)) := by
  have HC := Lib.hid (set_any w mb O L s h x y r hs)
  clear h hs
  go_enter Try.func75, Try.ntmps75
  go_wp2_with fail
  refine HC.out.mono ?_
  intro e w9 hp; have HP := Lib.hid hp; obtain ⟨rfl, _⟩ := hp; go_wp2; go_end0; exact HP.out
theorem align_deed (w : World) (mb : Nat) (O : Nat → Prop) (L : Lay) (s : St) (h : MaL w mb O L s) (a x y : Int) (r : List Int) (hs : s.stack = y :: x :: r) :
    Calls Try.prog 77 #[.pointer (some ⟨mb, 0, none⟩), .int .i64 a] w (MPost w mb O (alignV s r x y)) := by
  have HC := Lib.hid (align_any w mb O L s h x y r hs)
  clear h hs
  go_enter Try.func77, Try.ntmps77
  go_wp2_with fail
  refine HC.out.mono ?_
  intro e w9 hp; have HP := Lib.hid hp; obtain ⟨rfl, _⟩ := hp; go_wp2; go_end0; exact HP.out
end Go.Proofs.Ythdmdgmchkhngaa

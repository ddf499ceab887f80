/- Points of the machine: the deeds Move, Set, Align: their contracts. -/
import Derived.Test.YthdmdgmchkhngaaMaK
namespace Go.Proofs.Ythdmdgmchkhngaa
open Go.RowKit Mc

/-- what Set does -/
def setV (s : St) (r : List Int) (p v : Int) : St := if s.look = s.move ∧ has s p then goes { s with stack := r } p.toNat s.move v else { s with stack := r }
theorem setV_no {s : St} {r : List Int} {p v : Int} (h : ¬ (s.look = s.move ∧ has s p = true)) : setV s r p v = { s with stack := r } := by unfold setV; rw [if_neg h]
theorem setV_yes {s : St} {r : List Int} {i : Nat} {v : Int} (h : s.look = s.move) (h' : has s i = true) : setV s r i v = goes { s with stack := r } i s.move v := by
  unfold setV
  rw [if_pos ⟨h, h'⟩, Int.toNat_natCast]
/-- what Align does -/
def alignV (s : St) (r : List Int) (p q : Int) : St := if s.look = s.move ∧ has s p ∧ has s q then goes { s with stack := r } q.toNat s.move (coord s.move (s.cur.getD p.toNat (0, 0))) else { s with stack := r }
theorem alignV_no {s : St} {r : List Int} {p q : Int} (h : ¬ (s.look = s.move ∧ has s p = true ∧ has s q = true)) : alignV s r p q = { s with stack := r } := by unfold alignV; rw [if_neg h]
theorem alignV_yes {s : St} {r : List Int} {i j : Nat} {x : Int × Int} (h : s.look = s.move) (h' : has s i = true) (h'' : has s j = true) (hx : s.cur[i]? = some x) : alignV s r i j = goes { s with stack := r } j s.move (coord s.move x) := by
  unfold alignV
  rw [if_pos ⟨h, h', h''⟩, Int.toNat_natCast, Int.toNat_natCast, getD_of hx]
theorem has_nat {s : St} {x : Int} (h : has s x = true) : ∃ i : Nat, x = i ∧ i < s.cur.length := by
  simp only [has, decide_eq_true_eq] at h
  exact ⟨x.toNat, by omega, by omega⟩
set_option maxRecDepth 100000 in
set_option maxHeartbeats 1000000 in
theorem set_any (w : World) (mb : Nat) (O : Nat → Prop) (L : Lay) (s : St) (h : MaL w mb O L s) (x y : Int) (r : List Int) (hs : s.stack = y :: x :: r) :
    Calls Try.prog 76 #[.pointer (some ⟨mb, 0, none⟩)] w (MPost w mb O (setV s r x y)) := by
  have H := Lib.hid h
  have HS := Lib.hid hs
  have hmv := h.ok.move
  have hcl := h.ok.curl
  clear h hs
  by_cases hlm : s.look = s.move
  · have HLM := Lib.hid hlm
    clear hlm
    by_cases hx : has s x = true
    · have HX := Lib.hid hx
      obtain ⟨i, rfl, hil⟩ := has_nat hx
      clear hx
      go_enter Try.func76, Try.ntmps76
      go_wp2_with fail
      refine (take2_new w mb O L s H.out _ y r HS.out _ _).mono ?_
      rintro e w' ⟨rfl, ht, hb1, hb2⟩; obtain ⟨L', hM⟩ := ht.ma; have HM := Lib.hid hM; have HT := Lib.hid ht; have hlt := ht.lt; have b1 := hb1.cell 0; have b1l := hb1.lt; have b1f := hb1.frozen 0; have b2 := hb2.cell 0; have b2l := hb2.lt; have b2f := hb2.frozen 0; simp only [List.getElem?_toArray, List.getElem?_cons_zero] at b1 b2; clear ht hM hb1 hb2
      go_wp2_with fail
      have c42 := HM.out.blk.cell 42
      rw [HM.out.c.c42] at c42
      dsimp only at c42
      have c43 := HM.out.blk.cell 43
      rw [HM.out.c.c43] at c43
      dsimp only at c43
      rw [HLM.out] at c42
      have hS : w'.drew.cell? ⟨mb, 42, none⟩ = some (.int .i64 s.move) ∧ w'.drew.cell? ⟨mb, 43, none⟩ = some (.int .i64 s.move) ∧ w'.drew.cell? ⟨w.heap.size, 0, none⟩ = some (.int .i64 i) := ⟨c42, c43, b1⟩
      refine wp_region_seqT (fun i => !([12] : List Nat).contains i) (fun i => ([3, 7, 11] : List Nat).contains i) (fun i => ([] : List Nat).contains i) [0, 1, 2, 3, 4, 5, 6, 7, 8, 9, 10, 11, 12, 13] (fun w' : World => w'.cell? ⟨mb, 42, none⟩ = some (.int .i64 s.move) ∧ w'.cell? ⟨mb, 43, none⟩ = some (.int .i64 s.move) ∧ w'.cell? ⟨w.heap.size, 0, none⟩ = some (.int .i64 i)) (by kernel_rfl) (by kernel_rfl) (by kernel_rfl) (by kernel_rfl) ?_
      refine wpSeq_pure (v := _) rfl rfl rfl (by kernel_rfl) (fun _ _ _ h => h) (fun wq => by first | (go_simp; done) | (go_simp; rfl)) ?_
      refine wpSeq_pure (v := _) rfl rfl rfl (by kernel_rfl) (fun _ _ _ h => h) (fun wq => by first | (go_simp; done) | (go_simp; rfl)) ?_
      refine wpSeq_pure (v := _) rfl rfl rfl (by kernel_rfl) (fun _ _ _ h => h) (fun wq => by first | (go_simp; done) | (go_simp; rfl)) ?_
      refine wpSeq_load (v := _) rfl rfl (by kernel_rfl) (fun _ _ _ h => h) hS rfl (fun wq hq => by (try have hq1 := hq.1); (try have hq2 := hq.2.1); (try have hq3 := hq.2.2.1); (try have hq4 := hq.2.2.2.1); (try have hq5 := hq.2.2.2.2.1); (try have hq6 := hq.2.2.2.2.2.1); (try have hq7 := hq.2.2.2.2.2.2); (try have hr2 := hq.2); (try have hr3 := hq.2.2); (try have hr4 := hq.2.2.2); (try have hr5 := hq.2.2.2.2); first | (go_simp; done) | (go_simp; rfl)) ?_
      refine wpSeq_pure (v := _) rfl rfl rfl (by kernel_rfl) (fun _ _ _ h => h) (fun wq => by first | (go_simp; done) | (go_simp; rfl)) ?_
      refine wpSeq_pure (v := _) rfl rfl rfl (by kernel_rfl) (fun _ _ _ h => h) (fun wq => by first | (go_simp; done) | (go_simp; rfl)) ?_
      refine wpSeq_pure (v := _) rfl rfl rfl (by kernel_rfl) (fun _ _ _ h => h) (fun wq => by first | (go_simp; done) | (go_simp; rfl)) ?_
      refine wpSeq_load (v := _) rfl rfl (by kernel_rfl) (fun _ _ _ h => h) hS rfl (fun wq hq => by (try have hq1 := hq.1); (try have hq2 := hq.2.1); (try have hq3 := hq.2.2.1); (try have hq4 := hq.2.2.2.1); (try have hq5 := hq.2.2.2.2.1); (try have hq6 := hq.2.2.2.2.2.1); (try have hq7 := hq.2.2.2.2.2.2); (try have hr2 := hq.2); (try have hr3 := hq.2.2); (try have hr4 := hq.2.2.2); (try have hr5 := hq.2.2.2.2); first | (go_simp; done) | (go_simp; rfl)) ?_
      refine wpSeq_pure (v := _) rfl rfl rfl (by kernel_rfl) (fun _ _ _ h => h) (fun wq => by first | (go_simp; done) | (go_simp; rfl)) ?_
      refine wpSeq_pure (v := _) rfl rfl rfl (by kernel_rfl) (fun _ _ _ h => h) (fun wq => by first | (go_simp; done) | (go_simp; rfl)) ?_
      refine wpSeq_pure (v := _) rfl rfl rfl (by kernel_rfl) (fun _ _ _ h => h) (fun wq => by first | (go_simp; done) | (go_simp; rfl)) ?_
      go_simp
      refine wpSeq_load (v := _) rfl rfl (by kernel_rfl) (fun _ _ _ h => h) hS rfl (fun wq hq => by (try have hq1 := hq.1); (try have hq2 := hq.2.1); (try have hq3 := hq.2.2.1); (try have hq4 := hq.2.2.2.1); (try have hq5 := hq.2.2.2.2.1); (try have hq6 := hq.2.2.2.2.2.1); (try have hq7 := hq.2.2.2.2.2.2); (try have hr2 := hq.2); (try have hr3 := hq.2.2); (try have hr4 := hq.2.2.2); (try have hr5 := hq.2.2.2.2); first | (go_simp; done) | (go_simp; rfl)) ?_
      refine wpSeq_heavy rfl rfl (fun K hK => ?_); go_simp
      refine (has_any w'.drew mb O L' _ HM.out.drew _).mono ?_
      rintro e w5 ⟨rfl, rfl⟩
      have hh : has { s with stack := r } (i : Int) = true := HX.out
      rw [hh]
      clear hh
      dsimp only
      refine hK _ _ (fun h => by cases h) ?_; clear hK K
      refine wpSeq_pure (v := _) rfl rfl rfl (by kernel_rfl) (fun _ _ _ h => h) (fun wq => by first | (go_simp; done) | (go_simp; rfl)) ?_
      refine wpSeq_end ?_
      have HM2 := Lib.hid HM.out.drew
      have HT2 := Lib.hid HT.out.fr.drew
      have e1 : w'.drew.cell? ⟨w.heap.size, 0, none⟩ = some (.int .i64 i) := b1
      have e2 : w'.drew.cell? ⟨w.heap.size + 1, 0, none⟩ = some (.int .i64 y) := b2
      have e3 : w'.drew.cell? ⟨mb, 43, none⟩ = some (.int .i64 s.move) := c43
      have e1l : w.heap.size < w'.drew.heap.size := b1l
      have e2l : w.heap.size + 1 < w'.drew.heap.size := b2l
      have mbl : mb < w'.drew.heap.size := HM2.out.blk.lt
      clear hS c42 c43 b1 b2 b1l b2l b1f b2f
      generalize w'.drew = W at *
      go_wp2_with fail
      have hS : W.drew.cell? ⟨mb, 43, none⟩ = some (.int .i64 s.move) ∧ W.drew.cell? ⟨w.heap.size, 0, none⟩ = some (.int .i64 i) ∧ W.drew.cell? ⟨w.heap.size + 1, 0, none⟩ = some (.int .i64 y) := ⟨e3, e1, e2⟩
      refine wp_region_seqT (fun i => !([7] : List Nat).contains i) (fun i => ([1, 5, 6] : List Nat).contains i) (fun i => ([] : List Nat).contains i) [0, 1, 2, 3, 4, 5, 6, 7] (fun w' : World => w'.cell? ⟨mb, 43, none⟩ = some (.int .i64 s.move) ∧ w'.cell? ⟨w.heap.size, 0, none⟩ = some (.int .i64 i) ∧ w'.cell? ⟨w.heap.size + 1, 0, none⟩ = some (.int .i64 y)) (by kernel_rfl) (by kernel_rfl) (by kernel_rfl) (by kernel_rfl) ?_
      refine wpSeq_pure (v := _) rfl rfl rfl (by kernel_rfl) (fun _ _ _ h => h) (fun wq => by first | (go_simp; done) | (go_simp; rfl)) ?_
      refine wpSeq_load (v := _) rfl rfl (by kernel_rfl) (fun _ _ _ h => h) hS rfl (fun wq hq => by (try have hq1 := hq.1); (try have hq2 := hq.2.1); (try have hq3 := hq.2.2.1); (try have hq4 := hq.2.2.2.1); (try have hq5 := hq.2.2.2.2.1); (try have hq6 := hq.2.2.2.2.2.1); (try have hq7 := hq.2.2.2.2.2.2); (try have hr2 := hq.2); (try have hr3 := hq.2.2); (try have hr4 := hq.2.2.2); (try have hr5 := hq.2.2.2.2); first | (go_simp; done) | (go_simp; rfl)) ?_
      refine wpSeq_pure (v := _) rfl rfl rfl (by kernel_rfl) (fun _ _ _ h => h) (fun wq => by first | (go_simp; done) | (go_simp; rfl)) ?_
      refine wpSeq_pure (v := _) rfl rfl rfl (by kernel_rfl) (fun _ _ _ h => h) (fun wq => by first | (go_simp; done) | (go_simp; rfl)) ?_
      refine wpSeq_pure (v := _) rfl rfl rfl (by kernel_rfl) (fun _ _ _ h => h) (fun wq => by first | (go_simp; done) | (go_simp; rfl)) ?_
      refine wpSeq_load (v := _) rfl rfl (by kernel_rfl) (fun _ _ _ h => h) hS rfl (fun wq hq => by (try have hq1 := hq.1); (try have hq2 := hq.2.1); (try have hq3 := hq.2.2.1); (try have hq4 := hq.2.2.2.1); (try have hq5 := hq.2.2.2.2.1); (try have hq6 := hq.2.2.2.2.2.1); (try have hq7 := hq.2.2.2.2.2.2); (try have hr2 := hq.2); (try have hr3 := hq.2.2); (try have hr4 := hq.2.2.2); (try have hr5 := hq.2.2.2.2); first | (go_simp; done) | (go_simp; rfl)) ?_
      refine wpSeq_load (v := _) rfl rfl (by kernel_rfl) (fun _ _ _ h => h) hS rfl (fun wq hq => by (try have hq1 := hq.1); (try have hq2 := hq.2.1); (try have hq3 := hq.2.2.1); (try have hq4 := hq.2.2.2.1); (try have hq5 := hq.2.2.2.2.1); (try have hq6 := hq.2.2.2.2.2.1); (try have hq7 := hq.2.2.2.2.2.2); (try have hr2 := hq.2); (try have hr3 := hq.2.2); (try have hr4 := hq.2.2.2); (try have hr5 := hq.2.2.2.2); first | (go_simp; done) | (go_simp; rfl)) ?_
      refine wpSeq_heavy rfl rfl (fun K hK => ?_); go_simp
      refine (put_any W.drew mb O L' _ HM2.out.drew i s.move _ hil hmv).mono ?_
      intro e w9 hp
      have HP := Lib.hid (hp.from_ HT2.out.drew)
      obtain ⟨rfl, _⟩ := hp
      dsimp only
      refine hK _ _ (fun h => by cases h) ?_; clear hK K
      refine wpSeq_end ?_
      go_wp2
      go_end0
      rw [setV_yes HLM.out HX.out]
      exact HP.out
    · have HX := Lib.hid hx
      have hx' : has s x = false := by simpa using hx
      have HX' := Lib.hid hx'
      clear hx hx'
      go_enter Try.func76, Try.ntmps76
      go_wp2_with fail
      refine (take2_new w mb O L s H.out x y r HS.out _ _).mono ?_
      rintro e w' ⟨rfl, ht, hb1, hb2⟩; obtain ⟨L', hM⟩ := ht.ma; have HM := Lib.hid hM; have HT := Lib.hid ht; have hlt := ht.lt; have b1 := hb1.cell 0; have b1l := hb1.lt; have b1f := hb1.frozen 0; have b2 := hb2.cell 0; have b2l := hb2.lt; have b2f := hb2.frozen 0; simp only [List.getElem?_toArray, List.getElem?_cons_zero] at b1 b2; clear ht hM hb1 hb2
      go_wp2_with fail
      have c42 := HM.out.blk.cell 42
      rw [HM.out.c.c42] at c42
      dsimp only at c42
      have c43 := HM.out.blk.cell 43
      rw [HM.out.c.c43] at c43
      dsimp only at c43
      rw [HLM.out] at c42
      have hS : w'.drew.cell? ⟨mb, 42, none⟩ = some (.int .i64 s.move) ∧ w'.drew.cell? ⟨mb, 43, none⟩ = some (.int .i64 s.move) ∧ w'.drew.cell? ⟨w.heap.size, 0, none⟩ = some (.int .i64 x) := ⟨c42, c43, b1⟩
      refine wp_region_seqT (fun i => !([12] : List Nat).contains i) (fun i => ([3, 7, 11] : List Nat).contains i) (fun i => ([] : List Nat).contains i) [0, 1, 2, 3, 4, 5, 6, 7, 8, 9, 10, 11, 12, 13] (fun w' : World => w'.cell? ⟨mb, 42, none⟩ = some (.int .i64 s.move) ∧ w'.cell? ⟨mb, 43, none⟩ = some (.int .i64 s.move) ∧ w'.cell? ⟨w.heap.size, 0, none⟩ = some (.int .i64 x)) (by kernel_rfl) (by kernel_rfl) (by kernel_rfl) (by kernel_rfl) ?_
      refine wpSeq_pure (v := _) rfl rfl rfl (by kernel_rfl) (fun _ _ _ h => h) (fun wq => by first | (go_simp; done) | (go_simp; rfl)) ?_
      refine wpSeq_pure (v := _) rfl rfl rfl (by kernel_rfl) (fun _ _ _ h => h) (fun wq => by first | (go_simp; done) | (go_simp; rfl)) ?_
      refine wpSeq_pure (v := _) rfl rfl rfl (by kernel_rfl) (fun _ _ _ h => h) (fun wq => by first | (go_simp; done) | (go_simp; rfl)) ?_
      refine wpSeq_load (v := _) rfl rfl (by kernel_rfl) (fun _ _ _ h => h) hS rfl (fun wq hq => by (try have hq1 := hq.1); (try have hq2 := hq.2.1); (try have hq3 := hq.2.2.1); (try have hq4 := hq.2.2.2.1); (try have hq5 := hq.2.2.2.2.1); (try have hq6 := hq.2.2.2.2.2.1); (try have hq7 := hq.2.2.2.2.2.2); (try have hr2 := hq.2); (try have hr3 := hq.2.2); (try have hr4 := hq.2.2.2); (try have hr5 := hq.2.2.2.2); first | (go_simp; done) | (go_simp; rfl)) ?_
      refine wpSeq_pure (v := _) rfl rfl rfl (by kernel_rfl) (fun _ _ _ h => h) (fun wq => by first | (go_simp; done) | (go_simp; rfl)) ?_
      refine wpSeq_pure (v := _) rfl rfl rfl (by kernel_rfl) (fun _ _ _ h => h) (fun wq => by first | (go_simp; done) | (go_simp; rfl)) ?_
      refine wpSeq_pure (v := _) rfl rfl rfl (by kernel_rfl) (fun _ _ _ h => h) (fun wq => by first | (go_simp; done) | (go_simp; rfl)) ?_
      refine wpSeq_load (v := _) rfl rfl (by kernel_rfl) (fun _ _ _ h => h) hS rfl (fun wq hq => by (try have hq1 := hq.1); (try have hq2 := hq.2.1); (try have hq3 := hq.2.2.1); (try have hq4 := hq.2.2.2.1); (try have hq5 := hq.2.2.2.2.1); (try have hq6 := hq.2.2.2.2.2.1); (try have hq7 := hq.2.2.2.2.2.2); (try have hr2 := hq.2); (try have hr3 := hq.2.2); (try have hr4 := hq.2.2.2); (try have hr5 := hq.2.2.2.2); first | (go_simp; done) | (go_simp; rfl)) ?_
      refine wpSeq_pure (v := _) rfl rfl rfl (by kernel_rfl) (fun _ _ _ h => h) (fun wq => by first | (go_simp; done) | (go_simp; rfl)) ?_
      refine wpSeq_pure (v := _) rfl rfl rfl (by kernel_rfl) (fun _ _ _ h => h) (fun wq => by first | (go_simp; done) | (go_simp; rfl)) ?_
      refine wpSeq_pure (v := _) rfl rfl rfl (by kernel_rfl) (fun _ _ _ h => h) (fun wq => by first | (go_simp; done) | (go_simp; rfl)) ?_
      go_simp
      refine wpSeq_load (v := _) rfl rfl (by kernel_rfl) (fun _ _ _ h => h) hS rfl (fun wq hq => by (try have hq1 := hq.1); (try have hq2 := hq.2.1); (try have hq3 := hq.2.2.1); (try have hq4 := hq.2.2.2.1); (try have hq5 := hq.2.2.2.2.1); (try have hq6 := hq.2.2.2.2.2.1); (try have hq7 := hq.2.2.2.2.2.2); (try have hr2 := hq.2); (try have hr3 := hq.2.2); (try have hr4 := hq.2.2.2); (try have hr5 := hq.2.2.2.2); first | (go_simp; done) | (go_simp; rfl)) ?_
      refine wpSeq_heavy rfl rfl (fun K hK => ?_); go_simp
      refine (has_any w'.drew mb O L' _ HM.out.drew _).mono ?_
      rintro e w5 ⟨rfl, rfl⟩
      have hh : has { s with stack := r } x = false := HX'.out
      rw [hh]
      clear hh
      dsimp only
      refine hK _ _ (fun h => by cases h) ?_; clear hK K
      refine wpSeq_pure (v := _) rfl rfl rfl (by kernel_rfl) (fun _ _ _ h => h) (fun wq => by first | (go_simp; done) | (go_simp; rfl)) ?_
      refine wpSeq_end ?_
      have HM2 := Lib.hid HM.out.drew
      have HT2 := Lib.hid HT.out.fr.drew
      go_wp2
      go_end0
      rw [setV_no (fun e => HX.out e.2)]
      exact .here HM2.out HT2.out
  · have HLM := Lib.hid hlm
    have hb : (s.look == s.move) = false := by simpa using hlm
    clear hlm
    go_enter Try.func76, Try.ntmps76
    go_wp2_with fail
    refine (take2_new w mb O L s H.out x y r HS.out _ _).mono ?_
    rintro e w' ⟨rfl, ht, hb1, hb2⟩; obtain ⟨L', hM⟩ := ht.ma; have HM := Lib.hid hM; have HT := Lib.hid ht; have hlt := ht.lt; have b1 := hb1.cell 0; have b1l := hb1.lt; have b1f := hb1.frozen 0; have b2 := hb2.cell 0; have b2l := hb2.lt; have b2f := hb2.frozen 0; simp only [List.getElem?_toArray, List.getElem?_cons_zero] at b1 b2; clear ht hM hb1 hb2
    go_wp2_with fail
    have c42 := HM.out.blk.cell 42
    rw [HM.out.c.c42] at c42
    dsimp only at c42
    have c43 := HM.out.blk.cell 43
    rw [HM.out.c.c43] at c43
    dsimp only at c43
    have hS : w'.drew.cell? ⟨mb, 42, none⟩ = some (.int .i64 s.look) ∧ w'.drew.cell? ⟨mb, 43, none⟩ = some (.int .i64 s.move) ∧ w'.drew.cell? ⟨w.heap.size, 0, none⟩ = some (.int .i64 x) := ⟨c42, c43, b1⟩
    refine wp_region_seqT (fun i => !([] : List Nat).contains i) (fun i => ([3, 7] : List Nat).contains i) (fun i => ([] : List Nat).contains i) [0, 1, 2, 3, 4, 5, 6, 7, 8, 9, 10, 11, 12, 13] (fun w' : World => w'.cell? ⟨mb, 42, none⟩ = some (.int .i64 s.look) ∧ w'.cell? ⟨mb, 43, none⟩ = some (.int .i64 s.move) ∧ w'.cell? ⟨w.heap.size, 0, none⟩ = some (.int .i64 x)) (by kernel_rfl) (by kernel_rfl) (by kernel_rfl) (by kernel_rfl) ?_
    refine wpSeq_pure (v := _) rfl rfl rfl (by kernel_rfl) (fun _ _ _ h => h) (fun wq => by first | (go_simp; done) | (go_simp; rfl)) ?_
    refine wpSeq_pure (v := _) rfl rfl rfl (by kernel_rfl) (fun _ _ _ h => h) (fun wq => by first | (go_simp; done) | (go_simp; rfl)) ?_
    refine wpSeq_pure (v := _) rfl rfl rfl (by kernel_rfl) (fun _ _ _ h => h) (fun wq => by first | (go_simp; done) | (go_simp; rfl)) ?_
    refine wpSeq_load (v := _) rfl rfl (by kernel_rfl) (fun _ _ _ h => h) hS rfl (fun wq hq => by (try have hq1 := hq.1); (try have hq2 := hq.2.1); (try have hq3 := hq.2.2.1); (try have hq4 := hq.2.2.2.1); (try have hq5 := hq.2.2.2.2.1); (try have hq6 := hq.2.2.2.2.2.1); (try have hq7 := hq.2.2.2.2.2.2); (try have hr2 := hq.2); (try have hr3 := hq.2.2); (try have hr4 := hq.2.2.2); (try have hr5 := hq.2.2.2.2); first | (go_simp; done) | (go_simp; rfl)) ?_
    refine wpSeq_pure (v := _) rfl rfl rfl (by kernel_rfl) (fun _ _ _ h => h) (fun wq => by first | (go_simp; done) | (go_simp; rfl)) ?_
    refine wpSeq_pure (v := _) rfl rfl rfl (by kernel_rfl) (fun _ _ _ h => h) (fun wq => by first | (go_simp; done) | (go_simp; rfl)) ?_
    refine wpSeq_pure (v := _) rfl rfl rfl (by kernel_rfl) (fun _ _ _ h => h) (fun wq => by first | (go_simp; done) | (go_simp; rfl)) ?_
    refine wpSeq_load (v := _) rfl rfl (by kernel_rfl) (fun _ _ _ h => h) hS rfl (fun wq hq => by (try have hq1 := hq.1); (try have hq2 := hq.2.1); (try have hq3 := hq.2.2.1); (try have hq4 := hq.2.2.2.1); (try have hq5 := hq.2.2.2.2.1); (try have hq6 := hq.2.2.2.2.2.1); (try have hq7 := hq.2.2.2.2.2.2); (try have hr2 := hq.2); (try have hr3 := hq.2.2); (try have hr4 := hq.2.2.2); (try have hr5 := hq.2.2.2.2); first | (go_simp; done) | (go_simp; rfl)) ?_
    refine wpSeq_pure (v := _) rfl rfl rfl (by kernel_rfl) (fun _ _ _ h => h) (fun wq => by first | (go_simp; done) | (go_simp; rfl)) ?_
    refine wpSeq_pure (v := _) rfl rfl rfl (by kernel_rfl) (fun _ _ _ h => h) (fun wq => by first | (go_simp; done) | (go_simp; rfl)) ?_
    go_simp
    refine wpSeq_skip rfl rfl rfl (by kernel_rfl) (fun _ _ _ h => h) ?_
    refine wpSeq_skip rfl rfl rfl (by kernel_rfl) (fun _ _ _ h => h) ?_
    refine wpSeq_skip rfl rfl rfl (by kernel_rfl) (fun _ _ _ h => h) ?_
    refine wpSeq_pure (v := _) rfl rfl rfl (by kernel_rfl) (fun _ _ _ h => h) (fun wq => by first | (go_simp; done) | (go_simp; rfl)) ?_
    refine wpSeq_end ?_
    have HM2 := Lib.hid HM.out.drew
    have HT2 := Lib.hid HT.out.fr.drew
    go_wp2
    go_end0
    rw [setV_no (fun e => HLM.out e.1)]
    exact .here HM2.out HT2.out
end Go.Proofs.Ythdmdgmchkhngaa

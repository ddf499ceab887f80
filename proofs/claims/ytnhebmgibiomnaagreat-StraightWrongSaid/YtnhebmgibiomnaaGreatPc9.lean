/- Parts of the proof, joined: SrJ. -/
import Derived.Test.YtnhebmgibiomnaaGreatPc8
set_option linter.unusedVariables false
set_option linter.unusedSimpArgs false
namespace Go.Proofs.YtnhebmgibiomnaaGreat
open Go.RowKit Mc
theorem rounded_k (mode n : Int) : K32 (rounded mode n) := by
  unfold rounded
  exact k32_in _
set_option maxRecDepth 100000 in
set_option maxHeartbeats 1000000 in
theorem do1 (w : World) (sb : Nat) (L : SLay) (s : Sr.St) (h : SrL w sb L s) (op n a b : Int) (d : Nat) (hd : d < 64) : Calls Tryz.prog 102 #[.pointer (some ⟨sb, 0, none⟩), regV ⟨op, d, a, b, n⟩] w (SPost w sb L { s with regs := s.regs.set d (k32 n) }) := by
  have hd64 : (d : Int) < 64 := by omega
  unfold regV
  have H := Lib.hid h
  have hs1 := h.blk.lt
  skip
  clear h
  go_enter Tryz.func102, Tryz.ntmps102
  go_wp2_with fail
  have r4 : (w.alloc (.cells #[.int .i64 op, .int .i64 (d : Int), .int .i64 (a : Int), .int .i64 (b : Int), .int .i64 n] 50)).cell? ⟨w.heap.size, 4, none⟩ = some (.int .i64 n) := (Blk.new w _ _).cell 4
  have r0 : (w.alloc (.cells #[.int .i64 op, .int .i64 (d : Int), .int .i64 (a : Int), .int .i64 (b : Int), .int .i64 n] 50)).cell? ⟨w.heap.size, 0, none⟩ = some (.int .i64 op) := (Blk.new w _ _).cell 0
  have r1 : (w.alloc (.cells #[.int .i64 op, .int .i64 (d : Int), .int .i64 (a : Int), .int .i64 (b : Int), .int .i64 n] 50)).cell? ⟨w.heap.size, 1, none⟩ = some (.int .i64 (d : Int)) := (Blk.new w _ _).cell 1
  have r2 : (w.alloc (.cells #[.int .i64 op, .int .i64 (d : Int), .int .i64 (a : Int), .int .i64 (b : Int), .int .i64 n] 50)).cell? ⟨w.heap.size, 2, none⟩ = some (.int .i64 (a : Int)) := (Blk.new w _ _).cell 2
  have r3 : (w.alloc (.cells #[.int .i64 op, .int .i64 (d : Int), .int .i64 (a : Int), .int .i64 (b : Int), .int .i64 n] 50)).cell? ⟨w.heap.size, 3, none⟩ = some (.int .i64 (b : Int)) := (Blk.new w _ _).cell 3
  have H1 := Lib.hid (H.out.alloc (.cells #[.int .i64 op, .int .i64 (d : Int), .int .i64 (a : Int), .int .i64 (b : Int), .int .i64 n] 50))
  have F1 := Lib.hid ((Fr.refl (SrS L sb) w).alloc (.cells #[.int .i64 op, .int .i64 (d : Int), .int .i64 (a : Int), .int .i64 (b : Int), .int .i64 n] 50))
  have hz : w.heap.size < (w.alloc (.cells #[.int .i64 op, .int .i64 (d : Int), .int .i64 (a : Int), .int .i64 (b : Int), .int .i64 n] 50)).heap.size := by simp
  generalize (w.alloc (.cells #[.int .i64 op, .int .i64 (d : Int), .int .i64 (a : Int), .int .i64 (b : Int), .int .i64 n] 50)) = W at *
  have fz := H1.out.drew.blk.frozen d
  have c0 := H1.out.drew.reg hd
  have hS : W.drew.cell? ⟨w.heap.size, 1, none⟩ = some (.int .i64 (d : Int)) ∧ W.drew.cell? ⟨w.heap.size, 4, none⟩ = some (.int .i64 n) := ⟨r1, r4⟩
  refine wp_region_seqT (fun i => !([5, 9] : List Nat).contains i) (fun i => ([2, 4] : List Nat).contains i) (fun i => ([5] : List Nat).contains i) [0, 1, 2, 3, 4, 6, 7, 5, 8, 9] (fun wq : World => wq.cell? ⟨w.heap.size, 1, none⟩ = some (.int .i64 (d : Int)) ∧ wq.cell? ⟨w.heap.size, 4, none⟩ = some (.int .i64 n)) (by kernel_rfl) (by kernel_rfl) (by kernel_rfl) (by kernel_rfl) ?_
  iterate 7 (first | refine wpSeq_pureA (v := _) rfl rfl rfl ?_ | refine wpSeq_loadA (v := _) rfl rfl hS rfl ?_)
  refine wpSeq_heavy rfl rfl (fun K hK => ?_); go_simp
  refine (skept_any _ _).mono ?_
  rintro e w5 ⟨rfl, rfl⟩
  dsimp only
  refine hK _ _ (fun _ => hS) ?_; clear hK K
  iterate 1 (first | refine wpSeq_pureA (v := _) rfl rfl rfl ?_ | refine wpSeq_loadA (v := _) rfl rfl hS rfl ?_)
  refine wpSeq_heavy rfl rfl (fun K hK => ?_); go_simp
  refine hK _ _ (fun h => by cases h) ?_; clear hK K
  refine wpSeq_end ?_
  go_wp2
  go_end0
  exact .put H1.out.drew F1.out.drew hd (k32_in n)
set_option maxRecDepth 100000 in
set_option maxHeartbeats 1000000 in
theorem do39 (w : World) (sb : Nat) (L : SLay) (s : Sr.St) (h : SrL w sb L s) (op n a b : Int) (d : Nat) (hd : d < 64) : Calls Tryz.prog 103 #[.pointer (some ⟨sb, 0, none⟩), regV ⟨op, d, a, b, n⟩] w (SPost w sb L { s with regs := s.regs.set d s.m.size }) := by
  have hd64 : (d : Int) < 64 := by omega
  unfold regV
  have H := Lib.hid h
  have hs1 := h.blk.lt
  skip
  clear h
  go_enter Tryz.func103, Tryz.ntmps103
  go_wp2_with fail
  have r4 : (w.alloc (.cells #[.int .i64 op, .int .i64 (d : Int), .int .i64 (a : Int), .int .i64 (b : Int), .int .i64 n] 50)).cell? ⟨w.heap.size, 4, none⟩ = some (.int .i64 n) := (Blk.new w _ _).cell 4
  have r0 : (w.alloc (.cells #[.int .i64 op, .int .i64 (d : Int), .int .i64 (a : Int), .int .i64 (b : Int), .int .i64 n] 50)).cell? ⟨w.heap.size, 0, none⟩ = some (.int .i64 op) := (Blk.new w _ _).cell 0
  have r1 : (w.alloc (.cells #[.int .i64 op, .int .i64 (d : Int), .int .i64 (a : Int), .int .i64 (b : Int), .int .i64 n] 50)).cell? ⟨w.heap.size, 1, none⟩ = some (.int .i64 (d : Int)) := (Blk.new w _ _).cell 1
  have r2 : (w.alloc (.cells #[.int .i64 op, .int .i64 (d : Int), .int .i64 (a : Int), .int .i64 (b : Int), .int .i64 n] 50)).cell? ⟨w.heap.size, 2, none⟩ = some (.int .i64 (a : Int)) := (Blk.new w _ _).cell 2
  have r3 : (w.alloc (.cells #[.int .i64 op, .int .i64 (d : Int), .int .i64 (a : Int), .int .i64 (b : Int), .int .i64 n] 50)).cell? ⟨w.heap.size, 3, none⟩ = some (.int .i64 (b : Int)) := (Blk.new w _ _).cell 3
  have H1 := Lib.hid (H.out.alloc (.cells #[.int .i64 op, .int .i64 (d : Int), .int .i64 (a : Int), .int .i64 (b : Int), .int .i64 n] 50))
  have F1 := Lib.hid ((Fr.refl (SrS L sb) w).alloc (.cells #[.int .i64 op, .int .i64 (d : Int), .int .i64 (a : Int), .int .i64 (b : Int), .int .i64 n] 50))
  have hz : w.heap.size < (w.alloc (.cells #[.int .i64 op, .int .i64 (d : Int), .int .i64 (a : Int), .int .i64 (b : Int), .int .i64 n] 50)).heap.size := by simp
  generalize (w.alloc (.cells #[.int .i64 op, .int .i64 (d : Int), .int .i64 (a : Int), .int .i64 (b : Int), .int .i64 n] 50)) = W at *
  have fz := H1.out.drew.blk.frozen d
  have c0 := H1.out.drew.reg hd
  have c71 := H1.out.drew.c71
  have hS : W.drew.cell? ⟨w.heap.size, 1, none⟩ = some (.int .i64 (d : Int)) ∧ W.drew.cell? ⟨sb, 71, none⟩ = some (.int .i64 s.m.size) := ⟨r1, c71⟩
  refine wp_region_seqT (fun i => !([10] : List Nat).contains i) (fun i => ([2, 6] : List Nat).contains i) (fun i => ([] : List Nat).contains i) [0, 1, 2, 3, 4, 5, 6, 7, 8, 9, 10] (fun wq : World => wq.cell? ⟨w.heap.size, 1, none⟩ = some (.int .i64 (d : Int)) ∧ wq.cell? ⟨sb, 71, none⟩ = some (.int .i64 s.m.size)) (by kernel_rfl) (by kernel_rfl) (by kernel_rfl) (by kernel_rfl) ?_
  iterate 10 (first | refine wpSeq_pureA (v := _) rfl rfl rfl ?_ | refine wpSeq_loadA (v := _) rfl rfl hS rfl ?_)
  refine wpSeq_heavy rfl rfl (fun K hK => ?_); go_simp
  refine hK _ _ (fun h => by cases h) ?_; clear hK K
  refine wpSeq_end ?_
  go_wp2
  go_end0
  exact .put H1.out.drew F1.out.drew hd H1.out.ok.m.size
set_option maxRecDepth 100000 in
set_option maxHeartbeats 1000000 in
theorem do15 (w : World) (sb : Nat) (L : SLay) (s : Sr.St) (h : SrL w sb L s) (op n b : Int) (d a : Nat) (hd : d < 64) (ha : a < 64) : Calls Tryz.prog 119 #[.pointer (some ⟨sb, 0, none⟩), regV ⟨op, d, a, b, n⟩] w (SPost w sb L { s with regs := s.regs.set d (rounded s.m.mode (s.regs.getD a 0)) }) := by
  have hd64 : (d : Int) < 64 := by omega
  have ha64 : (a : Int) < 64 := by omega
  obtain ⟨x, hx, _, hxk⟩ := h.getR ha
  have HX := Lib.hid hx
  rw [hx]
  clear hx
  unfold regV
  have H := Lib.hid h
  have hs1 := h.blk.lt
  skip
  clear h
  go_enter Tryz.func119, Tryz.ntmps119
  go_wp2_with fail
  have r4 : (w.alloc (.cells #[.int .i64 op, .int .i64 (d : Int), .int .i64 (a : Int), .int .i64 (b : Int), .int .i64 n] 50)).cell? ⟨w.heap.size, 4, none⟩ = some (.int .i64 n) := (Blk.new w _ _).cell 4
  have r0 : (w.alloc (.cells #[.int .i64 op, .int .i64 (d : Int), .int .i64 (a : Int), .int .i64 (b : Int), .int .i64 n] 50)).cell? ⟨w.heap.size, 0, none⟩ = some (.int .i64 op) := (Blk.new w _ _).cell 0
  have r1 : (w.alloc (.cells #[.int .i64 op, .int .i64 (d : Int), .int .i64 (a : Int), .int .i64 (b : Int), .int .i64 n] 50)).cell? ⟨w.heap.size, 1, none⟩ = some (.int .i64 (d : Int)) := (Blk.new w _ _).cell 1
  have r2 : (w.alloc (.cells #[.int .i64 op, .int .i64 (d : Int), .int .i64 (a : Int), .int .i64 (b : Int), .int .i64 n] 50)).cell? ⟨w.heap.size, 2, none⟩ = some (.int .i64 (a : Int)) := (Blk.new w _ _).cell 2
  have r3 : (w.alloc (.cells #[.int .i64 op, .int .i64 (d : Int), .int .i64 (a : Int), .int .i64 (b : Int), .int .i64 n] 50)).cell? ⟨w.heap.size, 3, none⟩ = some (.int .i64 (b : Int)) := (Blk.new w _ _).cell 3
  have H1 := Lib.hid (H.out.alloc (.cells #[.int .i64 op, .int .i64 (d : Int), .int .i64 (a : Int), .int .i64 (b : Int), .int .i64 n] 50))
  have F1 := Lib.hid ((Fr.refl (SrS L sb) w).alloc (.cells #[.int .i64 op, .int .i64 (d : Int), .int .i64 (a : Int), .int .i64 (b : Int), .int .i64 n] 50))
  have hz : w.heap.size < (w.alloc (.cells #[.int .i64 op, .int .i64 (d : Int), .int .i64 (a : Int), .int .i64 (b : Int), .int .i64 n] 50)).heap.size := by simp
  generalize (w.alloc (.cells #[.int .i64 op, .int .i64 (d : Int), .int .i64 (a : Int), .int .i64 (b : Int), .int .i64 n] 50)) = W at *
  have fz := H1.out.drew.blk.frozen d
  have c0 := H1.out.drew.reg hd
  have c74 := H1.out.drew.c74
  have c1 := H1.out.reg ha
  rw [HX.out] at c1
  have hS : W.drew.cell? ⟨w.heap.size, 1, none⟩ = some (.int .i64 (d : Int)) ∧ W.drew.cell? ⟨sb, 74, none⟩ = some (.int .i64 s.m.mode) ∧ W.drew.cell? ⟨w.heap.size, 2, none⟩ = some (.int .i64 (a : Int)) ∧ W.drew.cell? ⟨sb, a, none⟩ = some (.int .i64 x) := ⟨r1, c74, r2, c1⟩
  refine wp_region_seqT (fun i => !([14, 18] : List Nat).contains i) (fun i => ([2, 6, 9, 13] : List Nat).contains i) (fun i => ([14] : List Nat).contains i) [0, 1, 2, 3, 4, 5, 6, 7, 8, 9, 10, 11, 12, 13, 15, 16, 14, 17, 18] (fun wq : World => wq.cell? ⟨w.heap.size, 1, none⟩ = some (.int .i64 (d : Int)) ∧ wq.cell? ⟨sb, 74, none⟩ = some (.int .i64 s.m.mode) ∧ wq.cell? ⟨w.heap.size, 2, none⟩ = some (.int .i64 (a : Int)) ∧ wq.cell? ⟨sb, a, none⟩ = some (.int .i64 x)) (by kernel_rfl) (by kernel_rfl) (by kernel_rfl) (by kernel_rfl) ?_
  iterate 16 (first | refine wpSeq_pureA (v := _) rfl rfl rfl ?_ | refine wpSeq_loadA (v := _) rfl rfl hS rfl ?_)
  refine wpSeq_heavy rfl rfl (fun K hK => ?_); go_simp
  refine (rounded_any _ _ _).mono ?_
  rintro e w5 ⟨rfl, rfl⟩
  dsimp only
  refine hK _ _ (fun _ => hS) ?_; clear hK K
  iterate 1 (first | refine wpSeq_pureA (v := _) rfl rfl rfl ?_ | refine wpSeq_loadA (v := _) rfl rfl hS rfl ?_)
  refine wpSeq_heavy rfl rfl (fun K hK => ?_); go_simp
  refine hK _ _ (fun h => by cases h) ?_; clear hK K
  refine wpSeq_end ?_
  go_wp2
  go_end0
  exact .put H1.out.drew F1.out.drew hd (rounded_k _ _)
set_option maxRecDepth 100000 in
set_option maxHeartbeats 1000000 in
theorem do25 (w : World) (sb : Nat) (L : SLay) (s : Sr.St) (h : SrL w sb L s) (op n b : Int) (d a : Nat) (hd : d < 64) (ha : a < 64) : Calls Tryz.prog 127 #[.pointer (some ⟨sb, 0, none⟩), regV ⟨op, d, a, b, n⟩] w (SPost w sb L { s with regs := s.regs.set d (at_ s.m.cvt (s.regs.getD a 0)) }) := by
  unfold regV
  have H := Lib.hid h
  have hs1 := h.blk.lt
  skip
  clear h
  go_enter Tryz.func127, Tryz.ntmps127
  go_wp2_with fail
  have r4 : (w.alloc (.cells #[.int .i64 op, .int .i64 (d : Int), .int .i64 (a : Int), .int .i64 (b : Int), .int .i64 n] 50)).cell? ⟨w.heap.size, 4, none⟩ = some (.int .i64 n) := (Blk.new w _ _).cell 4
  have r0 : (w.alloc (.cells #[.int .i64 op, .int .i64 (d : Int), .int .i64 (a : Int), .int .i64 (b : Int), .int .i64 n] 50)).cell? ⟨w.heap.size, 0, none⟩ = some (.int .i64 op) := (Blk.new w _ _).cell 0
  have r1 : (w.alloc (.cells #[.int .i64 op, .int .i64 (d : Int), .int .i64 (a : Int), .int .i64 (b : Int), .int .i64 n] 50)).cell? ⟨w.heap.size, 1, none⟩ = some (.int .i64 (d : Int)) := (Blk.new w _ _).cell 1
  have r2 : (w.alloc (.cells #[.int .i64 op, .int .i64 (d : Int), .int .i64 (a : Int), .int .i64 (b : Int), .int .i64 n] 50)).cell? ⟨w.heap.size, 2, none⟩ = some (.int .i64 (a : Int)) := (Blk.new w _ _).cell 2
  have r3 : (w.alloc (.cells #[.int .i64 op, .int .i64 (d : Int), .int .i64 (a : Int), .int .i64 (b : Int), .int .i64 n] 50)).cell? ⟨w.heap.size, 3, none⟩ = some (.int .i64 (b : Int)) := (Blk.new w _ _).cell 3
  have H1 := Lib.hid (H.out.alloc (.cells #[.int .i64 op, .int .i64 (d : Int), .int .i64 (a : Int), .int .i64 (b : Int), .int .i64 n] 50))
  have F1 := Lib.hid ((Fr.refl (SrS L sb) w).alloc (.cells #[.int .i64 op, .int .i64 (d : Int), .int .i64 (a : Int), .int .i64 (b : Int), .int .i64 n] 50))
  have hz : w.heap.size < (w.alloc (.cells #[.int .i64 op, .int .i64 (d : Int), .int .i64 (a : Int), .int .i64 (b : Int), .int .i64 n] 50)).heap.size := by simp
  generalize (w.alloc (.cells #[.int .i64 op, .int .i64 (d : Int), .int .i64 (a : Int), .int .i64 (b : Int), .int .i64 n] 50)) = W at *
  have c69 := H1.out.c69
  have c69 := H1.out.c69
  have hS : W.drew.cell? ⟨w.heap.size, 0, none⟩ = some (.int .i64 op) ∧ W.drew.cell? ⟨w.heap.size, 1, none⟩ = some (.int .i64 (d : Int)) ∧ W.drew.cell? ⟨w.heap.size, 2, none⟩ = some (.int .i64 (a : Int)) ∧ W.drew.cell? ⟨w.heap.size, 3, none⟩ = some (.int .i64 (b : Int)) ∧ W.drew.cell? ⟨w.heap.size, 4, none⟩ = some (.int .i64 n) ∧ W.drew.cell? ⟨sb, 69, none⟩ = some L.cv := ⟨r0, r1, r2, r3, r4, c69⟩
  refine wp_region_seqT (fun i => !([6] : List Nat).contains i) (fun i => ([4, 5] : List Nat).contains i) (fun i => ([] : List Nat).contains i) [0, 1, 2, 3, 4, 5, 6] (fun wq : World => wq.cell? ⟨w.heap.size, 0, none⟩ = some (.int .i64 op) ∧ wq.cell? ⟨w.heap.size, 1, none⟩ = some (.int .i64 (d : Int)) ∧ wq.cell? ⟨w.heap.size, 2, none⟩ = some (.int .i64 (a : Int)) ∧ wq.cell? ⟨w.heap.size, 3, none⟩ = some (.int .i64 (b : Int)) ∧ wq.cell? ⟨w.heap.size, 4, none⟩ = some (.int .i64 n) ∧ wq.cell? ⟨sb, 69, none⟩ = some L.cv) (by kernel_rfl) (by kernel_rfl) (by kernel_rfl) (by kernel_rfl) ?_
  iterate 6 (first | refine wpSeq_pureA (v := _) rfl rfl rfl ?_ | refine wpSeq_loadA (v := _) rfl rfl hS rfl ?_)
  refine wpSeq_heavy rfl rfl (fun K hK => ?_); go_simp
  refine (sread_any W.drew sb L s H1.out.drew op n b d a hd ha L.cv _ H1.out.ok.m.cvl H1.out.drew.cv H1.out.ok.m.cvt).mono ?_
  intro e w9 hp
  have HP := Lib.hid (hp.from_ F1.out.drew)
  obtain ⟨rfl, _⟩ := hp
  dsimp only
  refine hK _ _ (fun h => by cases h) ?_; clear hK K
  refine wpSeq_end ?_
  go_wp2
  go_end0
  exact HP.out
set_option maxRecDepth 100000 in
set_option maxHeartbeats 1000000 in
theorem do27 (w : World) (sb : Nat) (L : SLay) (s : Sr.St) (h : SrL w sb L s) (op n b : Int) (d a : Nat) (hd : d < 64) (ha : a < 64) : Calls Tryz.prog 131 #[.pointer (some ⟨sb, 0, none⟩), regV ⟨op, d, a, b, n⟩] w (SPost w sb L { s with regs := s.regs.set d (at_ s.m.store (s.regs.getD a 0)) }) := by
  unfold regV
  have H := Lib.hid h
  have hs1 := h.blk.lt
  skip
  clear h
  go_enter Tryz.func131, Tryz.ntmps131
  go_wp2_with fail
  have r4 : (w.alloc (.cells #[.int .i64 op, .int .i64 (d : Int), .int .i64 (a : Int), .int .i64 (b : Int), .int .i64 n] 50)).cell? ⟨w.heap.size, 4, none⟩ = some (.int .i64 n) := (Blk.new w _ _).cell 4
  have r0 : (w.alloc (.cells #[.int .i64 op, .int .i64 (d : Int), .int .i64 (a : Int), .int .i64 (b : Int), .int .i64 n] 50)).cell? ⟨w.heap.size, 0, none⟩ = some (.int .i64 op) := (Blk.new w _ _).cell 0
  have r1 : (w.alloc (.cells #[.int .i64 op, .int .i64 (d : Int), .int .i64 (a : Int), .int .i64 (b : Int), .int .i64 n] 50)).cell? ⟨w.heap.size, 1, none⟩ = some (.int .i64 (d : Int)) := (Blk.new w _ _).cell 1
  have r2 : (w.alloc (.cells #[.int .i64 op, .int .i64 (d : Int), .int .i64 (a : Int), .int .i64 (b : Int), .int .i64 n] 50)).cell? ⟨w.heap.size, 2, none⟩ = some (.int .i64 (a : Int)) := (Blk.new w _ _).cell 2
  have r3 : (w.alloc (.cells #[.int .i64 op, .int .i64 (d : Int), .int .i64 (a : Int), .int .i64 (b : Int), .int .i64 n] 50)).cell? ⟨w.heap.size, 3, none⟩ = some (.int .i64 (b : Int)) := (Blk.new w _ _).cell 3
  have H1 := Lib.hid (H.out.alloc (.cells #[.int .i64 op, .int .i64 (d : Int), .int .i64 (a : Int), .int .i64 (b : Int), .int .i64 n] 50))
  have F1 := Lib.hid ((Fr.refl (SrS L sb) w).alloc (.cells #[.int .i64 op, .int .i64 (d : Int), .int .i64 (a : Int), .int .i64 (b : Int), .int .i64 n] 50))
  have hz : w.heap.size < (w.alloc (.cells #[.int .i64 op, .int .i64 (d : Int), .int .i64 (a : Int), .int .i64 (b : Int), .int .i64 n] 50)).heap.size := by simp
  generalize (w.alloc (.cells #[.int .i64 op, .int .i64 (d : Int), .int .i64 (a : Int), .int .i64 (b : Int), .int .i64 n] 50)) = W at *
  have c70 := H1.out.c70
  have hS : W.drew.cell? ⟨w.heap.size, 0, none⟩ = some (.int .i64 op) ∧ W.drew.cell? ⟨w.heap.size, 1, none⟩ = some (.int .i64 (d : Int)) ∧ W.drew.cell? ⟨w.heap.size, 2, none⟩ = some (.int .i64 (a : Int)) ∧ W.drew.cell? ⟨w.heap.size, 3, none⟩ = some (.int .i64 (b : Int)) ∧ W.drew.cell? ⟨w.heap.size, 4, none⟩ = some (.int .i64 n) ∧ W.drew.cell? ⟨sb, 70, none⟩ = some L.st := ⟨r0, r1, r2, r3, r4, c70⟩
  refine wp_region_seqT (fun i => !([6] : List Nat).contains i) (fun i => ([4, 5] : List Nat).contains i) (fun i => ([] : List Nat).contains i) [0, 1, 2, 3, 4, 5, 6] (fun wq : World => wq.cell? ⟨w.heap.size, 0, none⟩ = some (.int .i64 op) ∧ wq.cell? ⟨w.heap.size, 1, none⟩ = some (.int .i64 (d : Int)) ∧ wq.cell? ⟨w.heap.size, 2, none⟩ = some (.int .i64 (a : Int)) ∧ wq.cell? ⟨w.heap.size, 3, none⟩ = some (.int .i64 (b : Int)) ∧ wq.cell? ⟨w.heap.size, 4, none⟩ = some (.int .i64 n) ∧ wq.cell? ⟨sb, 70, none⟩ = some L.st) (by kernel_rfl) (by kernel_rfl) (by kernel_rfl) (by kernel_rfl) ?_
  iterate 6 (first | refine wpSeq_pureA (v := _) rfl rfl rfl ?_ | refine wpSeq_loadA (v := _) rfl rfl hS rfl ?_)
  refine wpSeq_heavy rfl rfl (fun K hK => ?_); go_simp
  refine (sread_any W.drew sb L s H1.out.drew op n b d a hd ha L.st _ (by have := H1.out.ok.m.stl; omega) H1.out.drew.st H1.out.ok.m.store).mono ?_
  intro e w9 hp
  have HP := Lib.hid (hp.from_ F1.out.drew)
  obtain ⟨rfl, _⟩ := hp
  dsimp only
  refine hK _ _ (fun h => by cases h) ?_; clear hK K
  refine wpSeq_end ?_
  go_wp2
  go_end0
  exact HP.out
set_option maxRecDepth 100000 in
set_option maxHeartbeats 1000000 in
theorem do26 (w : World) (sb : Nat) (L : SLay) (s : Sr.St) (h : SrL w sb L s) (op n d : Int) (a b : Nat) (ha : a < 64) (hb : b < 64) : Calls Tryz.prog 129 #[.pointer (some ⟨sb, 0, none⟩), regV ⟨op, d, a, b, n⟩] w (SPost w sb L { s with m := { s.m with cvt := put_ s.m.cvt (s.regs.getD a 0) (s.regs.getD b 0) } }) := by
  obtain ⟨Av, c, hv, _, _⟩ := owns_form h.cv
  have HV := Lib.hid hv
  clear hv
  unfold regV
  have H := Lib.hid h
  have hs1 := h.blk.lt
  skip
  clear h
  go_enter Tryz.func129, Tryz.ntmps129
  go_wp2_with fail
  have r4 : (w.alloc (.cells #[.int .i64 op, .int .i64 (d : Int), .int .i64 (a : Int), .int .i64 (b : Int), .int .i64 n] 50)).cell? ⟨w.heap.size, 4, none⟩ = some (.int .i64 n) := (Blk.new w _ _).cell 4
  have r0 : (w.alloc (.cells #[.int .i64 op, .int .i64 (d : Int), .int .i64 (a : Int), .int .i64 (b : Int), .int .i64 n] 50)).cell? ⟨w.heap.size, 0, none⟩ = some (.int .i64 op) := (Blk.new w _ _).cell 0
  have r1 : (w.alloc (.cells #[.int .i64 op, .int .i64 (d : Int), .int .i64 (a : Int), .int .i64 (b : Int), .int .i64 n] 50)).cell? ⟨w.heap.size, 1, none⟩ = some (.int .i64 (d : Int)) := (Blk.new w _ _).cell 1
  have r2 : (w.alloc (.cells #[.int .i64 op, .int .i64 (d : Int), .int .i64 (a : Int), .int .i64 (b : Int), .int .i64 n] 50)).cell? ⟨w.heap.size, 2, none⟩ = some (.int .i64 (a : Int)) := (Blk.new w _ _).cell 2
  have r3 : (w.alloc (.cells #[.int .i64 op, .int .i64 (d : Int), .int .i64 (a : Int), .int .i64 (b : Int), .int .i64 n] 50)).cell? ⟨w.heap.size, 3, none⟩ = some (.int .i64 (b : Int)) := (Blk.new w _ _).cell 3
  have H1 := Lib.hid (H.out.alloc (.cells #[.int .i64 op, .int .i64 (d : Int), .int .i64 (a : Int), .int .i64 (b : Int), .int .i64 n] 50))
  have F1 := Lib.hid ((Fr.refl (SrS L sb) w).alloc (.cells #[.int .i64 op, .int .i64 (d : Int), .int .i64 (a : Int), .int .i64 (b : Int), .int .i64 n] 50))
  have hz : w.heap.size < (w.alloc (.cells #[.int .i64 op, .int .i64 (d : Int), .int .i64 (a : Int), .int .i64 (b : Int), .int .i64 n] 50)).heap.size := by simp
  generalize (w.alloc (.cells #[.int .i64 op, .int .i64 (d : Int), .int .i64 (a : Int), .int .i64 (b : Int), .int .i64 n] 50)) = W at *
  have c69 := H1.out.c69
  rw [HV.out] at c69
  by_cases hx : 0 ≤ s.regs.getD a 0 ∧ s.regs.getD a 0 < s.m.cvt.length
  · obtain ⟨i, hi⟩ : ∃ i : Nat, s.regs.getD a 0 = i := ⟨(s.regs.getD a 0).toNat, by omega⟩
    have hil : i < s.m.cvt.length := by omega
    obtain ⟨g, c', hv', _, _, _, _⟩ := owns_at H1.out.cv (by omega)
    have hv2 := hv'
    rw [HV.out] at hv2
    obtain ⟨rfl, rfl⟩ : Av = some ⟨g, 0, none⟩ ∧ c = c' := by simpa using hv2
    clear hv2
    have HQ := Lib.hid (show ({ s with m := { s.m with cvt := put_ s.m.cvt (s.regs.getD a 0) (s.regs.getD b 0) } } : Sr.St) = { s with m := { s.m with cvt := s.m.cvt.set i (s.regs.getD b 0) } } by rw [hi, put_yes hil])
    have hrow : ∀ W, SrL W sb L s → SrL (W.setCell ⟨g, i, none⟩ (.int .i64 (s.regs.getD b 0))) sb L { s with m := { s.m with cvt := s.m.cvt.set i (s.regs.getD b 0) } } ∧ (∃ u, W.cell? ⟨g, i, none⟩ = some u) ∧ W.frozen? ⟨g, i, none⟩ = false := fun W hW => by
      refine ⟨hW.setCv (by rw [hv']; rfl) hil (hW.rk hb), ?_, ?_⟩
      · obtain ⟨g2, c2, hv3, _, _, _, hcell⟩ := owns_at hW.cv (by omega)
        rw [hv'] at hv3
        injection hv3 with hv3
        injection hv3 with hv3
        injection hv3 with hv3
        subst hv3
        exact ⟨_, hcell i _ (ints_get (List.getElem?_eq_getElem hil))⟩
      · obtain ⟨_, _, _, hbk⟩ := owns_block hW.cv (g := g) (by rw [hv']; rfl)
        exact hbk.frozen i
    have HR := Lib.hid hrow
    have HI := Lib.hid hi
    have hsg : SrS L sb g := .inr (.inr (.inr (.inl (by rw [hv']; rfl))))
    rw [HQ.out]
    clear hi hx hrow hv'
    have hS : W.drew.cell? ⟨w.heap.size, 0, none⟩ = some (.int .i64 op) ∧ W.drew.cell? ⟨w.heap.size, 1, none⟩ = some (.int .i64 (d : Int)) ∧ W.drew.cell? ⟨w.heap.size, 2, none⟩ = some (.int .i64 (a : Int)) ∧ W.drew.cell? ⟨w.heap.size, 3, none⟩ = some (.int .i64 (b : Int)) ∧ W.drew.cell? ⟨w.heap.size, 4, none⟩ = some (.int .i64 n) ∧ W.drew.cell? ⟨sb, 69, none⟩ = some (.slice (some ⟨g, 0, none⟩) s.m.cvt.length c) := ⟨r0, r1, r2, r3, r4, c69⟩
    refine wp_region_seqT (fun i => !([6] : List Nat).contains i) (fun i => ([4, 5] : List Nat).contains i) (fun i => ([] : List Nat).contains i) [0, 1, 2, 3, 4, 5, 6] (fun wq : World => wq.cell? ⟨w.heap.size, 0, none⟩ = some (.int .i64 op) ∧ wq.cell? ⟨w.heap.size, 1, none⟩ = some (.int .i64 (d : Int)) ∧ wq.cell? ⟨w.heap.size, 2, none⟩ = some (.int .i64 (a : Int)) ∧ wq.cell? ⟨w.heap.size, 3, none⟩ = some (.int .i64 (b : Int)) ∧ wq.cell? ⟨w.heap.size, 4, none⟩ = some (.int .i64 n) ∧ wq.cell? ⟨sb, 69, none⟩ = some (.slice (some ⟨g, 0, none⟩) s.m.cvt.length c)) (by kernel_rfl) (by kernel_rfl) (by kernel_rfl) (by kernel_rfl) ?_
    iterate 6 (first | refine wpSeq_pureA (v := _) rfl rfl rfl ?_ | refine wpSeq_loadA (v := _) rfl rfl hS rfl ?_)
    refine wpSeq_heavy rfl rfl (fun K hK => ?_); go_simp
    refine (swrite_yes W.drew sb L s H1.out.drew op n d a b ha hb i _ c g H.out.ok.m.cvl HI.out hil _ hsg HR.out).mono ?_
    intro e w9 hp
    have HP := Lib.hid (hp.from_ F1.out.drew)
    obtain ⟨rfl, _⟩ := hp
    dsimp only
    refine hK _ _ (fun h => by cases h) ?_; clear hK K
    refine wpSeq_end ?_
    go_wp2
    go_end0
    exact HP.out
  · have HQ := Lib.hid (show ({ s with m := { s.m with cvt := put_ s.m.cvt (s.regs.getD a 0) (s.regs.getD b 0) } } : Sr.St) = s by rw [put_no hx])
    have HX := Lib.hid hx
    rw [HQ.out]
    clear hx
    have hS : W.drew.cell? ⟨w.heap.size, 0, none⟩ = some (.int .i64 op) ∧ W.drew.cell? ⟨w.heap.size, 1, none⟩ = some (.int .i64 (d : Int)) ∧ W.drew.cell? ⟨w.heap.size, 2, none⟩ = some (.int .i64 (a : Int)) ∧ W.drew.cell? ⟨w.heap.size, 3, none⟩ = some (.int .i64 (b : Int)) ∧ W.drew.cell? ⟨w.heap.size, 4, none⟩ = some (.int .i64 n) ∧ W.drew.cell? ⟨sb, 69, none⟩ = some (.slice Av s.m.cvt.length c) := ⟨r0, r1, r2, r3, r4, c69⟩
    refine wp_region_seqT (fun i => !([6] : List Nat).contains i) (fun i => ([4, 5] : List Nat).contains i) (fun i => ([] : List Nat).contains i) [0, 1, 2, 3, 4, 5, 6] (fun wq : World => wq.cell? ⟨w.heap.size, 0, none⟩ = some (.int .i64 op) ∧ wq.cell? ⟨w.heap.size, 1, none⟩ = some (.int .i64 (d : Int)) ∧ wq.cell? ⟨w.heap.size, 2, none⟩ = some (.int .i64 (a : Int)) ∧ wq.cell? ⟨w.heap.size, 3, none⟩ = some (.int .i64 (b : Int)) ∧ wq.cell? ⟨w.heap.size, 4, none⟩ = some (.int .i64 n) ∧ wq.cell? ⟨sb, 69, none⟩ = some (.slice Av s.m.cvt.length c)) (by kernel_rfl) (by kernel_rfl) (by kernel_rfl) (by kernel_rfl) ?_
    iterate 6 (first | refine wpSeq_pureA (v := _) rfl rfl rfl ?_ | refine wpSeq_loadA (v := _) rfl rfl hS rfl ?_)
    refine wpSeq_heavy rfl rfl (fun K hK => ?_); go_simp
    refine (swrite_no W.drew sb L s H1.out.drew op n b d a ha Av _ c H.out.ok.m.cvl HX.out).mono ?_
    intro e w9 hp
    have HP := Lib.hid (hp.from_ F1.out.drew)
    obtain ⟨rfl, _⟩ := hp
    dsimp only
    refine hK _ _ (fun h => by cases h) ?_; clear hK K
    refine wpSeq_end ?_
    go_wp2
    go_end0
    exact HP.out
set_option maxRecDepth 100000 in
set_option maxHeartbeats 1000000 in
theorem do28 (w : World) (sb : Nat) (L : SLay) (s : Sr.St) (h : SrL w sb L s) (op n d : Int) (a b : Nat) (ha : a < 64) (hb : b < 64) : Calls Tryz.prog 132 #[.pointer (some ⟨sb, 0, none⟩), regV ⟨op, d, a, b, n⟩] w (SPost w sb L { s with m := { s.m with store := put_ s.m.store (s.regs.getD a 0) (s.regs.getD b 0) } }) := by
  obtain ⟨Av, c, hv, _, _⟩ := owns_form h.st
  have HV := Lib.hid hv
  clear hv
  unfold regV
  have H := Lib.hid h
  have hs1 := h.blk.lt
  skip
  clear h
  go_enter Tryz.func132, Tryz.ntmps132
  go_wp2_with fail
  have r4 : (w.alloc (.cells #[.int .i64 op, .int .i64 (d : Int), .int .i64 (a : Int), .int .i64 (b : Int), .int .i64 n] 50)).cell? ⟨w.heap.size, 4, none⟩ = some (.int .i64 n) := (Blk.new w _ _).cell 4
  have r0 : (w.alloc (.cells #[.int .i64 op, .int .i64 (d : Int), .int .i64 (a : Int), .int .i64 (b : Int), .int .i64 n] 50)).cell? ⟨w.heap.size, 0, none⟩ = some (.int .i64 op) := (Blk.new w _ _).cell 0
  have r1 : (w.alloc (.cells #[.int .i64 op, .int .i64 (d : Int), .int .i64 (a : Int), .int .i64 (b : Int), .int .i64 n] 50)).cell? ⟨w.heap.size, 1, none⟩ = some (.int .i64 (d : Int)) := (Blk.new w _ _).cell 1
  have r2 : (w.alloc (.cells #[.int .i64 op, .int .i64 (d : Int), .int .i64 (a : Int), .int .i64 (b : Int), .int .i64 n] 50)).cell? ⟨w.heap.size, 2, none⟩ = some (.int .i64 (a : Int)) := (Blk.new w _ _).cell 2
  have r3 : (w.alloc (.cells #[.int .i64 op, .int .i64 (d : Int), .int .i64 (a : Int), .int .i64 (b : Int), .int .i64 n] 50)).cell? ⟨w.heap.size, 3, none⟩ = some (.int .i64 (b : Int)) := (Blk.new w _ _).cell 3
  have H1 := Lib.hid (H.out.alloc (.cells #[.int .i64 op, .int .i64 (d : Int), .int .i64 (a : Int), .int .i64 (b : Int), .int .i64 n] 50))
  have F1 := Lib.hid ((Fr.refl (SrS L sb) w).alloc (.cells #[.int .i64 op, .int .i64 (d : Int), .int .i64 (a : Int), .int .i64 (b : Int), .int .i64 n] 50))
  have hz : w.heap.size < (w.alloc (.cells #[.int .i64 op, .int .i64 (d : Int), .int .i64 (a : Int), .int .i64 (b : Int), .int .i64 n] 50)).heap.size := by simp
  generalize (w.alloc (.cells #[.int .i64 op, .int .i64 (d : Int), .int .i64 (a : Int), .int .i64 (b : Int), .int .i64 n] 50)) = W at *
  have c70 := H1.out.c70
  rw [HV.out] at c70
  by_cases hx : 0 ≤ s.regs.getD a 0 ∧ s.regs.getD a 0 < s.m.store.length
  · obtain ⟨i, hi⟩ : ∃ i : Nat, s.regs.getD a 0 = i := ⟨(s.regs.getD a 0).toNat, by omega⟩
    have hil : i < s.m.store.length := by omega
    obtain ⟨g, c', hv', _, _, _, _⟩ := owns_at H1.out.st (by omega)
    have hv2 := hv'
    rw [HV.out] at hv2
    obtain ⟨rfl, rfl⟩ : Av = some ⟨g, 0, none⟩ ∧ c = c' := by simpa using hv2
    clear hv2
    have HQ := Lib.hid (show ({ s with m := { s.m with store := put_ s.m.store (s.regs.getD a 0) (s.regs.getD b 0) } } : Sr.St) = { s with m := { s.m with store := s.m.store.set i (s.regs.getD b 0) } } by rw [hi, put_yes hil])
    have hrow : ∀ W, SrL W sb L s → SrL (W.setCell ⟨g, i, none⟩ (.int .i64 (s.regs.getD b 0))) sb L { s with m := { s.m with store := s.m.store.set i (s.regs.getD b 0) } } ∧ (∃ u, W.cell? ⟨g, i, none⟩ = some u) ∧ W.frozen? ⟨g, i, none⟩ = false := fun W hW => by
      refine ⟨hW.setSt (by rw [hv']; rfl) hil (hW.rk hb), ?_, ?_⟩
      · obtain ⟨g2, c2, hv3, _, _, _, hcell⟩ := owns_at hW.st (by omega)
        rw [hv'] at hv3
        injection hv3 with hv3
        injection hv3 with hv3
        injection hv3 with hv3
        subst hv3
        exact ⟨_, hcell i _ (ints_get (List.getElem?_eq_getElem hil))⟩
      · obtain ⟨_, _, _, hbk⟩ := owns_block hW.st (g := g) (by rw [hv']; rfl)
        exact hbk.frozen i
    have HR := Lib.hid hrow
    have HI := Lib.hid hi
    have hsg : SrS L sb g := .inr (.inr (.inr (.inr (by rw [hv']; rfl))))
    rw [HQ.out]
    clear hi hx hrow hv'
    have hS : W.drew.cell? ⟨w.heap.size, 0, none⟩ = some (.int .i64 op) ∧ W.drew.cell? ⟨w.heap.size, 1, none⟩ = some (.int .i64 (d : Int)) ∧ W.drew.cell? ⟨w.heap.size, 2, none⟩ = some (.int .i64 (a : Int)) ∧ W.drew.cell? ⟨w.heap.size, 3, none⟩ = some (.int .i64 (b : Int)) ∧ W.drew.cell? ⟨w.heap.size, 4, none⟩ = some (.int .i64 n) ∧ W.drew.cell? ⟨sb, 70, none⟩ = some (.slice (some ⟨g, 0, none⟩) s.m.store.length c) := ⟨r0, r1, r2, r3, r4, c70⟩
    refine wp_region_seqT (fun i => !([6] : List Nat).contains i) (fun i => ([4, 5] : List Nat).contains i) (fun i => ([] : List Nat).contains i) [0, 1, 2, 3, 4, 5, 6] (fun wq : World => wq.cell? ⟨w.heap.size, 0, none⟩ = some (.int .i64 op) ∧ wq.cell? ⟨w.heap.size, 1, none⟩ = some (.int .i64 (d : Int)) ∧ wq.cell? ⟨w.heap.size, 2, none⟩ = some (.int .i64 (a : Int)) ∧ wq.cell? ⟨w.heap.size, 3, none⟩ = some (.int .i64 (b : Int)) ∧ wq.cell? ⟨w.heap.size, 4, none⟩ = some (.int .i64 n) ∧ wq.cell? ⟨sb, 70, none⟩ = some (.slice (some ⟨g, 0, none⟩) s.m.store.length c)) (by kernel_rfl) (by kernel_rfl) (by kernel_rfl) (by kernel_rfl) ?_
    iterate 6 (first | refine wpSeq_pureA (v := _) rfl rfl rfl ?_ | refine wpSeq_loadA (v := _) rfl rfl hS rfl ?_)
    refine wpSeq_heavy rfl rfl (fun K hK => ?_); go_simp
    refine (swrite_yes W.drew sb L s H1.out.drew op n d a b ha hb i _ c g (by have := H.out.ok.m.stl; omega) HI.out hil _ hsg HR.out).mono ?_
    intro e w9 hp
    have HP := Lib.hid (hp.from_ F1.out.drew)
    obtain ⟨rfl, _⟩ := hp
    dsimp only
    refine hK _ _ (fun h => by cases h) ?_; clear hK K
    refine wpSeq_end ?_
    go_wp2
    go_end0
    exact HP.out
  · have HQ := Lib.hid (show ({ s with m := { s.m with store := put_ s.m.store (s.regs.getD a 0) (s.regs.getD b 0) } } : Sr.St) = s by rw [put_no hx])
    have HX := Lib.hid hx
    rw [HQ.out]
    clear hx
    have hS : W.drew.cell? ⟨w.heap.size, 0, none⟩ = some (.int .i64 op) ∧ W.drew.cell? ⟨w.heap.size, 1, none⟩ = some (.int .i64 (d : Int)) ∧ W.drew.cell? ⟨w.heap.size, 2, none⟩ = some (.int .i64 (a : Int)) ∧ W.drew.cell? ⟨w.heap.size, 3, none⟩ = some (.int .i64 (b : Int)) ∧ W.drew.cell? ⟨w.heap.size, 4, none⟩ = some (.int .i64 n) ∧ W.drew.cell? ⟨sb, 70, none⟩ = some (.slice Av s.m.store.length c) := ⟨r0, r1, r2, r3, r4, c70⟩
    refine wp_region_seqT (fun i => !([6] : List Nat).contains i) (fun i => ([4, 5] : List Nat).contains i) (fun i => ([] : List Nat).contains i) [0, 1, 2, 3, 4, 5, 6] (fun wq : World => wq.cell? ⟨w.heap.size, 0, none⟩ = some (.int .i64 op) ∧ wq.cell? ⟨w.heap.size, 1, none⟩ = some (.int .i64 (d : Int)) ∧ wq.cell? ⟨w.heap.size, 2, none⟩ = some (.int .i64 (a : Int)) ∧ wq.cell? ⟨w.heap.size, 3, none⟩ = some (.int .i64 (b : Int)) ∧ wq.cell? ⟨w.heap.size, 4, none⟩ = some (.int .i64 n) ∧ wq.cell? ⟨sb, 70, none⟩ = some (.slice Av s.m.store.length c)) (by kernel_rfl) (by kernel_rfl) (by kernel_rfl) (by kernel_rfl) ?_
    iterate 6 (first | refine wpSeq_pureA (v := _) rfl rfl rfl ?_ | refine wpSeq_loadA (v := _) rfl rfl hS rfl ?_)
    refine wpSeq_heavy rfl rfl (fun K hK => ?_); go_simp
    refine (swrite_no W.drew sb L s H1.out.drew op n b d a ha Av _ c (by have := H.out.ok.m.stl; omega) HX.out).mono ?_
    intro e w9 hp
    have HP := Lib.hid (hp.from_ F1.out.drew)
    obtain ⟨rfl, _⟩ := hp
    dsimp only
    refine hK _ _ (fun h => by cases h) ?_; clear hK K
    refine wpSeq_end ?_
    go_wp2
    go_end0
    exact HP.out
set_option maxRecDepth 100000 in
set_option maxHeartbeats 1000000 in
theorem do22 (w : World) (sb : Nat) (L : SLay) (s : Sr.St) (h : SrL w sb L s) (op n d a b : Int) : Calls Tryz.prog 133 #[.pointer (some ⟨sb, 0, none⟩), regV ⟨op, d, a, b, n⟩] w (SPost w sb L { s with m := { s.m with look := n % 2 } }) := by
  unfold regV
  have H := Lib.hid h
  have hs1 := h.blk.lt
  skip
  clear h
  go_enter Tryz.func133, Tryz.ntmps133
  go_wp2_with fail
  have r4 : (w.alloc (.cells #[.int .i64 op, .int .i64 (d : Int), .int .i64 (a : Int), .int .i64 (b : Int), .int .i64 n] 50)).cell? ⟨w.heap.size, 4, none⟩ = some (.int .i64 n) := (Blk.new w _ _).cell 4
  have r0 : (w.alloc (.cells #[.int .i64 op, .int .i64 (d : Int), .int .i64 (a : Int), .int .i64 (b : Int), .int .i64 n] 50)).cell? ⟨w.heap.size, 0, none⟩ = some (.int .i64 op) := (Blk.new w _ _).cell 0
  have r1 : (w.alloc (.cells #[.int .i64 op, .int .i64 (d : Int), .int .i64 (a : Int), .int .i64 (b : Int), .int .i64 n] 50)).cell? ⟨w.heap.size, 1, none⟩ = some (.int .i64 (d : Int)) := (Blk.new w _ _).cell 1
  have r2 : (w.alloc (.cells #[.int .i64 op, .int .i64 (d : Int), .int .i64 (a : Int), .int .i64 (b : Int), .int .i64 n] 50)).cell? ⟨w.heap.size, 2, none⟩ = some (.int .i64 (a : Int)) := (Blk.new w _ _).cell 2
  have r3 : (w.alloc (.cells #[.int .i64 op, .int .i64 (d : Int), .int .i64 (a : Int), .int .i64 (b : Int), .int .i64 n] 50)).cell? ⟨w.heap.size, 3, none⟩ = some (.int .i64 (b : Int)) := (Blk.new w _ _).cell 3
  have H1 := Lib.hid (H.out.alloc (.cells #[.int .i64 op, .int .i64 (d : Int), .int .i64 (a : Int), .int .i64 (b : Int), .int .i64 n] 50))
  have F1 := Lib.hid ((Fr.refl (SrS L sb) w).alloc (.cells #[.int .i64 op, .int .i64 (d : Int), .int .i64 (a : Int), .int .i64 (b : Int), .int .i64 n] 50))
  have hz : w.heap.size < (w.alloc (.cells #[.int .i64 op, .int .i64 (d : Int), .int .i64 (a : Int), .int .i64 (b : Int), .int .i64 n] 50)).heap.size := by simp
  generalize (w.alloc (.cells #[.int .i64 op, .int .i64 (d : Int), .int .i64 (a : Int), .int .i64 (b : Int), .int .i64 n] 50)) = W at *
  have c := H1.out.c72
  have f := H1.out.blk.frozen 72
  have HP := Lib.hid (SPost.to (H1.out.setLook (v := n % 2) (by omega)) (F1.out.setCell (p := ⟨sb, 72, none⟩) (.inl (.inl rfl)) _))
  go_wp2_with fail
  refine (srest_any _ 2 _ (by decide) (by decide)).mono ?_
  rintro e w1 ⟨rfl, rfl⟩
  go_wp2
  go_end0
  exact HP.out
set_option maxRecDepth 100000 in
set_option maxHeartbeats 1000000 in
theorem do23 (w : World) (sb : Nat) (L : SLay) (s : Sr.St) (h : SrL w sb L s) (op n d a b : Int) : Calls Tryz.prog 135 #[.pointer (some ⟨sb, 0, none⟩), regV ⟨op, d, a, b, n⟩] w (SPost w sb L { s with m := { s.m with move := n % 2 } }) := by
  unfold regV
  have H := Lib.hid h
  have hs1 := h.blk.lt
  skip
  clear h
  go_enter Tryz.func135, Tryz.ntmps135
  go_wp2_with fail
  have r4 : (w.alloc (.cells #[.int .i64 op, .int .i64 (d : Int), .int .i64 (a : Int), .int .i64 (b : Int), .int .i64 n] 50)).cell? ⟨w.heap.size, 4, none⟩ = some (.int .i64 n) := (Blk.new w _ _).cell 4
  have r0 : (w.alloc (.cells #[.int .i64 op, .int .i64 (d : Int), .int .i64 (a : Int), .int .i64 (b : Int), .int .i64 n] 50)).cell? ⟨w.heap.size, 0, none⟩ = some (.int .i64 op) := (Blk.new w _ _).cell 0
  have r1 : (w.alloc (.cells #[.int .i64 op, .int .i64 (d : Int), .int .i64 (a : Int), .int .i64 (b : Int), .int .i64 n] 50)).cell? ⟨w.heap.size, 1, none⟩ = some (.int .i64 (d : Int)) := (Blk.new w _ _).cell 1
  have r2 : (w.alloc (.cells #[.int .i64 op, .int .i64 (d : Int), .int .i64 (a : Int), .int .i64 (b : Int), .int .i64 n] 50)).cell? ⟨w.heap.size, 2, none⟩ = some (.int .i64 (a : Int)) := (Blk.new w _ _).cell 2
  have r3 : (w.alloc (.cells #[.int .i64 op, .int .i64 (d : Int), .int .i64 (a : Int), .int .i64 (b : Int), .int .i64 n] 50)).cell? ⟨w.heap.size, 3, none⟩ = some (.int .i64 (b : Int)) := (Blk.new w _ _).cell 3
  have H1 := Lib.hid (H.out.alloc (.cells #[.int .i64 op, .int .i64 (d : Int), .int .i64 (a : Int), .int .i64 (b : Int), .int .i64 n] 50))
  have F1 := Lib.hid ((Fr.refl (SrS L sb) w).alloc (.cells #[.int .i64 op, .int .i64 (d : Int), .int .i64 (a : Int), .int .i64 (b : Int), .int .i64 n] 50))
  have hz : w.heap.size < (w.alloc (.cells #[.int .i64 op, .int .i64 (d : Int), .int .i64 (a : Int), .int .i64 (b : Int), .int .i64 n] 50)).heap.size := by simp
  generalize (w.alloc (.cells #[.int .i64 op, .int .i64 (d : Int), .int .i64 (a : Int), .int .i64 (b : Int), .int .i64 n] 50)) = W at *
  have c := H1.out.c73
  have f := H1.out.blk.frozen 73
  have HP := Lib.hid (SPost.to (H1.out.setMove (v := n % 2) (by omega)) (F1.out.setCell (p := ⟨sb, 73, none⟩) (.inl (.inl rfl)) _))
  go_wp2_with fail
  refine (srest_any _ 2 _ (by decide) (by decide)).mono ?_
  rintro e w1 ⟨rfl, rfl⟩
  go_wp2
  go_end0
  exact HP.out
set_option maxRecDepth 100000 in
set_option maxHeartbeats 1000000 in
theorem do24 (w : World) (sb : Nat) (L : SLay) (s : Sr.St) (h : SrL w sb L s) (op n d a b : Int) : Calls Tryz.prog 136 #[.pointer (some ⟨sb, 0, none⟩), regV ⟨op, d, a, b, n⟩] w (SPost w sb L { s with m := { s.m with mode := n % 6 } }) := by
  unfold regV
  have H := Lib.hid h
  have hs1 := h.blk.lt
  skip
  clear h
  go_enter Tryz.func136, Tryz.ntmps136
  go_wp2_with fail
  have r4 : (w.alloc (.cells #[.int .i64 op, .int .i64 (d : Int), .int .i64 (a : Int), .int .i64 (b : Int), .int .i64 n] 50)).cell? ⟨w.heap.size, 4, none⟩ = some (.int .i64 n) := (Blk.new w _ _).cell 4
  have r0 : (w.alloc (.cells #[.int .i64 op, .int .i64 (d : Int), .int .i64 (a : Int), .int .i64 (b : Int), .int .i64 n] 50)).cell? ⟨w.heap.size, 0, none⟩ = some (.int .i64 op) := (Blk.new w _ _).cell 0
  have r1 : (w.alloc (.cells #[.int .i64 op, .int .i64 (d : Int), .int .i64 (a : Int), .int .i64 (b : Int), .int .i64 n] 50)).cell? ⟨w.heap.size, 1, none⟩ = some (.int .i64 (d : Int)) := (Blk.new w _ _).cell 1
  have r2 : (w.alloc (.cells #[.int .i64 op, .int .i64 (d : Int), .int .i64 (a : Int), .int .i64 (b : Int), .int .i64 n] 50)).cell? ⟨w.heap.size, 2, none⟩ = some (.int .i64 (a : Int)) := (Blk.new w _ _).cell 2
  have r3 : (w.alloc (.cells #[.int .i64 op, .int .i64 (d : Int), .int .i64 (a : Int), .int .i64 (b : Int), .int .i64 n] 50)).cell? ⟨w.heap.size, 3, none⟩ = some (.int .i64 (b : Int)) := (Blk.new w _ _).cell 3
  have H1 := Lib.hid (H.out.alloc (.cells #[.int .i64 op, .int .i64 (d : Int), .int .i64 (a : Int), .int .i64 (b : Int), .int .i64 n] 50))
  have F1 := Lib.hid ((Fr.refl (SrS L sb) w).alloc (.cells #[.int .i64 op, .int .i64 (d : Int), .int .i64 (a : Int), .int .i64 (b : Int), .int .i64 n] 50))
  have hz : w.heap.size < (w.alloc (.cells #[.int .i64 op, .int .i64 (d : Int), .int .i64 (a : Int), .int .i64 (b : Int), .int .i64 n] 50)).heap.size := by simp
  generalize (w.alloc (.cells #[.int .i64 op, .int .i64 (d : Int), .int .i64 (a : Int), .int .i64 (b : Int), .int .i64 n] 50)) = W at *
  have c := H1.out.c74
  have f := H1.out.blk.frozen 74
  have HP := Lib.hid (SPost.to (H1.out.setMode (v := n % 6) (by omega)) (F1.out.setCell (p := ⟨sb, 74, none⟩) (.inl (.inl rfl)) _))
  go_wp2_with fail
  refine (srest_any _ 6 _ (by decide) (by decide)).mono ?_
  rintro e w1 ⟨rfl, rfl⟩
  go_wp2
  go_end0
  exact HP.out
set_option maxRecDepth 100000 in
set_option maxHeartbeats 1000000 in
theorem do29 (w : World) (sb : Nat) (L : SLay) (s : Sr.St) (h : SrL w sb L s) (op n b : Int) (d a : Nat) (hd : d < 64) (ha : a < 64) : Calls Tryz.prog 137 #[.pointer (some ⟨sb, 0, none⟩), regV ⟨op, d, a, b, n⟩] w (SPost w sb L (whereV s s.m.cur d (s.regs.getD a 0))) := by
  unfold regV
  have H := Lib.hid h
  have hs1 := h.blk.lt
  skip
  clear h
  go_enter Tryz.func137, Tryz.ntmps137
  go_wp2_with fail
  have r4 : (w.alloc (.cells #[.int .i64 op, .int .i64 (d : Int), .int .i64 (a : Int), .int .i64 (b : Int), .int .i64 n] 50)).cell? ⟨w.heap.size, 4, none⟩ = some (.int .i64 n) := (Blk.new w _ _).cell 4
  have r0 : (w.alloc (.cells #[.int .i64 op, .int .i64 (d : Int), .int .i64 (a : Int), .int .i64 (b : Int), .int .i64 n] 50)).cell? ⟨w.heap.size, 0, none⟩ = some (.int .i64 op) := (Blk.new w _ _).cell 0
  have r1 : (w.alloc (.cells #[.int .i64 op, .int .i64 (d : Int), .int .i64 (a : Int), .int .i64 (b : Int), .int .i64 n] 50)).cell? ⟨w.heap.size, 1, none⟩ = some (.int .i64 (d : Int)) := (Blk.new w _ _).cell 1
  have r2 : (w.alloc (.cells #[.int .i64 op, .int .i64 (d : Int), .int .i64 (a : Int), .int .i64 (b : Int), .int .i64 n] 50)).cell? ⟨w.heap.size, 2, none⟩ = some (.int .i64 (a : Int)) := (Blk.new w _ _).cell 2
  have r3 : (w.alloc (.cells #[.int .i64 op, .int .i64 (d : Int), .int .i64 (a : Int), .int .i64 (b : Int), .int .i64 n] 50)).cell? ⟨w.heap.size, 3, none⟩ = some (.int .i64 (b : Int)) := (Blk.new w _ _).cell 3
  have H1 := Lib.hid (H.out.alloc (.cells #[.int .i64 op, .int .i64 (d : Int), .int .i64 (a : Int), .int .i64 (b : Int), .int .i64 n] 50))
  have F1 := Lib.hid ((Fr.refl (SrS L sb) w).alloc (.cells #[.int .i64 op, .int .i64 (d : Int), .int .i64 (a : Int), .int .i64 (b : Int), .int .i64 n] 50))
  have hz : w.heap.size < (w.alloc (.cells #[.int .i64 op, .int .i64 (d : Int), .int .i64 (a : Int), .int .i64 (b : Int), .int .i64 n] 50)).heap.size := by simp
  generalize (w.alloc (.cells #[.int .i64 op, .int .i64 (d : Int), .int .i64 (a : Int), .int .i64 (b : Int), .int .i64 n] 50)) = W at *
  have c6 := H1.out.c65
  have hS : W.drew.cell? ⟨w.heap.size, 0, none⟩ = some (.int .i64 op) ∧ W.drew.cell? ⟨w.heap.size, 1, none⟩ = some (.int .i64 (d : Int)) ∧ W.drew.cell? ⟨w.heap.size, 2, none⟩ = some (.int .i64 (a : Int)) ∧ W.drew.cell? ⟨w.heap.size, 3, none⟩ = some (.int .i64 (b : Int)) ∧ W.drew.cell? ⟨w.heap.size, 4, none⟩ = some (.int .i64 n) ∧ W.drew.cell? ⟨sb, 65, none⟩ = some L.cu := ⟨r0, r1, r2, r3, r4, c6⟩
  refine wp_region_seqT (fun i => !([7] : List Nat).contains i) (fun i => ([5, 6] : List Nat).contains i) (fun i => ([] : List Nat).contains i) [0, 1, 2, 3, 4, 5, 6, 7] (fun wq : World => wq.cell? ⟨w.heap.size, 0, none⟩ = some (.int .i64 op) ∧ wq.cell? ⟨w.heap.size, 1, none⟩ = some (.int .i64 (d : Int)) ∧ wq.cell? ⟨w.heap.size, 2, none⟩ = some (.int .i64 (a : Int)) ∧ wq.cell? ⟨w.heap.size, 3, none⟩ = some (.int .i64 (b : Int)) ∧ wq.cell? ⟨w.heap.size, 4, none⟩ = some (.int .i64 n) ∧ wq.cell? ⟨sb, 65, none⟩ = some L.cu) (by kernel_rfl) (by kernel_rfl) (by kernel_rfl) (by kernel_rfl) ?_
  iterate 7 (first | refine wpSeq_pureA (v := _) rfl rfl rfl ?_ | refine wpSeq_loadA (v := _) rfl rfl hS rfl ?_)
  refine wpSeq_heavy rfl rfl (fun K hK => ?_); go_simp
  refine (swhere_any W.drew sb L s H1.out.drew op n b d a hd ha L.cu _ rfl (fun _ h => h.cu) H1.out.ok.m.cur).mono ?_
  intro e w9 hp
  have HP := Lib.hid (hp.from_ F1.out.drew)
  obtain ⟨rfl, _⟩ := hp
  dsimp only
  refine hK _ _ (fun h => by cases h) ?_; clear hK K
  refine wpSeq_end ?_
  go_wp2
  go_end0
  exact HP.out
set_option maxRecDepth 100000 in
set_option maxHeartbeats 1000000 in
theorem do30 (w : World) (sb : Nat) (L : SLay) (s : Sr.St) (h : SrL w sb L s) (op n b : Int) (d a : Nat) (hd : d < 64) (ha : a < 64) : Calls Tryz.prog 139 #[.pointer (some ⟨sb, 0, none⟩), regV ⟨op, d, a, b, n⟩] w (SPost w sb L (whereV s s.m.org d (s.regs.getD a 0))) := by
  unfold regV
  have H := Lib.hid h
  have hs1 := h.blk.lt
  skip
  clear h
  go_enter Tryz.func139, Tryz.ntmps139
  go_wp2_with fail
  have r4 : (w.alloc (.cells #[.int .i64 op, .int .i64 (d : Int), .int .i64 (a : Int), .int .i64 (b : Int), .int .i64 n] 50)).cell? ⟨w.heap.size, 4, none⟩ = some (.int .i64 n) := (Blk.new w _ _).cell 4
  have r0 : (w.alloc (.cells #[.int .i64 op, .int .i64 (d : Int), .int .i64 (a : Int), .int .i64 (b : Int), .int .i64 n] 50)).cell? ⟨w.heap.size, 0, none⟩ = some (.int .i64 op) := (Blk.new w _ _).cell 0
  have r1 : (w.alloc (.cells #[.int .i64 op, .int .i64 (d : Int), .int .i64 (a : Int), .int .i64 (b : Int), .int .i64 n] 50)).cell? ⟨w.heap.size, 1, none⟩ = some (.int .i64 (d : Int)) := (Blk.new w _ _).cell 1
  have r2 : (w.alloc (.cells #[.int .i64 op, .int .i64 (d : Int), .int .i64 (a : Int), .int .i64 (b : Int), .int .i64 n] 50)).cell? ⟨w.heap.size, 2, none⟩ = some (.int .i64 (a : Int)) := (Blk.new w _ _).cell 2
  have r3 : (w.alloc (.cells #[.int .i64 op, .int .i64 (d : Int), .int .i64 (a : Int), .int .i64 (b : Int), .int .i64 n] 50)).cell? ⟨w.heap.size, 3, none⟩ = some (.int .i64 (b : Int)) := (Blk.new w _ _).cell 3
  have H1 := Lib.hid (H.out.alloc (.cells #[.int .i64 op, .int .i64 (d : Int), .int .i64 (a : Int), .int .i64 (b : Int), .int .i64 n] 50))
  have F1 := Lib.hid ((Fr.refl (SrS L sb) w).alloc (.cells #[.int .i64 op, .int .i64 (d : Int), .int .i64 (a : Int), .int .i64 (b : Int), .int .i64 n] 50))
  have hz : w.heap.size < (w.alloc (.cells #[.int .i64 op, .int .i64 (d : Int), .int .i64 (a : Int), .int .i64 (b : Int), .int .i64 n] 50)).heap.size := by simp
  generalize (w.alloc (.cells #[.int .i64 op, .int .i64 (d : Int), .int .i64 (a : Int), .int .i64 (b : Int), .int .i64 n] 50)) = W at *
  have c6 := H1.out.c64
  have hS : W.drew.cell? ⟨w.heap.size, 0, none⟩ = some (.int .i64 op) ∧ W.drew.cell? ⟨w.heap.size, 1, none⟩ = some (.int .i64 (d : Int)) ∧ W.drew.cell? ⟨w.heap.size, 2, none⟩ = some (.int .i64 (a : Int)) ∧ W.drew.cell? ⟨w.heap.size, 3, none⟩ = some (.int .i64 (b : Int)) ∧ W.drew.cell? ⟨w.heap.size, 4, none⟩ = some (.int .i64 n) ∧ W.drew.cell? ⟨sb, 64, none⟩ = some L.og := ⟨r0, r1, r2, r3, r4, c6⟩
  refine wp_region_seqT (fun i => !([7] : List Nat).contains i) (fun i => ([5, 6] : List Nat).contains i) (fun i => ([] : List Nat).contains i) [0, 1, 2, 3, 4, 5, 6, 7] (fun wq : World => wq.cell? ⟨w.heap.size, 0, none⟩ = some (.int .i64 op) ∧ wq.cell? ⟨w.heap.size, 1, none⟩ = some (.int .i64 (d : Int)) ∧ wq.cell? ⟨w.heap.size, 2, none⟩ = some (.int .i64 (a : Int)) ∧ wq.cell? ⟨w.heap.size, 3, none⟩ = some (.int .i64 (b : Int)) ∧ wq.cell? ⟨w.heap.size, 4, none⟩ = some (.int .i64 n) ∧ wq.cell? ⟨sb, 64, none⟩ = some L.og) (by kernel_rfl) (by kernel_rfl) (by kernel_rfl) (by kernel_rfl) ?_
  iterate 7 (first | refine wpSeq_pureA (v := _) rfl rfl rfl ?_ | refine wpSeq_loadA (v := _) rfl rfl hS rfl ?_)
  refine wpSeq_heavy rfl rfl (fun K hK => ?_); go_simp
  refine (swhere_any W.drew sb L s H1.out.drew op n b d a hd ha L.og _ H1.out.ok.m.orgl (fun _ h => h.og) H1.out.ok.m.org).mono ?_
  intro e w9 hp
  have HP := Lib.hid (hp.from_ F1.out.drew)
  obtain ⟨rfl, _⟩ := hp
  dsimp only
  refine hK _ _ (fun h => by cases h) ?_; clear hK K
  refine wpSeq_end ?_
  go_wp2
  go_end0
  exact HP.out
set_option maxRecDepth 100000 in
set_option maxHeartbeats 1000000 in
theorem do31 (w : World) (sb : Nat) (L : SLay) (s : Sr.St) (h : SrL w sb L s) (op n d : Int) (a b : Nat) (ha : a < 64) (hb : b < 64) : Calls Tryz.prog 140 #[.pointer (some ⟨sb, 0, none⟩), regV ⟨op, d, a, b, n⟩] w (SPost w sb L (sMove s (s.regs.getD a 0) (s.regs.getD b 0))) := by
  have ha64 : (a : Int) < 64 := by omega
  have hb64 : (b : Int) < 64 := by omega
  unfold regV
  have H := Lib.hid h
  have hs1 := h.blk.lt
  skip
  clear h
  go_enter Tryz.func140, Tryz.ntmps140
  go_wp2_with fail
  have r4 : (w.alloc (.cells #[.int .i64 op, .int .i64 (d : Int), .int .i64 (a : Int), .int .i64 (b : Int), .int .i64 n] 50)).cell? ⟨w.heap.size, 4, none⟩ = some (.int .i64 n) := (Blk.new w _ _).cell 4
  have r0 : (w.alloc (.cells #[.int .i64 op, .int .i64 (d : Int), .int .i64 (a : Int), .int .i64 (b : Int), .int .i64 n] 50)).cell? ⟨w.heap.size, 0, none⟩ = some (.int .i64 op) := (Blk.new w _ _).cell 0
  have r1 : (w.alloc (.cells #[.int .i64 op, .int .i64 (d : Int), .int .i64 (a : Int), .int .i64 (b : Int), .int .i64 n] 50)).cell? ⟨w.heap.size, 1, none⟩ = some (.int .i64 (d : Int)) := (Blk.new w _ _).cell 1
  have r2 : (w.alloc (.cells #[.int .i64 op, .int .i64 (d : Int), .int .i64 (a : Int), .int .i64 (b : Int), .int .i64 n] 50)).cell? ⟨w.heap.size, 2, none⟩ = some (.int .i64 (a : Int)) := (Blk.new w _ _).cell 2
  have r3 : (w.alloc (.cells #[.int .i64 op, .int .i64 (d : Int), .int .i64 (a : Int), .int .i64 (b : Int), .int .i64 n] 50)).cell? ⟨w.heap.size, 3, none⟩ = some (.int .i64 (b : Int)) := (Blk.new w _ _).cell 3
  have H1 := Lib.hid (H.out.alloc (.cells #[.int .i64 op, .int .i64 (d : Int), .int .i64 (a : Int), .int .i64 (b : Int), .int .i64 n] 50))
  have F1 := Lib.hid ((Fr.refl (SrS L sb) w).alloc (.cells #[.int .i64 op, .int .i64 (d : Int), .int .i64 (a : Int), .int .i64 (b : Int), .int .i64 n] 50))
  have hz : w.heap.size < (w.alloc (.cells #[.int .i64 op, .int .i64 (d : Int), .int .i64 (a : Int), .int .i64 (b : Int), .int .i64 n] 50)).heap.size := by simp
  generalize (w.alloc (.cells #[.int .i64 op, .int .i64 (d : Int), .int .i64 (a : Int), .int .i64 (b : Int), .int .i64 n] 50)) = W at *
  have c1 := H1.out.reg ha
  have c2 := H1.out.reg hb
  have hS : W.drew.cell? ⟨w.heap.size, 2, none⟩ = some (.int .i64 (a : Int)) ∧ W.drew.cell? ⟨sb, a, none⟩ = some (.int .i64 (s.regs.getD a 0)) ∧ W.drew.cell? ⟨w.heap.size, 3, none⟩ = some (.int .i64 (b : Int)) ∧ W.drew.cell? ⟨sb, b, none⟩ = some (.int .i64 (s.regs.getD b 0)) := ⟨r2, c1, r3, c2⟩
  refine wp_region_seqT (fun i => !([15] : List Nat).contains i) (fun i => ([3, 7, 10, 14] : List Nat).contains i) (fun i => ([] : List Nat).contains i) [0, 1, 2, 3, 4, 5, 6, 7, 8, 9, 10, 11, 12, 13, 14, 15] (fun wq : World => wq.cell? ⟨w.heap.size, 2, none⟩ = some (.int .i64 (a : Int)) ∧ wq.cell? ⟨sb, a, none⟩ = some (.int .i64 (s.regs.getD a 0)) ∧ wq.cell? ⟨w.heap.size, 3, none⟩ = some (.int .i64 (b : Int)) ∧ wq.cell? ⟨sb, b, none⟩ = some (.int .i64 (s.regs.getD b 0))) (by kernel_rfl) (by kernel_rfl) (by kernel_rfl) (by kernel_rfl) ?_
  iterate 15 (first | refine wpSeq_pureA (v := _) rfl rfl rfl ?_ | refine wpSeq_loadA (v := _) rfl rfl hS rfl ?_)
  refine wpSeq_heavy rfl rfl (fun K hK => ?_); go_simp
  refine (sshove_any W.drew sb L s H1.out.drew _ _ (H.out.rk hb)).mono ?_
  intro e w9 hp
  have HP := Lib.hid (hp.from_ F1.out.drew)
  obtain ⟨rfl, _⟩ := hp
  dsimp only
  refine hK _ _ (fun h => by cases h) ?_; clear hK K
  refine wpSeq_end ?_
  go_wp2
  go_end0
  exact HP.out
set_option maxRecDepth 100000 in
set_option maxHeartbeats 1000000 in
theorem do32 (w : World) (sb : Nat) (L : SLay) (s : Sr.St) (h : SrL w sb L s) (op n d : Int) (a b : Nat) (ha : a < 64) (hb : b < 64) : Calls Tryz.prog 142 #[.pointer (some ⟨sb, 0, none⟩), regV ⟨op, d, a, b, n⟩] w (SPost w sb L (sSet s (s.regs.getD a 0) (s.regs.getD b 0))) := by
  have ha64 : (a : Int) < 64 := by omega
  have hb64 : (b : Int) < 64 := by omega
  unfold regV
  have H := Lib.hid h
  have hs1 := h.blk.lt
  skip
  clear h
  go_enter Tryz.func142, Tryz.ntmps142
  go_wp2_with fail
  have r4 : (w.alloc (.cells #[.int .i64 op, .int .i64 (d : Int), .int .i64 (a : Int), .int .i64 (b : Int), .int .i64 n] 50)).cell? ⟨w.heap.size, 4, none⟩ = some (.int .i64 n) := (Blk.new w _ _).cell 4
  have r0 : (w.alloc (.cells #[.int .i64 op, .int .i64 (d : Int), .int .i64 (a : Int), .int .i64 (b : Int), .int .i64 n] 50)).cell? ⟨w.heap.size, 0, none⟩ = some (.int .i64 op) := (Blk.new w _ _).cell 0
  have r1 : (w.alloc (.cells #[.int .i64 op, .int .i64 (d : Int), .int .i64 (a : Int), .int .i64 (b : Int), .int .i64 n] 50)).cell? ⟨w.heap.size, 1, none⟩ = some (.int .i64 (d : Int)) := (Blk.new w _ _).cell 1
  have r2 : (w.alloc (.cells #[.int .i64 op, .int .i64 (d : Int), .int .i64 (a : Int), .int .i64 (b : Int), .int .i64 n] 50)).cell? ⟨w.heap.size, 2, none⟩ = some (.int .i64 (a : Int)) := (Blk.new w _ _).cell 2
  have r3 : (w.alloc (.cells #[.int .i64 op, .int .i64 (d : Int), .int .i64 (a : Int), .int .i64 (b : Int), .int .i64 n] 50)).cell? ⟨w.heap.size, 3, none⟩ = some (.int .i64 (b : Int)) := (Blk.new w _ _).cell 3
  have H1 := Lib.hid (H.out.alloc (.cells #[.int .i64 op, .int .i64 (d : Int), .int .i64 (a : Int), .int .i64 (b : Int), .int .i64 n] 50))
  have F1 := Lib.hid ((Fr.refl (SrS L sb) w).alloc (.cells #[.int .i64 op, .int .i64 (d : Int), .int .i64 (a : Int), .int .i64 (b : Int), .int .i64 n] 50))
  have hz : w.heap.size < (w.alloc (.cells #[.int .i64 op, .int .i64 (d : Int), .int .i64 (a : Int), .int .i64 (b : Int), .int .i64 n] 50)).heap.size := by simp
  generalize (w.alloc (.cells #[.int .i64 op, .int .i64 (d : Int), .int .i64 (a : Int), .int .i64 (b : Int), .int .i64 n] 50)) = W at *
  have c1 := H1.out.reg ha
  have c2 := H1.out.reg hb
  have hS : W.drew.cell? ⟨w.heap.size, 2, none⟩ = some (.int .i64 (a : Int)) ∧ W.drew.cell? ⟨sb, a, none⟩ = some (.int .i64 (s.regs.getD a 0)) ∧ W.drew.cell? ⟨w.heap.size, 3, none⟩ = some (.int .i64 (b : Int)) ∧ W.drew.cell? ⟨sb, b, none⟩ = some (.int .i64 (s.regs.getD b 0)) := ⟨r2, c1, r3, c2⟩
  refine wp_region_seqT (fun i => !([15] : List Nat).contains i) (fun i => ([3, 7, 10, 14] : List Nat).contains i) (fun i => ([] : List Nat).contains i) [0, 1, 2, 3, 4, 5, 6, 7, 8, 9, 10, 11, 12, 13, 14, 15] (fun wq : World => wq.cell? ⟨w.heap.size, 2, none⟩ = some (.int .i64 (a : Int)) ∧ wq.cell? ⟨sb, a, none⟩ = some (.int .i64 (s.regs.getD a 0)) ∧ wq.cell? ⟨w.heap.size, 3, none⟩ = some (.int .i64 (b : Int)) ∧ wq.cell? ⟨sb, b, none⟩ = some (.int .i64 (s.regs.getD b 0))) (by kernel_rfl) (by kernel_rfl) (by kernel_rfl) (by kernel_rfl) ?_
  iterate 15 (first | refine wpSeq_pureA (v := _) rfl rfl rfl ?_ | refine wpSeq_loadA (v := _) rfl rfl hS rfl ?_)
  refine wpSeq_heavy rfl rfl (fun K hK => ?_); go_simp
  refine (sset_any W.drew sb L s H1.out.drew _ _).mono ?_
  intro e w9 hp
  have HP := Lib.hid (hp.from_ F1.out.drew)
  obtain ⟨rfl, _⟩ := hp
  dsimp only
  refine hK _ _ (fun h => by cases h) ?_; clear hK K
  refine wpSeq_end ?_
  go_wp2
  go_end0
  exact HP.out
set_option maxRecDepth 100000 in
set_option maxHeartbeats 1000000 in
theorem do33 (w : World) (sb : Nat) (L : SLay) (s : Sr.St) (h : SrL w sb L s) (op n d : Int) (a b : Nat) (ha : a < 64) (hb : b < 64) : Calls Tryz.prog 144 #[.pointer (some ⟨sb, 0, none⟩), regV ⟨op, d, a, b, n⟩] w (SPost w sb L (sAlign s (s.regs.getD a 0) (s.regs.getD b 0))) := by
  have ha64 : (a : Int) < 64 := by omega
  have hb64 : (b : Int) < 64 := by omega
  unfold regV
  have H := Lib.hid h
  have hs1 := h.blk.lt
  skip
  clear h
  go_enter Tryz.func144, Tryz.ntmps144
  go_wp2_with fail
  have r4 : (w.alloc (.cells #[.int .i64 op, .int .i64 (d : Int), .int .i64 (a : Int), .int .i64 (b : Int), .int .i64 n] 50)).cell? ⟨w.heap.size, 4, none⟩ = some (.int .i64 n) := (Blk.new w _ _).cell 4
  have r0 : (w.alloc (.cells #[.int .i64 op, .int .i64 (d : Int), .int .i64 (a : Int), .int .i64 (b : Int), .int .i64 n] 50)).cell? ⟨w.heap.size, 0, none⟩ = some (.int .i64 op) := (Blk.new w _ _).cell 0
  have r1 : (w.alloc (.cells #[.int .i64 op, .int .i64 (d : Int), .int .i64 (a : Int), .int .i64 (b : Int), .int .i64 n] 50)).cell? ⟨w.heap.size, 1, none⟩ = some (.int .i64 (d : Int)) := (Blk.new w _ _).cell 1
  have r2 : (w.alloc (.cells #[.int .i64 op, .int .i64 (d : Int), .int .i64 (a : Int), .int .i64 (b : Int), .int .i64 n] 50)).cell? ⟨w.heap.size, 2, none⟩ = some (.int .i64 (a : Int)) := (Blk.new w _ _).cell 2
  have r3 : (w.alloc (.cells #[.int .i64 op, .int .i64 (d : Int), .int .i64 (a : Int), .int .i64 (b : Int), .int .i64 n] 50)).cell? ⟨w.heap.size, 3, none⟩ = some (.int .i64 (b : Int)) := (Blk.new w _ _).cell 3
  have H1 := Lib.hid (H.out.alloc (.cells #[.int .i64 op, .int .i64 (d : Int), .int .i64 (a : Int), .int .i64 (b : Int), .int .i64 n] 50))
  have F1 := Lib.hid ((Fr.refl (SrS L sb) w).alloc (.cells #[.int .i64 op, .int .i64 (d : Int), .int .i64 (a : Int), .int .i64 (b : Int), .int .i64 n] 50))
  have hz : w.heap.size < (w.alloc (.cells #[.int .i64 op, .int .i64 (d : Int), .int .i64 (a : Int), .int .i64 (b : Int), .int .i64 n] 50)).heap.size := by simp
  generalize (w.alloc (.cells #[.int .i64 op, .int .i64 (d : Int), .int .i64 (a : Int), .int .i64 (b : Int), .int .i64 n] 50)) = W at *
  have c1 := H1.out.reg ha
  have c2 := H1.out.reg hb
  have hS : W.drew.cell? ⟨w.heap.size, 2, none⟩ = some (.int .i64 (a : Int)) ∧ W.drew.cell? ⟨sb, a, none⟩ = some (.int .i64 (s.regs.getD a 0)) ∧ W.drew.cell? ⟨w.heap.size, 3, none⟩ = some (.int .i64 (b : Int)) ∧ W.drew.cell? ⟨sb, b, none⟩ = some (.int .i64 (s.regs.getD b 0)) := ⟨r2, c1, r3, c2⟩
  refine wp_region_seqT (fun i => !([15] : List Nat).contains i) (fun i => ([3, 7, 10, 14] : List Nat).contains i) (fun i => ([] : List Nat).contains i) [0, 1, 2, 3, 4, 5, 6, 7, 8, 9, 10, 11, 12, 13, 14, 15] (fun wq : World => wq.cell? ⟨w.heap.size, 2, none⟩ = some (.int .i64 (a : Int)) ∧ wq.cell? ⟨sb, a, none⟩ = some (.int .i64 (s.regs.getD a 0)) ∧ wq.cell? ⟨w.heap.size, 3, none⟩ = some (.int .i64 (b : Int)) ∧ wq.cell? ⟨sb, b, none⟩ = some (.int .i64 (s.regs.getD b 0))) (by kernel_rfl) (by kernel_rfl) (by kernel_rfl) (by kernel_rfl) ?_
  iterate 15 (first | refine wpSeq_pureA (v := _) rfl rfl rfl ?_ | refine wpSeq_loadA (v := _) rfl rfl hS rfl ?_)
  refine wpSeq_heavy rfl rfl (fun K hK => ?_); go_simp
  refine (salign_any W.drew sb L s H1.out.drew _ _).mono ?_
  intro e w9 hp
  have HP := Lib.hid (hp.from_ F1.out.drew)
  obtain ⟨rfl, _⟩ := hp
  dsimp only
  refine hK _ _ (fun h => by cases h) ?_; clear hK K
  refine wpSeq_end ?_
  go_wp2
  go_end0
  exact HP.out
set_option maxRecDepth 100000 in
set_option maxHeartbeats 1000000 in
theorem do35 (w : World) (sb : Nat) (L : SLay) (s : Sr.St) (h : SrL w sb L s) (op d a b : Int) (n : Nat) (hn : s.pc + n ≤ 1000000) : Calls Tryz.prog 148 #[.pointer (some ⟨sb, 0, none⟩), regV ⟨op, d, a, b, n⟩] w (SPost w sb L (Sr.pass s n true)) := by
  unfold regV
  have H := Lib.hid h
  have hs1 := h.blk.lt
  skip
  clear h
  go_enter Tryz.func148, Tryz.ntmps148
  go_wp2_with fail
  have r4 : (w.alloc (.cells #[.int .i64 op, .int .i64 (d : Int), .int .i64 (a : Int), .int .i64 (b : Int), .int .i64 n] 50)).cell? ⟨w.heap.size, 4, none⟩ = some (.int .i64 n) := (Blk.new w _ _).cell 4
  have r0 : (w.alloc (.cells #[.int .i64 op, .int .i64 (d : Int), .int .i64 (a : Int), .int .i64 (b : Int), .int .i64 n] 50)).cell? ⟨w.heap.size, 0, none⟩ = some (.int .i64 op) := (Blk.new w _ _).cell 0
  have r1 : (w.alloc (.cells #[.int .i64 op, .int .i64 (d : Int), .int .i64 (a : Int), .int .i64 (b : Int), .int .i64 n] 50)).cell? ⟨w.heap.size, 1, none⟩ = some (.int .i64 (d : Int)) := (Blk.new w _ _).cell 1
  have r2 : (w.alloc (.cells #[.int .i64 op, .int .i64 (d : Int), .int .i64 (a : Int), .int .i64 (b : Int), .int .i64 n] 50)).cell? ⟨w.heap.size, 2, none⟩ = some (.int .i64 (a : Int)) := (Blk.new w _ _).cell 2
  have r3 : (w.alloc (.cells #[.int .i64 op, .int .i64 (d : Int), .int .i64 (a : Int), .int .i64 (b : Int), .int .i64 n] 50)).cell? ⟨w.heap.size, 3, none⟩ = some (.int .i64 (b : Int)) := (Blk.new w _ _).cell 3
  have H1 := Lib.hid (H.out.alloc (.cells #[.int .i64 op, .int .i64 (d : Int), .int .i64 (a : Int), .int .i64 (b : Int), .int .i64 n] 50))
  have F1 := Lib.hid ((Fr.refl (SrS L sb) w).alloc (.cells #[.int .i64 op, .int .i64 (d : Int), .int .i64 (a : Int), .int .i64 (b : Int), .int .i64 n] 50))
  have hz : w.heap.size < (w.alloc (.cells #[.int .i64 op, .int .i64 (d : Int), .int .i64 (a : Int), .int .i64 (b : Int), .int .i64 n] 50)).heap.size := by simp
  generalize (w.alloc (.cells #[.int .i64 op, .int .i64 (d : Int), .int .i64 (a : Int), .int .i64 (b : Int), .int .i64 n] 50)) = W at *
  have fz := H1.out.drew.blk.frozen 75
  have c75 := H1.out.drew.c75
  have HP := Lib.hid (show SPost w sb L (Sr.pass s n true) (.returned (.tuple #[])) (W.drew.setCell ⟨sb, 75, none⟩ (.int .i64 ((s.pc + n : Nat) : Int))) from SPost.to (H1.out.drew.setPc (s.pc + n)) (F1.out.drew.setCell (p := ⟨sb, 75, none⟩) (.inl (.inl rfl)) _))
  have e : ((s.pc + n : Nat) : Int) = (s.pc : Int) + n := by omega
  rw [e] at HP
  clear e
  generalize hpc : (s.pc : Int) = pc at *
  have HPC := Lib.hid hpc
  have hpc0 : 0 ≤ pc ∧ pc + n ≤ 1000000 := by omega
  have hw : IntKind.i64.wrap (pc + n) = pc + n := IntWalk.i64_in _ (by omega)
  clear hpc hpc0
  have hS : W.drew.cell? ⟨sb, 75, none⟩ = some (.int .i64 pc) ∧ W.drew.cell? ⟨w.heap.size, 4, none⟩ = some (.int .i64 n) := ⟨c75, r4⟩
  refine wp_region_seqT (fun i => !([9] : List Nat).contains i) (fun i => ([3, 5] : List Nat).contains i) (fun i => ([] : List Nat).contains i) [0, 1, 2, 3, 4, 5, 6, 7, 8, 9] (fun wq : World => wq.cell? ⟨sb, 75, none⟩ = some (.int .i64 pc) ∧ wq.cell? ⟨w.heap.size, 4, none⟩ = some (.int .i64 n)) (by kernel_rfl) (by kernel_rfl) (by kernel_rfl) (by kernel_rfl) ?_
  iterate 9 (first | refine wpSeq_pureA (v := _) rfl rfl rfl ?_ | refine wpSeq_loadA (v := _) rfl rfl hS rfl ?_)
  refine wpSeq_heavy rfl rfl (fun K hK => ?_); go_simp
  refine hK _ _ (fun h => by cases h) ?_; clear hK K
  refine wpSeq_end ?_
  go_wp2
  go_end0
  exact HP.out
set_option maxRecDepth 100000 in
set_option maxHeartbeats 1000000 in
theorem do36 (w : World) (sb : Nat) (L : SLay) (s : Sr.St) (h : SrL w sb L s) (op d b : Int) (a n : Nat) (ha : a < 64) (hn : s.pc + n ≤ 1000000) : Calls Tryz.prog 149 #[.pointer (some ⟨sb, 0, none⟩), regV ⟨op, d, a, b, n⟩] w (SPost w sb L (Sr.pass s n (decide (s.regs.getD a 0 = 0)))) := by
  have ha64 : (a : Int) < 64 := by omega
  obtain ⟨x, hx, _, hxk⟩ := h.getR ha
  have HX := Lib.hid hx
  rw [hx]
  clear hx
  unfold regV
  have H := Lib.hid h
  have hs1 := h.blk.lt
  skip
  clear h
  go_enter Tryz.func149, Tryz.ntmps149
  go_wp2_with fail
  have r4 : (w.alloc (.cells #[.int .i64 op, .int .i64 (d : Int), .int .i64 (a : Int), .int .i64 (b : Int), .int .i64 n] 50)).cell? ⟨w.heap.size, 4, none⟩ = some (.int .i64 n) := (Blk.new w _ _).cell 4
  have r0 : (w.alloc (.cells #[.int .i64 op, .int .i64 (d : Int), .int .i64 (a : Int), .int .i64 (b : Int), .int .i64 n] 50)).cell? ⟨w.heap.size, 0, none⟩ = some (.int .i64 op) := (Blk.new w _ _).cell 0
  have r1 : (w.alloc (.cells #[.int .i64 op, .int .i64 (d : Int), .int .i64 (a : Int), .int .i64 (b : Int), .int .i64 n] 50)).cell? ⟨w.heap.size, 1, none⟩ = some (.int .i64 (d : Int)) := (Blk.new w _ _).cell 1
  have r2 : (w.alloc (.cells #[.int .i64 op, .int .i64 (d : Int), .int .i64 (a : Int), .int .i64 (b : Int), .int .i64 n] 50)).cell? ⟨w.heap.size, 2, none⟩ = some (.int .i64 (a : Int)) := (Blk.new w _ _).cell 2
  have r3 : (w.alloc (.cells #[.int .i64 op, .int .i64 (d : Int), .int .i64 (a : Int), .int .i64 (b : Int), .int .i64 n] 50)).cell? ⟨w.heap.size, 3, none⟩ = some (.int .i64 (b : Int)) := (Blk.new w _ _).cell 3
  have H1 := Lib.hid (H.out.alloc (.cells #[.int .i64 op, .int .i64 (d : Int), .int .i64 (a : Int), .int .i64 (b : Int), .int .i64 n] 50))
  have F1 := Lib.hid ((Fr.refl (SrS L sb) w).alloc (.cells #[.int .i64 op, .int .i64 (d : Int), .int .i64 (a : Int), .int .i64 (b : Int), .int .i64 n] 50))
  have hz : w.heap.size < (w.alloc (.cells #[.int .i64 op, .int .i64 (d : Int), .int .i64 (a : Int), .int .i64 (b : Int), .int .i64 n] 50)).heap.size := by simp
  generalize (w.alloc (.cells #[.int .i64 op, .int .i64 (d : Int), .int .i64 (a : Int), .int .i64 (b : Int), .int .i64 n] 50)) = W at *
  have c1 := H1.out.reg ha
  rw [HX.out] at c1
  have hS : W.drew.cell? ⟨w.heap.size, 4, none⟩ = some (.int .i64 n) ∧ W.drew.cell? ⟨w.heap.size, 2, none⟩ = some (.int .i64 (a : Int)) ∧ W.drew.cell? ⟨sb, a, none⟩ = some (.int .i64 x) := ⟨r4, r2, c1⟩
  refine wp_region_seqT (fun i => !([11] : List Nat).contains i) (fun i => ([2, 5, 9] : List Nat).contains i) (fun i => ([] : List Nat).contains i) [0, 1, 2, 3, 4, 5, 6, 7, 8, 9, 10, 11] (fun wq : World => wq.cell? ⟨w.heap.size, 4, none⟩ = some (.int .i64 n) ∧ wq.cell? ⟨w.heap.size, 2, none⟩ = some (.int .i64 (a : Int)) ∧ wq.cell? ⟨sb, a, none⟩ = some (.int .i64 x)) (by kernel_rfl) (by kernel_rfl) (by kernel_rfl) (by kernel_rfl) ?_
  iterate 11 (first | refine wpSeq_pureA (v := _) rfl rfl rfl ?_ | refine wpSeq_loadA (v := _) rfl rfl hS rfl ?_)
  refine wpSeq_heavy rfl rfl (fun K hK => ?_); go_simp
  refine (spass_any W.drew sb L s H1.out.drew n _ (fun _ => ⟨by omega, by omega⟩)).mono ?_
  intro e w9 hp
  have HP := Lib.hid (hp.from_ F1.out.drew)
  obtain ⟨rfl, _⟩ := hp
  dsimp only
  refine hK _ _ (fun h => by cases h) ?_; clear hK K
  refine wpSeq_end ?_
  go_wp2
  go_end0
  exact HP.out
set_option maxRecDepth 100000 in
set_option maxHeartbeats 1000000 in
theorem do41 (w : World) (sb : Nat) (L : SLay) (s : Sr.St) (h : SrL w sb L s) (op d b : Int) (a n : Nat) (ha : a < 64) (hn : s.pc + n ≤ 1000000) : Calls Tryz.prog 151 #[.pointer (some ⟨sb, 0, none⟩), regV ⟨op, d, a, b, n⟩] w (SPost w sb L (Sr.pass s n (decide (s.regs.getD a 0 ≤ b)))) := by
  have ha64 : (a : Int) < 64 := by omega
  obtain ⟨x, hx, _, hxk⟩ := h.getR ha
  have HX := Lib.hid hx
  rw [hx]
  clear hx
  unfold regV
  have H := Lib.hid h
  have hs1 := h.blk.lt
  skip
  clear h
  go_enter Tryz.func151, Tryz.ntmps151
  go_wp2_with fail
  have r4 : (w.alloc (.cells #[.int .i64 op, .int .i64 (d : Int), .int .i64 (a : Int), .int .i64 (b : Int), .int .i64 n] 50)).cell? ⟨w.heap.size, 4, none⟩ = some (.int .i64 n) := (Blk.new w _ _).cell 4
  have r0 : (w.alloc (.cells #[.int .i64 op, .int .i64 (d : Int), .int .i64 (a : Int), .int .i64 (b : Int), .int .i64 n] 50)).cell? ⟨w.heap.size, 0, none⟩ = some (.int .i64 op) := (Blk.new w _ _).cell 0
  have r1 : (w.alloc (.cells #[.int .i64 op, .int .i64 (d : Int), .int .i64 (a : Int), .int .i64 (b : Int), .int .i64 n] 50)).cell? ⟨w.heap.size, 1, none⟩ = some (.int .i64 (d : Int)) := (Blk.new w _ _).cell 1
  have r2 : (w.alloc (.cells #[.int .i64 op, .int .i64 (d : Int), .int .i64 (a : Int), .int .i64 (b : Int), .int .i64 n] 50)).cell? ⟨w.heap.size, 2, none⟩ = some (.int .i64 (a : Int)) := (Blk.new w _ _).cell 2
  have r3 : (w.alloc (.cells #[.int .i64 op, .int .i64 (d : Int), .int .i64 (a : Int), .int .i64 (b : Int), .int .i64 n] 50)).cell? ⟨w.heap.size, 3, none⟩ = some (.int .i64 (b : Int)) := (Blk.new w _ _).cell 3
  have H1 := Lib.hid (H.out.alloc (.cells #[.int .i64 op, .int .i64 (d : Int), .int .i64 (a : Int), .int .i64 (b : Int), .int .i64 n] 50))
  have F1 := Lib.hid ((Fr.refl (SrS L sb) w).alloc (.cells #[.int .i64 op, .int .i64 (d : Int), .int .i64 (a : Int), .int .i64 (b : Int), .int .i64 n] 50))
  have hz : w.heap.size < (w.alloc (.cells #[.int .i64 op, .int .i64 (d : Int), .int .i64 (a : Int), .int .i64 (b : Int), .int .i64 n] 50)).heap.size := by simp
  generalize (w.alloc (.cells #[.int .i64 op, .int .i64 (d : Int), .int .i64 (a : Int), .int .i64 (b : Int), .int .i64 n] 50)) = W at *
  have c1 := H1.out.reg ha
  rw [HX.out] at c1
  have hS : W.drew.cell? ⟨w.heap.size, 4, none⟩ = some (.int .i64 n) ∧ W.drew.cell? ⟨w.heap.size, 2, none⟩ = some (.int .i64 (a : Int)) ∧ W.drew.cell? ⟨sb, a, none⟩ = some (.int .i64 x) ∧ W.drew.cell? ⟨w.heap.size, 3, none⟩ = some (.int .i64 (b : Int)) := ⟨r4, r2, c1, r3⟩
  refine wp_region_seqT (fun i => !([13] : List Nat).contains i) (fun i => ([2, 5, 9, 11] : List Nat).contains i) (fun i => ([] : List Nat).contains i) [0, 1, 2, 3, 4, 5, 6, 7, 8, 9, 10, 11, 12, 13] (fun wq : World => wq.cell? ⟨w.heap.size, 4, none⟩ = some (.int .i64 n) ∧ wq.cell? ⟨w.heap.size, 2, none⟩ = some (.int .i64 (a : Int)) ∧ wq.cell? ⟨sb, a, none⟩ = some (.int .i64 x) ∧ wq.cell? ⟨w.heap.size, 3, none⟩ = some (.int .i64 (b : Int))) (by kernel_rfl) (by kernel_rfl) (by kernel_rfl) (by kernel_rfl) ?_
  iterate 13 (first | refine wpSeq_pureA (v := _) rfl rfl rfl ?_ | refine wpSeq_loadA (v := _) rfl rfl hS rfl ?_)
  refine wpSeq_heavy rfl rfl (fun K hK => ?_); go_simp
  refine (spass_any W.drew sb L s H1.out.drew n _ (fun _ => ⟨by omega, by omega⟩)).mono ?_
  intro e w9 hp
  have HP := Lib.hid (hp.from_ F1.out.drew)
  obtain ⟨rfl, _⟩ := hp
  dsimp only
  refine hK _ _ (fun h => by cases h) ?_; clear hK K
  refine wpSeq_end ?_
  go_wp2
  go_end0
  exact HP.out
end Go.Proofs.YtnhebmgibiomnaaGreat

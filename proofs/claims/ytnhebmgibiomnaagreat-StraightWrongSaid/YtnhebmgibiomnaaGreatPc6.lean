/- Parts of the proof, joined: SrD SrE. -/
import Derived.Test.YtnhebmgibiomnaaGreatPc5
set_option linter.unusedVariables false
set_option linter.unusedSimpArgs false
namespace Go.Proofs.YtnhebmgibiomnaaGreat
open Go.RowKit Mc
section
variable {w w' : World} {sb : Nat} {L : SLay} {s : Sr.St}
theorem SrL.drew (h : SrL w sb L s) : SrL w.drew sb L s := h.keep fun _ _ => rfl
theorem SrL.alloc (h : SrL w sb L s) (o : Obj) : SrL (w.alloc o) sb L s := h.keep fun k hk => Below.heap_alloc _ _ _ (h.lt hk)
theorem SrL.rk (h : SrL w sb L s) {i : Nat} (hi : i < 64) : K32 (s.regs.getD i 0) := by
  rw [List.getD_eq_getElem?_getD, List.getElem?_eq_getElem (by rw [h.ok.rl]; exact hi)]
  exact h.ok.rk _ (List.getElem_mem _)
theorem SPost.from_ {e : Ending} {w1 w2 : World} (h : Fr (SrS L sb) w w1) (k : SPost w1 sb L s e w2) : SPost w sb L s e w2 := ⟨k.1, k.2.1, h.trans k.2.2⟩
end
set_option maxRecDepth 100000 in
set_option maxHeartbeats 1000000 in
theorem sone_any (w : World) (sb : Nat) (L : SLay) (s : Sr.St) (h : SrL w sb L s) (op n : Int) (d a : Nat) (b : Int) (hd : d < 64) (ha : a < 64) (fb f : Nat) (hfb : Blk w fb 117 #[.func (.func f) #[] #[]]) (v : Int) (hin : ∀ args w, Sem.run Tryz.prog (callFunc f args) w = .ok (.enter f args) w)
    (hf : ∀ w, Calls Tryz.prog f #[.int .i64 (s.regs.getD a 0)] w fun e w' => e = .returned (.int .i64 v) ∧ w = w') :
    Calls Tryz.prog 224 #[.pointer (some ⟨sb, 0, none⟩), regV ⟨op, d, a, b, n⟩, .pointer (some ⟨fb, 0, none⟩)] w (SPost w sb L { s with regs := s.regs.set d (k32 v) }) := by
  unfold regV
  have H := Lib.hid h
  have HF := Lib.hid hf
  have HB := Lib.hid hfb
  have hs1 := h.blk.lt
  have ha64 : (a : Int) < 64 := by omega
  have hd64 : (d : Int) < 64 := by omega
  have hs2 := hfb.lt
  have c1 := (h.alloc (.cells #[.int .i64 op, .int .i64 (d : Int), .int .i64 (a : Int), .int .i64 (b : Int), .int .i64 n] 50)).reg ha
  have c0 := (h.alloc (.cells #[.int .i64 op, .int .i64 (d : Int), .int .i64 (a : Int), .int .i64 (b : Int), .int .i64 n] 50)).reg hd
  have c2 := (hfb.alloc (.cells #[.int .i64 op, .int .i64 (d : Int), .int .i64 (a : Int), .int .i64 (b : Int), .int .i64 n] 50)).cell 0
  simp only [List.getElem?_toArray, List.getElem?_cons_zero] at c2
  clear h hf hfb
  go_enter Tryz.func224, Tryz.ntmps224
  go_wp2_with fail
  have r1 : (w.alloc (.cells #[.int .i64 op, .int .i64 (d : Int), .int .i64 (a : Int), .int .i64 (b : Int), .int .i64 n] 50)).cell? ⟨w.heap.size, 1, none⟩ = some (.int .i64 (d : Int)) := (Blk.new w _ _).cell 1
  have r2 : (w.alloc (.cells #[.int .i64 op, .int .i64 (d : Int), .int .i64 (a : Int), .int .i64 (b : Int), .int .i64 n] 50)).cell? ⟨w.heap.size, 2, none⟩ = some (.int .i64 (a : Int)) := (Blk.new w _ _).cell 2
  have HP : Hid (SPost w sb L { s with regs := s.regs.set d (k32 v) } (.returned (.tuple #[])) ((w.alloc (.cells #[.int .i64 op, .int .i64 (d : Int), .int .i64 (a : Int), .int .i64 (b : Int), .int .i64 n] 50)).drew.setCell ⟨sb, d, none⟩ (.int .i64 (k32 v)))) := Lib.hid ⟨rfl, (H.out.alloc _).drew.setReg hd (k32_in v), ((Fr.refl _ w).alloc _).drew.setCell (.inl (.inl rfl)) _⟩
  have fz : (w.alloc (.cells #[.int .i64 op, .int .i64 (d : Int), .int .i64 (a : Int), .int .i64 (b : Int), .int .i64 n] 50)).drew.frozen? ⟨sb, d, none⟩ = false := (H.out.alloc _).drew.blk.frozen d
  generalize (w.alloc (.cells #[.int .i64 op, .int .i64 (d : Int), .int .i64 (a : Int), .int .i64 (b : Int), .int .i64 n] 50)) = W at *
  have hS : W.drew.cell? ⟨w.heap.size, 1, none⟩ = some (.int .i64 (d : Int)) ∧ W.drew.cell? ⟨fb, 0, none⟩ = some (.func (.func f) #[] #[]) ∧ W.drew.cell? ⟨w.heap.size, 2, none⟩ = some (.int .i64 (a : Int)) ∧ W.drew.cell? ⟨sb, a, none⟩ = some (.int .i64 (s.regs.getD a 0)) := ⟨r1, c2, r2, c1⟩
  refine wp_region_seqT (fun i => !([11, 12, 16] : List Nat).contains i) (fun i => ([2, 3, 6, 10] : List Nat).contains i) (fun i => ([11, 12] : List Nat).contains i) [0, 1, 2, 3, 4, 5, 6, 7, 8, 9, 10, 13, 14, 11, 12, 15, 16] (fun wq : World => wq.cell? ⟨w.heap.size, 1, none⟩ = some (.int .i64 (d : Int)) ∧ wq.cell? ⟨fb, 0, none⟩ = some (.func (.func f) #[] #[]) ∧ wq.cell? ⟨w.heap.size, 2, none⟩ = some (.int .i64 (a : Int)) ∧ wq.cell? ⟨sb, a, none⟩ = some (.int .i64 (s.regs.getD a 0))) (by kernel_rfl) (by kernel_rfl) (by kernel_rfl) (by kernel_rfl) ?_
  repeat (first | refine wpSeq_pureA (v := _) rfl rfl rfl ?_ | refine wpSeq_loadA (v := _) rfl rfl hS rfl ?_)
  refine wpSeq_heavy rfl rfl (fun K hK => ?_); go_simp
  refine (HF.out _).mono ?_
  rintro e w5 ⟨rfl, rfl⟩
  dsimp only
  refine hK _ _ (fun _ => hS) ?_; clear hK K
  refine wpSeq_heavy rfl rfl (fun K hK => ?_); go_simp
  refine (skept_any _ _).mono ?_
  rintro e w5 ⟨rfl, rfl⟩
  dsimp only
  refine hK _ _ (fun _ => hS) ?_; clear hK K
  repeat (first | refine wpSeq_pureA (v := _) rfl rfl rfl ?_ | refine wpSeq_loadA (v := _) rfl rfl hS rfl ?_)
  refine wpSeq_heavy rfl rfl (fun K hK => ?_); go_simp
  refine hK _ _ (fun h => by cases h) ?_; clear hK K
  refine wpSeq_end ?_
  go_wp2
  go_end0
  exact HP.out
set_option maxRecDepth 100000 in
set_option maxHeartbeats 1000000 in
theorem stwo_any (w : World) (sb : Nat) (L : SLay) (s : Sr.St) (h : SrL w sb L s) (op n : Int) (d a b : Nat) (hd : d < 64) (ha : a < 64) (hb : b < 64) (fb f : Nat) (hfb : Blk w fb 74 #[.func (.func f) #[] #[]]) (v : Int) (hin : ∀ args w, Sem.run Tryz.prog (callFunc f args) w = .ok (.enter f args) w)
    (hf : ∀ w, Calls Tryz.prog f #[.int .i64 (s.regs.getD a 0), .int .i64 (s.regs.getD b 0)] w fun e w' => e = .returned (.int .i64 v) ∧ w = w') :
    Calls Tryz.prog 225 #[.pointer (some ⟨sb, 0, none⟩), regV ⟨op, d, a, b, n⟩, .pointer (some ⟨fb, 0, none⟩)] w (SPost w sb L { s with regs := s.regs.set d (k32 v) }) := by
  unfold regV
  have H := Lib.hid h
  have HF := Lib.hid hf
  have HB := Lib.hid hfb
  have hs1 := h.blk.lt
  have ha64 : (a : Int) < 64 := by omega
  have hb64 : (b : Int) < 64 := by omega
  have hd64 : (d : Int) < 64 := by omega
  have hs2 := hfb.lt
  have c1 := (h.alloc (.cells #[.int .i64 op, .int .i64 (d : Int), .int .i64 (a : Int), .int .i64 ((b : Nat) : Int), .int .i64 n] 50)).reg ha
  have c3 := (h.alloc (.cells #[.int .i64 op, .int .i64 (d : Int), .int .i64 (a : Int), .int .i64 ((b : Nat) : Int), .int .i64 n] 50)).reg hb
  have c0 := (h.alloc (.cells #[.int .i64 op, .int .i64 (d : Int), .int .i64 (a : Int), .int .i64 ((b : Nat) : Int), .int .i64 n] 50)).reg hd
  have c2 := (hfb.alloc (.cells #[.int .i64 op, .int .i64 (d : Int), .int .i64 (a : Int), .int .i64 ((b : Nat) : Int), .int .i64 n] 50)).cell 0
  simp only [List.getElem?_toArray, List.getElem?_cons_zero] at c2
  clear h hf hfb
  go_enter Tryz.func225, Tryz.ntmps225
  go_wp2_with fail
  have r1 : (w.alloc (.cells #[.int .i64 op, .int .i64 (d : Int), .int .i64 (a : Int), .int .i64 ((b : Nat) : Int), .int .i64 n] 50)).cell? ⟨w.heap.size, 1, none⟩ = some (.int .i64 (d : Int)) := (Blk.new w _ _).cell 1
  have r2 : (w.alloc (.cells #[.int .i64 op, .int .i64 (d : Int), .int .i64 (a : Int), .int .i64 ((b : Nat) : Int), .int .i64 n] 50)).cell? ⟨w.heap.size, 2, none⟩ = some (.int .i64 (a : Int)) := (Blk.new w _ _).cell 2
  have r3 : (w.alloc (.cells #[.int .i64 op, .int .i64 (d : Int), .int .i64 (a : Int), .int .i64 ((b : Nat) : Int), .int .i64 n] 50)).cell? ⟨w.heap.size, 3, none⟩ = some (.int .i64 (b : Int)) := (Blk.new w _ _).cell 3
  have HP : Hid (SPost w sb L { s with regs := s.regs.set d (k32 v) } (.returned (.tuple #[])) ((w.alloc (.cells #[.int .i64 op, .int .i64 (d : Int), .int .i64 (a : Int), .int .i64 ((b : Nat) : Int), .int .i64 n] 50)).drew.setCell ⟨sb, d, none⟩ (.int .i64 (k32 v)))) := Lib.hid ⟨rfl, (H.out.alloc _).drew.setReg hd (k32_in v), ((Fr.refl _ w).alloc _).drew.setCell (.inl (.inl rfl)) _⟩
  have fz : (w.alloc (.cells #[.int .i64 op, .int .i64 (d : Int), .int .i64 (a : Int), .int .i64 ((b : Nat) : Int), .int .i64 n] 50)).drew.frozen? ⟨sb, d, none⟩ = false := (H.out.alloc _).drew.blk.frozen d
  generalize (w.alloc (.cells #[.int .i64 op, .int .i64 (d : Int), .int .i64 (a : Int), .int .i64 ((b : Nat) : Int), .int .i64 n] 50)) = W at *
  have hS : W.drew.cell? ⟨w.heap.size, 1, none⟩ = some (.int .i64 (d : Int)) ∧ W.drew.cell? ⟨fb, 0, none⟩ = some (.func (.func f) #[] #[]) ∧ W.drew.cell? ⟨w.heap.size, 2, none⟩ = some (.int .i64 (a : Int)) ∧ W.drew.cell? ⟨sb, a, none⟩ = some (.int .i64 (s.regs.getD a 0)) ∧ W.drew.cell? ⟨w.heap.size, 3, none⟩ = some (.int .i64 (b : Int)) ∧ W.drew.cell? ⟨sb, b, none⟩ = some (.int .i64 (s.regs.getD b 0)) := ⟨r1, c2, r2, c1, r3, c3⟩
  refine wp_region_seqT (fun i => !([18, 19, 23] : List Nat).contains i) (fun i => ([2, 3, 6, 10, 13, 17] : List Nat).contains i) (fun i => ([18, 19] : List Nat).contains i) [0, 1, 2, 3, 4, 5, 6, 7, 8, 9, 10, 11, 12, 13, 14, 15, 16, 17, 20, 21, 18, 19, 22, 23] (fun wq : World => wq.cell? ⟨w.heap.size, 1, none⟩ = some (.int .i64 (d : Int)) ∧ wq.cell? ⟨fb, 0, none⟩ = some (.func (.func f) #[] #[]) ∧ wq.cell? ⟨w.heap.size, 2, none⟩ = some (.int .i64 (a : Int)) ∧ wq.cell? ⟨sb, a, none⟩ = some (.int .i64 (s.regs.getD a 0)) ∧ wq.cell? ⟨w.heap.size, 3, none⟩ = some (.int .i64 (b : Int)) ∧ wq.cell? ⟨sb, b, none⟩ = some (.int .i64 (s.regs.getD b 0))) (by kernel_rfl) (by kernel_rfl) (by kernel_rfl) (by kernel_rfl) ?_
  repeat (first | refine wpSeq_pureA (v := _) rfl rfl rfl ?_ | refine wpSeq_loadA (v := _) rfl rfl hS rfl ?_)
  refine wpSeq_heavy rfl rfl (fun K hK => ?_); go_simp
  refine (HF.out _).mono ?_
  rintro e w5 ⟨rfl, rfl⟩
  dsimp only
  refine hK _ _ (fun _ => hS) ?_; clear hK K
  refine wpSeq_heavy rfl rfl (fun K hK => ?_); go_simp
  refine (skept_any _ _).mono ?_
  rintro e w5 ⟨rfl, rfl⟩
  dsimp only
  refine hK _ _ (fun _ => hS) ?_; clear hK K
  repeat (first | refine wpSeq_pureA (v := _) rfl rfl rfl ?_ | refine wpSeq_loadA (v := _) rfl rfl hS rfl ?_)
  refine wpSeq_heavy rfl rfl (fun K hK => ?_); go_simp
  refine hK _ _ (fun h => by cases h) ?_; clear hK K
  refine wpSeq_end ?_
  go_wp2
  go_end0
  exact HP.out
end Go.Proofs.YtnhebmgibiomnaaGreat
namespace Go.Proofs.YtnhebmgibiomnaaGreat
open Go.RowKit Mc
section
variable {w w' w1 : World} {sb : Nat} {L : SLay} {s : Sr.St}
theorem SrL.getR (h : SrL w sb L s) {i : Nat} (hi : i < 64) : ∃ x, s.regs.getD i 0 = x ∧ w.cell? ⟨sb, i, none⟩ = some (.int .i64 x) ∧ K32 x := ⟨_, rfl, h.reg hi, h.rk hi⟩
theorem SPost.put (h : SrL w1 sb L s) (hf : Fr (SrS L sb) w w1) {d : Nat} (hd : d < 64) {x : Int} (hx : K32 x) : SPost w sb L { s with regs := s.regs.set d x } (.returned (.tuple #[])) (w1.setCell ⟨sb, d, none⟩ (.int .i64 x)) :=
  ⟨rfl, h.setReg hd hx, hf.setCell (.inl (.inl rfl)) _⟩
theorem SPost.here (h : SrL w1 sb L s) (hf : Fr (SrS L sb) w w1) : SPost w sb L s (.returned (.tuple #[])) w1 := ⟨rfl, h, hf⟩
end
theorem at_k {l : List Int} {x : Int} (hk : ∀ x ∈ l, K32 x) : K32 (at_ l x) := by
  unfold at_
  split
  · rw [List.getD_eq_getElem?_getD, List.getElem?_eq_getElem (by omega)]
    exact hk _ (List.getElem_mem _)
  · exact ⟨by decide, by decide⟩
set_option maxRecDepth 100000 in
set_option maxHeartbeats 1000000 in
theorem sread_any (w : World) (sb : Nat) (L : SLay) (s : Sr.St) (h : SrL w sb L s) (op n b : Int) (d a : Nat) (hd : d < 64) (ha : a < 64) (v : Value) (l : List Int) (hl : l.length ≤ 1000000) (hv : w.ownsRow 0 3 1 v l.length (ints l)) (hk : ∀ x ∈ l, K32 x) :
    Calls Tryz.prog 128 #[.pointer (some ⟨sb, 0, none⟩), v, regV ⟨op, d, a, b, n⟩] w (SPost w sb L { s with regs := s.regs.set d (at_ l (s.regs.getD a 0)) }) := by
  unfold regV
  have H := Lib.hid h
  have ha64 : (a : Int) < 64 := by omega
  have hd64 : (d : Int) < 64 := by omega
  have hs1 := h.blk.lt
  obtain ⟨x, hx, c1, hxk⟩ := h.getR ha
  have HX := Lib.hid hx
  rw [hx]
  obtain ⟨A, c, rfl, hc1, hc2⟩ := owns_form hv
  have HK := Lib.hid (at_k (x := x) hk)
  have HV := Lib.hid hv
  have FIN := Lib.hid (show ∀ (y : Int), y = at_ l x → ∀ W, SrL W sb L s → Fr (SrS L sb) w W → SPost w sb L { s with regs := s.regs.set d (at_ l x) } (.returned (.tuple #[])) (W.setCell ⟨sb, d, none⟩ (.int .i64 y)) from fun y hy W h1 h2 => by
    subst hy
    exact .put h1 h2 hd HK.out)
  clear h hx hv hk hc1 hc2 c1
  by_cases hx : 0 ≤ x ∧ x < l.length
  · obtain ⟨i, rfl⟩ : ∃ i : Nat, x = i := ⟨x.toNat, by omega⟩
    have hil : i < l.length := by omega
    obtain ⟨y, hy⟩ : ∃ y, l[i]? = some y := ⟨_, List.getElem?_eq_getElem hil⟩
    have e := Lib.hid (at_yes hy)
    obtain ⟨g, c', hA, _, _, hg, hcell⟩ := owns_at HV.out (by omega)
    have cy := hcell i _ (ints_get hy)
    injection hA with hA
    subst hA
    clear hcell hx hy
    go_enter Tryz.func128, Tryz.ntmps128
    go_wp2_with fail
    have r1 : (w.alloc (.cells #[.int .i64 op, .int .i64 (d : Int), .int .i64 (a : Int), .int .i64 (b : Int), .int .i64 n] 50)).cell? ⟨w.heap.size, 1, none⟩ = some (.int .i64 (d : Int)) := (Blk.new w _ _).cell 1
    have r2 : (w.alloc (.cells #[.int .i64 op, .int .i64 (d : Int), .int .i64 (a : Int), .int .i64 (b : Int), .int .i64 n] 50)).cell? ⟨w.heap.size, 2, none⟩ = some (.int .i64 (a : Int)) := (Blk.new w _ _).cell 2
    have r3 : (w.alloc (.cells #[.int .i64 op, .int .i64 (d : Int), .int .i64 (a : Int), .int .i64 (b : Int), .int .i64 n] 50)).cell? ⟨w.heap.size, 3, none⟩ = some (.int .i64 (b : Int)) := (Blk.new w _ _).cell 3
    have H1 := Lib.hid (H.out.alloc (.cells #[.int .i64 op, .int .i64 (d : Int), .int .i64 (a : Int), .int .i64 (b : Int), .int .i64 n] 50))
    have F1 := Lib.hid ((Fr.refl (SrS L sb) w).alloc (.cells #[.int .i64 op, .int .i64 (d : Int), .int .i64 (a : Int), .int .i64 (b : Int), .int .i64 n] 50))
    have hz : w.heap.size < (w.alloc (.cells #[.int .i64 op, .int .i64 (d : Int), .int .i64 (a : Int), .int .i64 (b : Int), .int .i64 n] 50)).heap.size := by simp
    have cy : (w.alloc (.cells #[.int .i64 op, .int .i64 (d : Int), .int .i64 (a : Int), .int .i64 (b : Int), .int .i64 n] 50)).cell? ⟨g, i, none⟩ = some (.int .i64 y) := by simpa [go_sem, hg] using cy
    generalize (w.alloc (.cells #[.int .i64 op, .int .i64 (d : Int), .int .i64 (a : Int), .int .i64 (b : Int), .int .i64 n] 50)) = W at *
    have c1 := H1.out.reg ha
    rw [HX.out] at c1
    have hS : W.drew.cell? ⟨w.heap.size, 2, none⟩ = some (.int .i64 (a : Int)) ∧ W.drew.cell? ⟨sb, a, none⟩ = some (.int .i64 (i : Int)) := ⟨r2, c1⟩
    refine wp_region_seqT (fun i => !([] : List Nat).contains i) (fun i => ([2, 6] : List Nat).contains i) (fun i => ([] : List Nat).contains i) [0, 1, 2, 3, 4, 5, 6, 7, 8] (fun wq : World => wq.cell? ⟨w.heap.size, 2, none⟩ = some (.int .i64 (a : Int)) ∧ wq.cell? ⟨sb, a, none⟩ = some (.int .i64 (i : Int))) (by kernel_rfl) (by kernel_rfl) (by kernel_rfl) (by kernel_rfl) ?_
    repeat (first | refine wpSeq_pureA (v := _) rfl rfl rfl ?_ | refine wpSeq_loadA (v := _) rfl rfl hS rfl ?_)
    refine wpSeq_end ?_
    clear c1
    have H1 := Lib.hid H1.out.drew
    have F1 := Lib.hid F1.out.drew
    replace r1 : W.drew.cell? ⟨w.heap.size, 1, none⟩ = some (.int .i64 (d : Int)) := r1
    replace r2 : W.drew.cell? ⟨w.heap.size, 2, none⟩ = some (.int .i64 (a : Int)) := r2
    replace r3 : W.drew.cell? ⟨w.heap.size, 3, none⟩ = some (.int .i64 (b : Int)) := r3
    replace hz : w.heap.size < W.drew.heap.size := hz
    replace cy : W.drew.cell? ⟨g, i, none⟩ = some (.int .i64 y) := cy
    clear hS
    generalize W.drew = W at *
    go_wp2_with fail
    have fz := H1.out.drew.blk.frozen d
    have c0 := H1.out.drew.reg hd
    have hS : W.drew.cell? ⟨w.heap.size, 1, none⟩ = some (.int .i64 (d : Int)) := r1
    refine wp_region_seqT (fun i => !([7] : List Nat).contains i) (fun i => ([2] : List Nat).contains i) (fun i => ([] : List Nat).contains i) [0, 1, 2, 3, 4, 5, 6, 7] (fun wq : World => wq.cell? ⟨w.heap.size, 1, none⟩ = some (.int .i64 (d : Int))) (by kernel_rfl) (by kernel_rfl) (by kernel_rfl) (by kernel_rfl) ?_
    repeat (first | refine wpSeq_pureA (v := _) rfl rfl rfl ?_ | refine wpSeq_loadA (v := _) rfl rfl hS rfl ?_)
    refine wpSeq_heavy rfl rfl (fun K hK => ?_); go_simp
    refine hK _ _ (fun h => by cases h) ?_; clear hK K
    refine wpSeq_end ?_
    go_wp2
    go_end0
    exact FIN.out _ e.out.symm _ H1.out.drew F1.out.drew
  · have e := Lib.hid (at_no hx)
    by_cases h0 : 0 ≤ x
    · have h1 : ¬ x < l.length := fun e => hx ⟨h0, e⟩
      clear hx
      go_enter Tryz.func128, Tryz.ntmps128
      go_wp2_with fail
      have r1 : (w.alloc (.cells #[.int .i64 op, .int .i64 (d : Int), .int .i64 (a : Int), .int .i64 (b : Int), .int .i64 n] 50)).cell? ⟨w.heap.size, 1, none⟩ = some (.int .i64 (d : Int)) := (Blk.new w _ _).cell 1
      have r2 : (w.alloc (.cells #[.int .i64 op, .int .i64 (d : Int), .int .i64 (a : Int), .int .i64 (b : Int), .int .i64 n] 50)).cell? ⟨w.heap.size, 2, none⟩ = some (.int .i64 (a : Int)) := (Blk.new w _ _).cell 2
      have r3 : (w.alloc (.cells #[.int .i64 op, .int .i64 (d : Int), .int .i64 (a : Int), .int .i64 (b : Int), .int .i64 n] 50)).cell? ⟨w.heap.size, 3, none⟩ = some (.int .i64 (b : Int)) := (Blk.new w _ _).cell 3
      have H1 := Lib.hid (H.out.alloc (.cells #[.int .i64 op, .int .i64 (d : Int), .int .i64 (a : Int), .int .i64 (b : Int), .int .i64 n] 50))
      have F1 := Lib.hid ((Fr.refl (SrS L sb) w).alloc (.cells #[.int .i64 op, .int .i64 (d : Int), .int .i64 (a : Int), .int .i64 (b : Int), .int .i64 n] 50))
      have hz : w.heap.size < (w.alloc (.cells #[.int .i64 op, .int .i64 (d : Int), .int .i64 (a : Int), .int .i64 (b : Int), .int .i64 n] 50)).heap.size := by simp
      skip
      generalize (w.alloc (.cells #[.int .i64 op, .int .i64 (d : Int), .int .i64 (a : Int), .int .i64 (b : Int), .int .i64 n] 50)) = W at *
      have c1 := H1.out.reg ha
      rw [HX.out] at c1
      have hS : W.drew.cell? ⟨w.heap.size, 2, none⟩ = some (.int .i64 (a : Int)) ∧ W.drew.cell? ⟨sb, a, none⟩ = some (.int .i64 x) := ⟨r2, c1⟩
      refine wp_region_seqT (fun i => !([] : List Nat).contains i) (fun i => ([2, 6] : List Nat).contains i) (fun i => ([] : List Nat).contains i) [0, 1, 2, 3, 4, 5, 6, 7, 8] (fun wq : World => wq.cell? ⟨w.heap.size, 2, none⟩ = some (.int .i64 (a : Int)) ∧ wq.cell? ⟨sb, a, none⟩ = some (.int .i64 x)) (by kernel_rfl) (by kernel_rfl) (by kernel_rfl) (by kernel_rfl) ?_
      repeat (first | refine wpSeq_pureA (v := _) rfl rfl rfl ?_ | refine wpSeq_loadA (v := _) rfl rfl hS rfl ?_)
      refine wpSeq_end ?_
      clear c1
      have H1 := Lib.hid H1.out.drew
      have F1 := Lib.hid F1.out.drew
      replace r1 : W.drew.cell? ⟨w.heap.size, 1, none⟩ = some (.int .i64 (d : Int)) := r1
      replace r2 : W.drew.cell? ⟨w.heap.size, 2, none⟩ = some (.int .i64 (a : Int)) := r2
      replace r3 : W.drew.cell? ⟨w.heap.size, 3, none⟩ = some (.int .i64 (b : Int)) := r3
      replace hz : w.heap.size < W.drew.heap.size := hz
      skip
      clear hS
      generalize W.drew = W at *
      go_wp2_with fail
      have fz := H1.out.drew.blk.frozen d
      have c0 := H1.out.drew.reg hd
      have hS : W.drew.cell? ⟨w.heap.size, 1, none⟩ = some (.int .i64 (d : Int)) := r1
      refine wp_region_seqT (fun i => !([7] : List Nat).contains i) (fun i => ([2] : List Nat).contains i) (fun i => ([] : List Nat).contains i) [0, 1, 2, 3, 4, 5, 6, 7] (fun wq : World => wq.cell? ⟨w.heap.size, 1, none⟩ = some (.int .i64 (d : Int))) (by kernel_rfl) (by kernel_rfl) (by kernel_rfl) (by kernel_rfl) ?_
      repeat (first | refine wpSeq_pureA (v := _) rfl rfl rfl ?_ | refine wpSeq_loadA (v := _) rfl rfl hS rfl ?_)
      refine wpSeq_heavy rfl rfl (fun K hK => ?_); go_simp
      refine hK _ _ (fun h => by cases h) ?_; clear hK K
      refine wpSeq_end ?_
      go_wp2
      go_end0
      exact FIN.out _ e.out.symm _ H1.out.drew F1.out.drew
    · clear hx
      go_enter Tryz.func128, Tryz.ntmps128
      go_wp2_with fail
      have r1 : (w.alloc (.cells #[.int .i64 op, .int .i64 (d : Int), .int .i64 (a : Int), .int .i64 (b : Int), .int .i64 n] 50)).cell? ⟨w.heap.size, 1, none⟩ = some (.int .i64 (d : Int)) := (Blk.new w _ _).cell 1
      have r2 : (w.alloc (.cells #[.int .i64 op, .int .i64 (d : Int), .int .i64 (a : Int), .int .i64 (b : Int), .int .i64 n] 50)).cell? ⟨w.heap.size, 2, none⟩ = some (.int .i64 (a : Int)) := (Blk.new w _ _).cell 2
      have r3 : (w.alloc (.cells #[.int .i64 op, .int .i64 (d : Int), .int .i64 (a : Int), .int .i64 (b : Int), .int .i64 n] 50)).cell? ⟨w.heap.size, 3, none⟩ = some (.int .i64 (b : Int)) := (Blk.new w _ _).cell 3
      have H1 := Lib.hid (H.out.alloc (.cells #[.int .i64 op, .int .i64 (d : Int), .int .i64 (a : Int), .int .i64 (b : Int), .int .i64 n] 50))
      have F1 := Lib.hid ((Fr.refl (SrS L sb) w).alloc (.cells #[.int .i64 op, .int .i64 (d : Int), .int .i64 (a : Int), .int .i64 (b : Int), .int .i64 n] 50))
      have hz : w.heap.size < (w.alloc (.cells #[.int .i64 op, .int .i64 (d : Int), .int .i64 (a : Int), .int .i64 (b : Int), .int .i64 n] 50)).heap.size := by simp
      skip
      generalize (w.alloc (.cells #[.int .i64 op, .int .i64 (d : Int), .int .i64 (a : Int), .int .i64 (b : Int), .int .i64 n] 50)) = W at *
      have c1 := H1.out.reg ha
      rw [HX.out] at c1
      have hS : W.drew.cell? ⟨w.heap.size, 2, none⟩ = some (.int .i64 (a : Int)) ∧ W.drew.cell? ⟨sb, a, none⟩ = some (.int .i64 x) := ⟨r2, c1⟩
      refine wp_region_seqT (fun i => !([] : List Nat).contains i) (fun i => ([2, 6] : List Nat).contains i) (fun i => ([] : List Nat).contains i) [0, 1, 2, 3, 4, 5, 6, 7, 8] (fun wq : World => wq.cell? ⟨w.heap.size, 2, none⟩ = some (.int .i64 (a : Int)) ∧ wq.cell? ⟨sb, a, none⟩ = some (.int .i64 x)) (by kernel_rfl) (by kernel_rfl) (by kernel_rfl) (by kernel_rfl) ?_
      repeat (first | refine wpSeq_pureA (v := _) rfl rfl rfl ?_ | refine wpSeq_loadA (v := _) rfl rfl hS rfl ?_)
      refine wpSeq_end ?_
      clear c1
      have H1 := Lib.hid H1.out.drew
      have F1 := Lib.hid F1.out.drew
      replace r1 : W.drew.cell? ⟨w.heap.size, 1, none⟩ = some (.int .i64 (d : Int)) := r1
      replace r2 : W.drew.cell? ⟨w.heap.size, 2, none⟩ = some (.int .i64 (a : Int)) := r2
      replace r3 : W.drew.cell? ⟨w.heap.size, 3, none⟩ = some (.int .i64 (b : Int)) := r3
      replace hz : w.heap.size < W.drew.heap.size := hz
      skip
      clear hS
      generalize W.drew = W at *
      go_wp2_with fail
      have fz := H1.out.drew.blk.frozen d
      have c0 := H1.out.drew.reg hd
      have hS : W.drew.cell? ⟨w.heap.size, 1, none⟩ = some (.int .i64 (d : Int)) := r1
      refine wp_region_seqT (fun i => !([7] : List Nat).contains i) (fun i => ([2] : List Nat).contains i) (fun i => ([] : List Nat).contains i) [0, 1, 2, 3, 4, 5, 6, 7] (fun wq : World => wq.cell? ⟨w.heap.size, 1, none⟩ = some (.int .i64 (d : Int))) (by kernel_rfl) (by kernel_rfl) (by kernel_rfl) (by kernel_rfl) ?_
      repeat (first | refine wpSeq_pureA (v := _) rfl rfl rfl ?_ | refine wpSeq_loadA (v := _) rfl rfl hS rfl ?_)
      refine wpSeq_heavy rfl rfl (fun K hK => ?_); go_simp
      refine hK _ _ (fun h => by cases h) ?_; clear hK K
      refine wpSeq_end ?_
      go_wp2
      go_end0
      exact FIN.out _ e.out.symm _ H1.out.drew F1.out.drew
end Go.Proofs.YtnhebmgibiomnaaGreat

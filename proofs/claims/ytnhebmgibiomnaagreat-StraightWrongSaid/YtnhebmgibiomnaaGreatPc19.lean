/- Parts of the proof, joined: BuB BuC BuD BuE. -/
import Derived.Test.YtnhebmgibiomnaaGreatPc18
set_option linter.unusedVariables false
set_option linter.unusedSimpArgs false
namespace Go.Proofs.YtnhebmgibiomnaaGreat
open Go.RowKit Mc
def psR (N0 : Nat) : Repr N0 Bu.PS := Repr.map (fun s => (s.op, s.a, s.high, (s.go : Int))) (Repr.pair Repr.int (Repr.pair Repr.int (Repr.pair Repr.int Repr.int)))
def planR (N0 : Nat) : Repr N0 Bu.Plan := Repr.map (fun p => (p.steps, p.size)) (Repr.pair (Repr.row 145 (psR N0)) Repr.int)
theorem info_reg : (Tryz.prog.info? 50).map (fun i => (i.zero, i.size, i.bytes)) = some (some (.agg #[.int .i64 0, .int .i64 0, .int .i64 0, .int .i64 0, .int .i64 0]), 5, 40) := by kernel_rfl
def PlansAt (w : World) (v : Value) (ps : List Bu.Plan) : Prop := ∃ A c, v = .slice A ps.length c ∧ RowAt (planR 0) 89 w w.heap.size A ps
structure FrT (B : Nat) (w w' : World) : Prop where
  below : Below B w w'
  keep : ∀ (k : Nat) (t : TypeId) (cs : Array Value) (fz : Nat × Nat), w.heap[k]? = some (.cells cs t fz) → t ≠ 86 → t ≠ 50 → w'.heap[k]? = some (.cells cs t fz)
theorem FrT.refl (B : Nat) (w : World) : FrT B w w := ⟨Below.refl _ _, fun _ _ _ _ h _ _ => h⟩
theorem FrT.trans {B : Nat} {w w1 w2 : World} (h : FrT B w w1) (k : FrT B w1 w2) : FrT B w w2 := ⟨h.below.trans k.below, fun i t cs fz e h1 h2 => k.keep i t cs fz (h.keep i t cs fz e h1 h2) h1 h2⟩
theorem FrT.alloc {B : Nat} {w w1 : World} (h : FrT B w w1) (hB : B ≤ w1.heap.size) (o : Obj) : FrT B w (w1.alloc o) :=
  ⟨h.below.alloc hB o, fun i t cs fz e h1 h2 => (Below.heap_alloc _ _ _ (Array.getElem?_eq_some_iff.1 (h.keep i t cs fz e h1 h2)).1).trans (h.keep i t cs fz e h1 h2)⟩
theorem FrT.drew {B : Nat} {w w1 : World} (h : FrT B w w1) : FrT B w w1.drew := ⟨h.below.drew, fun i t cs fz e h1 h2 => h.keep i t cs fz e h1 h2⟩
theorem FrT.blk {B : Nat} {w w' : World} (h : FrT B w w') {k : Nat} {t : TypeId} {cs : Array Value} (hb : Blk w k t cs) (h1 : t ≠ 86) (h2 : t ≠ 50) : Blk w' k t cs := h.keep k t cs (0, 0) hb h1 h2
theorem PlansAt.fr {B : Nat} {w w' : World} {v : Value} {ps : List Bu.Plan} (h : PlansAt w v ps) (hf : FrT B w w') : PlansAt w' v ps := by
  obtain ⟨A, c, e, hr⟩ := h
  refine ⟨A, c, e, (hr.keep fun g t xs fz _ ht hh => hf.keep g t xs fz hh ?_ ?_).more hf.below.size⟩
  all_goals
    rcases ht with ht | ht
    · omega
    · rintro rfl
      revert ht
      decide
structure BuL (w : World) (B bb : Nat) (pv cv : Value) (ps : List Bu.Plan) (code : List Sr.Reg) : Prop where
  blk : Blk w bb 86 #[pv, cv]
  ps : PlansAt w pv ps
  code : w.ownsRow 0 50 5 cv code.length (regCells code)
  base : B ≤ bb
  own : ∀ g, cv.ownBlock = some g → B ≤ g
section
variable {w w' : World} {B bb : Nat} {pv cv : Value} {ps : List Bu.Plan} {code : List Sr.Reg}
theorem BuL.grow (h : BuL w B bb pv cv ps code) (hg : Grow w w') : BuL w' B bb pv cv ps code := by
  refine ⟨hg.blk h.blk (fun x => x), ?_, owns_grow h.code hg, h.base, h.own⟩
  obtain ⟨A, c, e, hr⟩ := h.ps
  exact ⟨A, c, e, (hr.keep fun g t xs fz _ _ hh => (hg.block g (Array.getElem?_eq_some_iff.1 hh).1 (fun x => x)).trans hh).more hg.size⟩
theorem BuL.alloc (h : BuL w B bb pv cv ps code) (o : Obj) : BuL (w.alloc o) B bb pv cv ps code := h.grow ((Fr.refl _ _).alloc _)
theorem BuL.drew (h : BuL w B bb pv cv ps code) : BuL w.drew B bb pv cv ps code := h.grow (Fr.refl _ _).drew
end
def BuPost (w : World) (B bb : Nat) (pv : Value) (ps : List Bu.Plan) (code : List Sr.Reg) (e : Ending) (w' : World) : Prop := e = .returned (.tuple #[]) ∧ (∃ cv, BuL w' B bb pv cv ps code) ∧ FrT B w w'
theorem BuL.pushed {w w1 : World} {B bb : Nat} {pv cv v' : Value} {ps : List Bu.Plan} {code code' : List Sr.Reg} (h : BuL w B bb pv cv ps code) (ho : w1.ownsRow 0 50 5 v' code'.length (regCells code')) (hg : w.grownBy w1 cv.ownBlock) (hB : B ≤ w.heap.size) (hn : v'.ownBlock = cv.ownBlock ∨ v'.ownBlock = some w.heap.size) :
    Blk w1 bb 86 #[pv, cv] ∧ BuL (w1.setCell ⟨bb, 1, none⟩ v') B bb pv v' ps code' ∧ FrT B w (w1.setCell ⟨bb, 1, none⟩ v') := by
  have hcb : ∀ g, cv.ownBlock = some g → ∃ cs, Blk w g 50 cs := fun g e => (owns_block h.code e).2.2
  have hb : Blk w1 bb 86 #[pv, cv] := h.blk.grown hg fun e => by
    obtain ⟨cs, hb'⟩ := hcb bb e.symm
    exact h.blk.ne_ hb' (by decide) rfl
  have hkeep : ∀ (k : Nat) (t : TypeId) (cs : Array Value) (fz : Nat × Nat), w.heap[k]? = some (.cells cs t fz) → t ≠ 86 → t ≠ 50 → (w1.setCell ⟨bb, 1, none⟩ v').heap[k]? = some (.cells cs t fz) := fun k t cs fz e h1 h2 => by
    have e1 : w1.heap[k]? = some (.cells cs t fz) := by
      rw [hg.block k (Array.getElem?_eq_some_iff.1 e).1 (fun e2 => by
        obtain ⟨cs', hb'⟩ := hcb k e2.symm
        unfold Blk at hb'
        rw [e] at hb'
        injection hb' with hb'
        injection hb' with _ ht
        exact h2 ht)]
      exact e
    exact set_keeps hb 1 v' k t cs fz (fun e => h1 e.symm) e1
  have hf : FrT B w (w1.setCell ⟨bb, 1, none⟩ v') := ⟨((Below.refl B w).grown hg hB (fun g e => h.own g e)).setCell (p := ⟨bb, 1, none⟩) h.base _, hkeep⟩
  refine ⟨hb, ⟨?_, h.ps.fr hf, owns_set ho hb (by decide) 1 v', h.base, fun g e => ?_⟩, hf⟩
  · have := hb.set_ 1 v'
    simpa using this
  · rcases hn with hn | hn
    · exact h.own g (hn ▸ e)
    · rw [hn] at e
      injection e with e
      omega
theorem step_mine {P : Program} (w : World) {ops : Array Oper} {o : Oper} {a : Act} {K : Act → World → Prop} {Q : Exit → Act → World → Prop} {E : Prop} (hgd : o.guard = none) (s x : Operand) (t : TypeId)
    (ho : o.op = .call { callee := .builtin .append, args := #[s, x], argTypes := #[t, t] }) (e : TypeId) (i : TypeInfo) (z : Value) (size bytes : Nat) (ht : P.underlying t = some (.slice e)) (hi : P.info? e = some i) (hz : i.zero = some z)
    (hsize : i.size = size) (hby : i.bytes = bytes) (hzs : z.cells.size = size) (hsz : 0 < size)
    (base : Nat) (v : Value) (n : Nat) (xs : List Value) (hs : a.eval s = v) (hown : w.ownsRow base e size v n xs) (hbase : base ≤ w.heap.size)
    (B : Nat) (A : Option Addr) (m c : Nat) (news : List Value) (hx : a.eval x = .slice A m c) (hr : Reads w B size A m news) (h1 : ∀ u ∈ news, u.oneCell' = true)
    (h63 : n + m ≤ maxLen) (hbytes : (n + m) * bytes ≤ 140737488355328)
    (h : ∀ v' w', w'.ownsRow base e size v' (n + m) (xs ++ news) → w.grownBy w' v.ownBlock → (v'.ownBlock = v.ownBlock ∨ v'.ownBlock = some w.heap.size) → K (a.put o.dst v') w') :
    if Region.wanted o (yielded ops a.tmps) = true then Oper.wp P o a w K Q else E := by
  have hw : Region.wanted o (yielded ops a.tmps) = true := by simp [Region.wanted, hgd]
  rw [if_pos hw]
  exact wp_append_any w s x t ho base e i z size bytes ht hi hz hsize hby hzs hsz v n xs hs hown B A m c news hx hr h1 h63 hbytes hbase h
set_option maxRecDepth 100000 in
set_option maxHeartbeats 1000000 in
theorem bput_any (w : World) (B bb : Nat) (pv cv : Value) (ps : List Bu.Plan) (code : List Sr.Reg) (h : BuL w B bb pv cv ps code) (hB : B ≤ w.heap.size) (hl : code.length < 1000000) (r : Sr.Reg) :
    Calls Tryz.prog 36 #[.pointer (some ⟨bb, 0, none⟩), regV r] w (BuPost w B bb pv ps (code ++ [r])) := by
  obtain ⟨op, d, a, b, n⟩ := r
  unfold regV
  obtain ⟨Ac, cc, hcv, hcc, _⟩ := owns_form h.code
  subst hcv
  have H := Lib.hid h
  have hbl := h.blk.lt
  have HRC : Hid (regCells (code ++ [⟨op, d, a, b, n⟩]) = regCells code ++ [.int .i64 op, .int .i64 d, .int .i64 a, .int .i64 b, .int .i64 n]) := Lib.hid (regCells_app code [⟨op, d, a, b, n⟩])
  obtain ⟨i0, hi0, hi1, hi2, hi3⟩ := info_m info_reg
  clear h
  go_enter Tryz.func36, Tryz.ntmps36
  go_wp2_with fail
  have r0 : (w.alloc (.cells #[.int .i64 op, .int .i64 d, .int .i64 a, .int .i64 b, .int .i64 n] 50)).cell? ⟨w.heap.size, 0, none⟩ = some (.int .i64 op) := (Blk.new w _ _).cell 0
  have r1 : (w.alloc (.cells #[.int .i64 op, .int .i64 d, .int .i64 a, .int .i64 b, .int .i64 n] 50)).cell? ⟨w.heap.size, 1, none⟩ = some (.int .i64 d) := (Blk.new w _ _).cell 1
  have r2 : (w.alloc (.cells #[.int .i64 op, .int .i64 d, .int .i64 a, .int .i64 b, .int .i64 n] 50)).cell? ⟨w.heap.size, 2, none⟩ = some (.int .i64 a) := (Blk.new w _ _).cell 2
  have r3 : (w.alloc (.cells #[.int .i64 op, .int .i64 d, .int .i64 a, .int .i64 b, .int .i64 n] 50)).cell? ⟨w.heap.size, 3, none⟩ = some (.int .i64 b) := (Blk.new w _ _).cell 3
  have r4 : (w.alloc (.cells #[.int .i64 op, .int .i64 d, .int .i64 a, .int .i64 b, .int .i64 n] 50)).cell? ⟨w.heap.size, 4, none⟩ = some (.int .i64 n) := (Blk.new w _ _).cell 4
  have H1 := Lib.hid (H.out.alloc (.cells #[.int .i64 op, .int .i64 d, .int .i64 a, .int .i64 b, .int .i64 n] 50))
  have F1 := Lib.hid ((FrT.refl B w).alloc hB (.cells #[.int .i64 op, .int .i64 d, .int .i64 a, .int .i64 b, .int .i64 n] 50))
  have hz : w.heap.size < (w.alloc (.cells #[.int .i64 op, .int .i64 d, .int .i64 a, .int .i64 b, .int .i64 n] 50)).heap.size := by simp
  generalize (w.alloc (.cells #[.int .i64 op, .int .i64 d, .int .i64 a, .int .i64 b, .int .i64 n] 50)) = W at *
  have c1 := H1.out.blk.cell 1
  simp only [List.getElem?_toArray, List.getElem?_cons_zero, List.getElem?_cons_succ] at c1
  have HA := Lib.hid (H1.out.drew.alloc (.cells #[.int .i64 op, .int .i64 d, .int .i64 a, .int .i64 b, .int .i64 n] 50))
  have FA := Lib.hid (F1.out.drew.alloc (by show B ≤ W.heap.size; omega) (.cells #[.int .i64 op, .int .i64 d, .int .i64 a, .int .i64 b, .int .i64 n] 50))
  have hS2 : (W.drew.alloc (.cells #[.int .i64 op, .int .i64 d, .int .i64 a, .int .i64 b, .int .i64 n] 50)).cell? ⟨bb, 1, none⟩ = some (.slice Ac code.length cc) ∧ (W.drew.alloc (.cells #[.int .i64 op, .int .i64 d, .int .i64 a, .int .i64 b, .int .i64 n] 50)).cell? ⟨w.heap.size, 0, none⟩ = some (.int .i64 op) ∧ (W.drew.alloc (.cells #[.int .i64 op, .int .i64 d, .int .i64 a, .int .i64 b, .int .i64 n] 50)).cell? ⟨w.heap.size, 1, none⟩ = some (.int .i64 d) ∧ (W.drew.alloc (.cells #[.int .i64 op, .int .i64 d, .int .i64 a, .int .i64 b, .int .i64 n] 50)).cell? ⟨w.heap.size, 2, none⟩ = some (.int .i64 a) ∧ (W.drew.alloc (.cells #[.int .i64 op, .int .i64 d, .int .i64 a, .int .i64 b, .int .i64 n] 50)).cell? ⟨w.heap.size, 3, none⟩ = some (.int .i64 b) ∧ (W.drew.alloc (.cells #[.int .i64 op, .int .i64 d, .int .i64 a, .int .i64 b, .int .i64 n] 50)).cell? ⟨w.heap.size, 4, none⟩ = some (.int .i64 n) :=
    ⟨(World.cell?_alloc_lt _ _ _ (by show bb < W.heap.size; omega)).trans c1, (World.cell?_alloc_lt _ _ _ hz).trans r0, (World.cell?_alloc_lt _ _ _ hz).trans r1, (World.cell?_alloc_lt _ _ _ hz).trans r2, (World.cell?_alloc_lt _ _ _ hz).trans r3, (World.cell?_alloc_lt _ _ _ hz).trans r4⟩
  have hS : W.drew.cell? ⟨bb, 1, none⟩ = some (.slice Ac code.length cc) ∧ W.drew.cell? ⟨w.heap.size, 0, none⟩ = some (.int .i64 op) ∧ W.drew.cell? ⟨w.heap.size, 1, none⟩ = some (.int .i64 d) ∧ W.drew.cell? ⟨w.heap.size, 2, none⟩ = some (.int .i64 a) ∧ W.drew.cell? ⟨w.heap.size, 3, none⟩ = some (.int .i64 b) ∧ W.drew.cell? ⟨w.heap.size, 4, none⟩ = some (.int .i64 n) := ⟨c1, r0, r1, r2, r3, r4⟩
  refine wp_region_seqT (fun i => !([6, 7, 10] : List Nat).contains i) (fun i => ([4, 5] : List Nat).contains i) (fun i => ([6] : List Nat).contains i) [0, 1, 2, 3, 4, 5, 6, 7, 8, 9, 10] (fun wq : World => wq.cell? ⟨bb, 1, none⟩ = some (.slice Ac code.length cc) ∧ wq.cell? ⟨w.heap.size, 0, none⟩ = some (.int .i64 op) ∧ wq.cell? ⟨w.heap.size, 1, none⟩ = some (.int .i64 d) ∧ wq.cell? ⟨w.heap.size, 2, none⟩ = some (.int .i64 a) ∧ wq.cell? ⟨w.heap.size, 3, none⟩ = some (.int .i64 b) ∧ wq.cell? ⟨w.heap.size, 4, none⟩ = some (.int .i64 n)) (by kernel_rfl) (by kernel_rfl) (by kernel_rfl) (by kernel_rfl) ?_
  iterate 6 (first | refine wpSeq_pureA (v := _) rfl rfl rfl ?_ | refine wpSeq_loadA (v := _) rfl rfl hS rfl ?_)
  refine wpSeq_heavy rfl rfl (fun K hK => ?_); go_simp
  refine hK _ _ (fun _ => hS2) ?_; clear hK K
  refine wpSeq_heavy rfl rfl (fun K hK => ?_)
  refine step_mine _ rfl (.tmp 8) (.tmp 10) _ rfl 50 i0 _ 5 40 Tryz.underlying32 hi0 hi1 hi2 hi3 rfl (by decide) 0 _ _ _ rfl HA.out.code (Nat.zero_le _) _ _ 1 1 [.int .i64 op, .int .i64 d, .int .i64 a, .int .i64 b, .int .i64 n] rfl (Reads.blk (cs := [.int .i64 op, .int .i64 d, .int .i64 a, .int .i64 b, .int .i64 n]) (Blk.new _ _ _) 5 1 rfl) (by simp [Value.oneCell']) (by unfold maxLen; omega) (by omega) ?_
  intro v' w6 hrow hg hnew
  rw [← HRC.out, show code.length + 1 = (code ++ [⟨op, d, a, b, n⟩] : List Sr.Reg).length by simp] at hrow
  obtain ⟨hb6, hB6, hF6⟩ := HA.out.pushed hrow hg (by have := FA.out.below.size; omega) hnew
  have HP : Hid (BuPost w B bb pv ps (code ++ [⟨op, d, a, b, n⟩]) (.returned (.tuple #[])) (w6.setCell ⟨bb, 1, none⟩ v')) := Lib.hid ⟨rfl, ⟨_, hB6⟩, FA.out.trans hF6⟩
  obtain ⟨Av, cv', hve, _⟩ := owns_form hrow
  rw [List.length_append, List.length_singleton] at hve
  have b1 := hb6.cell 1
  have bf := hb6.frozen 1
  have bl := hb6.lt
  simp only [List.getElem?_toArray, List.getElem?_cons_zero, List.getElem?_cons_succ] at b1
  subst hve
  clear hb6 hB6 hF6 hrow hg hnew
  refine hK _ _ (fun h => by cases h) ?_; clear hK K
  iterate 2 (first | refine wpSeq_pureA (v := _) rfl rfl rfl ?_ | refine wpSeq_loadA (v := _) rfl rfl hS rfl ?_)
  refine wpSeq_heavy rfl rfl (fun K hK => ?_); go_simp
  refine hK _ _ (fun h => by cases h) ?_; clear hK K
  refine wpSeq_end ?_
  go_wp2
  go_end0
  exact HP.out
end Go.Proofs.YtnhebmgibiomnaaGreat
namespace Go.Proofs.YtnhebmgibiomnaaGreat
open Go.RowKit Mc
theorem BuPost.from_ {w w1 w2 : World} {B bb : Nat} {pv : Value} {ps : List Bu.Plan} {code : List Sr.Reg} {e : Ending} (hf : FrT B w w1) (h : BuPost w1 B bb pv ps code e w2) : BuPost w B bb pv ps code e w2 := ⟨h.1, h.2.1, hf.trans h.2.2⟩
set_option maxRecDepth 50000 in
set_option maxHeartbeats 2000000 in
theorem bplain_any (w : World) (B bb : Nat) (pv cv : Value) (ps : List Bu.Plan) (code : List Sr.Reg) (h : BuL w B bb pv cv ps code) (hB : B ≤ w.heap.size) (hl : code.length < 1000000) (op x top second : Int) :
    Calls Tryz.prog 90 #[.pointer (some ⟨bb, 0, none⟩), .agg #[.int .i64 op, .int .i64 x], .int .i64 top, .int .i64 second] w (BuPost w B bb pv ps (code ++ Bu.plainE (op, x) top second)) := by
  have HA := Lib.hid (h.alloc (.cells #[.int .i64 op, .int .i64 x] 96))
  have FA := Lib.hid ((FrT.refl B w).alloc hB (.cells #[.int .i64 op, .int .i64 x] 96))
  have HPUT := Lib.hid (fun r => (bput_any _ B bb pv cv ps code HA.out (by simp; omega) hl r).mono fun _ _ hp => BuPost.from_ FA.out hp)
  have hz := h.blk.lt
  clear h
  generalize hu : Sr.uses op = u at *
  obtain ⟨u, ok⟩ := u
  have HU := Lib.hid hu
  clear hu
  by_cases h3 : u = 3
  · subst h3
    have HQ := Lib.hid (show Bu.plainE (op, x) top second = [⟨op, top, top, 0, 0⟩] by unfold Bu.plainE; simp only [HU.out]; rfl)
    rw [HQ.out]
    go_enter Tryz.func90, Tryz.ntmps90
    go_wp2_with fail
    refine (uses_any _ _).mono ?_
    rintro e w9 ⟨rfl, rfl⟩
    rw [HU.out]
    go_wp2_with fail
    refine (HPUT.out ⟨op, top, top, 0, 0⟩).mono ?_
    intro e w9 hp
    have HP := Lib.hid hp
    obtain ⟨rfl, _⟩ := hp
    go_wp2
    go_end0
    exact HP.out
  · by_cases h7 : u = 7
    · subst h7
      have HQ := Lib.hid (show Bu.plainE (op, x) top second = [⟨op, second, second, top, 0⟩] by unfold Bu.plainE; simp only [HU.out]; rfl)
      rw [HQ.out]
      go_enter Tryz.func90, Tryz.ntmps90
      go_wp2_with fail
      refine (uses_any _ _).mono ?_
      rintro e w9 ⟨rfl, rfl⟩
      rw [HU.out]
      go_wp2_with fail
      refine (HPUT.out ⟨op, second, second, top, 0⟩).mono ?_
      intro e w9 hp
      have HP := Lib.hid hp
      obtain ⟨rfl, _⟩ := hp
      go_wp2
      go_end0
      exact HP.out
    · by_cases h6 : u = 6
      · subst h6
        have HQ := Lib.hid (show Bu.plainE (op, x) top second = [⟨op, 0, second, top, 0⟩] by unfold Bu.plainE; simp only [HU.out]; rfl)
        rw [HQ.out]
        go_enter Tryz.func90, Tryz.ntmps90
        go_wp2_with fail
        refine (uses_any _ _).mono ?_
        rintro e w9 ⟨rfl, rfl⟩
        rw [HU.out]
        go_wp2_with fail
        refine (HPUT.out ⟨op, 0, second, top, 0⟩).mono ?_
        intro e w9 hp
        have HP := Lib.hid hp
        obtain ⟨rfl, _⟩ := hp
        go_wp2
        go_end0
        exact HP.out
      · have HQ := Lib.hid (show Bu.plainE (op, x) top second = [⟨op, 0, 0, 0, x⟩] by unfold Bu.plainE; simp only [HU.out]; rw [if_neg h3, if_neg h7, if_neg h6])
        rw [HQ.out]
        have b3 : (u == 3) = false := by simpa using h3
        have b7 : (u == 7) = false := by simpa using h7
        have b6 : (u == 6) = false := by simpa using h6
        go_enter Tryz.func90, Tryz.ntmps90
        go_wp2_with fail
        refine (uses_any _ _).mono ?_
        rintro e w9 ⟨rfl, rfl⟩
        rw [HU.out]
        go_wp2_with fail
        refine (HPUT.out ⟨op, 0, 0, 0, x⟩).mono ?_
        intro e w9 hp
        have HP := Lib.hid hp
        obtain ⟨rfl, _⟩ := hp
        go_wp2
        go_end0
        exact HP.out
end Go.Proofs.YtnhebmgibiomnaaGreat
namespace Go.Proofs.YtnhebmgibiomnaaGreat
open Go.RowKit Mc
theorem ps_rel {N0 : Nat} {w : World} {B : Nat} {s : Bu.PS} {cs : List Value} (h : (psR N0).rel w B s cs) : cs = [.int .i64 s.op, .int .i64 s.a, .int .i64 s.high, .int .i64 (s.go : Int)] := by
  obtain ⟨x1, y1, rfl, ⟨rfl, _⟩, x2, y2, rfl, ⟨rfl, _⟩, x3, y3, rfl, ⟨rfl, _⟩, rfl, _⟩ := h
  rfl
theorem plan_rel {N0 : Nat} {w : World} {B : Nat} {p : Bu.Plan} {cs : List Value} (h : (planR N0).rel w B p cs) : ∃ A c, cs = [.slice A p.steps.length c, .int .i64 p.size] ∧ RowAt (psR N0) 145 w B A p.steps := by
  obtain ⟨x, y, rfl, ⟨A, c, rfl, _, _, hr⟩, rfl, _⟩ := h
  exact ⟨A, c, rfl, hr⟩
def EmB (j : Nat) (high loops : Int) : Prop := -100000 ≤ high - 100 * (j + 1) ∧ high + 100 * (j + 1) ≤ 100000 ∧ 0 ≤ loops ∧ loops + j ≤ 100000
def EmS (k : Nat) (next loops : Int) : Prop := -100000 ≤ next - 1 - 100 * k ∧ next + 1 + 100 * k ≤ 100000 ∧ 0 ≤ loops ∧ loops + k ≤ 100000
def EmitOk (es : List Bu.Emit) (ps : List Bu.Plan) (j : Nat) : Prop :=
  ∀ (w : World) (B bb : Nat) (pv cv : Value) (code : List Sr.Reg) (p : Bu.Plan) (A : Option Addr) (c : Nat) (high loops : Int), ps[j]? = some p → BuL w B bb pv cv ps code → B ≤ w.heap.size → RowAt (psR 0) 145 w w.heap.size A p.steps → EmB j high loops → code.length + (Bu.em es j high loops).length ≤ 1000000 →
    Calls Tryz.prog 35 #[.pointer (some ⟨bb, 0, none⟩), .agg #[.slice A p.steps.length c, .int .i64 p.size], .int .i64 high, .int .i64 loops] w (BuPost w B bb pv ps (code ++ Bu.em es j high loops))
def LoopOk (es : List Bu.Emit) (ps : List Bu.Plan) (j : Nat) : Prop :=
  ∀ (w : World) (B bb : Nat) (pv cv : Value) (code : List Sr.Reg) (p : Bu.Plan) (A : Option Addr) (c : Nat) (top loops : Int), ps[j]? = some p → BuL w B bb pv cv ps code → B ≤ w.heap.size → RowAt (psR 0) 145 w w.heap.size A p.steps → EmB j top (loops + 1) → 0 ≤ loops → code.length + (Bu.loopE (Bu.em es j top (loops + 1)) top loops).length ≤ 1000000 →
    Calls Tryz.prog 89 #[.pointer (some ⟨bb, 0, none⟩), .agg #[.slice A p.steps.length c, .int .i64 p.size], .int .i64 top, .int .i64 loops] w (BuPost w B bb pv ps (code ++ Bu.loopE (Bu.em es j top (loops + 1)) top loops))
set_option maxRecDepth 50000 in
set_option maxHeartbeats 4000000 in
theorem bstep_any (w : World) (B bb : Nat) (pv cv : Value) (ps : List Bu.Plan) (code : List Sr.Reg) (h : BuL w B bb pv cv ps code) (hB : B ≤ w.heap.size) (es : List Bu.Emit) (op x next loops : Int) (k : Nat) (hk : k ≤ ps.length) (hE : ∀ j, j < k → EmitOk es ps j) (hL : ∀ j, j < k → LoopOk es ps j) (hc : (op = 37 ∨ op = 38) → 0 ≤ x ∧ x < k) (hb : EmS k next loops) (hlen : code.length + (Bu.stepE es (op, x) next loops).length ≤ 1000000) :
    Calls Tryz.prog 66 #[.pointer (some ⟨bb, 0, none⟩), .agg #[.int .i64 op, .int .i64 x], .int .i64 next, .int .i64 loops] w (BuPost w B bb pv ps (code ++ Bu.stepE es (op, x) next loops)) := by
  obtain ⟨hb1, hb2, hb3, hb4⟩ := hb
  have hk0 : (0 : Int) ≤ k := by omega
  by_cases hop : op = 2
  · subst hop
    have HQ := Lib.hid (show Bu.stepE es (2, x) next loops = [] from rfl)
    rw [HQ.out, List.append_nil] at *
    have HP : Hid (BuPost w B bb pv ps code (.returned (.tuple #[])) (w.alloc (.cells #[.int .i64 2, .int .i64 x] 96))) := Lib.hid ⟨rfl, ⟨_, h.alloc _⟩, (FrT.refl B w).alloc hB _⟩
    clear h hE hL hlen
    go_enter Tryz.func66, Tryz.ntmps66
    go_wp2
    go_end0
    exact HP.out
  by_cases hop : op = 1
  · subst hop
    have HQ := Lib.hid (show Bu.stepE es (1, x) next loops = [⟨1, next, 0, 0, x⟩] from rfl)
    rw [HQ.out] at hlen ⊢
    simp only [List.length_cons, List.length_nil] at hlen
    have HA := Lib.hid (h.alloc (.cells #[.int .i64 1, .int .i64 x] 96))
    have FA := Lib.hid ((FrT.refl B w).alloc hB (.cells #[.int .i64 1, .int .i64 x] 96))
    have HPUT := Lib.hid (fun r => (bput_any _ B bb pv cv ps code HA.out (by simp; omega) (by omega) r).mono fun _ _ hp => BuPost.from_ FA.out hp)
    have hz := h.blk.lt
    clear h hE hL
    go_enter Tryz.func66, Tryz.ntmps66
    go_wp2_with fail
    refine (HPUT.out ⟨1, next, 0, 0, x⟩).mono ?_
    intro e w9 hp
    have HP := Lib.hid hp
    obtain ⟨rfl, _⟩ := hp
    go_wp2
    go_end0
    exact HP.out
  by_cases hop : op = 39
  · subst hop
    have HQ := Lib.hid (show Bu.stepE es (39, x) next loops = [⟨39, next, 0, 0, 0⟩] from rfl)
    rw [HQ.out] at hlen ⊢
    simp only [List.length_cons, List.length_nil] at hlen
    have HA := Lib.hid (h.alloc (.cells #[.int .i64 39, .int .i64 x] 96))
    have FA := Lib.hid ((FrT.refl B w).alloc hB (.cells #[.int .i64 39, .int .i64 x] 96))
    have HPUT := Lib.hid (fun r => (bput_any _ B bb pv cv ps code HA.out (by simp; omega) (by omega) r).mono fun _ _ hp => BuPost.from_ FA.out hp)
    have hz := h.blk.lt
    clear h hE hL
    go_enter Tryz.func66, Tryz.ntmps66
    go_wp2_with fail
    refine (HPUT.out ⟨39, next, 0, 0, 0⟩).mono ?_
    intro e w9 hp
    have HP := Lib.hid hp
    obtain ⟨rfl, _⟩ := hp
    go_wp2
    go_end0
    exact HP.out
  by_cases hop : op = 3
  · subst hop
    have HQ := Lib.hid (show Bu.stepE es (3, x) next loops = [⟨40, next, next - 1, 0, 0⟩] from rfl)
    rw [HQ.out] at hlen ⊢
    simp only [List.length_cons, List.length_nil] at hlen
    have HA := Lib.hid (h.alloc (.cells #[.int .i64 3, .int .i64 x] 96))
    have FA := Lib.hid ((FrT.refl B w).alloc hB (.cells #[.int .i64 3, .int .i64 x] 96))
    have HPUT := Lib.hid (fun r => (bput_any _ B bb pv cv ps code HA.out (by simp; omega) (by omega) r).mono fun _ _ hp => BuPost.from_ FA.out hp)
    have hz := h.blk.lt
    clear h hE hL
    go_enter Tryz.func66, Tryz.ntmps66
    go_wp2_with fail
    refine (HPUT.out ⟨40, next, next - 1, 0, 0⟩).mono ?_
    intro e w9 hp
    have HP := Lib.hid hp
    obtain ⟨rfl, _⟩ := hp
    go_wp2
    go_end0
    exact HP.out
  by_cases hop : op = 35
  · subst hop
    have HQ := Lib.hid (show Bu.stepE es (35, x) next loops = [⟨35, 0, 0, 0, 0⟩] from rfl)
    rw [HQ.out] at hlen ⊢
    simp only [List.length_cons, List.length_nil] at hlen
    have HA := Lib.hid (h.alloc (.cells #[.int .i64 35, .int .i64 x] 96))
    have FA := Lib.hid ((FrT.refl B w).alloc hB (.cells #[.int .i64 35, .int .i64 x] 96))
    have HPUT := Lib.hid (fun r => (bput_any _ B bb pv cv ps code HA.out (by simp; omega) (by omega) r).mono fun _ _ hp => BuPost.from_ FA.out hp)
    have hz := h.blk.lt
    clear h hE hL
    go_enter Tryz.func66, Tryz.ntmps66
    go_wp2_with fail
    refine (HPUT.out ⟨35, 0, 0, 0, 0⟩).mono ?_
    intro e w9 hp
    have HP := Lib.hid hp
    obtain ⟨rfl, _⟩ := hp
    go_wp2
    go_end0
    exact HP.out
  by_cases hop : op = 36
  · subst hop
    have HQ := Lib.hid (show Bu.stepE es (36, x) next loops = [⟨36, 0, next - 1, 0, 0⟩] from rfl)
    rw [HQ.out] at hlen ⊢
    simp only [List.length_cons, List.length_nil] at hlen
    have HA := Lib.hid (h.alloc (.cells #[.int .i64 36, .int .i64 x] 96))
    have FA := Lib.hid ((FrT.refl B w).alloc hB (.cells #[.int .i64 36, .int .i64 x] 96))
    have HPUT := Lib.hid (fun r => (bput_any _ B bb pv cv ps code HA.out (by simp; omega) (by omega) r).mono fun _ _ hp => BuPost.from_ FA.out hp)
    have hz := h.blk.lt
    clear h hE hL
    go_enter Tryz.func66, Tryz.ntmps66
    go_wp2_with fail
    refine (HPUT.out ⟨36, 0, next - 1, 0, 0⟩).mono ?_
    intro e w9 hp
    have HP := Lib.hid hp
    obtain ⟨rfl, _⟩ := hp
    go_wp2
    go_end0
    exact HP.out
  by_cases hop : op = 4
  · subst hop
    have HQ := Lib.hid (show Bu.stepE es (4, x) next loops = [⟨40, 63, next - 1, 0, 0⟩, ⟨40, next - 1, next - 2, 0, 0⟩, ⟨40, next - 2, 63, 0, 0⟩] from rfl)
    rw [HQ.out] at hlen ⊢
    simp only [List.length_cons, List.length_nil] at hlen
    have H := Lib.hid (h.alloc (.cells #[.int .i64 4, .int .i64 x] 96))
    have F := Lib.hid ((FrT.refl B w).alloc hB (.cells #[.int .i64 4, .int .i64 x] 96))
    have hz := h.blk.lt
    clear h hE hL
    go_enter Tryz.func66, Tryz.ntmps66
    go_wp2_with fail
    refine (bput_any _ B bb pv cv ps code H.out (by simp; omega) (by omega) ⟨40, 63, next - 1, 0, 0⟩).mono ?_
    rintro e w7 ⟨rfl, ⟨cv7, hl7⟩, hf7⟩
    have H7 := Lib.hid hl7
    have F7 := Lib.hid (F.out.trans hf7)
    have hz7 := F7.out.below.size
    clear H F hl7 hf7
    go_wp2_with fail
    refine (bput_any _ B bb pv cv7 ps _ H7.out (by omega) (by simp; omega) ⟨40, next - 1, next - 2, 0, 0⟩).mono ?_
    rintro e w8 ⟨rfl, ⟨cv8, hl8⟩, hf8⟩
    have H8 := Lib.hid hl8
    have F8 := Lib.hid (F7.out.trans hf8)
    have hz8 := F8.out.below.size
    clear H7 F7 hl8 hf8
    go_wp2_with fail
    refine (bput_any _ B bb pv cv8 ps _ H8.out (by omega) (by simp; omega) ⟨40, next - 2, 63, 0, 0⟩).mono ?_
    rintro e w9 ⟨rfl, ⟨cv9, hl9⟩, hf9⟩
    have HP : Hid (BuPost w B bb pv ps (code ++ [⟨40, 63, next - 1, 0, 0⟩, ⟨40, next - 1, next - 2, 0, 0⟩, ⟨40, next - 2, 63, 0, 0⟩]) (.returned (.tuple #[])) w9) := Lib.hid ⟨rfl, ⟨cv9, by simpa using hl9⟩, F8.out.trans hf9⟩
    clear H8 F8 hl9 hf9
    go_wp2
    go_end0
    exact HP.out
  by_cases h37 : op = 37 ∨ op = 38
  · obtain ⟨hx0, hxk⟩ := hc h37
    obtain ⟨i, rfl⟩ : ∃ i : Nat, x = i := ⟨x.toNat, by omega⟩
    have hik : i < k := by omega
    obtain ⟨p, hp⟩ : ∃ p, ps[i]? = some p := ⟨_, List.getElem?_eq_getElem (by omega)⟩
    obtain ⟨Ap, cp, hpv, hrow⟩ := (h.alloc (.cells #[.int .i64 op, .int .i64 (i : Int)] 96)).ps
    obtain ⟨gb, goff, cs, rfl, hgb, hrel, hcells⟩ := hrow.get hp
    obtain ⟨As, cc, rfl, hst⟩ := plan_rel hrel
    have d0 := hcells 0 _ rfl
    have d1 := hcells 1 _ rfl
    simp only [planR, Repr.map, Repr.pair, Repr.row, Repr.int, Nat.add_zero] at d0 d1
    have hpl : (i : Int) < ps.length := by omega
    have HST := Lib.hid hst
    have HPP := Lib.hid hp
    subst hpv
    have HA := Lib.hid (h.alloc (.cells #[.int .i64 op, .int .i64 (i : Int)] 96))
    have FA := Lib.hid ((FrT.refl B w).alloc hB (.cells #[.int .i64 op, .int .i64 (i : Int)] 96))
    have r0 : (w.alloc (.cells #[.int .i64 op, .int .i64 (i : Int)] 96)).cell? ⟨w.heap.size, 0, none⟩ = some (.int .i64 op) := (Blk.new w _ _).cell 0
    have r1 : (w.alloc (.cells #[.int .i64 op, .int .i64 (i : Int)] 96)).cell? ⟨w.heap.size, 1, none⟩ = some (.int .i64 (i : Int)) := (Blk.new w _ _).cell 1
    have b0 := HA.out.blk.cell 0
    simp only [List.getElem?_toArray, List.getElem?_cons_zero] at b0
    have hzl : w.heap.size < (w.alloc (.cells #[.int .i64 op, .int .i64 (i : Int)] 96)).heap.size := by simp
    have hlb := HA.out.blk.lt
    have HE := Lib.hid (hE i hik)
    have HL := Lib.hid (hL i hik)
    clear h hE hL hp hrel hcells hst hc hx0 hxk hrow
    rcases h37 with rfl | rfl
    · have HQ := Lib.hid (show Bu.stepE es (37, (i : Int)) next loops = Bu.em es i next loops from rfl)
      rw [HQ.out] at hlen ⊢
      go_enter Tryz.func66, Tryz.ntmps66
      go_wp2_with fail
      generalize (w.alloc (.cells #[.int .i64 37, .int .i64 (i : Int)] 96)) = W at *
      have hS : W.drew.cell? ⟨bb, 0, none⟩ = some (.slice (some ⟨gb, goff, none⟩) ps.length cp) ∧ W.drew.cell? ⟨w.heap.size, 1, none⟩ = some (.int .i64 (i : Int)) ∧ W.drew.cell? ⟨gb, goff + i * 2, none⟩ = some (.slice As p.steps.length cc) ∧ W.drew.cell? ⟨gb, goff + i * 2 + 1, none⟩ = some (.int .i64 p.size) := ⟨b0, r1, d0, d1⟩
      refine wp_region_seqT (fun i => !([11] : List Nat).contains i) (fun i => ([4, 6, 8] : List Nat).contains i) (fun i => ([] : List Nat).contains i) [0, 1, 2, 3, 4, 5, 6, 7, 8, 9, 10, 11] (fun wq : World => wq.cell? ⟨bb, 0, none⟩ = some (.slice (some ⟨gb, goff, none⟩) ps.length cp) ∧ wq.cell? ⟨w.heap.size, 1, none⟩ = some (.int .i64 (i : Int)) ∧ wq.cell? ⟨gb, goff + i * 2, none⟩ = some (.slice As p.steps.length cc) ∧ wq.cell? ⟨gb, goff + i * 2 + 1, none⟩ = some (.int .i64 p.size)) (by kernel_rfl) (by kernel_rfl) (by kernel_rfl) (by kernel_rfl) ?_
      iterate 11 (first | refine wpSeq_pureA (v := _) rfl rfl rfl ?_ | refine wpSeq_loadA (v := _) rfl rfl hS rfl ?_)
      refine wpSeq_heavy rfl rfl (fun K hK => ?_); go_simp
      refine (HE.out W.drew B bb _ cv code p As cc next loops HPP.out HA.out.drew (by show B ≤ W.heap.size; omega) HST.out ⟨by omega, by omega, by omega, by omega⟩ hlen).mono ?_
      intro e w9 hp
      have HP := Lib.hid (hp.from_ FA.out.drew)
      obtain ⟨rfl, _⟩ := hp
      dsimp only
      refine hK _ _ (fun h => by cases h) ?_; clear hK K
      refine wpSeq_end ?_
      go_wp2
      go_end0
      exact HP.out
    · have HQ := Lib.hid (show Bu.stepE es (38, (i : Int)) next loops = Bu.loopE (Bu.em es i (next - 1) (loops + 1)) (next - 1) loops from rfl)
      rw [HQ.out] at hlen ⊢
      go_enter Tryz.func66, Tryz.ntmps66
      go_wp2_with fail
      generalize (w.alloc (.cells #[.int .i64 38, .int .i64 (i : Int)] 96)) = W at *
      have hS : W.drew.cell? ⟨bb, 0, none⟩ = some (.slice (some ⟨gb, goff, none⟩) ps.length cp) ∧ W.drew.cell? ⟨w.heap.size, 1, none⟩ = some (.int .i64 (i : Int)) ∧ W.drew.cell? ⟨gb, goff + i * 2, none⟩ = some (.slice As p.steps.length cc) ∧ W.drew.cell? ⟨gb, goff + i * 2 + 1, none⟩ = some (.int .i64 p.size) := ⟨b0, r1, d0, d1⟩
      refine wp_region_seqT (fun i => !([11] : List Nat).contains i) (fun i => ([4, 6, 8] : List Nat).contains i) (fun i => ([] : List Nat).contains i) [0, 1, 2, 3, 4, 5, 6, 7, 8, 9, 10, 11] (fun wq : World => wq.cell? ⟨bb, 0, none⟩ = some (.slice (some ⟨gb, goff, none⟩) ps.length cp) ∧ wq.cell? ⟨w.heap.size, 1, none⟩ = some (.int .i64 (i : Int)) ∧ wq.cell? ⟨gb, goff + i * 2, none⟩ = some (.slice As p.steps.length cc) ∧ wq.cell? ⟨gb, goff + i * 2 + 1, none⟩ = some (.int .i64 p.size)) (by kernel_rfl) (by kernel_rfl) (by kernel_rfl) (by kernel_rfl) ?_
      iterate 11 (first | refine wpSeq_pureA (v := _) rfl rfl rfl ?_ | refine wpSeq_loadA (v := _) rfl rfl hS rfl ?_)
      refine wpSeq_heavy rfl rfl (fun K hK => ?_); go_simp
      refine (HL.out W.drew B bb _ cv code p As cc (next - 1) loops HPP.out HA.out.drew (by show B ≤ W.heap.size; omega) HST.out ⟨by omega, by omega, by omega, by omega⟩ hb3 hlen).mono ?_
      intro e w9 hp
      have HP := Lib.hid (hp.from_ FA.out.drew)
      obtain ⟨rfl, _⟩ := hp
      dsimp only
      refine hK _ _ (fun h => by cases h) ?_; clear hK K
      refine wpSeq_end ?_
      go_wp2
      go_end0
      exact HP.out
  · have n37 : ¬ op = 37 := fun e => h37 (.inl e)
    have n38 : ¬ op = 38 := fun e => h37 (.inr e)
    have hq : Bu.stepE es (op, x) next loops = Bu.plainE (op, x) (next - 1) (next - 2) := by
      unfold Bu.stepE
      simp only
      repeat rw [if_neg ‹_›]
    have hpl : 1 ≤ (Bu.plainE (op, x) (next - 1) (next - 2)).length := by
      unfold Bu.plainE
      repeat' split
      all_goals simp
    rw [hq] at hlen ⊢
    have HA := Lib.hid (h.alloc (.cells #[.int .i64 op, .int .i64 x] 96))
    have FA := Lib.hid ((FrT.refl B w).alloc hB (.cells #[.int .i64 op, .int .i64 x] 96))
    have HPL := Lib.hid ((bplain_any _ B bb pv cv ps code HA.out (by simp; omega) (by omega) op x (next - 1) (next - 2)).mono fun _ _ hp => BuPost.from_ FA.out hp)
    have hz := h.blk.lt
    clear h hE hL hq hpl hc h37
    go_enter Tryz.func66, Tryz.ntmps66
    go_wp2_with fail
    refine HPL.out.mono ?_
    intro e w9 hp
    have HP := Lib.hid hp
    obtain ⟨rfl, _⟩ := hp
    go_wp2
    go_end0
    exact HP.out
end Go.Proofs.YtnhebmgibiomnaaGreat
namespace Go.Proofs.YtnhebmgibiomnaaGreat
open Go.RowKit Mc
theorem flat_at {α : Type} : ∀ (ls : List (List α)) (u : Nat) (r : α) (q : List α), ls[u]? = some (r :: q) → ls.flatten[(ls.take u).flatten.length]? = some r ∧ ∀ r', ls.flatten.set (ls.take u).flatten.length r' = (ls.set u (r' :: q)).flatten
  | [], u, r, q, h => by simp at h
  | l :: ls, 0, r, q, h => by
    simp only [List.getElem?_cons_zero, Option.some.injEq] at h
    subst h
    exact ⟨by simp, fun r' => by simp⟩
  | l :: ls, u + 1, r, q, h => by
    simp only [List.getElem?_cons_succ] at h
    obtain ⟨h1, h2⟩ := flat_at ls u r q h
    refine ⟨?_, fun r' => ?_⟩
    · simp only [List.take_succ_cons, List.flatten_cons, List.length_append]
      rw [List.getElem?_append_right (by omega), Nat.add_sub_cancel_left]
      exact h1
    · simp only [List.take_succ_cons, List.flatten_cons, List.length_append, List.set_cons_succ]
      rw [List.set_append_right _ _ (by omega), Nat.add_sub_cancel_left, h2]
theorem regCells_setN : ∀ (l : List Sr.Reg) (i : Nat) (r : Sr.Reg) (v : Int), l[i]? = some r → regCells (l.set i { r with n := v }) = (regCells l).set (i * 5 + 4) (.int .i64 v)
  | [], i, r, v, h => by simp at h
  | x :: l, 0, r, v, h => by
    simp only [List.getElem?_cons_zero, Option.some.injEq] at h
    subst h
    rfl
  | x :: l, i + 1, r, v, h => by
    simp only [List.getElem?_cons_succ] at h
    have := regCells_setN l i r v h
    rw [show (i + 1) * 5 + 4 = (i * 5 + 4) + 1 + 1 + 1 + 1 + 1 by omega]
    simp only [List.set_cons_succ, regCells, this]
theorem FrT.grown {B : Nat} {w W W' : World} {row : Option Nat} (h : FrT B w W) (hg : W.grownBy W' row) (hB : B ≤ w.heap.size) (hr : ∀ r, row = some r → w.heap.size ≤ r) : FrT B w W' :=
  ⟨h.below.grown hg (by have := h.below.size; omega) (fun r e => by have := hr r e; omega), fun i t cs fz e h1 h2 => by
    have e1 := h.keep i t cs fz e h1 h2
    exact (hg.block i (Array.getElem?_eq_some_iff.1 e1).1 (fun e2 => by have := hr i e2.symm; have := (Array.getElem?_eq_some_iff.1 e).1; omega)).trans e1⟩
theorem RowAt.frT {N0 : Nat} {α : Type} {R : Repr N0 α} {t : TypeId} {B : Nat} {w w' : World} {A : Option Addr} {l : List α} (h : RowAt R t w w.heap.size A l) (hf : FrT B w w') (h0 : N0 = 0) (h1 : 86 ∉ t :: R.tys) (h2 : 50 ∉ t :: R.tys) : RowAt R t w' w'.heap.size A l :=
  (h.keep fun g t' xs fz _ ht hh => by
    rcases ht with ht | ht
    · omega
    · exact hf.keep g t' xs fz hh (fun e => h1 (e ▸ ht)) (fun e => h2 (e ▸ ht))).more hf.below.size
theorem BuL.grown {w w' : World} {B bb : Nat} {pv cv : Value} {ps : List Bu.Plan} {code : List Sr.Reg} (h : BuL w B bb pv cv ps code) {v : Value} {n size base : Nat} {t : TypeId} {xs : List Value} (hv : w.ownsRow base t size v n xs) (hg : w.grownBy w' v.ownBlock) (ht : t ∉ [86, 50, 89, 145]) : BuL w' B bb pv cv ps code := by
  simp only [List.mem_cons, not_or, List.not_mem_nil, not_false_eq_true, and_true] at ht
  obtain ⟨t1, t2, t3, t4⟩ := ht
  refine ⟨h.blk.grown hg fun e => ?_, ?_, owns_grownBy h.code hg (apart_types h.code hv (fun e => t2 e.symm)), h.base, h.own⟩
  · obtain ⟨_, _, cs, hb⟩ := owns_block hv e.symm
    exact h.blk.ne_ hb (fun e => t1 e.symm) rfl
  · obtain ⟨A, c, e, hr⟩ := h.ps
    refine ⟨A, c, e, (hr.keep fun g t' xs' fz _ hm hh => ?_).more hg.size⟩
    rw [hg.block g (Array.getElem?_eq_some_iff.1 hh).1 (fun e2 => ?_)]
    · exact hh
    · obtain ⟨_, _, cs, hb⟩ := owns_block hv e2.symm
      unfold Blk at hb
      rw [hh] at hb
      injection hb with hb
      injection hb with _ ht'
      subst ht'
      rcases hm with hm | hm
      · omega
      · simp only [planR, psR, Repr.map, Repr.pair, Repr.row, Repr.int, List.append_nil, List.mem_cons, List.not_mem_nil, or_false] at hm
        rcases hm with hm | hm
        · exact t3 hm
        · exact t4 hm
theorem BuL.setN {w : World} {B bb : Nat} {pv cv : Value} {ps : List Bu.Plan} {code : List Sr.Reg} (h : BuL w B bb pv cv ps code) {g : Nat} (hg : cv.ownBlock = some g) {i : Nat} {r : Sr.Reg} (hr : code[i]? = some r) (v : Int) :
    BuL (w.setCell ⟨g, i * 5 + 4, none⟩ (.int .i64 v)) B bb pv cv ps (code.set i { r with n := v }) ∧ FrT B w (w.setCell ⟨g, i * 5 + 4, none⟩ (.int .i64 v)) := by
  obtain ⟨_, _, cs, hb⟩ := owns_block h.code hg
  have hi := (List.getElem?_eq_some_iff.1 hr).1
  have hf : FrT B w (w.setCell ⟨g, i * 5 + 4, none⟩ (.int .i64 v)) := ⟨(Below.refl B w).setCell (p := ⟨g, i * 5 + 4, none⟩) (h.own g hg) _, fun k t cs' fz e h1 h2 => set_keeps hb _ _ k t cs' fz (fun e => h2 e.symm) e⟩
  refine ⟨⟨?_, h.ps.fr hf, ?_, h.base, h.own⟩, hf⟩
  · exact h.blk.far (p := ⟨g, i * 5 + 4, none⟩) (h.blk.ne_ hb (by decide)) _
  · have := owns_setAt h.code hg (j := i * 5 + 4) (by rw [regCells_len]; omega) (.int .i64 v)
    rw [← regCells_setN code i r v hr] at this
    simpa using this
end Go.Proofs.YtnhebmgibiomnaaGreat

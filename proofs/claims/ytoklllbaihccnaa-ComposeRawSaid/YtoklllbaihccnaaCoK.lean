/- compose.walk.from: its contract, by induction on how many levels it goes into itself. Expanded from XCoK.src by expand.py. -/
import Derived.Test.YtoklllbaihccnaaCoJ
import Derived.Test.YtoklllbaihccnaaCoG
import Derived.StillTailTactics
import Derived.Deep.RegionHeld3
set_option linter.unusedVariables false
set_option linter.unusedSimpArgs false
namespace Go.Proofs.Ytoklllbaihccnaa
open Go.RowKit Go.Shelf
attribute [local go_sem] Oper.semAt_some
theorem noPanic_normal {Q : Exit → Act → World → Prop} {a : Act} {w : World} (h : Q .normal a w) : NoPanic Q .normal a w := h
theorem from_any (b : Nat) (g L : Int) (w : World) :
    Calls Try.prog 24 #[.pointer (some ⟨b, 0, none⟩), .int .i64 g, .int .i64 L] w fun e w' => e = .returned (.func (.func 44) #[] #[.pointer (some ⟨w.heap.size, 0, none⟩), .pointer (some ⟨w.heap.size + 1, 0, none⟩), .pointer (some ⟨w.heap.size + 1 + 1, 0, none⟩)]) ∧
      w' = ((w.alloc (.cells #[.pointer (some ⟨b, 0, none⟩)] 105)).alloc (.cells #[.int .i64 g] 3)).alloc (.cells #[.int .i64 L] 3) := by
  go_enter Try.func24, Try.ntmps24
  go_wp2
  go_ret
  exact ⟨rfl, rfl⟩
/-- what the loop over which a walk goes does with what it is told -/
def YieldOk (base wb M ab : Nat) (fv : Fv) (l : Nat) (S : Nat → Prop) (W : World) : Prop :=
  ∀ (m : Nat) (S' : Nat → Prop) (s' : Wk.St) (x : Int) (W' : World), AW base wb M ab fv S' s' W' → Sub S' S W → Fr (mutS wb M ab S) W W' → s'.out.length ≤ 1000 → I64 x →
    YieldAt Fence.wide m Try.prog l #[.int .i64 x] W' fun e W'' => e = .returned (.bool true) ∧ ∃ S'', AW base wb M ab fv S'' (s'.tell x) W'' ∧ Fr (mutS wb M ab S') W' W'' ∧ Sub S'' S' W'
def FromPost (base wb M ab : Nat) (fv : Fv) (S : Nat → Prop) (W : World) (s : Wk.St) (e : Ending) (W' : World) : Prop := (∃ v, e = .returned v) ∧ ∃ S', AW base wb M ab fv S' s W' ∧ Fr (mutS wb M ab S) W W' ∧ Sub S' S W
def FromOk (base wb M ab n0 : Nat) (fv : Fv) (gl : List Gl) (L : Nat) : Prop :=
  ∀ (l P1 P2 P3 g : Nat) (S : Nat → Prop) (s : Wk.St) (W : World), AW base wb M ab fv S s W → Blk W P1 105 #[.pointer (some ⟨wb, 0, none⟩)] → Blk W P2 3 #[.int .i64 g] → Blk W P3 3 #[.int .i64 L] → ¬ S P2 → ¬ S P3 →
    FAt W n0 fv.A gl → g < gl.length → Wk.pot gl.length s ≤ 50000 → s.out.length + Wk.rest gl.length s ≤ 1000 → YieldOk base wb M ab fv l S W →
    CallsIn Fence.wide 8 Try.prog 44 #[.func (.yield l) #[] #[], .pointer (some ⟨P1, 0, none⟩), .pointer (some ⟨P2, 0, none⟩), .pointer (some ⟨P3, 0, none⟩)] W (FromPost base wb M ab fv S W (Wk.visit gl L g s))
set_option maxRecDepth 100000 in
set_option maxHeartbeats 4000000 in
theorem from_met (base wb M ab n0 : Nat) (fv : Fv) (gl : List Gl) (L : Nat) (l P1 P2 P3 g : Nat) (S : Nat → Prop) (s : Wk.St) (W : World) (h : AW base wb M ab fv S s W) (h1 : Blk W P1 105 #[.pointer (some ⟨wb, 0, none⟩)]) (h2 : Blk W P2 3 #[.int .i64 g]) (hg : g < gl.length) (hgl : gl.length ≤ 1000) (hm : s.met g = true) :
    CallsIn Fence.wide 8 Try.prog 44 #[.func (.yield l) #[] #[], .pointer (some ⟨P1, 0, none⟩), .pointer (some ⟨P2, 0, none⟩), .pointer (some ⟨P3, 0, none⟩)] W (FromPost base wb M ab fv S W (Wk.visit gl L g s)) := by
  have hv : Wk.visit gl L g s = s := by cases L <;> (unfold Wk.visit; rw [if_pos hm])
  rw [hv]
  obtain ⟨v, av, hK⟩ := h
  have hgi : I64 (g : Int) := by unfold I64; omega
  have hal : Grow W (W.alloc (.cells #[.func (.yield l) #[] #[]] 106)) := (Fr.refl _ _).alloc _
  have hk : ∀ n, (Instr.lookup 49 (.map (some M)) (.int .i64 g) false).run Try.prog ((W.alloc (.cells #[.func (.yield l) #[] #[]] 106)).drewN n) = .ok (.bool true) ((W.alloc (.cells #[.func (.yield l) #[] #[]] 106)).drewN n) := fun n => by
    have := (hK.grow (hal.drewN n)).mm.look g hgi
    rwa [hm] at this
  have e1 := h1.cell 0
  have e2 := h2.cell 0
  have e9 := hK.blk.cell 9
  simp only [List.getElem?_toArray, List.getElem?_cons_zero, List.getElem?_cons_succ] at e1 e2 e9
  have l1 := h1.lt
  have l2 := h2.lt
  have l9 := hK.blk.lt
  have HK := Lib.hid hK
  clear hK h1 h2 hm hv
  refine callsIn_of_wp_marks Try.func44 rfl trivial ?_ rfl
  simp only [Try.ntmps44, List.size_toArray, List.length_cons, List.length_nil, Nat.reduceAdd, Nat.reduceSub, Array.replicate_succ, Array.replicate_zero, List.push_toArray, List.append_toArray, List.nil_append, List.cons_append]
  gi_wp2_with fail
  refine wpIn_wide.2 ?_
  go_quiet (fail)
  gi_wp2_with fail
  have hg2 : Grow W ((W.alloc (.cells #[.func (.yield l) #[] #[]] 106)).drewN nq) := hal.drewN nq
  exact ⟨_, results_none rfl _ _ _, ⟨_, rfl⟩, S, ⟨v, av, HK.out.grow hg2⟩, hg2.mono fun _ _ x => x.elim, Sub.refl _ _⟩

set_option maxRecDepth 100000 in
set_option maxHeartbeats 4000000 in
theorem from_zero (base wb M ab n0 : Nat) (fv : Fv) (gl : List Gl) : FromOk base wb M ab n0 fv gl 0 := by
  intro l P1 P2 P3 g S s W h h1 h2 h3 n2 n3 hf hg hpot hout hY
  cases hm : s.met g with
  | true => exact from_met base wb M ab n0 fv gl 0 l P1 P2 P3 g S s W h h1 h2 hg (by have := hf.few; omega) hm
  | false =>
  have hv : Wk.visit gl 0 g s = s.push g := by unfold Wk.visit; rw [if_neg (by rw [hm]; decide)]
  rw [hv]
  obtain ⟨v, av, hK⟩ := h
  have hfew := hf.few
  have hgi : I64 (g : Int) := by unfold I64; omega
  have hll : s.later.length ≤ 50000 := by unfold Wk.pot at hpot; omega
  have hal : Grow W (W.alloc (.cells #[.func (.yield l) #[] #[]] 106)) := (Fr.refl _ _).alloc _
  have hk : ∀ n, (Instr.lookup 49 (.map (some M)) (.int .i64 g) false).run Try.prog ((W.alloc (.cells #[.func (.yield l) #[] #[]] 106)).drewN n) = .ok (.bool false) ((W.alloc (.cells #[.func (.yield l) #[] #[]] 106)).drewN n) := fun n => by
    have := (hK.grow (hal.drewN n)).mm.look g hgi
    rwa [hm] at this
  have e1 := h1.cell 0
  have e2 := h2.cell 0
  have e3 := h3.cell 0
  have e9 := hK.blk.cell 9
  simp only [List.getElem?_toArray, List.getElem?_cons_zero, List.getElem?_cons_succ] at e1 e2 e3 e9
  have l1 := h1.lt
  have l2 := h2.lt
  have l3 := h3.lt
  have l9 := hK.blk.lt
  have HK := Lib.hid hK
  have H1 := Lib.hid h1
  have H2 := Lib.hid h2
  have HN2 := Lib.hid n2
  obtain ⟨i0, hi0, hi1, hi2, hi3⟩ := info_m info_int
  clear hK h1 h2 h3 hm hv hY hpot hout n2 n3 hf
  refine callsIn_of_wp_marks Try.func44 rfl trivial ?_ rfl
  simp only [Try.ntmps44, List.size_toArray, List.length_cons, List.length_nil, Nat.reduceAdd, Nat.reduceSub, Array.replicate_succ, Array.replicate_zero, List.push_toArray, List.append_toArray, List.nil_append, List.cons_append]
  gi_wp2_with fail
  refine wpIn_wide.2 ?_
  go_quiet (fail)
  have hg2 : Grow W ((W.alloc (.cells #[.func (.yield l) #[] #[]] 106)).drewN nq) := hal.drewN nq
  have HG2 := Lib.hid hg2
  have HK2 := Lib.hid (HK.out.grow hg2)
  have b1 := (hg2.blk H1.out fun x => x).cell 0
  have b2 := (hg2.blk H2.out fun x => x).cell 0
  have b3 : ((W.alloc (.cells #[.func (.yield l) #[] #[]] 106)).drewN nq).cell? ⟨P3, 0, none⟩ = some (.int .i64 0) := (hg2.cell (p := ⟨P3, 0, none⟩) l3 fun x => x).trans e3
  have HB1 := Lib.hid (hg2.blk H1.out fun x => x)
  have HB2 := Lib.hid (hg2.blk H2.out fun x => x)
  have b10 := HK2.out.blk.cell 10
  have hz : P1 < ((W.alloc (.cells #[.func (.yield l) #[] #[]] 106)).drewN nq).heap.size ∧ P2 < ((W.alloc (.cells #[.func (.yield l) #[] #[]] 106)).drewN nq).heap.size ∧ wb < ((W.alloc (.cells #[.func (.yield l) #[] #[]] 106)).drewN nq).heap.size := ⟨HB1.out.lt, HB2.out.lt, HK2.out.blk.lt⟩
  simp only [List.getElem?_toArray, List.getElem?_cons_zero, List.getElem?_cons_succ] at b1 b2 b10
  obtain ⟨z1, z2, z9⟩ := hz
  clear hg2 hal hk e1 e2 e3 e9 l1 l2 l3 l9
  generalize (W.alloc (.cells #[.func (.yield l) #[] #[]] 106)).drewN nq = V at *
  obtain ⟨Av, cv, hvv, hvc, hvm⟩ := owns_form HK2.out.row
  subst hvv
  gi_wp2_with fail
  refine wpIn_wide.2 ?_
  refine wp_region_noPanic ?_
  have hS : V.drew.cell? ⟨P1, 0, none⟩ = some (.pointer (some ⟨wb, 0, none⟩)) ∧ V.drew.cell? ⟨P2, 0, none⟩ = some (.int .i64 g) ∧ V.drew.cell? ⟨wb, 10, none⟩ = some (.slice Av s.later.length cv) := ⟨b1, b2, b10⟩
  have HKA := Lib.hid (HK2.out.grow (w' := V.drew.alloc (.cells #[.int .i64 g] 3)) ((Fr.refl _ _).drew.alloc _))
  refine wp_region_seqT (fun i => !([6, 7, 10] : List Nat).contains i) (fun i => ([0, 1, 4, 5] : List Nat).contains i) (fun i => ([6, 7] : List Nat).contains i) [0, 1, 2, 3, 4, 5, 6, 7, 8, 9, 10] (fun wq : World => wq.cell? ⟨P1, 0, none⟩ = some (.pointer (some ⟨wb, 0, none⟩)) ∧ wq.cell? ⟨P2, 0, none⟩ = some (.int .i64 g) ∧ wq.cell? ⟨wb, 10, none⟩ = some (.slice Av s.later.length cv)) (by kernel_rfl) (by kernel_rfl) (by kernel_rfl) (by kernel_rfl) ?_
  iterate 6 (first | refine wpSeq_pureA (v := _) rfl rfl rfl ?_ | refine wpSeq_loadA (v := _) rfl rfl hS rfl ?_)
  refine wpSeq_heavy rfl rfl (fun K hK => ?_); go_simp
  refine hK _ _ (fun _ => ⟨(World.cell?_alloc_lt _ _ _ z1).trans b1, (World.cell?_alloc_lt _ _ _ z2).trans b2, (World.cell?_alloc_lt _ _ _ z9).trans b10⟩) ?_; clear hK K
  refine wpSeq_heavy rfl rfl (fun K hK => ?_)
  refine step_own _ rfl (.tmp 19) (.tmp 21) _ rfl base 3 i0 _ 1 8 Try.underlying22 hi0 hi1 hi2 hi3 rfl (by decide) _ _ _ rfl HKA.out.row _ _ 1 1 [.int .i64 g] rfl (Reads.blk (cs := [.int .i64 g]) (Blk.new _ _ _) 1 1 rfl) (by simp [Value.oneCell']) (by unfold maxLen; omega) (by omega) (by have := HK2.out.bs.1; simp; omega) ?_
  intro v' w6 hrow hg6 hnew
  obtain ⟨p1, p2, p3, p4⟩ := HKA.out.pushed hrow hg6 hnew
  have HP2 := Lib.hid p2
  have HP3 := Lib.hid p3
  have HP4 := Lib.hid p4
  have q10 := p1.cell 10
  have q10f := p1.frozen 10
  have qvS : ∀ k, (Value.slice Av s.later.length cv).ownBlock = some k → S k := HK2.out.sv
  have q1 := ((HB1.out.drew.alloc (.cells #[.int .i64 g] 3)).grown hg6 (fun e => by obtain ⟨_, cs, hcs⟩ := HKA.out.sl _ (qvS _ e.symm); exact (HB1.out.drew.alloc (.cells #[.int .i64 g] 3)).ne_ hcs (by decide) rfl)).cell 0
  have q2 := ((HB2.out.drew.alloc (.cells #[.int .i64 g] 3)).grown hg6 (fun e => HN2.out (qvS _ e.symm))).cell 0
  simp only [List.getElem?_toArray, List.getElem?_cons_zero, List.getElem?_cons_succ] at q10 q1 q2
  obtain ⟨Av', cv', hve, _⟩ := owns_form hrow
  have ql := p1.lt
  subst hve
  clear hrow hg6 hnew p1 p2 p3 p4 qvS
  refine hK _ _ (fun _ => ⟨q1, q2, q10⟩) ?_; clear hK K
  iterate 2 (first | refine wpSeq_pureA (v := _) rfl rfl rfl ?_ | refine wpSeq_loadA (v := _) rfl rfl hS rfl ?_)
  refine wpSeq_heavy rfl rfl (fun K hK => ?_); go_simp
  refine hK _ _ (fun h => by cases h) ?_; clear hK K
  refine wpSeq_end ?_
  refine noPanic_normal ?_
  gi_wp2_with fail
  have hgA : Grow W (V.drew.alloc (.cells #[.int .i64 g] 3)) := (HG2.out.drew).alloc _
  exact ⟨_, results_none rfl _ _ _, ⟨_, rfl⟩, _, ⟨_, av, HP2.out⟩, (hgA.mono fun _ _ x => x.elim).trans HP3.out, fun k hk => (HP4.out k hk).imp_right fun h => Nat.le_trans hgA.size h⟩

theorem WkS.lowS {w : World} {base wb M ab : Nat} {fv : Fv} {S : Nat → Prop} {v av : Value} {s : Wk.St} (h : WkS w base wb M ab fv S v av s) {n0 : Nat} (hn : n0 ≤ base) : ∀ k, k < n0 → ¬ mutS wb M ab S k := by
  have hb := h.bs
  rintro k hk (rfl | rfl | rfl | e)
  · omega
  · omega
  · omega
  · have := (h.sl k e).1; omega
theorem fold_pot (gl : List Gl) (hp : ∀ g, (partsOf gl g).length ≤ 1000) (L : Nat) : ∀ (ps : List Prt) (s' : Wk.St), (∀ p ∈ ps, 0 ≤ p.1 ∧ p.1 < gl.length) → Wk.pot gl.length (ps.foldl (fun s p => Wk.visit gl L p.1 s) s') ≤ Wk.pot gl.length s' + ps.length ∧
    (ps.foldl (fun s p => Wk.visit gl L p.1 s) s').out.length + Wk.rest gl.length (ps.foldl (fun s p => Wk.visit gl L p.1 s) s') ≤ s'.out.length + Wk.rest gl.length s' := by
  intro ps
  induction ps with
  | nil => intro s' _; simp
  | cons p ps ih =>
    intro s' h
    obtain ⟨a1, a2⟩ := Wk.visit_pot gl hp L p.1 s' (h p List.mem_cons_self)
    obtain ⟨b1, b2⟩ := ih (Wk.visit gl L p.1 s') fun q hq => h q (List.mem_cons_of_mem _ hq)
    rw [List.foldl_cons, List.length_cons]
    omega
theorem parts_few {w : World} {B : Nat} {A : Option Addr} {gl : List Gl} (hf : FAt w B A gl) (g : Nat) : (partsOf gl g).length ≤ 1000 := by
  cases hgg : gl[g]? with
  | none => simp [partsOf, hgg, psOf]
  | some gg =>
    obtain ⟨_, _, _, _, _, _, _, _, _, h1, _⟩ := hf.parts hgg
    have h2 : (partsOf gl g).length ≤ gg.parts.length := by simp only [partsOf, hgg, psOf, Option.map_some, Option.getD_some]; exact List.length_filter_le _ _
    omega
/-- a round of a loop whose record ends as it began -/
theorem fr_round {T : Nat → Prop} {W' W3 : World} {l : Nat} {r : Loop} (hl : W'.heap[l]? = some (.loop r)) (o : Obj) (h : Fr T (W'.putObj l o) W3) : Fr T W' (W3.putObj l (.loop r)) := by
  have hz : (W'.putObj l o).heap.size = W'.heap.size := by simp
  refine ⟨h.os, h.tape, h.output, by have := h.size; simp only [hz] at this; simpa using this, fun k hk hm => ?_⟩
  by_cases e : k = l
  · subst e
    have hk3 : k < W3.heap.size := by have := h.size; omega
    rw [World.putObj_heap_same hk3]; exact hl.symm
  · rw [World.putObj_heap_other e, h.block k (by omega) hm, World.putObj_heap_other e]
theorem Fr.putNew {T : Nat → Prop} {w w' : World} (h : Fr T w w') {l : Nat} (hl : w.heap.size ≤ l) (o : Obj) : Fr T w (w'.putObj l o) :=
  ⟨h.os, h.tape, h.output, by simpa using h.size, fun k hk hm => (World.putObj_heap_other (by omega)).trans (h.block k hk hm)⟩
theorem WkS.put {w : World} {base wb M ab : Nat} {fv : Fv} {S : Nat → Prop} {v av : Value} {s : Wk.St} (h : WkS w base wb M ab fv S v av s) {l : Nat} (hl : ¬ mutS wb M ab S l) (o : Obj) : WkS (w.putObj l o) base wb M ab fv S v av s :=
  h.keep fun g hg => World.putObj_heap_other (fun e => hl (e ▸ hg))
theorem WkS.cells {w : World} {base wb M ab : Nat} {fv : Fv} {S : Nat → Prop} {v av : Value} {s : Wk.St} (h : WkS w base wb M ab fv S v av s) {k : Nat} (hk : mutS wb M ab S k) (hM : k ≠ M) : ∃ t cs, Blk w k t cs := by
  rcases hk with rfl | rfl | rfl | e
  · exact ⟨_, _, h.blk⟩
  · exact absurd rfl hM
  · exact ⟨_, _, h.abx⟩
  · obtain ⟨_, cs, hb⟩ := h.sl k e; exact ⟨_, _, hb⟩
theorem keeps_of {w w' : World} {base wb M ab : Nat} {fv : Fv} {S : Nat → Prop} {v av : Value} {s : Wk.St} (h : WkS w base wb M ab fv S v av s) (hF : Fr (mutS wb M ab S) w w') {B : Nat} (hM : M < B) : KeepsFrom B w w' :=
  ⟨hF.size, fun k o hB hk ho => (hF.block k (Array.getElem?_eq_some_iff.1 hk).1 (fun e => by
    obtain ⟨t, cs, hb⟩ := h.cells e (by omega)
    have hb : w.heap[k]? = some (.cells cs t) := hb
    rw [hb] at hk; cases hk; cases ho)).trans hk⟩
/-- between two parts -/
def FI (base wb M ab : Nat) (fv : Fv) (S : Nat → Prop) (V : World) (B X : Nat) (gl : List Gl) (L g : Nat) (s3 : Wk.St) (pre : List (PartOf gl g)) (W : World) : Prop :=
  B ≤ W.heap.size ∧ Blk W X 32 fv.cs ∧ ∃ S', AW base wb M ab fv S' ((pre.map (·.1)).foldl (fun s p => Wk.visit gl L p.1 s) s3) W ∧ Fr (mutS wb M ab S) V W ∧ Sub S' S V
theorem FI.own {base wb M ab : Nat} {fv : Fv} {S : Nat → Prop} {V : World} {B X : Nat} {gl : List Gl} {L g : Nat} {s3 : Wk.St} (hV : V.heap.size ≤ B) (hM : M < B) : OwnFrom B (FI base wb M ab fv S V B X gl L g s3) := by
  rintro pre W W' row ⟨hb, hX, S', ⟨v, av, h⟩, hF, hS⟩ hg hr
  obtain ⟨k1, k2⟩ := grown_far hg hr
  refine ⟨Nat.le_trans hb hg.size, k1 _ _ hX rfl, S', ⟨v, av, h.keep fun k hk => ?_⟩, ⟨hg.os.trans hF.os, hg.tape.trans hF.tape, hg.output.trans hF.output, Nat.le_trans hF.size hg.size, fun k hk hm => (k2 k (by omega) (by have := hF.size; omega)).trans (hF.block k hk hm)⟩, hS⟩
  rcases hk with rfl | rfl | rfl | e
  · exact (k1 _ _ h.blk rfl).trans h.blk.symm
  · exact k2 _ hM h.mm.lt
  · exact (k1 _ _ h.abx rfl).trans h.abx.symm
  · obtain ⟨_, cs, hb⟩ := h.sl k e; exact (k1 _ _ hb rfl).trans hb.symm
theorem FI.grow {base wb M ab : Nat} {fv : Fv} {S : Nat → Prop} {V : World} {B X : Nat} {gl : List Gl} {L g : Nat} {s3 : Wk.St} {pre : List (PartOf gl g)} {W W' : World} (h : FI base wb M ab fv S V B X gl L g s3 pre W) (hg : Grow W W') : FI base wb M ab fv S V B X gl L g s3 pre W' := by
  obtain ⟨hb, hX, S', ⟨v, av, h⟩, hF, hS⟩ := h
  exact ⟨Nat.le_trans hb hg.size, hg.blk hX fun x => x, S', ⟨v, av, h.grow hg⟩, hF.trans (hg.mono fun _ _ x => x.elim), hS⟩
set_option maxRecDepth 100000 in
set_option maxHeartbeats 8000000 in
theorem from_succ (base wb M ab n0 : Nat) (fv : Fv) (gl : List Gl) (hn0 : n0 ≤ base) (hfn : fv.n = gl.length) (L : Nat) (hL : L ≤ 15) (ih : FromOk base wb M ab n0 fv gl L) : FromOk base wb M ab n0 fv gl (L + 1) := by
  intro l P1 P2 P3 g S s W h h1 h2 h3 n2 n3 hf hg hpot hout hY
  cases hm : s.met g with
  | true => exact from_met base wb M ab n0 fv gl (L + 1) l P1 P2 P3 g S s W h h1 h2 hg (by have := hf.few; omega) hm
  | false =>
  have hv : Wk.visit gl (L + 1) g s = (partsOf gl g).foldl (fun s p => Wk.visit gl L p.1 s) ((s.mark g).tell g) := by conv => lhs; unfold Wk.visit; rw [if_neg (by rw [hm]; decide), Int.toNat_natCast]
  rw [hv]
  obtain ⟨v, av, hK⟩ := h
  have hfew := hf.few
  have hgi : I64 (g : Int) := by unfold I64; omega
  have hal : Grow W (W.alloc (.cells #[.func (.yield l) #[] #[]] 106)) := (Fr.refl _ _).alloc _
  have hk : ∀ n, (Instr.lookup 49 (.map (some M)) (.int .i64 g) false).run Try.prog ((W.alloc (.cells #[.func (.yield l) #[] #[]] 106)).drewN n) = .ok (.bool false) ((W.alloc (.cells #[.func (.yield l) #[] #[]] 106)).drewN n) := fun n => by
    have := (hK.grow (hal.drewN n)).mm.look g hgi
    rwa [hm] at this
  have e1 := h1.cell 0
  have e2 := h2.cell 0
  have e3 := h3.cell 0
  have e9 := hK.blk.cell 9
  simp only [List.getElem?_toArray, List.getElem?_cons_zero, List.getElem?_cons_succ] at e1 e2 e3 e9
  have l1 := h1.lt
  have l2 := h2.lt
  have l3 := h3.lt
  have l9 := hK.blk.lt
  have hlz : (((L + 1 : Nat) : Int) == 0) = false := by simp; omega
  have HK := Lib.hid hK
  have H1 := Lib.hid h1
  have H2 := Lib.hid h2
  have H3 := Lib.hid h3
  have HN2 := Lib.hid n2
  have HN3 := Lib.hid n3
  have HY := Lib.hid hY
  have HF := Lib.hid hf
  have HM := Lib.hid hm
  have HPOT := Lib.hid hpot
  have HOUT := Lib.hid hout
  have IH := Lib.hid ih
  have HFN := Lib.hid hfn
  clear hK h1 h2 h3 hm hv hY hpot hout n2 n3 hf ih hfn
  refine callsIn_of_wp_marks Try.func44 rfl trivial ?_ rfl
  simp only [Try.ntmps44, List.size_toArray, List.length_cons, List.length_nil, Nat.reduceAdd, Nat.reduceSub, Array.replicate_succ, Array.replicate_zero, List.push_toArray, List.append_toArray, List.nil_append, List.cons_append]
  gi_wp2_with fail
  refine wpIn_wide.2 ?_
  go_quiet (fail)
  have hg2 : Grow W ((W.alloc (.cells #[.func (.yield l) #[] #[]] 106)).drewN nq) := hal.drewN nq
  have HG2 := Lib.hid hg2
  have HK2 := Lib.hid (HK.out.grow hg2)
  have HB1 := Lib.hid (hg2.blk H1.out fun x => x)
  have HB2 := Lib.hid (hg2.blk H2.out fun x => x)
  have HB3 := Lib.hid (hg2.blk H3.out fun x => x)
  have HBY : Hid (Blk ((W.alloc (.cells #[.func (.yield l) #[] #[]] 106)).drewN nq) W.heap.size 106 #[.func (.yield l) #[] #[]]) := Lib.hid (Blk.new _ _ _)
  have b1 := HB1.out.cell 0
  have b2 := HB2.out.cell 0
  have b3 := HB3.out.cell 0
  have by0 := HBY.out.cell 0
  have b9 := HK2.out.blk.cell 9
  simp only [List.getElem?_toArray, List.getElem?_cons_zero, List.getElem?_cons_succ] at b1 b2 b3 b9 by0
  have z1 := HB1.out.lt
  have z2 := HB2.out.lt
  have z3 := HB3.out.lt
  have zy := HBY.out.lt
  have z9 := HK2.out.blk.lt
  clear hg2 hal hk e1 e2 e3 e9 l1 l2 l3 l9
  generalize (W.alloc (.cells #[.func (.yield l) #[] #[]] 106)).drewN nq = V at *
  obtain ⟨w2, m1, m2, m3, m4⟩ := (HK2.out.grow (w' := V.drew) ((Fr.refl _ _).drew)).mm.store g hgi true
  have hKm : WkS w2 base wb M ab fv S v av (s.mark g) := (HK2.out.grow (w' := V.drew) ((Fr.refl _ _).drew)).marked m2 m3
  have hKC : ∀ (b : Nat) (t : TypeId) (cs : Array Value), Blk V b t cs → Blk w2 b t cs := fun b t cs hb => (m3.block b hb.lt (fun e => by injection e with e; exact HK2.out.mm.mne hb e)).trans hb
  have HKM := Lib.hid hKm
  have HC1 := Lib.hid (hKC _ _ _ HB1.out)
  have HC2 := Lib.hid (hKC _ _ _ HB2.out)
  have HC3 := Lib.hid (hKC _ _ _ HB3.out)
  have HCY := Lib.hid (hKC _ _ _ HBY.out)
  have HFW : Hid (Fr (mutS wb M ab S) W w2) := Lib.hid ((HG2.out.mono fun _ _ x => x.elim).trans ⟨m3.os, m3.tape, m3.output, m3.size, fun k hk hm => m3.block k hk fun e => hm (by injection e with e; exact .inr (.inl e))⟩)
  have HFV : Hid (Fr (mutS wb M ab S) V w2) := Lib.hid ⟨m3.os, m3.tape, m3.output, m3.size, fun k hk hm => m3.block k hk fun e => hm (by injection e with e; exact .inr (.inl e))⟩
  have M3 := Lib.hid m3
  have zc := HCY.out.cell 0
  have zc2 := HC2.out.cell 0
  simp only [List.getElem?_toArray, List.getElem?_cons_zero, List.getElem?_cons_succ] at zc zc2
  clear hKm hKC m2 m3 m4
  gi_wp2_with fail
  refine wpIn_wide.2 ?_
  refine wp_region_noPanic ?_
  have hS : V.drew.cell? ⟨P1, 0, none⟩ = some (.pointer (some ⟨wb, 0, none⟩)) ∧ V.drew.cell? ⟨P2, 0, none⟩ = some (.int .i64 g) ∧ V.drew.cell? ⟨wb, 9, none⟩ = some (.map (some M)) := ⟨b1, b2, b9⟩
  refine wp_region_seqT (fun i => !([5] : List Nat).contains i) (fun i => ([0, 3, 4] : List Nat).contains i) (fun i => ([] : List Nat).contains i) [0, 1, 2, 3, 4, 5] (fun wq : World => wq.cell? ⟨P1, 0, none⟩ = some (.pointer (some ⟨wb, 0, none⟩)) ∧ wq.cell? ⟨P2, 0, none⟩ = some (.int .i64 g) ∧ wq.cell? ⟨wb, 9, none⟩ = some (.map (some M))) (by kernel_rfl) (by kernel_rfl) (by kernel_rfl) (by kernel_rfl) ?_
  iterate 5 (first | refine wpSeq_pureA (v := _) rfl rfl rfl ?_ | refine wpSeq_loadA (v := _) rfl rfl hS rfl ?_)
  refine wpSeq_heavy rfl rfl (fun K hK => ?_); go_simp
  refine hK _ _ (fun h => by cases h) ?_; clear hK K
  refine wpSeq_end ?_
  refine noPanic_normal ?_
  clear b1 b2 b3 b9 by0 m1 hS
  obtain ⟨fn, tmps, assign, body, hy, hR⟩ := HY.out 7 S (s.mark g) g w2 ⟨v, av, HKM.out⟩ (Sub.refl _ _) HFW.out (by have := HOUT.out; show s.out.length ≤ 1000; omega) hgi
  have HR := Lib.hid hR
  clear hR
  gi_wp2_with fail
  refine HR.out.mono ?_
  rintro e W3 ⟨rfl, S3, hA3, hF3, hS3⟩
  have hFV3 : Fr (mutS wb M ab S) V W3 := HFV.out.trans hF3
  obtain ⟨v3, av3, hK3⟩ := hA3
  obtain ⟨n1, n2, n3, n4, n5, n6⟩ := HK2.out.ne
  have hX1 : ∀ (b : Nat) (t : TypeId) (cs : Array Value), Blk V b t cs → ¬ mutS wb M ab S b → Blk W3 b t cs := fun b t cs hb hm => (hFV3.block b hb.lt hm).trans hb
  have nm1 : ¬ mutS wb M ab S P1 := by
    rintro (e | e | e | e)
    · exact HB1.out.ne_ HK2.out.blk (by decide) e
    · exact HK2.out.mm.mne HB1.out e
    · exact HB1.out.ne_ HK2.out.abx (by decide) e
    · obtain ⟨_, cs, hb⟩ := HK2.out.sl _ e; exact HB1.out.ne_ hb (by decide) rfl
  have nm2 : ¬ mutS wb M ab S P2 := by
    rintro (e | e | e | e)
    · exact HB2.out.ne_ HK2.out.blk (by decide) e
    · exact HK2.out.mm.mne HB2.out e
    · exact HB2.out.ne_ HK2.out.abx (by decide) e
    · exact HN2.out e
  have nm3 : ¬ mutS wb M ab S P3 := by
    rintro (e | e | e | e)
    · exact HB3.out.ne_ HK2.out.blk (by decide) e
    · exact HK2.out.mm.mne HB3.out e
    · exact HB3.out.ne_ HK2.out.abx (by decide) e
    · exact HN3.out e
  have nmy : ¬ mutS wb M ab S W.heap.size := by
    rintro (e | e | e | e)
    · exact HBY.out.ne_ HK2.out.blk (by decide) e
    · exact HK2.out.mm.mne HBY.out e
    · exact HBY.out.ne_ HK2.out.abx (by decide) e
    · obtain ⟨_, cs, hb⟩ := HK2.out.sl _ e; exact HBY.out.ne_ hb (by decide) rfl
  have HD1 := Lib.hid (hX1 _ _ _ HB1.out nm1)
  have HD2 := Lib.hid (hX1 _ _ _ HB2.out nm2)
  have HK3 := Lib.hid hK3
  have HFV3 := Lib.hid hFV3
  have HS3 := Lib.hid hS3
  have HNM := Lib.hid (And.intro nm1 (And.intro nm3 nmy))
  have d1 := HD1.out.cell 0
  have d2 := HD2.out.cell 0
  have f0 := HK3.out.blk.cell 0
  have f1 := HK3.out.blk.cell 1
  have f2 := HK3.out.blk.cell 2
  have f3 := HK3.out.blk.cell 3
  have f4 := HK3.out.blk.cell 4
  have f5 := HK3.out.blk.cell 5
  have f6 := HK3.out.blk.cell 6
  have f7 := HK3.out.blk.cell 7
  have f8 := HK3.out.blk.cell 8
  simp only [List.getElem?_toArray, List.getElem?_cons_zero, List.getElem?_cons_succ] at d1 d2 f0 f1 f2 f3 f4 f5 f6 f7 f8
  have ld1 := HD1.out.lt
  have ld2 := HD2.out.lt
  have lf := HK3.out.blk.lt
  clear hX1 hFV3 hF3 hS3 hK3 nm1 nm2 nm3 nmy n1 n2 n3 n4 n5 n6 zc zc2 z1 z2 z3 zy z9 hy
  gi_wp2_with fail
  refine wpIn_wide.2 ?_
  refine wp_region_noPanic ?_
  go_still_tail 5, (by kernel_rfl)
  change wpList _ _ _ _ _ W3.drew
  go_wp2_with fail
  refine (parts_any fv g _).mono ?_
  rintro e w' ⟨rfl, rfl⟩
  go_wp2_with fail
  refine noPanic_normal ?_
  gi_wp2_with fail
  have hG5 : Grow W3 ((W3.alloc (.cells fv.cs 32)).alloc (.cells #[.int .i64 g] 3)).drew := (((Fr.refl _ _).alloc _).alloc _).drew
  have hX : Blk ((W3.alloc (.cells fv.cs 32)).alloc (.cells #[.int .i64 g] 3)).drew W3.heap.size 32 fv.cs := ((Blk.new _ _ _).alloc _).drew
  have hY : Blk ((W3.alloc (.cells fv.cs 32)).alloc (.cells #[.int .i64 g] 3)).drew (W3.heap.size + 1) 3 #[.int .i64 g] := (Blk.new_at _ _ _ (by simp)).drew
  have hz5 : ((W3.alloc (.cells fv.cs 32)).alloc (.cells #[.int .i64 g] 3)).drew.heap.size = W3.heap.size + 2 := by simp
  generalize ((W3.alloc (.cells fv.cs 32)).alloc (.cells #[.int .i64 g] 3)).drew = W5 at *
  have HG5 := Lib.hid hG5
  have HZ5 := Lib.hid hz5
  have h0 : FI base wb M ab fv S V W5.heap.size W3.heap.size gl L g ((s.mark g).tell g) [] W5 := ⟨Nat.le_refl _, hX, S3, ⟨v3, av3, HK3.out.grow hG5⟩, HFV3.out.trans (hG5.mono fun _ _ x => x.elim), fun k hk => (HS3.out k hk).imp_right (Nat.le_trans HFV.out.size)⟩
  have hbn : n0 ≤ V.heap.size := by have := HK2.out.bs.1; have := HK2.out.blk.lt; omega
  have hF5 : FAt W5 n0 fv.A gl := HF.out.below (((HG2.out.mono fun _ _ x => x.elim).trans (HFV3.out.trans (hG5.mono fun _ _ x => x.elim))).below (by have := HK.out.bs.1; have := HK.out.blk.lt; omega) (HK2.out.lowS hn0)) (Nat.le_refl _)
  refine wpIn_rangeFunc_ownH (α := PartOf gl g) rfl (by omega) (gf := 53) (lb := #[.pointer (some ⟨W3.heap.size, 0, none⟩), .pointer (some ⟨W3.heap.size + 1, 0, none⟩)]) rfl trivial (enters_of Try.func53 (by kernel_rfl) rfl)
    (parts_stops 7 W3.heap.size (W3.heap.size + 1) n0 fv gl g (by omega) W5 hX (by rw [hY.cell]; rfl) HFN.out hF5 (by have := HFV3.out.size; omega) hg) kpP_t (fun W l o o' h1 _ _ _ => kpP_put W l o' (by have := HFV3.out.size; omega) (by omega)) (Below.refl _ _) (fun _ => rfl)
    (FI base wb M ab fv S V W5.heap.size W3.heap.size gl L g ((s.mark g).tell g)) (fun _ _ _ => False) (FI.own (by have := HFV3.out.size; omega) (by have := HK3.out.mm.lt; omega)) (fun _ _ _ _ _ hs _ _ => hs) h0
    (fun x a' Wx => ∃ pb, a' = { tmps := #[.func (.yield l) #[] #[], .pointer (some ⟨P1, 0, none⟩), .pointer (some ⟨P2, 0, none⟩), .pointer (some ⟨P3, 0, none⟩), .pointer (some ⟨W.heap.size, 0, none⟩), .pointer (some ⟨pb, 0, none⟩), undef, .pointer (some ⟨wb, 0, none⟩), .pointer (some ⟨wb, 0, none⟩), .pointer (some ⟨wb, 9, none⟩), .map (some M), .int .i64 g, .bool false, .int .i64 ((L : Int) + 1), .bool false, undef, undef, undef, undef, undef, undef, undef, undef, undef, undef, .pointer (some ⟨wb, 0, none⟩), .pointer (some ⟨wb, 0, none⟩), .pointer (some ⟨wb, 9, none⟩), .map (some M), .int .i64 g, .func (.yield l) #[] #[], .int .i64 g, .bool true, .bool false, .pointer (some ⟨wb, 0, none⟩), .pointer (some ⟨wb, 0, none⟩), .pointer (some ⟨wb, 0, none⟩), .agg fv.cs, .int .i64 g, .func (.func 53) #[] #[.pointer (some ⟨W3.heap.size, 0, none⟩), .pointer (some ⟨W3.heap.size + 1, 0, none⟩)], pv x.1, undef, undef, undef, undef, undef, undef, undef, undef, undef, undef, undef], defers := [] } ∧ Blk Wx pb 48 #[.int .i64 x.1.1, .int .i64 x.1.2.1, .int .i64 x.1.2.2]) ?hAx ?assign ?body ?done ?stop
  case hAx =>
    rintro x a' _ Wa Wb row ⟨pb, e, hb⟩ hg hr
    exact ⟨pb, e, (grown_far hg hr).1 _ _ hb rfl⟩
  case assign =>
    intro l pre x Wa K hI hK2
    have HKA := Lib.hid hK2
    have HI := Lib.hid hI
    clear hK2 hI h0 hX hY hF5 hG5 hz5
    obtain ⟨⟨xg, xx, xy⟩, hxm⟩ := x
    unfold pv
    gi_wp2
    exact HKA.out _ _ ((KeepsOthers.alloc _ _).from _) (kpP_alloc _ _ (by have := HI.out.1; have := HFV3.out.size; have := HZ5.out; omega) (by have := HI.out.1; have := HZ5.out; omega)) (HI.out.grow ((Fr.refl _ _).alloc _)) ⟨Wa.heap.size, rfl, Blk.new _ _ _⟩
  case body =>
    rintro l2 pre ⟨⟨pg, px, py⟩, hxm⟩ a' Wb hl2 ⟨r0, hr0⟩ hI ⟨pb, rfl, hpb⟩ hlen
    obtain ⟨hbz, hXb, S4, ⟨v4, av4, hK4⟩, hF4, hS4⟩ := hI
    have hm := (mem_psOf hxm).2
    simp only at hm
    obtain ⟨pn, rfl⟩ := Int.eq_ofNat_of_zero_le hm.1
    have hfp := fold_pot gl (parts_few HF.out) L (pre.map (·.1)) ((s.mark g).tell g) fun p hp => by
      obtain ⟨q, _, rfl⟩ := List.mem_map.1 hp
      exact (mem_psOf q.2).2
    have hrm := Wk.rest_mark (n := gl.length) (s := s) hg HM.out
    have hpot4 : Wk.pot gl.length ((pre.map (·.1)).foldl (fun s p => Wk.visit gl L p.1 s) ((s.mark g).tell g)) ≤ 50000 ∧ ((pre.map (·.1)).foldl (fun s p => Wk.visit gl L p.1 s) ((s.mark g).tell g)).out.length + Wk.rest gl.length ((pre.map (·.1)).foldl (fun s p => Wk.visit gl L p.1 s) ((s.mark g).tell g)) ≤ 1000 := by
      have q1 := HPOT.out
      have q2 := HOUT.out
      have q3 := parts_few HF.out g
      rw [List.length_map] at hfp
      have e1 : Wk.rest gl.length ((s.mark (g : Int)).tell (g : Int)) = Wk.rest gl.length (s.mark g) := rfl
      have e2 : ((s.mark (g : Int)).tell (g : Int)).later = s.later := rfl
      have e3 : ((s.mark (g : Int)).tell (g : Int)).out.length = s.out.length + 1 := by simp [Wk.St.mark, Wk.St.tell]
      refine ⟨Nat.le_trans hfp.1 ?_, Nat.le_trans hfp.2 ?_⟩
      · unfold Wk.pot at q1 ⊢
        rw [e1, e2]
        omega
      · rw [e1, e3]; omega
    obtain ⟨s4, hs4⟩ : ∃ s4, (pre.map (·.1)).foldl (fun s p => Wk.visit gl L p.1 s) ((s.mark g).tell g) = s4 := ⟨_, rfl⟩
    rw [hs4] at hK4 hpot4
    have HS4 := Lib.hid hs4
    have HXB := Lib.hid hXb
    clear hXb
    have HPO4 := Lib.hid hpot4
    have HK4 := Lib.hid hK4
    have HF4 := Lib.hid hF4
    have HSS4 := Lib.hid hS4
    have HPB := Lib.hid hpb
    have HR0 := Lib.hid hr0
    have c1 := Lib.hid (hF4.blk HB1.out HNM.out.1)
    have c3 := Lib.hid (hF4.blk HB3.out HNM.out.2.1)
    have cy := Lib.hid (hF4.blk HBY.out HNM.out.2.2)
    have e1 := c1.out.cell 0
    have e3 := c3.out.cell 0
    have ep := hpb.cell 0
    simp only [List.getElem?_toArray, List.getElem?_cons_zero] at e1 e3 ep
    have l1 := c1.out.lt
    have l3 := c3.out.lt
    have lp := hpb.lt
    clear hfp hrm hpot4 hs4 hK4 hF4 hS4 hpb hr0 h0 hX hY hF5 hG5 hz5 hbn d1 d2 f0 f1 f2 f3 f4 f5 f6 f7 f8 ld1 ld2 lf
    gi_wp2_with fail
    refine ⟨trivial, ?_⟩
    refine (CallsIn.inRound l2 (callsIn_wide.2 (from_any wb pn L Wb))).mono ?_
    rintro e w' ⟨rfl, rfl⟩
    gi_wp2_with fail
    have hG7 : Grow Wb (((Wb.alloc (.cells #[.pointer (some ⟨wb, 0, none⟩)] 105)).alloc (.cells #[.int .i64 pn] 3)).alloc (.cells #[.int .i64 L] 3)) := (((Fr.refl _ _).alloc _).alloc _).alloc _
    have q1 : Blk (((Wb.alloc (.cells #[.pointer (some ⟨wb, 0, none⟩)] 105)).alloc (.cells #[.int .i64 pn] 3)).alloc (.cells #[.int .i64 L] 3)) Wb.heap.size 105 #[.pointer (some ⟨wb, 0, none⟩)] := ((Blk.new _ _ _).alloc _).alloc _
    have q2 : Blk (((Wb.alloc (.cells #[.pointer (some ⟨wb, 0, none⟩)] 105)).alloc (.cells #[.int .i64 pn] 3)).alloc (.cells #[.int .i64 L] 3)) (Wb.heap.size + 1) 3 #[.int .i64 pn] := (Blk.new_at _ _ _ (by simp)).alloc _
    have q3 : Blk (((Wb.alloc (.cells #[.pointer (some ⟨wb, 0, none⟩)] 105)).alloc (.cells #[.int .i64 pn] 3)).alloc (.cells #[.int .i64 L] 3)) (Wb.heap.size + 1 + 1) 3 #[.int .i64 L] := Blk.new_at _ _ _ (by simp)
    have hz7 : (((Wb.alloc (.cells #[.pointer (some ⟨wb, 0, none⟩)] 105)).alloc (.cells #[.int .i64 pn] 3)).alloc (.cells #[.int .i64 L] 3)).heap.size = Wb.heap.size + 3 := by simp
    generalize (((Wb.alloc (.cells #[.pointer (some ⟨wb, 0, none⟩)] 105)).alloc (.cells #[.int .i64 pn] 3)).alloc (.cells #[.int .i64 L] 3)) = W7 at *
    have hr7 : W7.heap[l2]? = some (.loop r0) := (hG7.block l2 (Array.getElem?_eq_some_iff.1 HR0.out).1 fun x => x).trans HR0.out
    refine rangeN rfl hr7 (by omega) (gf := 44) (lb := #[.pointer (some ⟨Wb.heap.size, 0, none⟩), .pointer (some ⟨Wb.heap.size + 1, 0, none⟩), .pointer (some ⟨Wb.heap.size + 1 + 1, 0, none⟩)]) rfl trivial (enters_of Try.func44 (by kernel_rfl) rfl) ?_
    intro fn7 hfn7
    generalize hr8 : lrec fn7 _ _ _ _ _ = r8
    have hG8 : Grow W7 (W7.alloc (.loop r8)) := (Fr.refl _ _).alloc _
    have hl8 : (W7.alloc (.loop r8)).heap[W7.heap.size]? = some (.loop r8) := World.alloc_heap_new _ _
    have hGb8 : Grow Wb (W7.alloc (.loop r8)) := hG7.trans hG8
    have hK8 : WkS (W7.alloc (.loop r8)) base wb M ab fv S4 v4 av4 s4 := HK4.out.grow hGb8
    have hFb8 : Fr (mutS wb M ab S) W (W7.alloc (.loop r8)) := (HG2.out.mono fun _ _ x => x.elim).trans (HF4.out.trans (hGb8.mono fun _ _ x => x.elim))
    have hnl : ¬ mutS wb M ab S4 W7.heap.size := fun e => by
      have h1 := HK4.out.mlt _ e
      omega
    have hn4 : ∀ k, S4 k → k < Wb.heap.size := fun k e => HK4.out.mlt k (.inr (.inr (.inr e)))
    have hSS : Sub S4 S W := fun k e => (HSS4.out k e).imp_right (Nat.le_trans HG2.out.size)
    refine (CallsIn.inRound l2 (callsIn_wide.2 (callsIn_wide.1 (IH.out W7.heap.size Wb.heap.size (Wb.heap.size + 1) (Wb.heap.size + 1 + 1) pn S4 s4 (W7.alloc (.loop r8)) ⟨v4, av4, hK8⟩ (hG8.blk q1 fun x => x) (hG8.blk q2 fun x => x) (hG8.blk q3 fun x => x) (fun e => by have := hn4 _ e; omega) (fun e => by have := hn4 _ e; omega)
      (HF.out.below (hFb8.below (by have := HK.out.bs.1; have := HK.out.blk.lt; omega) (HK.out.lowS hn0)) (Nat.le_refl _)) (by have := hm.2; omega) HPO4.out.1 HPO4.out.2 ?_)))).mono ?_
    · intro m S' s' x W' hA hsub hFr hlen' hx
      obtain ⟨v', av', hK'⟩ := hA
      have hl' : W'.heap[W7.heap.size]? = some (.loop r8) := (hFr.block _ (by simp) hnl).trans hl8
      subst hr8
      have hnl' : ¬ mutS wb M ab S' W7.heap.size := fun e => by
        obtain ⟨t, cs, hb⟩ := hK'.cells e (by have := HK4.out.mm.lt; omega)
        have hb : W'.heap[W7.heap.size]? = some (.cells cs t) := hb
        rw [hl'] at hb; cases hb
      have hny : ¬ mutS wb M ab S4 W.heap.size := by
        rintro (e | e | e | e)
        · exact HNM.out.2.2 (.inl e)
        · exact HNM.out.2.2 (.inr (.inl e))
        · exact HNM.out.2.2 (.inr (.inr (.inl e)))
        · rcases HSS4.out _ e with e | e
          · exact HNM.out.2.2 (.inr (.inr (.inr e)))
          · have := HBY.out.lt; omega
      have hy' : Blk W' W.heap.size 106 #[.func (.yield l) #[] #[]] := hFr.blk (hGb8.blk cy.out fun x => x) hny
      have HL' := Lib.hid hl'
      refine yieldAt_round hl' hfn7 rfl ?_
      have HKP := Lib.hid hK'
      have HFR := Lib.hid hFr
      have HSB := Lib.hid hsub
      have HNL := Lib.hid hnl'
      have HZ7 := Lib.hid hz7
      clear hK' hFr hsub hnl' hl' hz7
      gi_wp2_with fail
      refine ⟨HL'.out, ?_⟩
      have hyp : ∀ o, Blk (W'.putObj W7.heap.size o) W.heap.size 106 #[.func (.yield l) #[] #[]] := fun o => (World.putObj_heap_other (by have := cy.out.lt; have := HZ7.out; omega)).trans hy'
      have hKp : ∀ o, WkS (W'.putObj W7.heap.size o) base wb M ab fv S' v' av' s' := fun o => HKP.out.put HNL.out o
      have hFp : ∀ o, Fr (mutS wb M ab S) W (W'.putObj W7.heap.size o) := fun o => (fr_then hFb8 HFR.out hSS).putNew (by have := HG2.out.size; have := HF4.out.size; have := HZ7.out; omega) o
      have hlb : ∀ o, (W'.putObj W7.heap.size o).heap[W7.heap.size]? = some o := fun o => World.putObj_heap_same (Array.getElem?_eq_some_iff.1 HL'.out).1
      have hfr : ∀ o T W3, Fr T (W'.putObj W7.heap.size o) W3 → Fr T W' (W3.putObj W7.heap.size (.loop (lrec fn7 _ _ _ _ _))) := fun o T W3 h => fr_round HL'.out o h
      have hszp : ∀ o, (W'.putObj W7.heap.size o).heap.size = W'.heap.size := fun o => by simp
      generalize hOb : Obj.loop { state := LoopState.busy, pending := none, fn := fn7, tmps := _, params := _, assign := _, body := _, defers := _ } = ob
      generalize hWp : W'.putObj W7.heap.size ob = Wp
      replace hyp : Blk Wp W.heap.size 106 #[.func (.yield l) #[] #[]] := by rw [← hWp]; exact hyp _
      replace hKp : WkS Wp base wb M ab fv S' v' av' s' := by rw [← hWp]; exact hKp _
      replace hFp : Fr (mutS wb M ab S) W Wp := by rw [← hWp]; exact hFp _
      replace hszp : Wp.heap.size = W'.heap.size := by rw [← hWp]; exact hszp _
      replace hfr := fun T W3 (h : Fr T Wp W3) => hfr ob T W3 (by rw [hWp]; exact h)
      replace hlb : Wp.heap[W7.heap.size]? = some ob := by rw [← hWp]; exact hlb _
      have HOB := Lib.hid hOb
      have hSW : Sub S' S W := hSS.trans HSB.out (by have := HG2.out.size; have := HF4.out.size; have := HZ7.out; simp; omega)
      have yp := hyp.cell 0
      have ylt := hyp.lt
      simp only [List.getElem?_toArray, List.getElem?_cons_zero] at yp
      have HYP := Lib.hid hyp
      have HKPP := Lib.hid hKp
      have HFP := Lib.hid hFp
      have HLB := Lib.hid hlb
      have HFRR := Lib.hid hfr
      have HSZP := Lib.hid hszp
      have HSW := Lib.hid hSW
      clear hyp hKp hFp hlb hfr hszp hSW hWp hOb
      obtain ⟨fnY, tmpsY, assignY, bodyY, hyY, hRY⟩ := HY.out (m - 1) S' s' x Wp ⟨v', av', HKPP.out⟩ HSW.out HFP.out hlen' hx
      have HRY := Lib.hid hRY
      clear hRY
      gi_wp2_with fail
      refine ⟨fun h => by simp [Fence.wide] at h, ?_⟩
      refine RoundIn.mono (show RoundIn (Fence.wide.inRound W7.heap.size) (m - 1) _ _ _ _ _ _ _ _ from HRY.out) ?_
      rintro e W8 ⟨rfl, S8, ⟨v8, av8, hK8'⟩, hF8, hS8⟩
      have hl9 : W8.heap[W7.heap.size]? = some ob := (hF8.block _ (Array.getElem?_eq_some_iff.1 HLB.out).1 HNL.out).trans HLB.out
      have hnl8 : ¬ mutS wb M ab S8 W7.heap.size := fun e => by
        rcases e with e | e | e | e
        · exact HNL.out (.inl e)
        · exact HNL.out (.inr (.inl e))
        · exact HNL.out (.inr (.inr (.inl e)))
        · rcases hS8 _ e with e | e
          · exact HNL.out (.inr (.inr (.inr e)))
          · have := (Array.getElem?_eq_some_iff.1 HLB.out).1; omega
      have hK9 : ∀ o, WkS (W8.putObj W7.heap.size o) base wb M ab fv S8 v8 av8 (s'.tell x) := fun o => hK8'.put hnl8 o
      have hF9 := HFRR.out _ _ hF8
      have hS9 : Sub S8 S' W' := fun k e => (hS8 k e).imp_right fun h => by have := HSZP.out; omega
      have HL9 := Lib.hid hl9
      have HK9 := Lib.hid hK9
      have HF9 := Lib.hid hF9
      have HS9 := Lib.hid hS9
      clear hl9 hnl8 hK9 hF9 hS9 hS8 hF8 hK8'
      gi_wp2_with fail
      exact ⟨HL9.out.trans (by rw [← HOB.out]), S8, ⟨v8, av8, HK9.out _⟩, HF9.out, HS9.out⟩
    · rintro e W2 ⟨⟨ve, rfl⟩, S5, ⟨v5, av5, hK5⟩, hF5', hS5⟩
      refine ⟨⟨ve, rfl⟩, (hF5'.block _ (by simp) hnl).trans hl8, fun o => ?_⟩
      have hnl5 : ¬ mutS wb M ab S5 W7.heap.size := fun e => by
        obtain ⟨t, cs, hb⟩ := hK5.cells e (by have := HK4.out.mm.lt; omega)
        have hb : W2.heap[W7.heap.size]? = some (.cells cs t) := hb
        rw [(hF5'.block _ (by simp) hnl).trans hl8] at hb; cases hb
      have hFc : Fr (mutS wb M ab S4) Wb (W2.putObj W7.heap.size o) := ((hGb8.mono fun _ _ x => x.elim).trans hF5').putNew (by omega) o
      have HFC := Lib.hid hFc
      have HK5 := Lib.hid (hK5.put hnl5 o)
      have e5 : ((pre ++ [(⟨((pn : Int), px, py), hxm⟩ : PartOf gl g)]).map (·.1)).foldl (fun s p => Wk.visit gl L p.1 s) ((s.mark g).tell g) = Wk.visit gl L pn s4 := by
        rw [List.map_append, List.foldl_append, HS4.out]; rfl
      have hb5 : n0 ≤ Wb.heap.size := by have := HK.out.bs.1; have := HK.out.blk.lt; have := HG2.out.size; have := HF4.out.size; omega
      have hX5 : ¬ mutS wb M ab S4 W3.heap.size := fun e => by
        rcases e with e | e | e | e
        · have := HK3.out.blk.lt; omega
        · have := HK3.out.mm.lt; omega
        · have := HK3.out.abx.lt; omega
        · obtain ⟨_, cs, hb⟩ := HK4.out.sl _ e; exact HXB.out.ne_ hb (by decide) rfl
      refine ⟨keeps_of HK4.out HFC.out (by have := HK3.out.mm.lt; have := HZ5.out; omega), ⟨HFC.out.below hb5 (HK4.out.lowS hn0), HFC.out.block _ HXB.out.lt hX5⟩, Nat.le_trans hbz HFC.out.size, HFC.out.blk HXB.out hX5, S5, ⟨v5, av5, ?_⟩, fr_then HF4.out HFC.out HSS4.out, HSS4.out.trans (fun k e => (hS5 k e).imp_right fun h => by have := hz7; simp at h; omega) HF4.out.size⟩
      rw [e5]; exact HK5.out
  case done =>
    intro D xs Wd hD hxs hI hDd
    obtain ⟨hbd, _, S6, ⟨v6, av6, hK6⟩, hF6, hS6⟩ := hI
    rw [hxs] at hK6
    have hnD : ¬ mutS wb M ab S6 D := fun e => by
      obtain ⟨t, cs, hb⟩ := hK6.cells e (by have := HK3.out.mm.lt; omega)
      have hb : Wd.heap[D]? = some (.cells cs t) := hb
      rw [hDd] at hb; cases hb
    refine ⟨by simp, .inl ⟨D, _, rfl, run_takeDeferred hDd, ?_⟩⟩
    exact ⟨_, results_none rfl _ _ _, ⟨_, rfl⟩, S6, ⟨v6, av6, hK6.put hnD _⟩, ((HG2.out.mono fun _ _ x => x.elim).trans hF6).putNew (by have := HG2.out.size; have := HFV3.out.size; omega) _, fun k e => (hS6 k e).imp_right (Nat.le_trans HG2.out.size)⟩
  case stop =>
    intro D c pre Wd _ _ h
    exact h.elim
theorem from_all (base wb M ab n0 : Nat) (fv : Fv) (gl : List Gl) (hn0 : n0 ≤ base) (hfn : fv.n = gl.length) : ∀ (L : Nat), L ≤ 16 → FromOk base wb M ab n0 fv gl L
  | 0, _ => from_zero base wb M ab n0 fv gl
  | L + 1, h => from_succ base wb M ab n0 fv gl hn0 hfn L (by omega) (from_all base wb M ab n0 fv gl hn0 hfn L (by omega))
end Go.Proofs.Ytoklllbaihccnaa

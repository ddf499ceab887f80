/- compose.All: its contract. Expanded from XCoL.src by expand.py. -/
import Derived.Test.YtoklllbaihccnaaCoK
import Derived.Test.YtoklllbaihccnaaCoH
import Derived.Deep.LoopGhost
import Derived.Deep.CutBlock
set_option linter.unusedVariables false
set_option linter.unusedSimpArgs false
namespace Go.Proofs.Ytoklllbaihccnaa
open Go.RowKit Go.Shelf
attribute [local go_sem] Oper.semAt_some
namespace Wk
def St.pop (s : St) : St := { s with later := s.later.take (s.later.length - 1) }
def walk (gl : List Gl) : Nat → St → St
  | 0, s => s
  | f + 1, s => if s.later = [] then s else walk gl f (visit gl 16 (Hp.at_ s.later (s.later.length - 1)) s.pop)
def start (g : Int) : St := ⟨fun _ => false, [g], []⟩
def all (gl : List Gl) (g : Int) : List Int := if thereB gl.length g = true then Is.sort (walk gl (1 + 1000 * gl.length) (start g)).out else []
theorem visit_pot1 (gl : List Gl) (hp : ∀ g, (partsOf gl g).length ≤ 1000) (L : Nat) (g : Nat) (s : St) (hg : g < gl.length) : pot gl.length (visit gl (L + 1) g s) ≤ pot gl.length s := by
  unfold visit
  split
  · exact Nat.le_refl _
  · rename_i hm
    have hr := rest_mark (n := gl.length) (s := s) (g := g) hg (by simpa using hm)
    have hf := fold_pot gl hp L (partsOf gl g) ((s.mark g).tell g) fun p hp => (mem_psOf hp).2
    have h3 := hp g
    have e1 : rest gl.length ((s.mark (g : Int)).tell (g : Int)) = rest gl.length (s.mark g) := rfl
    have e2 : ((s.mark (g : Int)).tell (g : Int)).later = s.later := rfl
    have h1 := hf.1
    simp only [Int.toNat_natCast]
    unfold pot at h1 ⊢
    rw [e1, e2] at h1
    omega
end Wk
theorem owns_take {w : World} {base n k c : Nat} {A : Option Addr} {t : TypeId} {xs : List Value} (h : w.ownsRow base t 1 (.slice A n c) n xs) (hk : k ≤ n) (h0 : 0 < n) : w.ownsRow base t 1 (.slice A k c) k (xs.take k) := by
  rcases h.2 with ⟨_, e⟩ | ⟨g, cap, cur, hv, hb, hh, h1, h2, h3, h4⟩
  · omega
  · injection hv with e1 e2 e3
    subst e1; subst e3
    refine ⟨by have := h.1; simp; omega, .inr ⟨g, c, cur, rfl, hb, hh, by omega, h2, h3, ?_⟩⟩
    rw [← h4, List.take_take]
    congr 1
    omega
section
variable {w w' : World} {base wb M ab : Nat} {fv : Fv} {S : Nat → Prop} {v av : Value} {s : Wk.St}
/-- the last of those for later is taken off -/
theorem WkS.popped {A : Option Addr} {n c : Nat} (h : WkS w base wb M ab fv S (.slice A (n + 1) c) av s) (hn : s.later.length = n + 1) :
    WkS (w.setCell ⟨wb, 10, none⟩ (.slice A n c)) base wb M ab fv S (.slice A n c) av s.pop ∧ Fr (mutS wb M ab S) w (w.setCell ⟨wb, 10, none⟩ (.slice A n c)) := by
  obtain ⟨n1, n2, n3, n4, n5, n6⟩ := h.ne
  have hob : (Value.slice A n c).ownBlock = (Value.slice A (n + 1) c).ownBlock := by cases A <;> rfl
  have hk : ∀ g, g ≠ wb → (w.setCell ⟨wb, 10, none⟩ (.slice A n c)).heap[g]? = w.heap[g]? := fun g hne => Below.heap_setCell _ _ _ _ hne
  have hrow := h.row
  rw [hn] at hrow
  have ht := owns_take hrow (k := n) (by omega) (by omega)
  have e : s.pop.later = s.later.take n := by simp [Wk.St.pop, hn]
  have e2 : ints s.pop.later = (ints s.later).take n := by rw [e]; simp [ints, List.map_take]
  have e3 : s.pop.later.length = n := by rw [e, List.length_take]; omega
  refine ⟨⟨?_, h.mm.keep (hk M (Ne.symm n1)), ?_, (hk ab (Ne.symm n3)).trans h.abx, owns_keep h.out fun g e => hk g fun e2 => n4 (e2 ▸ h.sa g e), fun g a b => h.va g (hob ▸ a) b, fun g a => h.sv g (hob ▸ a), h.sa, fun g a => ?_, h.bs⟩, (Fr.refl _ _).setCell (p := ⟨wb, 10, none⟩) (.inl (.inl rfl)) _⟩
  · have := h.blk.set_ 10 (.slice A n c)
    simpa [walkC] using this
  · rw [e2, e3]
    exact owns_set ht h.blk (by decide) 10 _
  · obtain ⟨h1, cs, hb⟩ := h.sl g a
    exact ⟨h1, cs, (hk g fun e2 => n4 (e2 ▸ a)).trans hb⟩
/-- one more is told -/
theorem WkS.told (h : WkS w base wb M ab fv S v av s) {g : Int} {w1 : World} {v' : Value} (ho : w1.ownsRow base 3 1 v' (s.out.length + 1) (ints s.out ++ [.int .i64 g])) (hg : w.grownBy w1 av.ownBlock) (hn : v'.ownBlock = av.ownBlock ∨ v'.ownBlock = some w.heap.size) :
    Blk w1 ab 22 #[av] ∧ WkS (w1.setCell ⟨ab, 0, none⟩ v') base wb M ab fv (fun k => v.ownBlock = some k ∨ v'.ownBlock = some k) v v' (s.tell g) ∧ Fr (mutS wb M ab S) w (w1.setCell ⟨ab, 0, none⟩ v') ∧ Sub (fun k => v.ownBlock = some k ∨ v'.ownBlock = some k) S w := by
  obtain ⟨n1, n2, n3, n4, n5, n6⟩ := h.ne
  have hvS : ∀ k, av.ownBlock = some k → S k := h.sa
  have k : ∀ g, g < w.heap.size → av.ownBlock ≠ some g → w1.heap[g]? = w.heap[g]? := fun g hl hne => hg.block g hl fun e => hne e.symm
  have hb1 : Blk w1 ab 22 #[av] := (k ab h.abx.lt fun e => n6 (hvS _ e)).trans h.abx
  have hk : ∀ g, g ≠ ab → (w1.setCell ⟨ab, 0, none⟩ v').heap[g]? = w1.heap[g]? := fun g hne => Below.heap_setCell _ _ _ _ hne
  refine ⟨hb1, ⟨(hk wb n3).trans ((k wb h.blk.lt fun e => n4 (hvS _ e)).trans h.blk), h.mm.keep ((hk M (Ne.symm n2)).trans (k M h.mm.lt fun e => n5 (hvS _ e))), ?_, ?_, ?_, ?_, fun k e => .inl e, fun k e => .inr e, ?_, h.bs⟩, ?_, ?_⟩
  · exact owns_keep h.row fun g e => (hk g (fun e2 => n6 (e2 ▸ h.sv g e))).trans (k g (owns_block h.row e).2.1 fun e2 => h.va g e e2)
  · have := hb1.set_ 0 v'
    simpa using this
  · have e : ints (s.tell g).out = ints s.out ++ [.int .i64 g] := by simp [Wk.St.tell, ints]
    rw [e, show (s.tell g).out.length = s.out.length + 1 by simp [Wk.St.tell]]
    exact owns_set ho hb1 (by decide) 0 v'
  · exact (apart_pushed h.row h.va.symm hn).symm
  · intro g e
    rcases e with e | e
    · obtain ⟨h2, h3, cs', hb'⟩ := owns_block h.row e
      exact ⟨h2, cs', (hk g fun e2 => n6 (e2 ▸ h.sv g e)).trans ((k g h3 fun e2 => h.va g e e2).trans hb')⟩
    · obtain ⟨h2, _, cs', hb'⟩ := owns_block ho e
      refine ⟨h2, cs', (hk g ?_).trans hb'⟩
      rintro rfl
      exact hb1.ne_ hb' (by decide) rfl
  · have h1 : Fr (mutS wb M ab S) w w1 := ⟨hg.os, hg.tape, hg.output, hg.size, fun g hl hm => k g hl fun e => hm (.inr (.inr (.inr (hvS g e))))⟩
    exact h1.setCell (p := ⟨ab, 0, none⟩) (.inl (.inr (.inr (.inl rfl)))) v'
  · intro k e
    rcases e with e | e
    · exact .inl (h.sv k e)
    · rcases hn with hn | hn
      · exact .inl (hvS k (hn ▸ e))
      · rw [hn] at e; injection e with e; right; omega
end
namespace Wk
theorem visit_in (gl : List Gl) : ∀ (L : Nat) (g : Int) (s : St), (0 ≤ g ∧ g < gl.length) → (∀ x ∈ s.later, 0 ≤ x ∧ x < (gl.length : Int)) → ∀ x ∈ (visit gl L g s).later, 0 ≤ x ∧ x < (gl.length : Int)
  | 0, g, s, hg, h => by
    unfold visit
    split
    · exact h
    · intro x hx
      simp only [St.push, List.mem_append, List.mem_singleton] at hx
      rcases hx with hx | rfl
      · exact h x hx
      · exact hg
  | L + 1, g, s, hg, h => by
    unfold visit
    split
    · exact h
    · have : ∀ (ps : List Prt) (s' : St), (∀ p ∈ ps, 0 ≤ p.1 ∧ p.1 < gl.length) → (∀ x ∈ s'.later, 0 ≤ x ∧ x < (gl.length : Int)) → ∀ x ∈ (ps.foldl (fun s p => visit gl L p.1 s) s').later, 0 ≤ x ∧ x < (gl.length : Int) := by
        intro ps
        induction ps with
        | nil => intro s' _ h; exact h
        | cons p ps ih => intro s' hp h; exact ih _ (fun q hq => hp q (List.mem_cons_of_mem _ hq)) (visit_in gl L p.1 s' (hp p List.mem_cons_self) h)
      exact this _ _ (fun p hp => (mem_psOf hp).2) h
end Wk
theorem wpListIn_append_any {F : Fence} {n' : Nat} {P : Program} (w : World) {ops : Array Oper} {rest : List Oper} {o : Oper} {a : Act} {Q : Exit → Act → World → Prop} (hgd : o.guard = none) (s x : Operand) (t : TypeId)
    (ho : o.op = .call { callee := .builtin .append, args := #[s, x], argTypes := #[t, t] })
    (base : Nat) (e : TypeId) (i : TypeInfo) (z : Value) (size bytes : Nat) (ht : P.underlying t = some (.slice e)) (hi : P.info? e = some i) (hz : i.zero = some z)
    (hsize : i.size = size) (hby : i.bytes = bytes) (hzs : z.cells.size = size) (hsz : 0 < size)
    (v : Value) (n : Nat) (xs : List Value) (hs : a.eval s = v) (hown : w.ownsRow base e size v n xs)
    (B : Nat) (A : Option Addr) (m c : Nat) (news : List Value) (hx : a.eval x = .slice A m c) (hr : Reads w B size A m news) (h1 : ∀ u ∈ news, u.oneCell' = true)
    (h63 : n + m ≤ maxLen) (hbytes : (n + m) * bytes ≤ 140737488355328) (hbase : base ≤ w.heap.size)
    (h : ∀ v' w', w'.ownsRow base e size v' (n + m) (xs ++ news) → w.grownBy w' v.ownBlock → (v'.ownBlock = v.ownBlock ∨ v'.ownBlock = some w.heap.size) → wpListIn F n' P ops Q rest (a.put o.dst v') w') : wpListIn F n' P ops Q (o :: rest) a w := by
  refine wpListIn_plain hgd fun K hK' => ?_
  obtain ⟨v', w', hrun, r1, r2, r3⟩ := run_append_any (P := P) w base t o.type e i z size bytes ht hi hz hsize hby hzs hsz v n xs hown B A m c news hr h1 h63 hbytes hbase
  unfold Oper.wpIn
  refine ⟨?_, ?_⟩
  · simp [Oper.about, ho, resolve, Target.leads, Sem.run_pure]
  · rw [Oper.semAt_plain F _ _ (by rw [ho]; intro c hc'; cases hc')]
    simp [execOp, ho, resolve, invoke, builtin, hs, hx, hrun, Result.andThen]
    exact hK' _ _ (h v' w' r1 r2 r3)
/-- a font's cells are one number and slices -/
def Fv.One (v : Fv) : Prop := (∃ x, v.u = .int .i64 x) ∧ (∃ A n c, v.d2 = .slice A n c) ∧ (∃ A n c, v.d3 = .slice A n c) ∧ (∃ A n c, v.d4 = .slice A n c) ∧ (∃ A n c, v.d5 = .slice A n c) ∧ (∃ A n c, v.d6 = .slice A n c) ∧ (∃ A n c, v.d7 = .slice A n c) ∧ (∃ A n c, v.d8 = .slice A n c)
def AlI (fv : Fv) (gl : List Gl) (g : Int) (w : World) (wb M ab : Nat) (R : List Int) (k : Nat) (a : Act) (wr : World) : Prop :=
  ∃ (u7 u8 u9 u10 u11 u12 u13 u14 u15 u16 u17 u18 u19 u20 u21 u22 u23 u24 u25 u26 u27 u28 u29 u30 u31 u32 u33 u34 u35 u36 u37 u38 u39 u40 u41 u42 u43 u44 u45 u46 : Value) (ds : List Nat) (S : Nat → Prop) (s : Wk.St), a = { tmps := #[.agg fv.cs, .int .i64 g, .pointer (some ⟨w.heap.size, 0, none⟩), undef, .slice none 0 0, .pointer (some ⟨wb, 0, none⟩), .pointer (some ⟨ab, 0, none⟩), u7, u8, u9, u10, u11, u12, u13, u14, u15, u16, u17, u18, u19, u20, u21, u22, u23, u24, u25, u26, u27, u28, u29, u30, u31, u32, u33, u34, u35, u36, u37, u38, u39, u40, u41, u42, u43, u44, u45, u46], defers := ds.map mark } ∧ AW w.heap.size wb M ab fv S s wr ∧ (Wk.walk gl k s).out = R ∧ Wk.pot gl.length s ≤ k ∧ Wk.pot gl.length s ≤ 50000 ∧ s.out.length + Wk.rest gl.length s ≤ 12 ∧ (∀ x ∈ s.later, 0 ≤ x ∧ x < (gl.length : Int)) ∧ Below w.heap.size w wr ∧ Marks wr (w.heap.size + 6) ds
set_option maxRecDepth 100000 in
set_option maxHeartbeats 4000000 in
theorem all_any (fv : Fv) (gl : List Gl) (g : Int) (w : World) (hv : fv.n = gl.length) (hf : FAt w w.heap.size fv.A gl) (h12 : gl.length ≤ 12) (hgi : I64 g) (h1 : fv.One) :
    Calls Try.prog 13 #[.agg fv.cs, .int .i64 g] w fun e w' => ∃ tv, e = .returned tv ∧ w'.ownsRow w.heap.size 3 1 tv (Wk.all gl g).length (ints (Wk.all gl g)) ∧ Below w.heap.size w w' := by
  obtain ⟨fu, fA, fn, fc, d2, d3, d4, d5, d6, d7, d8⟩ := fv
  obtain ⟨⟨xu, k0⟩, ⟨A2, n2, c2, k2⟩, ⟨A3, n3, c3, k3⟩, ⟨A4, n4, c4, k4⟩, ⟨A5, n5, c5, k5⟩, ⟨A6, n6, c6, k6⟩, ⟨A7, n7, c7, k7⟩, ⟨A8, n8, c8, k8⟩⟩ := h1
  simp only at k0 k2 k3 k4 k5 k6 k7 k8 hf hv
  subst k0 k2 k3 k4 k5 k6 k7 k8
  have HF := Lib.hid hf
  have HV := Lib.hid hv
  clear hf hv
  refine calls_of_marks Try.func13 rfl ?_
  simp only [Try.ntmps13, List.size_toArray, List.length_cons, List.length_nil, Nat.reduceAdd, Nat.reduceSub, Array.replicate_succ, Array.replicate_zero, List.push_toArray, List.append_toArray, List.nil_append, List.cons_append]
  have hmm := @run_makeMap Try.prog
  go_wp2_with fail
  refine (there_any ⟨.int .i64 xu, fA, fn, fc, .slice A2 n2 c2, .slice A3 n3 c3, .slice A4 n4 c4, .slice A5 n5 c5, .slice A6 n6 c6, .slice A7 n7 c7, .slice A8 n8 c8⟩ g _ (by simp only; rw [HV.out]; omega) hgi).mono ?_
  rintro e w' ⟨rfl, rfl⟩
  have eT : thereB (⟨.int .i64 xu, fA, fn, fc, .slice A2 n2 c2, .slice A3 n3 c3, .slice A4 n4 c4, .slice A5 n5 c5, .slice A6 n6 c6, .slice A7 n7 c7, .slice A8 n8 c8⟩ : Fv).n g = thereB gl.length g := by simp only; rw [HV.out]
  rw [eT]
  clear eT
  by_cases ht : thereB gl.length g = true
  · rw [ht]
    go_wp2_with fail
    clear hmm
    have hgn : 0 ≤ g ∧ g < (gl.length : Int) := by simpa [thereB] using ht
    have hall : Wk.all gl g = Is.sort (Wk.walk gl (1 + 1000 * gl.length) (Wk.start g)).out := by unfold Wk.all; rw [if_pos ht]
    obtain ⟨R, hR⟩ : ∃ R, (Wk.walk gl (1 + 1000 * gl.length) (Wk.start g)).out = R := ⟨_, rfl⟩
    rw [hR] at hall
    refine wp_loop_ghost_k (AlI ⟨.int .i64 xu, fA, fn, fc, .slice A2 n2 c2, .slice A3 n3 c3, .slice A4 n4 c4, .slice A5 n5 c5, .slice A6 n6 c6, .slice A7 n7 c7, .slice A8 n8 c8⟩ gl g w (w.heap.size + 1 + 1 + 1 + 1) (w.heap.size + 1 + 1) (w.heap.size + 1 + 1 + 1 + 1 + 1) R) (1 + 1000 * gl.length) ?_ ?_
    · have hrest : Wk.rest gl.length (Wk.start g) ≤ gl.length := by
        unfold Wk.rest
        exact Nat.le_trans (List.length_filter_le _ _) (by simp)
      refine ⟨_, _, _, _, _, _, _, _, _, _, _, _, _, _, _, _, _, _, _, _, _, _, _, _, _, _, _, _, _, _, _, _, _, _, _, _, _, _, _, _, [], (· = w.heap.size + 1 + 1 + 1), Wk.start g, rfl, ⟨.slice (some ⟨w.heap.size + 1 + 1 + 1, 0, none⟩) 1 1, .slice none 0 0, ?_, ?_, ?_, ?_, owns_nil _ _ _ _, ?_, ?_, ?_, ?_, ?_⟩, hR, ?_, ?_, ?_, ?_, ?_, Marks.nil _ _⟩
      · exact (Blk.new_at _ _ _ (by simp)).alloc _
      · exact (BMap.new_at ((w.alloc (.cells (Fv.cs ⟨.int .i64 xu, fA, fn, fc, .slice A2 n2 c2, .slice A3 n3 c3, .slice A4 n4 c4, .slice A5 n5 c5, .slice A6 n6 c6, .slice A7 n7 c7, .slice A8 n8 c8⟩) 32)).alloc (.cells (Fv.cs ⟨.int .i64 xu, fA, fn, fc, .slice A2 n2 c2, .slice A3 n3 c3, .slice A4 n4 c4, .slice A5 n5 c5, .slice A6 n6 c6, .slice A7 n7 c7, .slice A8 n8 c8⟩) 32)) (by simp)).keep (Fr.block (S := fun _ => False) ((((Fr.refl _ _).alloc _).alloc _).alloc _) _ (by simp) fun x => x)
      · exact ⟨by simp [Wk.start, ints], .inr ⟨_, 1, #[.int .i64 g], rfl, by omega, ((Blk.new_at _ _ _ (by simp)).alloc _).alloc _, by simp [Wk.start], by unfold maxLen; omega, rfl, rfl⟩⟩
      · exact Blk.new_at _ _ _ (by simp)
      · exact fun g h1 h2 => by simp [Value.ownBlock] at h2
      · intro k hk; simp only [Value.ownBlock, Option.some.injEq] at hk; exact hk.symm
      · intro k hk; simp [Value.ownBlock] at hk
      · rintro k rfl; exact ⟨by omega, _, ((Blk.new_at _ _ _ (by simp)).alloc _).alloc _⟩
      · omega
      · unfold Wk.pot; simp only [Wk.start, List.length_singleton] at hrest ⊢; omega
      · unfold Wk.pot; simp only [Wk.start, List.length_singleton] at hrest ⊢; omega
      · simp only [Wk.start, List.length_nil] at hrest ⊢; omega
      · intro x hx; simp only [Wk.start, List.mem_singleton] at hx; subst hx; exact hgn
      · exact (by repeat (first | exact Below.refl _ _ | assumption | (refine Below.setCell ?_ (by first | omega | (simp; done) | (simp; omega)) _) | (refine Below.drew ?_) | (refine below_drewN ?_ _) | (refine Below.alloc ?_ (by first | omega | (simp; done) | (simp; omega)) _)))
    · rintro k a wr ⟨u7, u8, u9, u10, u11, u12, u13, u14, u15, u16, u17, u18, u19, u20, u21, u22, u23, u24, u25, u26, u27, u28, u29, u30, u31, u32, u33, u34, u35, u36, u37, u38, u39, u40, u41, u42, u43, u44, u45, u46, ds, S, s, rfl, ⟨v, av, hK⟩, hw, hpot, hpo5, hout, hin, hB, hM⟩ JJ KK hJJ hKK
      have HK := Lib.hid hK
      have HW := Lib.hid hw
      have HPOT := Lib.hid hpot
      have HPO5 := Lib.hid hpo5
      clear hpo5
      have HOUT := Lib.hid hout
      have HIN := Lib.hid hin
      have HB := Lib.hid hB
      have HM := Lib.hid hM
      have HJK := Lib.hid hJJ
      have HALL := Lib.hid hall
      obtain ⟨A, c, hv, hc1, hc2⟩ := owns_form hK.row
      subst hv
      have b10 := hK.blk.cell 10
      have f10 := hK.blk.frozen 10
      have eab := hK.abx.cell 0
      have lwb := hK.blk.lt
      have lab := hK.abx.lt
      simp only [List.getElem?_toArray, List.getElem?_cons_zero, List.getElem?_cons_succ] at b10 eab
      by_cases h0 : s.later.length = 0
      · have hl0 : s.later = [] := List.eq_nil_of_length_eq_zero h0
        have hR2 : s.out = R := by
          rw [← hw]
          cases k with
          | zero => rfl
          | succ k => unfold Wk.walk; rw [if_pos hl0]
        rw [h0] at b10
        obtain ⟨Ao, co, hvo, hco1, hco2⟩ := owns_form hK.out
        subst hvo
        have hro := hK.out
        clear hK hw hpot hin hB hM hJJ hall hR hl0
        subst hR2
        go_wp2_with fail
        refine (sort_any w.heap.size co s.out.length Ao s.out wr hro rfl (by omega)).mono ?_
        rintro e w1 ⟨rfl, hrow, hFs⟩
        have hnab : ¬ (Value.slice Ao s.out.length co).ownBlock = some (w.heap.size + 1 + 1 + 1 + 1 + 1) := fun e => HK.out.ne.2.2.2.2.2 (HK.out.sa _ e)
        have eab2 := (hFs.cell (p := ⟨w.heap.size + 1 + 1 + 1 + 1 + 1, 0, none⟩) lab hnab).trans eab
        have HROW := Lib.hid hrow
        have HFS := Lib.hid hFs
        have hmk : Marks w1 (w.heap.size + 6) ds := HM.out.keep fun D _ e => (hFs.block D (Array.getElem?_eq_some_iff.1 e).1 (fun e2 => by
          obtain ⟨_, _, cs, hb⟩ := owns_block HK.out.out e2
          have hb : wr.heap[D]? = some (.cells cs 3) := hb
          rw [hb] at e; cases e)).trans e
        have HMK := Lib.hid hmk
        have hbs := HB.out.size
        have hB1 : Below w.heap.size w w1 := HB.out.trans (hFs.below hbs fun k hk e => by have := (owns_block HK.out.out e).1; omega)
        have HB1 := Lib.hid hB1
        clear hrow hFs hmk hro hB1 hnab
        go_wp2_with fail
        show LeavesInM Fence.wide 8 Try.prog _ _ _ (ds.map mark) .returning w1
        refine leaves_marks ds w1 HMK.out fun W' hW' => ?_
        have hl : Wk.all gl g = Is.sort s.out := HALL.out
        refine ⟨_, results_tmp rfl _ _ _, _, rfl, ?_, HB1.out.trans (hW'.below HB1.out.size fun k hk e => by have := (HMK.out.2 k e).1; omega)⟩
        rw [hl]
        have hsl : (Is.sort s.out).length = s.out.length := Is.sortTo_len _ _
        rw [hsl]
        refine owns_keep HROW.out fun g e => hW'.block g (owns_block HROW.out e).2.1 fun e2 => ?_
        obtain ⟨_, _, cs, hb⟩ := owns_block HROW.out e
        have h2 := (HMK.out.2 g e2).2
        have hb : w1.heap[g]? = some (.cells cs 3) := hb
        rw [hb] at h2; cases h2
      · obtain ⟨n, hn⟩ : ∃ n, s.later.length = n + 1 := ⟨s.later.length - 1, by omega⟩
        obtain ⟨gg, cc, hvg, hcc, _, hggl, hcell⟩ := owns_at hK.row (by omega)
        injection hvg with e1 e2 e3
        subst e1
        subst e3
        have htop : s.later[n]? = some (Hp.at_ s.later n) := by
          simp [Hp.at_, List.getElem?_eq_getElem (show n < s.later.length by omega)]
        have etop := hcell n _ (ints_at s.later n _ htop)
        have hgt := hin _ (List.mem_of_getElem? htop)
        rw [hn] at b10 hcc
        have HP := Lib.hid (WkS.popped (n := n) (by rw [← hn]; exact hK) hn)
        have HN := Lib.hid hn
        obtain ⟨top, htp⟩ : ∃ t, Hp.at_ s.later n = t := ⟨_, rfl⟩
        rw [htp] at etop hgt
        have HTP := Lib.hid htp
        unfold maxLen at hc2
        clear hK hw hpot hin hB hM hJJ hall hR htop hcell hn htp e2 hc1
        obtain ⟨tn, rfl⟩ := Int.eq_ofNat_of_zero_le hgt.1
        go_wp2_with fail
        refine (from_any (w.heap.size + 1 + 1 + 1 + 1) tn 16 _).mono ?_
        rintro e w' ⟨rfl, rfl⟩
        go_wp2_with fail
        have hzp : (wr.setCell ⟨w.heap.size + 1 + 1 + 1 + 1, 10, none⟩ (.slice (some ⟨gg, 0, none⟩) n c)).heap.size = wr.heap.size := by simp

        have hG7 : Grow (wr.setCell ⟨w.heap.size + 1 + 1 + 1 + 1, 10, none⟩ (.slice (some ⟨gg, 0, none⟩) n c)) ((((wr.setCell ⟨w.heap.size + 1 + 1 + 1 + 1, 10, none⟩ (.slice (some ⟨gg, 0, none⟩) n c)).alloc (.cells #[.pointer (some ⟨w.heap.size + 1 + 1 + 1 + 1, 0, none⟩)] 105)).alloc (.cells #[.int .i64 tn] 3)).alloc (.cells #[.int .i64 16] 3)) := (((Fr.refl _ _).alloc _).alloc _).alloc _
        have q1 : Blk ((((wr.setCell ⟨w.heap.size + 1 + 1 + 1 + 1, 10, none⟩ (.slice (some ⟨gg, 0, none⟩) n c)).alloc (.cells #[.pointer (some ⟨w.heap.size + 1 + 1 + 1 + 1, 0, none⟩)] 105)).alloc (.cells #[.int .i64 tn] 3)).alloc (.cells #[.int .i64 16] 3)) wr.heap.size 105 #[.pointer (some ⟨w.heap.size + 1 + 1 + 1 + 1, 0, none⟩)] := ((Blk.new_at _ _ _ hzp.symm).alloc _).alloc _
        have q2 : Blk ((((wr.setCell ⟨w.heap.size + 1 + 1 + 1 + 1, 10, none⟩ (.slice (some ⟨gg, 0, none⟩) n c)).alloc (.cells #[.pointer (some ⟨w.heap.size + 1 + 1 + 1 + 1, 0, none⟩)] 105)).alloc (.cells #[.int .i64 tn] 3)).alloc (.cells #[.int .i64 16] 3)) (wr.heap.size + 1) 3 #[.int .i64 tn] := (Blk.new_at _ _ _ (by simp)).alloc _
        have q3 : Blk ((((wr.setCell ⟨w.heap.size + 1 + 1 + 1 + 1, 10, none⟩ (.slice (some ⟨gg, 0, none⟩) n c)).alloc (.cells #[.pointer (some ⟨w.heap.size + 1 + 1 + 1 + 1, 0, none⟩)] 105)).alloc (.cells #[.int .i64 tn] 3)).alloc (.cells #[.int .i64 16] 3)) (wr.heap.size + 1 + 1) 3 #[.int .i64 ((16 : Nat) : Int)] := Blk.new_at _ _ _ (by simp)
        have hz7 : ((((wr.setCell ⟨w.heap.size + 1 + 1 + 1 + 1, 10, none⟩ (.slice (some ⟨gg, 0, none⟩) n c)).alloc (.cells #[.pointer (some ⟨w.heap.size + 1 + 1 + 1 + 1, 0, none⟩)] 105)).alloc (.cells #[.int .i64 tn] 3)).alloc (.cells #[.int .i64 16] 3)).heap.size = wr.heap.size + 3 := by simp
        have hWp := HP.out
        generalize hWpe : (wr.setCell ⟨w.heap.size + 1 + 1 + 1 + 1, 10, none⟩ (.slice (some ⟨gg, 0, none⟩) n c)) = Wp at *
        generalize (((Wp.alloc (.cells #[.pointer (some ⟨w.heap.size + 1 + 1 + 1 + 1, 0, none⟩)] 105)).alloc (.cells #[.int .i64 tn] 3)).alloc (.cells #[.int .i64 16] 3)) = W7 at *
        obtain ⟨hKp, hFp⟩ := hWp
        clear hWpe HP b10 f10 eab etop lwb lab hggl
        have htn : tn < gl.length := by omega
        have hzl : s.pop.later.length = n := by have := HN.out; simp [Wk.St.pop]; omega
        have hpp : Wk.pot gl.length s.pop + 1 = Wk.pot gl.length s := by
          have e1 : Wk.rest gl.length s.pop = Wk.rest gl.length s := rfl
          unfold Wk.pot
          rw [e1, hzl, HN.out]; omega
        have hpo : s.pop.out.length + Wk.rest gl.length s.pop ≤ 12 := HOUT.out
        refine (wpIn_wide (n := 8)).1 ?_
        refine rangeO rfl (by omega) (gf := 44) (lb := #[.pointer (some ⟨wr.heap.size, 0, none⟩), .pointer (some ⟨wr.heap.size + 1, 0, none⟩), .pointer (some ⟨wr.heap.size + 1 + 1, 0, none⟩)]) rfl trivial (enters_of Try.func44 (by kernel_rfl) rfl) ?_
        intro fn7 hfn7
        generalize hr8 : lrec fn7 _ _ _ _ _ = r8
        have hG9 : Grow W7 ((W7.alloc (.deferred (some []))).alloc (.loop r8)) := ((Fr.refl _ _).alloc _).alloc _
        have hl9 : ((W7.alloc (.deferred (some []))).alloc (.loop r8)).heap[W7.heap.size + 1]? = some (.loop r8) := by have := World.alloc_heap_new (W7.alloc (.deferred (some []))) (.loop r8); rwa [World.size_alloc] at this
        have hd9 : ((W7.alloc (.deferred (some []))).alloc (.loop r8)).heap[W7.heap.size]? = some (.deferred (some [])) := (Below.heap_alloc _ _ _ (by simp)).trans (World.alloc_heap_new _ _)
        have hz9 : ((W7.alloc (.deferred (some []))).alloc (.loop r8)).heap.size = W7.heap.size + 2 := by simp
        generalize ((W7.alloc (.deferred (some []))).alloc (.loop r8)) = W9 at *
        have hGp9 : Grow Wp W9 := hG7.trans hG9
        have hK9 := hKp.grow hGp9
        have hml := hKp.mlt
        have hnl : ¬ mutS (w.heap.size + 1 + 1 + 1 + 1) (w.heap.size + 1 + 1) (w.heap.size + 1 + 1 + 1 + 1 + 1) S (W7.heap.size + 1) := fun e => by have := hml _ e; omega
        have hnd : ¬ mutS (w.heap.size + 1 + 1 + 1 + 1) (w.heap.size + 1 + 1) (w.heap.size + 1 + 1 + 1 + 1 + 1) S W7.heap.size := fun e => by have := hml _ e; omega
        have hnS : ∀ k, S k → k < Wp.heap.size := fun k e => hml k (.inr (.inr (.inr e)))
        have hBp : Below w.heap.size w Wp := HB.out.trans (hFp.below HB.out.size (HK.out.lowS (Nat.le_refl _)))
        have hB9 : Below w.heap.size w W9 := hBp.trans (hGp9.below hBp.size)
        refine (callsIn_wide.2 (callsIn_wide.1 (from_all w.heap.size (w.heap.size + 1 + 1 + 1 + 1) (w.heap.size + 1 + 1) (w.heap.size + 1 + 1 + 1 + 1 + 1) w.heap.size ⟨.int .i64 xu, fA, fn, fc, .slice A2 n2 c2, .slice A3 n3 c3, .slice A4 n4 c4, .slice A5 n5 c5, .slice A6 n6 c6, .slice A7 n7 c7, .slice A8 n8 c8⟩ gl (Nat.le_refl _) HV.out 16 (by omega) (W7.heap.size + 1) wr.heap.size (wr.heap.size + 1) (wr.heap.size + 1 + 1) tn S s.pop W9 ⟨_, av, hK9⟩ (hG9.blk q1 fun x => x) (hG9.blk q2 fun x => x) (hG9.blk q3 fun x => x) (fun e => by have := hnS _ e; omega) (fun e => by have := hnS _ e; omega)
          (HF.out.below hB9 (Nat.le_refl _)) htn (by have := HPO5.out; omega) (by omega) ?_))).mono ?_
        · intro m S' s' x W' hA hsub hFr hlen' hx
          obtain ⟨v', av', hK'⟩ := hA
          have hl' : W'.heap[W7.heap.size + 1]? = some (.loop r8) := (hFr.block _ (by omega) hnl).trans hl9
          subst hr8
          have hnl' : ¬ mutS (w.heap.size + 1 + 1 + 1 + 1) (w.heap.size + 1 + 1) (w.heap.size + 1 + 1 + 1 + 1 + 1) S' (W7.heap.size + 1) := fun e => by
            obtain ⟨t, cs, hb⟩ := hK'.cells e (by have := hKp.mm.lt; omega)
            have hb : W'.heap[W7.heap.size + 1]? = some (.cells cs t) := hb
            rw [hl'] at hb; cases hb
          have HL' := Lib.hid hl'
          refine yieldAt_round hl' hfn7 rfl ?_
          have hK8 : ∀ o, WkS (W'.putObj (W7.heap.size + 1) o) w.heap.size (w.heap.size + 1 + 1 + 1 + 1) (w.heap.size + 1 + 1) (w.heap.size + 1 + 1 + 1 + 1 + 1) ⟨.int .i64 xu, fA, fn, fc, .slice A2 n2 c2, .slice A3 n3 c3, .slice A4 n4 c4, .slice A5 n5 c5, .slice A6 n6 c6, .slice A7 n7 c7, .slice A8 n8 c8⟩ S' v' av' s' := fun o => hK'.put hnl' o
          have hlb : ∀ o, (W'.putObj (W7.heap.size + 1) o).heap[W7.heap.size + 1]? = some o := fun o => World.putObj_heap_same (Array.getElem?_eq_some_iff.1 HL'.out).1
          have hfr : ∀ o T W3, Fr T (W'.putObj (W7.heap.size + 1) o) W3 → Fr T W' (W3.putObj (W7.heap.size + 1) (.loop (lrec fn7 _ _ _ _ _))) := fun o T W3 h => fr_round HL'.out o h
          have hszp : ∀ o, (W'.putObj (W7.heap.size + 1) o).heap.size = W'.heap.size := fun o => by simp
          have HNL := Lib.hid hnl'
          have HK8 := Lib.hid hK8
          have HLB := Lib.hid hlb
          have HFRR := Lib.hid hfr
          have HSZ := Lib.hid hszp
          have HWB := Lib.hid (show w.heap.size ≤ W'.heap.size by have := hB9.size; have := hFr.size; omega)
          clear hK' hFr hsub hnl' hl' hz7 hz9 hzp hK8 hlb hfr hszp
          gi_wp2_with fail
          refine ⟨HL'.out, ?_⟩
          generalize hOb : Obj.loop { state := LoopState.busy, pending := none, fn := fn7, tmps := _, params := _, assign := _, body := _, defers := _ } = ob
          have hk8 := HK8.out ob
          have hlb := HLB.out ob
          have hfr := fun T W3 => HFRR.out ob T W3
          have hsz := HSZ.out ob
          generalize W'.putObj (W7.heap.size + 1) ob = Wq at *
          obtain ⟨i0, hi0, hi1, hi2, hi3⟩ := info_m info_int
          have eab := hk8.abx.cell 0
          have lab := hk8.abx.lt
          simp only [List.getElem?_toArray, List.getElem?_cons_zero] at eab
          have HLA := Lib.hid (hk8.grow (w' := Wq.alloc (.cells #[.int .i64 x] 3)) ((Fr.refl _ _).alloc _))
          have HFRB := Lib.hid hfr
          have HLBB := Lib.hid hlb
          have HSZZ := Lib.hid hsz
          have HOB := Lib.hid hOb
          obtain ⟨Ao, co, hvo, hco1, hco2⟩ := owns_form hk8.out
          subst hvo
          clear hk8 hfr hlb hsz hOb
          gi_wp2_with (gi_at_builtin; refine wpListIn_append_any _ rfl (.tmp 40) (.tmp 42) _ rfl w.heap.size 3 i0 _ 1 8 Try.underlying22 hi0 hi1 hi2 hi3 rfl (show 0 < 1 by decide) (.slice Ao s'.out.length co) s'.out.length (ints s'.out) rfl HLA.out.out _ _ 1 1 [.int .i64 x] rfl (Reads.blk (cs := [.int .i64 x]) (Blk.new _ _ _) 1 1 rfl) (by simp [Value.oneCell']) (by unfold maxLen; omega) (by omega) (by have := HWB.out; have := HSZZ.out; simp; omega) ?_; intro v6 w6 hrow hg hnew; have HT := Lib.hid (HLA.out.told hrow hg hnew); have t0 := HT.out.1.cell 0; simp only [List.getElem?_toArray, List.getElem?_cons_zero] at t0; have tf := HT.out.1.frozen 0; have tl := HT.out.1.lt; obtain ⟨Av, cv, hve, _⟩ := owns_form hrow; subst hve; clear hrow hg hnew)
          obtain ⟨_, hK7, hF7, hS7⟩ := HT.out
          have hF8 := ((((Fr.refl (fun _ => False) Wq).alloc (.cells #[.int .i64 x] 3)).mono fun _ _ x => x.elim).trans hF7)
          have hlt := (Array.getElem?_eq_some_iff.1 HLBB.out).1
          have hl9' := (hF8.block _ hlt HNL.out).trans HLBB.out
          have hnl8 : ¬ mutS (w.heap.size + 1 + 1 + 1 + 1) (w.heap.size + 1 + 1) (w.heap.size + 1 + 1 + 1 + 1 + 1) (fun k => v'.ownBlock = some k ∨ (Value.slice Av (s'.out.length + 1) cv).ownBlock = some k) (W7.heap.size + 1) := fun e => by
            rcases e with e | e | e | e
            · exact HNL.out (.inl e)
            · exact HNL.out (.inr (.inl e))
            · exact HNL.out (.inr (.inr (.inl e)))
            · rcases hS7 _ e with e | e
              · exact HNL.out (.inr (.inr (.inr e)))
              · simp at e; omega
          exact ⟨hl9'.trans (by rw [← HOB.out]), _, ⟨_, _, hK7.put hnl8 _⟩, HFRB.out _ _ hF8, fun k e => (hS7 k e).imp_right fun h => by have := HSZZ.out; simp at h; omega⟩
        · rintro e W2 ⟨⟨ve, rfl⟩, S5, ⟨v5, av5, hK5⟩, hF5, hS5⟩
          refine ⟨⟨ve, rfl⟩, (hF5.block _ (by omega) hnl).trans hl9, fun o => ?_⟩
          have hnl5 : ¬ mutS (w.heap.size + 1 + 1 + 1 + 1) (w.heap.size + 1 + 1) (w.heap.size + 1 + 1 + 1 + 1 + 1) S5 (W7.heap.size + 1) := fun e => by
            obtain ⟨t, cs, hb⟩ := hK5.cells e (by have := hKp.mm.lt; omega)
            have hb : W2.heap[W7.heap.size + 1]? = some (.cells cs t) := hb
            rw [(hF5.block _ (by omega) hnl).trans hl9] at hb; cases hb
          have hk0 : k ≠ 0 := fun e => by have := HPOT.out; omega
          obtain ⟨k', rfl⟩ : ∃ k', k = k' + 1 := ⟨k - 1, by omega⟩
          have hw' : (Wk.walk gl k' (Wk.visit gl 16 tn s.pop)).out = R := by
            have := HW.out
            unfold Wk.walk at this
            rw [if_neg (fun e => by have := HN.out; rw [e] at this; simp at this), HN.out, Nat.add_sub_cancel, HTP.out] at this
            exact this
          have hp1 : Wk.pot gl.length (Wk.visit gl 16 tn s.pop) ≤ Wk.pot gl.length s.pop := Wk.visit_pot1 gl (parts_few HF.out) 15 tn s.pop htn
          have hp2 := (Wk.visit_pot gl (parts_few HF.out) 16 tn s.pop (by omega)).2
          have hab := hKp.abx.lt
          change KK _ _
          refine hKK _ _ (Handed.intro k' (by omega) (HJK.out _ _ _ ⟨_, _, _, _, _, _, _, _, _, _, _, _, _, _, _, _, _, _, _, _, _, _, _, _, _, _, _, _, _, _, _, _, _, _, _, _, _, _, _, _, W7.heap.size :: ds, S5, Wk.visit gl 16 tn s.pop, rfl, ⟨v5, av5, hK5.put hnl5 o⟩, hw', by have := HPOT.out; omega, by have := HPO5.out; omega, by omega, ?_, ?_, ?_⟩))
          · exact Wk.visit_in gl 16 tn s.pop (by omega) fun x hx => HIN.out x (List.mem_of_mem_take hx)
          · exact hB9.trans ((hF5.below hB9.size (hK9.lowS (Nat.le_refl _))).trans (below_putObj W2 _ o (by have := hBp.size; omega)))
          · refine Marks.cons (s := wr.heap.size) (HM.out.keep fun D hBD e => ?_) (fun E hE => HM.out.lt E hE) (by omega) (by omega) ((World.putObj_heap_other (by omega)).trans ((hF5.block _ (by omega) hnd).trans hd9))
            have hDl := (Array.getElem?_eq_some_iff.1 e).1
            have hDn : ¬ mutS (w.heap.size + 1 + 1 + 1 + 1) (w.heap.size + 1 + 1) (w.heap.size + 1 + 1 + 1 + 1 + 1) S D := by
              rintro (e2 | e2 | e2 | e2)
              · omega
              · omega
              · omega
              · obtain ⟨_, cs, hb⟩ := HK.out.sl _ e2
                have hb : wr.heap[D]? = some (.cells cs 3) := hb
                rw [hb] at e; cases e
            exact (World.putObj_heap_other (by omega)).trans ((hF5.block D (by omega) hDn).trans ((hGp9.block D (by omega) fun x => x).trans ((hFp.block D hDl hDn).trans e)))
  · simp only [Bool.not_eq_true] at ht
    rw [ht]
    go_wp2_with fail
    have e0 : Wk.all gl g = [] := by unfold Wk.all; rw [ht]; rfl
    exact ⟨_, results_tmp rfl _ _ _, _, rfl, by rw [e0]; exact owns_nil _ _ _ _, ((Below.refl _ _).alloc (Nat.le_refl _) _).alloc (by simp) _⟩
end Go.Proofs.Ytoklllbaihccnaa

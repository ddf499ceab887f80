/- The machine's next: its contract. -/
import Derived.Test.YthdmdgmchkhngaaGreatMaU
import Derived.Deep.LoopGhost
import Derived.Deep.QuietTactic
import Derived.BigQuiet
import Derived.BigRegion
import Derived.Deep.RegionHeld3
import Derived.StillTailTactics
namespace Go.Proofs.YthdmdgmchkhngaaGreat
open Go.RowKit Mc

def fmeas (fs : List Fm) : Nat := (fs.map (·.more + 1)).sum
/-- what next leaves -/
def NPost (w : World) (mb : Nat) (O : Nat → Prop) (s : St) (e : Ending) (w' : World) : Prop :=
  (∃ x y, e = .returned (.tuple #[.agg #[.int .i64 x, .int .i64 y], .bool (next s).2.isSome]) ∧ ∀ i, (next s).2 = some i → i = (x, y)) ∧ (∃ L', MaL w' mb O L' (next s).1) ∧ Fr O w w'
def NInv (w : World) (mb : Nat) (O : Nat → Prop) (s : St) (k : Nat) (wr : World) : Prop :=
  ∃ fs L', fmeas fs < k ∧ MaL wr mb O L' { s with frames := fs } ∧ Mc.settle fs = Mc.settle s.frames ∧ Blk wr w.heap.size 61 #[.int .i64 0, .int .i64 0] ∧ Fr O w wr
theorem next_ended {s : St} (h : s.ended = true) : next s = (s, none) := by unfold next; rw [if_pos h]
theorem next_nil {s : St} (h : s.ended = false) (h' : Mc.settle s.frames = []) : next s = ({ s with frames := [], ended := true }, none) := by unfold next; rw [if_neg (by simp [h]), h']
theorem next_cons {s : St} (h : s.ended = false) {f : Fm} {r : List Fm} (h' : Mc.settle s.frames = f :: r) {op a : Int} (hi : f.code[f.next]? = some (op, a)) :
    next s = ({ s with frames := f :: r, err := wrong { s with frames := f :: r } op a (f.code.length - 1 - f.next : Int), ended := decide (wrong { s with frames := f :: r } op a (f.code.length - 1 - f.next : Int) ≠ 0) }, if wrong { s with frames := f :: r } op a (f.code.length - 1 - f.next : Int) = 0 then some (op, a) else none) := by
  unfold next
  rw [if_neg (by simp [h]), h']
  simp only [getD_of hi]
theorem settle_now {f : Fm} {r : List Fm} (h : f.next < f.code.length) : Mc.settle (f :: r) = f :: r := by unfold Mc.settle; rw [if_pos h]
theorem settle_pop {f : Fm} {r : List Fm} (h : ¬ f.next < f.code.length) (h' : f.more = 0) : Mc.settle (f :: r) = Mc.settle r := by
  conv => lhs; unfold Mc.settle
  rw [if_neg h, if_neg (by omega)]
theorem settle_more {f : Fm} {r : List Fm} (h : ¬ f.next < f.code.length) (h' : 0 < f.more) : Mc.settle ({ f with next := 0, more := f.more - 1 } :: r) = Mc.settle (f :: r) := by
  by_cases hl : 0 < f.code.length
  · rw [settle_now (by simpa using hl)]
    conv => rhs; unfold Mc.settle
    rw [if_neg h, if_pos ⟨h', hl⟩]
  · have e1 : Mc.settle ({ f with next := 0, more := f.more - 1 } :: r) = Mc.settle r := by
      conv => lhs; unfold Mc.settle
      rw [if_neg (by simpa using hl), if_neg (fun e => hl e.2)]
    have e2 : Mc.settle (f :: r) = Mc.settle r := by
      conv => lhs; unfold Mc.settle
      rw [if_neg h, if_neg (by omega)]
    rw [e1, e2]

section
variable {w w' : World} {mb : Nat} {O : Nat → Prop} {L : Lay} {s : St} {f : Fm} {r : List Fm}
theorem MaL.drewN (h : MaL w mb O L s) (n : Nat) : MaL (w.drewN n) mb O L s := h.keep (fun _ _ => rfl) (fun _ h => h) h.olt
/-- the last frame is left -/
theorem MaL.popFm (h : MaL w mb O L s) (hf : s.frames = f :: r) {g c : Nat} {v : Value} {vs : List Value} (ht : Top w mb O L s f r g c v vs) :
    ∃ L', MaL (w.setCell ⟨mb, 1, none⟩ (.slice (some ⟨g, 0, none⟩) r.length c)) mb O L' { s with frames := r } := by
  have hfr := h.fr
  rw [hf, ht.frs] at hfr
  have hrow := hfr.take (m := r.length) (by simp) (A := some ⟨g, 0, none⟩) (c := c) (by rw [ht.fr]; simp)
  rw [frC_take v vs f r ht.vsl] at hrow
  have hkk : ∀ k, k ≠ mb → (w.setCell ⟨mb, 1, none⟩ (.slice (some ⟨g, 0, none⟩) r.length c)).heap[k]? = w.heap[k]? := fun k hk => Below.heap_setCell _ _ _ _ hk
  refine ⟨_, h.frames_ (u := .slice (some ⟨g, 0, none⟩) r.length c) (vs := vs) (fs := r) ?_ (h.blk.set_ 1 _) (h.c.setFr _ _ _) (hrow.keep (fun k hk => hkk k (fun e => hrow.ne_blk h.blk (by decide) hk e)) (fun _ h => h)) (fun k hk => .inl (by rw [ht.fr]; exact hk)) (fun k _ hk _ => hkk k hk) (fun _ h => h) (fun k hk' => by have := h.olt k hk'; simpa [World.setCell] using this) (h.ok.frames_ (fun x hx => h.ok.frames x (by rw [hf]; exact List.mem_cons_of_mem _ hx)) (by have := h.ok.flen; rw [hf] at this; simp at this; omega))⟩
  exact ht.codes.keep (fun k cs hO hb => hkk k (hb.ne_ h.blk (by decide))) (fun _ h => h)
end

set_option maxRecDepth 100000 in
set_option maxHeartbeats 2000000 in
theorem next_any (w : World) (mb : Nat) (O : Nat → Prop) (L : Lay) (s : St) (h : MaL w mb O L s) :
    Calls Tryz.prog 34 #[.pointer (some ⟨mb, 0, none⟩)] w (NPost w mb O s) := by
  by_cases hen : s.ended = true
  · have c47 := h.blk.cell 47
    rw [h.c.c47, hen] at c47
    have f47 := h.blk.frozen 47
    have lmb := h.blk.lt
    have lmb1 : mb < w.heap.size + 1 := by omega
    have hse : s = { s with ended := true } := by cases s; simp only at hen; subst hen; rfl
    have hm := h.set_ (h.c.setEnded true) (h.ok.cells_ h.ok.store h.ok.stl h.ok.look h.ok.move h.ok.mode h.ok.peak)
    rw [← hse] at hm
    have HM := Lib.hid (hm.alloc (.cells #[.int .i64 0, .int .i64 0] 61))
    have HN := Lib.hid (next_ended hen)
    have HF := Lib.hid (((Fr.refl O w).setCell (p := ⟨mb, 47, none⟩) (.inl h.mbO) (.bool true)).alloc (.cells #[.int .i64 0, .int .i64 0] 61))
    clear h hen hse hm
    go_enter Tryz.func34, Tryz.ntmps34
    go_wp2
    refine wp_loop_rounds 1 ?_
    rw [rounds_succ]
    go_wp2
    refine bodyPost_ret (v := .tuple #[.agg #[.int .i64 0, .int .i64 0], .bool false]) (by simp [results, Tryz.results34, go_sem]) rfl ?_
    unfold NPost
    rw [HN.out]
    exact ⟨⟨0, 0, rfl, fun i hi => by cases hi⟩, ⟨_, HM.out⟩, HF.out⟩
  · have hen' : s.ended = false := by simpa using hen
    have H0 : Hid (NInv w mb O s (fmeas s.frames + 1) (w.alloc (.cells #[.int .i64 0, .int .i64 0] 61))) := Lib.hid ⟨s.frames, L, by omega, h.alloc _, rfl, Blk.new _ _ _, (Fr.refl O w).alloc _⟩
    have HE := Lib.hid hen'
    have HO := Lib.hid (h.notO (Nat.le_refl w.heap.size))
    clear h hen hen'
    go_enter Tryz.func34, Tryz.ntmps34
    go_wp2
    generalize w.alloc (.cells #[.int .i64 0, .int .i64 0] 61) = w0 at *
    go_loopg [] (fmeas s.frames + 1) (fun k wr => NInv w mb O s k wr)
    case atStart => exact H0.out
    case round =>
      clear H0
      obtain ⟨fs, L', hk, hM, hse, hB, hF⟩ := hrel
      have HM := Lib.hid hM
      have HSE := Lib.hid hse
      have HB := Lib.hid hB
      have HF := Lib.hid hF
      have c47 := hM.blk.cell 47
      rw [hM.c.c47] at c47
      dsimp only at c47
      rw [HE.out] at c47
      have f47 := hM.blk.frozen 47
      have lmb := hM.blk.lt
      have b0 := hB.cell 0
      have b1 := hB.cell 1
      have bf0 := hB.frozen 0
      have bf1 := hB.frozen 1
      have bl := hB.lt
      simp only [List.getElem?_toArray, List.getElem?_cons_zero, List.getElem?_cons_succ] at b0 b1
      have hmw : mb ≠ w.heap.size := fun e => hM.blk.ne_ hB (by decide) e
      have hfl := hM.ok.flen
      dsimp only at hfl
      rcases fs with _ | ⟨f, r⟩
      · obtain ⟨A, c, hv, _, _⟩ := hM.fr.form
        have c1 := hM.blk.cell 1
        rw [hM.c.c1, hv] at c1
        simp only [List.length_nil] at c1
        clear hM hse hB hF hv
        go_wp2
        have hm := HM.out.set_ (HM.out.c.setEnded true) (HM.out.ok.cells_ HM.out.ok.store HM.out.ok.stl HM.out.ok.look HM.out.ok.move HM.out.ok.mode HM.out.ok.peak)
        have hm2 := (hm.outer (p := ⟨w.heap.size, 0, none⟩) HO.out (.int .i64 0)).outer (p := ⟨w.heap.size, 1, none⟩) HO.out (.int .i64 0)
        have hf2 := ((HF.out.setCell (p := ⟨mb, 47, none⟩) (.inl HM.out.mbO) (.bool true)).setCell (p := ⟨w.heap.size, 0, none⟩) (.inr (Nat.le_refl _)) (.int .i64 0)).setCell (p := ⟨w.heap.size, 1, none⟩) (.inr (Nat.le_refl _)) (.int .i64 0)
        have HM2 := Lib.hid hm2
        have HF2 := Lib.hid hf2
        clear hm hm2 hf2
        refine bodyPost_ret (v := .tuple #[.agg #[.int .i64 0, .int .i64 0], .bool false]) (by simp [results, Tryz.results34, go_sem, b0, b1]) rfl ?_
        unfold NPost
        rw [next_nil HE.out (by rw [← HSE.out]; rfl)]
        exact ⟨⟨0, 0, rfl, fun i hi => by cases hi⟩, ⟨_, HM2.out⟩, HF2.out⟩
      · obtain ⟨g, c, v, vs, ht⟩ := hM.top rfl
        have HTp := Lib.hid ht
        obtain ⟨Ac, cc, hvc, _, _⟩ := ht.code.form
        subst hvc
        have c1 := hM.blk.cell 1
        rw [hM.c.c1, ht.fr] at c1
        have t0 := ht.c0
        have t1 := ht.c1
        have t2 := ht.c2
        have tf1 := ht.fz (r.length * 3 + 1)
        have tf2 := ht.fz (r.length * 3 + 2)
        have tg := ht.glt
        have tgm := ht.gmb
        have tcap := ht.cap
        have hgw : g ≠ w.heap.size := fun e => HO.out (e ▸ ht.gO)
        have hokf := hM.ok.frames f (by simp)
        obtain ⟨hb1, hb2, hb3⟩ := hokf
        have f1 := hM.blk.frozen 1
        have f48 := hM.blk.frozen 48
        obtain ⟨u48, hu48⟩ : ∃ u, wr.cell? ⟨mb, 48, none⟩ = some u := ⟨_, by rw [hM.blk.cell]; exact hM.c.c48⟩
        -- what the ways come to
        have HCD := Lib.hid ht.code
        by_cases hlt : f.next < f.code.length
        · obtain ⟨⟨op, a⟩, hins⟩ : ∃ x, f.code[f.next]? = some x := ⟨_, List.getElem?_eq_getElem hlt⟩
          obtain ⟨gc, cc', hvc, hcc1, _, hgcO, hgcl, hgcells, _⟩ := ht.code.at_ (by omega)
          injection hvc with hvc _ hcc
          subst hvc hcc
          obtain ⟨i0, i1⟩ := pts_get hins
          have q0 := hgcells _ _ i0
          have q1 := hgcells _ _ i1
          rw [Nat.mul_comm 2] at q0 q1
          dsimp only at q0 q1
          have HN := Lib.hid (next_cons (s := s) HE.out (f := f) (r := r) (hse.symm.trans (settle_now hlt)) hins)
          have HM0 := HM
          clear hM hse hB hF ht hgcells hins i0 i1 HCD
          simp only [List.length_cons] at hfl
          generalize hm : r.length = m at *
          generalize hnx : f.next = nx at *
          generalize hcl : f.code.length = cl at *
          clear hm hnx hcl
          obtain ⟨k, hk1, hk2, hk⟩ : ∃ k, m < k ∧ k ≤ m + 1 ∧ m + 1 = k := ⟨m + 1, by omega, by omega, rfl⟩
          rw [hk] at c1 tcap
          clear hk
          have hw1 : IntKind.i64.wrap ((k : Int) - 1) = (m : Int) := by rw [IntWalk.i64_in _ (by omega)]; omega
          go_wp2_with fail
          go_quiet (fail)
          go_wp2_with fail
          clear hw1
          go_quiet (fail)
          go_wp2_with fail
          rename_i n1 K5 hK5
          have HM1 := Lib.hid ((HM.out.drewN n1).drewN nq)
          have HB1 := Lib.hid ((HB.out.drewN n1).drewN nq)
          have HF1 := Lib.hid ((HF.out.drewN n1).drewN nq)
          replace t0 : ((wr.drewN n1).drewN nq).cell? ⟨g, m * 3, none⟩ = _ := t0
          replace t1 : ((wr.drewN n1).drewN nq).cell? ⟨g, m * 3 + 1, none⟩ = _ := t1
          replace q0 : ((wr.drewN n1).drewN nq).cell? _ = _ := q0
          replace q1 : ((wr.drewN n1).drewN nq).cell? _ = _ := q1
          replace hgcl : gc < ((wr.drewN n1).drewN nq).heap.size := hgcl
          replace tg : g < ((wr.drewN n1).drewN nq).heap.size := tg
          replace bl : w.heap.size < ((wr.drewN n1).drewN nq).heap.size := bl
          replace lmb : mb < ((wr.drewN n1).drewN nq).heap.size := lmb
          clear HM HB HF HTp HM0 c1 f1 t2 tf1 tf2 c47 f47 b0 b1 bf0 bf1 f48 hu48
          generalize (wr.drewN n1).drewN nq = W at *
          go_region
          go_wp2_with fail
          have HI2 := Lib.hid ((Blk.new W 61 #[.int .i64 op, .int .i64 a]).drew)
          have i0 := HI2.out.cell 0
          have i1 := HI2.out.cell 1
          simp only [List.getElem?_toArray, List.getElem?_cons_zero, List.getElem?_cons_succ] at i0 i1
          have HM2 := Lib.hid ((HM1.out.alloc (.cells #[.int .i64 op, .int .i64 a] 61)).drew)
          have HB2 := Lib.hid ((HB1.out.alloc (.cells #[.int .i64 op, .int .i64 a] 61)).drew)
          have HF2 := Lib.hid ((HF1.out.alloc (.cells #[.int .i64 op, .int .i64 a] 61)).drew)
          have t0' : (W.alloc (.cells #[.int .i64 op, .int .i64 a] 61)).drew.cell? ⟨g, m * 3, none⟩ = _ := (World.cell?_alloc_lt W _ _ tg).trans t0
          have t1' : (W.alloc (.cells #[.int .i64 op, .int .i64 a] 61)).drew.cell? ⟨g, m * 3 + 1, none⟩ = _ := (World.cell?_alloc_lt W _ _ tg).trans t1
          have HNO := Lib.hid (HM1.out.notO (Nat.le_refl W.heap.size))
          have bl2 := Lib.hid (show W.heap.size ≠ w.heap.size by omega)
          have tg2 : g < (W.alloc (.cells #[.int .i64 op, .int .i64 a] 61)).drew.heap.size := by simp; omega
          clear HM1 HB1 HF1 t0 t1 q0 q1 tg bl lmb hgcl
          generalize (W.alloc (.cells #[.int .i64 op, .int .i64 a] 61)).drew = W2 at *
          generalize W.heap.size = ib at *
          clear W
          have hw1 : IntKind.i64.wrap ((cl : Int) - 1) = ((cl : Int) - 1) := by rw [IntWalk.i64_in _ (by omega)]
          have hw2 : IntKind.i64.wrap ((cl : Int) - 1 - nx) = ((cl : Int) - 1 - nx) := by rw [IntWalk.i64_in _ (by omega)]
          have hibm : ib ≠ mb := fun e => HNO.out (e ▸ HM2.out.mbO)
          go_region_held3 (fun w' => w'.cell? ⟨g, m * 3, none⟩ = some (.slice (some ⟨gc, 0, none⟩) cl cc) ∧ w'.cell? ⟨g, m * 3 + 1, none⟩ = some (.int .i64 nx) ∧ w'.cell? ⟨ib, 0, none⟩ = some (.int .i64 op) ∧ w'.cell? ⟨ib, 1, none⟩ = some (.int .i64 a)) (first | (go_keep; done) | (refine ⟨?_, ?_, ?_, ?_⟩ <;> (refine (World.cell?_setCell_other _ _ _ _ (by intro e; injection e with e; first | exact tgm e | exact tgm e.symm | exact hibm e | exact hibm e.symm)).trans ?_; assumption)))
            (first | (go_at_call 108; refine (wrong_any W2.drew mb O L' _ HM2.out.drew op a _).mono ?_; rintro e w3 ⟨rfl, hbl⟩; have hfz : Fr O W2 w3 := (Fr.refl O W2).drew.trans (Fr.of_below hbl (fun k hk _ => hk)); have HI3 := Lib.hid (hfz.blk HI2.out HNO.out); have HM3 := Lib.hid (HM2.out.keep (w' := w3) (fun k hk => hbl.block k (HM2.out.olt k hk)) (fun _ h => h) (fun k hk => Nat.lt_of_lt_of_le (HM2.out.olt k hk) hbl.size)); have HB3 := Lib.hid (hfz.blk HB2.out HO.out); have HF3 := Lib.hid (HF2.out.trans hfz); have t03 := (hbl.cell (p := ⟨g, m * 3, none⟩) tg2).trans t0'; have t13 := (hbl.cell (p := ⟨g, m * 3 + 1, none⟩) tg2).trans t1'; have i03 := HI3.out.cell 0; have i13 := HI3.out.cell 1; simp only [List.getElem?_toArray, List.getElem?_cons_zero, List.getElem?_cons_succ] at i03 i13; clear hfz hbl HI2 HM2 HB2 HF2 i0 i1 t0' t1' hw1 hw2; obtain ⟨u48, c48⟩ : ∃ u, w3.cell? ⟨mb, 48, none⟩ = some u := ⟨_, by rw [HM3.out.blk.cell]; exact HM3.out.c.c48⟩; have f48 := HM3.out.blk.frozen 48; have lmb := HM3.out.blk.lt))
          rename_i hSS
          clear hSS t03 t13 i03 i13
          generalize hE : wrong { s with frames := f :: r } op a ((cl : Int) - 1 - nx) = er at *
          clear hE
          have h4 := HM3.out.set_ (HM3.out.c.setErr er) (HM3.out.ok.cells_ HM3.out.ok.store HM3.out.ok.stl HM3.out.ok.look HM3.out.ok.move HM3.out.ok.mode HM3.out.ok.peak)
          have h5 := h4.set_ (h4.c.setEnded (decide (er ≠ 0))) (h4.ok.cells_ h4.ok.store h4.ok.stl h4.ok.look h4.ok.move h4.ok.mode h4.ok.peak)
          have HM5 := Lib.hid h5
          have HF5 := Lib.hid ((HF3.out.setCell (p := ⟨mb, 48, none⟩) (.inl HM3.out.mbO) (.int .i64 er)).setCell (p := ⟨mb, 47, none⟩) (.inl HM3.out.mbO) (.bool (decide (er ≠ 0))))
          have HI5 := Lib.hid ((HI3.out.far (p := ⟨mb, 48, none⟩) hibm (.int .i64 er)).far (p := ⟨mb, 47, none⟩) hibm (.bool (decide (er ≠ 0))))
          have HB5 := Lib.hid ((HB3.out.far (p := ⟨mb, 48, none⟩) hmw.symm (.int .i64 er)).far (p := ⟨mb, 47, none⟩) hmw.symm (.bool (decide (er ≠ 0))))
          have c47 : ∃ u, w3.cell? ⟨mb, 47, none⟩ = some u := ⟨_, by rw [HM3.out.blk.cell]; exact HM3.out.c.c47⟩
          obtain ⟨u47, c47⟩ := c47
          have f47 := HM3.out.blk.frozen 47
          have lmb := HM3.out.blk.lt
          clear h4 h5 HM3 HF3 HI3 HB3
          go_wp2_with fail
          have HNb : Hid ((next s).2.isSome = !(er != 0) ∧ (∀ i, (next s).2 = some i → i = (op, a)) ∧ (next s).1 = { s with frames := f :: r, ended := decide (er ≠ 0), err := er }) := Lib.hid (by
            rw [HN.out]
            by_cases h0 : er = 0
            · refine ⟨by simp [h0], fun i hi => ?_, rfl⟩
              simp only [h0, if_true] at hi
              exact (Option.some.inj hi).symm
            · refine ⟨by simp [h0], fun i hi => ?_, rfl⟩
              simp only [h0, if_false] at hi
              cases hi)
          clear HN
          have hdb : decide (er ≠ 0) = (er != 0) := by by_cases h0 : er = 0 <;> simp [h0]
          rw [hdb] at HM5 HF5 HI5 HB5 HNb
          clear hdb c47 c48 f47 f48 lmb
          generalize (er != 0) = b at *
          have i0 := HI5.out.cell 0
          have i1 := HI5.out.cell 1
          simp only [List.getElem?_toArray, List.getElem?_cons_zero, List.getElem?_cons_succ] at i0 i1
          have b0 := HB5.out.cell 0
          have b1 := HB5.out.cell 1
          simp only [List.getElem?_toArray, List.getElem?_cons_zero, List.getElem?_cons_succ] at b0 b1
          have bf0 := HB5.out.frozen 0
          have bf1 := HB5.out.frozen 1
          have bl := HB5.out.lt
          have c47 := HM5.out.blk.cell 47
          rw [HM5.out.c.c47] at c47
          dsimp only at c47
          generalize (w3.setCell ⟨mb, 48, none⟩ (.int .i64 er)).setCell ⟨mb, 47, none⟩ (.bool b) = W5 at *
          have HM6 := Lib.hid ((HM5.out.drew.outer (p := ⟨w.heap.size, 0, none⟩) HO.out (.int .i64 op)).outer (p := ⟨w.heap.size, 1, none⟩) HO.out (.int .i64 a))
          have HF6 := Lib.hid ((HF5.out.drew.setCell (p := ⟨w.heap.size, 0, none⟩) (.inr (Nat.le_refl _)) (.int .i64 op)).setCell (p := ⟨w.heap.size, 1, none⟩) (.inr (Nat.le_refl _)) (.int .i64 a))
          clear HM5 HF5 HI5 HB5
          go_region
          go_wp2_with fail
          refine bodyPost_ret (v := .tuple #[.agg #[.int .i64 op, .int .i64 a], .bool !b]) (by simp [results, Tryz.results34, go_sem, b0, b1]) rfl ?_
          unfold NPost
          rw [HNb.out.1, HNb.out.2.2]
          exact ⟨⟨op, a, rfl, HNb.out.2.1⟩, ⟨_, HM6.out⟩, HF6.out⟩
        · by_cases hmo : 0 < f.more
          · obtain ⟨mo, hmo1⟩ : ∃ n, f.more = n + 1 := ⟨f.more - 1, by omega⟩
            have hfm : fmeas ({ f with next := 0, more := mo } :: r) < fmeas (f :: r) := by simp [fmeas, hmo1]
            have hsm := settle_more (r := r) hlt hmo
            rw [show f.more - 1 = mo by omega] at hsm
            have hW := fun n => (((hM.drewN n).setFm (f := f) (r := r) rfl (ht.keep (fun _ _ => rfl) (Nat.le_refl _)) (f' := { f with more := mo }) (n := mo) (j := r.length * 3 + 2) (by omega) rfl (frC_set2 _ vs f r ht.vsl _) ⟨hb1, by simp only; omega⟩))
            have hW2 : ∀ n, ∃ L2, MaL (((wr.drewN n).setCell ⟨g, r.length * 3 + 2, none⟩ (.int .i64 mo)).setCell ⟨g, r.length * 3 + 1, none⟩ (.int .i64 0)) mb O L2 { s with frames := { f with next := 0, more := mo } :: r } := fun n => by
             obtain ⟨g', c', v', vs', ht'⟩ := (hW n).top rfl
             have e1 : g = g' ∧ c = c' ∧ .slice Ac f.code.length cc = v' ∧ vs = vs' := by
               have h1 := ht'.fr
               have h2 := ht'.frs
               rw [ht.fr] at h1
               rw [ht.frs] at h2
               injection h1 with h1 _ h3
               injection h1 with h1
               injection h1 with h1
               injection h2 with h2 h4
               exact ⟨h1, h3, h2, h4⟩
             obtain ⟨rfl, rfl, rfl, rfl⟩ := e1
             exact ⟨_, (hW n).setFm (f := { f with more := mo }) (r := r) rfl ht' (f' := { f with next := 0, more := mo }) (n := 0) (j := r.length * 3 + 1) (by omega) rfl (frC_set1 _ _ _ r ht.vsl _) ⟨Nat.zero_le _, by simp only; omega⟩⟩
            have HI : Hid (∀ n, NInv w mb O s (fmeas (f :: r)) (((wr.drewN n).setCell ⟨g, r.length * 3 + 2, none⟩ (.int .i64 mo)).setCell ⟨g, r.length * 3 + 1, none⟩ (.int .i64 0))) := Lib.hid (fun n => by
              obtain ⟨L2, hL2⟩ := hW2 n
              exact ⟨_, L2, hfm, hL2, hsm.trans hse, ((hB.drewN n).far (p := ⟨g, r.length * 3 + 2, none⟩) hgw.symm _).far (p := ⟨g, r.length * 3 + 1, none⟩) hgw.symm _, ((hF.drewN n).setCell (.inl ht.gO) _).setCell (.inl ht.gO) _⟩)
            rw [hmo1] at t2
            have hmo15 : mo ≤ 15 := by omega
            clear hW hW2 hfm hM hse hB hF ht hsm hmo1 hmo
            simp only [List.length_cons] at hfl
            generalize hm : r.length = m at *
            generalize hnx : f.next = nx at *
            generalize hcl : f.code.length = cl at *
            clear hm hnx hcl
            obtain ⟨k, hk1, hk2, hk⟩ : ∃ k, m < k ∧ k ≤ m + 1 ∧ m + 1 = k := ⟨m + 1, by omega, by omega, rfl⟩
            rw [hk] at c1 tcap
            clear hk
            have hw1 : IntKind.i64.wrap ((k : Int) - 1) = (m : Int) := by rw [IntWalk.i64_in _ (by omega)]; omega
            go_wp2_with fail
            go_quiet (fail)
            go_wp2_with fail
            clear hw1
            go_quiet (fail)
            go_wp2
            go_roundg (fmeas (f :: r))
            case measure => exact hk
            case rel => exact HI.out _
          · have hp := fun n => (hM.drewN n).popFm (f := f) (r := r) rfl (ht.keep (fun _ _ => rfl) (Nat.le_refl _))
            have hfm : fmeas r < fmeas (f :: r) := by simp [fmeas]
            have HI : Hid (∀ n, NInv w mb O s (fmeas (f :: r)) ((wr.drewN n).setCell ⟨mb, 1, none⟩ (.slice (some ⟨g, 0, none⟩) r.length c))) := Lib.hid (fun n => by
              obtain ⟨L2, hL2⟩ := hp n
              exact ⟨r, L2, hfm, hL2, (settle_pop hlt (by omega)).symm.trans hse, (hB.drewN n).far (p := ⟨mb, 1, none⟩) hmw.symm _, (hF.drewN n).setCell (.inl hM.mbO) _⟩)
            have hmo0 : f.more = 0 := by omega
            rw [hmo0] at t2
            clear hp hfm hM hse hB hF ht hmo hmo0
            simp only [List.length_cons] at hfl
            generalize hm : r.length = m at *
            generalize hnx : f.next = nx at *
            generalize hcl : f.code.length = cl at *
            clear hm hnx hcl
            obtain ⟨k, hk1, hk2, hk⟩ : ∃ k, m < k ∧ k ≤ m + 1 ∧ m + 1 = k := ⟨m + 1, by omega, by omega, rfl⟩
            rw [hk] at c1 tcap
            clear hk
            have hw1 : IntKind.i64.wrap ((k : Int) - 1) = (m : Int) := by rw [IntWalk.i64_in _ (by omega)]; omega
            go_wp2_with fail
            go_quiet (fail)
            go_wp2_with fail
            clear hw1
            go_quiet (fail)
            have hw1 : IntKind.i64.wrap ((k : Int) - 1) = (m : Int) := by rw [IntWalk.i64_in _ (by omega)]; omega
            go_wp2_with fail
            rename_i n1
            have HI2 := Lib.hid (HI.out (n1 + nq + 1))
            have c1w : (wr.drewN (n1 + nq)).cell? ⟨mb, 1, none⟩ = some (.slice (some ⟨g, 0, none⟩) k c) := c1
            have f1w : (wr.drewN (n1 + nq)).frozen? ⟨mb, 1, none⟩ = false := f1
            have hrw : (wr.drewN (n1 + nq)).drew = wr.drewN (n1 + nq + 1) := rfl
            rw [← hrw] at HI2
            clear hrw HI c1 f1 t0 t1 t2 b0 b1 c47 f47 bf0 bf1 tf1 tf2 f48 hu48
            generalize wr.drewN (n1 + nq) = W at *
            have hmc : m ≤ c := by omega
            have hmc2 : (m : Int) ≤ (c : Int) := by omega
            go_still_tail 14, (by kernel_rfl)
            change wpList _ _ _ _ _ W.drew
            go_wp2
            go_roundg (fmeas (f :: r))
            case measure => exact hk
            case rel => exact HI2.out
end Go.Proofs.YthdmdgmchkhngaaGreat

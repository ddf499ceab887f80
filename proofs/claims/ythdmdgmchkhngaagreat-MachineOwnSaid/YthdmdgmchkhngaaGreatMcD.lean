/- The machine's frames: the last one's cells, and what stays as they are written; pass, call: their contracts. · The machine's deeds Jump, JumpZ, CallF, Loop: their contracts. · The machine's deeds Jump, JumpZ, CallF, Loop: their contracts. -/
import Derived.Test.YthdmdgmchkhngaaGreatMcC
namespace Go.Proofs.YthdmdgmchkhngaaGreat
open Go.RowKit Mc

theorem frC_get (v : Value) (vs : List Value) (f : Fm) (fs : List Fm) (hl : vs.length = fs.length) : (frC (v :: vs) (f :: fs))[fs.length * 3]? = some v ∧ (frC (v :: vs) (f :: fs))[fs.length * 3 + 1]? = some (.int .i64 f.next) ∧ (frC (v :: vs) (f :: fs))[fs.length * 3 + 2]? = some (.int .i64 f.more) := by
  have := frC_len vs fs hl
  simp only [frC]
  refine ⟨?_, ?_, ?_⟩ <;> rw [List.getElem?_append_right (by omega), this] <;> simp
theorem frC_set1 (v : Value) (vs : List Value) (f : Fm) (fs : List Fm) (hl : vs.length = fs.length) (n : Nat) : (frC (v :: vs) (f :: fs)).set (fs.length * 3 + 1) (.int .i64 n) = frC (v :: vs) ({ f with next := n } :: fs) := by
  have := frC_len vs fs hl
  simp only [frC]
  rw [List.set_append_right _ _ (by omega), this]
  simp
theorem frC_set2 (v : Value) (vs : List Value) (f : Fm) (fs : List Fm) (hl : vs.length = fs.length) (n : Nat) : (frC (v :: vs) (f :: fs)).set (fs.length * 3 + 2) (.int .i64 n) = frC (v :: vs) ({ f with more := n } :: fs) := by
  have := frC_len vs fs hl
  simp only [frC]
  rw [List.set_append_right _ _ (by omega), this]
  simp
theorem frC_take (v : Value) (vs : List Value) (f : Fm) (fs : List Fm) (hl : vs.length = fs.length) : (frC (v :: vs) (f :: fs)).take (fs.length * 3) = frC vs fs := by
  simp only [frC]
  exact List.take_left' (frC_len vs fs hl)

/-- the last frame, as it lies -/
structure Top (w : World) (mb : Nat) (O : Nat → Prop) (L : Lay) (s : St) (f : Fm) (r : List Fm) (g c : Nat) (v : Value) (vs : List Value) : Prop where
  fr : L.fr = .slice (some ⟨g, 0, none⟩) (r.length + 1) c
  frs : L.frs = v :: vs
  vsl : vs.length = r.length
  cap : r.length + 1 ≤ c
  capm : c ≤ maxLen
  gO : O g
  glt : g < w.heap.size
  gmb : g ≠ mb
  c0 : w.cell? ⟨g, r.length * 3, none⟩ = some v
  c1 : w.cell? ⟨g, r.length * 3 + 1, none⟩ = some (.int .i64 f.next)
  c2 : w.cell? ⟨g, r.length * 3 + 2, none⟩ = some (.int .i64 f.more)
  fz : ∀ j, w.frozen? ⟨g, j, none⟩ = false
  code : Row w O 61 2 v f.code.length (pts f.code)
  codes : Codes w O vs (r.map (·.code))

section
variable {w w' : World} {mb : Nat} {O : Nat → Prop} {L : Lay} {s : St} {f : Fm} {r : List Fm}
theorem MaL.top (h : MaL w mb O L s) (hf : s.frames = f :: r) : ∃ g c v vs, Top w mb O L s f r g c v vs := by
  have hfr := h.fr
  have hfrc := h.frc
  rw [hf] at hfr hfrc
  obtain ⟨g, c, hv, hc1, hc2, hg, hgl, hcells, hfz⟩ := hfr.at_ (by simp)
  rcases hL : L.frs with _ | ⟨v, vs⟩
  · rw [hL] at hfrc; exact hfrc.elim
  rw [hL] at hfrc hcells
  have hvl : vs.length = r.length := by simpa using hfrc.2.len
  obtain ⟨k0, k1, k2⟩ := frC_get v vs f r hvl
  exact ⟨g, c, v, vs, by simpa using hv, hL, hvl, by simpa using hc1, hc2, hg, hgl, hfr.ne_blk h.blk (by decide) (by rw [hv]; rfl), hcells _ _ k0, hcells _ _ k1, hcells _ _ k2, hfz, hfrc.1, hfrc.2⟩
theorem Top.keep {g c : Nat} {v : Value} {vs : List Value} (ht : Top w mb O L s f r g c v vs) (hk : ∀ k, O k → w'.heap[k]? = w.heap[k]?) (hz : w.heap.size ≤ w'.heap.size) : Top w' mb O L s f r g c v vs :=
  ⟨ht.fr, ht.frs, ht.vsl, ht.cap, ht.capm, ht.gO, Nat.lt_of_lt_of_le ht.glt hz, ht.gmb, (World.cell?_of_block (w := w) (hk g ht.gO)).trans ht.c0, (World.cell?_of_block (w := w) (hk g ht.gO)).trans ht.c1, (World.cell?_of_block (w := w) (hk g ht.gO)).trans ht.c2, fun j => (World.frozen?_of_block (w := w) (hk g ht.gO)).trans (ht.fz j), ht.code.keep (fun k hk' => hk k (ht.code.2 k hk')) (fun _ h => h), ht.codes.keep (fun k _ ho _ => hk k ho) (fun _ h => h)⟩
theorem Mc.Ok.frames_ (h : Ok s) {fs : List Fm} (h1 : ∀ f ∈ fs, f.next ≤ f.code.length ∧ f.more ≤ 15 ∧ f.code.length ≤ 1000000) (h2 : fs.length ≤ 21) : Ok { s with frames := fs } :=
  ⟨h.stack, h.slen, h.cvt, h.store, h.stl, h.cur, h.org, h.orgl, h.touch, h.tl, h.size, h.look, h.move, h.mode, h.peak, h1, h2, h.funcs, h.fnl, h.cont, h.contl, h.curl, h.cvl, h.endl⟩
theorem MaC.frames_ (h : MaC L s) (fs : List Fm) : MaC L { s with frames := fs } := ⟨h.sz, h.stl, h.st, h.c0, h.c1, h.c2, h.c3, h.c4, h.c5, h.c6, h.c7, h.c40, h.c41, h.c42, h.c43, h.c44, h.c45, h.c46, h.c47, h.c48, h.c49⟩
/-- a number of the last frame is written -/
theorem MaL.setFm (h : MaL w mb O L s) (hf : s.frames = f :: r) {g c : Nat} {v : Value} {vs : List Value} (ht : Top w mb O L s f r g c v vs) {f' : Fm} {j : Nat} {n : Nat} (hj : j < (r.length + 1) * 3) (hcode : f'.code = f.code)
    (hset : (frC (v :: vs) (f :: r)).set j (.int .i64 n) = frC (v :: vs) (f' :: r)) (hn : f'.next ≤ f'.code.length ∧ f'.more ≤ 15) :
    MaL (w.setCell ⟨g, j, none⟩ (.int .i64 n)) mb O L { s with frames := f' :: r } := by
  have hob : L.fr.ownBlock = some g := by rw [ht.fr]; rfl
  have hfr := h.fr
  rw [hf, ht.frs] at hfr
  have hflen := frC_len (v :: vs) (f :: r) (by simp [ht.vsl])
  have hrow := hfr.set_ hob (j := j) (by rw [hflen]; simpa using hj) (.int .i64 n)
  rw [hset] at hrow
  have hk : ∀ k, k ≠ g → (w.setCell ⟨g, j, none⟩ (.int .i64 n)).heap[k]? = w.heap[k]? := fun k hk => Below.heap_setCell _ _ _ _ hk
  have hcod : Codes (w.setCell ⟨g, j, none⟩ (.int .i64 n)) O (v :: vs) ((f' :: r).map (·.code)) := by
    have := h.frc
    rw [hf, ht.frs] at this
    simp only [List.map_cons, hcode] at this ⊢
    refine this.keep (fun k cs hko hb => hk k (fun e => ?_)) (fun _ h => h)
    obtain ⟨_, _, cs2, hb2⟩ := h.fr.block hob
    subst e
    exact hb.ne_ hb2 (by decide) rfl
  have hokf := h.ok.frames f (by rw [hf]; simp)
  have := h.frames_ (u := L.fr) (cs' := L.cs) (vs := v :: vs) (fs := f' :: r) hcod ((hk mb ht.gmb.symm).trans h.blk) (by rw [← ht.frs]; exact h.c.frames_ (f' :: r)) (by simpa using hrow) (fun g' hg' => .inl hg') (fun k _ _ hkk => hk k (fun e => hkk (by rw [hob, e]))) (fun _ h => h) (fun k hk => by have := h.olt k hk; simpa [World.setCell] using this)
    (h.ok.frames_ (fun x hx => by
      rcases List.mem_cons.1 hx with rfl | hx
      · exact ⟨hn.1, hn.2, by rw [hcode]; exact hokf.2.2⟩
      · exact h.ok.frames x (by rw [hf]; exact List.mem_cons_of_mem _ hx)) (by have := h.ok.flen; rw [hf] at this; simpa using this))
  rw [← ht.frs] at this
  exact this
end

theorem pass_yes {s : St} {f : Fm} {r : List Fm} (hf : s.frames = f :: r) (n : Nat) : pass s n = { s with frames := { f with next := f.next + n } :: r } := by
  unfold pass
  rw [hf]
  simp
set_option maxRecDepth 100000 in
set_option maxHeartbeats 1000000 in
theorem pass_any (w : World) (mb : Nat) (O : Nat → Prop) (L : Lay) (s : St) (h : MaL w mb O L s) (f : Fm) (r : List Fm) (hf : s.frames = f :: r) (n : Nat) (hn : f.next + n ≤ f.code.length) :
    Calls Tryz.prog 100 #[.pointer (some ⟨mb, 0, none⟩), .int .i64 n] w (MPost w mb O (pass s n)) := by
  obtain ⟨g, c, v, vs, ht⟩ := h.top hf
  have hokf := h.ok.frames f (by rw [hf]; simp)
  have h1 := h.drew.setFm hf (f' := { f with next := f.next + n }) (n := f.next + n) (j := r.length * 3 + 1) (ht.keep (fun _ _ => rfl) (Nat.le_refl _)) (by omega) rfl (frC_set1 v vs f r ht.vsl _) ⟨hn, hokf.2.1⟩
  have HP : Hid (MPost w mb O (pass s n) (.returned (.tuple #[])) (w.drew.setCell ⟨g, r.length * 3 + 1, none⟩ (.int .i64 (f.next + n : Nat)))) := Lib.hid (by rw [pass_yes hf]; exact .here h1 ((Fr.refl O w).drew.setCell (.inl ht.gO) _))
  have hc1 := h.blk.cell 1
  rw [h.c.c1, ht.fr] at hc1
  have e1 := ht.c1
  have e2 := ht.fz (r.length * 3 + 1)
  have e3 := ht.glt
  have e4 := ht.cap
  have e5 := ht.gmb
  have e6 := h.blk.lt
  have hfl := h.ok.flen
  rw [hf, List.length_cons] at hfl
  have hb1 := hokf.1
  have hb2 := hokf.2.2
  clear h h1 ht hf hokf
  generalize hm : r.length = m at *
  generalize hnx : f.next = nx at *
  clear hm hnx
  obtain ⟨k, hk1, hk2, hk⟩ : ∃ k, m < k ∧ k ≤ m + 1 ∧ m + 1 = k := ⟨m + 1, by omega, by omega, rfl⟩
  rw [hk] at hc1 e4 hfl
  clear hk
  have hS : w.drew.cell? ⟨mb, 1, none⟩ = some (.slice (some ⟨g, 0, none⟩) k c) ∧ w.drew.cell? ⟨g, m * 3 + 1, none⟩ = some (.int .i64 nx) := ⟨hc1, e1⟩
  go_enter Tryz.func100, Tryz.ntmps100
  go_wp2_with fail
  refine wp_region_seqT (fun i => !([17] : List Nat).contains i) (fun i => ([3, 7, 12] : List Nat).contains i) (fun i => ([] : List Nat).contains i) [0, 1, 2, 3, 4, 5, 6, 7, 8, 9, 10, 11, 12, 13, 14, 15, 16, 17] (fun w' : World => w'.cell? ⟨mb, 1, none⟩ = some (.slice (some ⟨g, 0, none⟩) k c) ∧ w'.cell? ⟨g, m * 3 + 1, none⟩ = some (.int .i64 nx)) (by kernel_rfl) (by kernel_rfl) (by kernel_rfl) (by kernel_rfl) ?_
  refine wpSeq_pure (v := _) rfl rfl rfl (by kernel_rfl) (fun _ _ _ h => h) (fun wq => by first | (go_simp; done) | (go_simp; rfl)) ?_
  refine wpSeq_pure (v := _) rfl rfl rfl (by kernel_rfl) (fun _ _ _ h => h) (fun wq => by first | (go_simp; done) | (go_simp; rfl)) ?_
  refine wpSeq_pure (v := _) rfl rfl rfl (by kernel_rfl) (fun _ _ _ h => h) (fun wq => by first | (go_simp; done) | (go_simp; rfl)) ?_
  refine wpSeq_load (v := _) rfl rfl (by kernel_rfl) (fun _ _ _ h => h) hS rfl (fun wq hq => by (try have hq1 := hq.1); (try have hq2 := hq.2.1); (try have hq3 := hq.2.2.1); (try have hq4 := hq.2.2.2.1); (try have hq5 := hq.2.2.2.2.1); (try have hq6 := hq.2.2.2.2.2.1); (try have hq7 := hq.2.2.2.2.2.2); (try have hr2 := hq.2); (try have hr3 := hq.2.2); (try have hr4 := hq.2.2.2); (try have hr5 := hq.2.2.2.2); first | (go_simp; done) | (go_simp; rfl)) ?_
  refine wpSeq_pure (v := _) rfl rfl rfl (by kernel_rfl) (fun _ _ _ h => h) (fun wq => by first | (go_simp; done) | (go_simp; rfl)) ?_
  refine wpSeq_pure (v := _) rfl rfl rfl (by kernel_rfl) (fun _ _ _ h => h) (fun wq => by first | (go_simp; done) | (go_simp; rfl)) ?_
  refine wpSeq_pure (v := _) rfl rfl rfl (by kernel_rfl) (fun _ _ _ h => h) (fun wq => by first | (go_simp; done) | (go_simp; rfl)) ?_
  refine wpSeq_load (v := _) rfl rfl (by kernel_rfl) (fun _ _ _ h => h) hS rfl (fun wq hq => by (try have hq1 := hq.1); (try have hq2 := hq.2.1); (try have hq3 := hq.2.2.1); (try have hq4 := hq.2.2.2.1); (try have hq5 := hq.2.2.2.2.1); (try have hq6 := hq.2.2.2.2.2.1); (try have hq7 := hq.2.2.2.2.2.2); (try have hr2 := hq.2); (try have hr3 := hq.2.2); (try have hr4 := hq.2.2.2); (try have hr5 := hq.2.2.2.2); first | (go_simp; done) | (go_simp; rfl)) ?_
  refine wpSeq_pure (v := _) rfl rfl rfl (by kernel_rfl) (fun _ _ _ h => h) (fun wq => by first | (go_simp; done) | (go_simp; rfl)) ?_
  refine wpSeq_pure (v := .int .i64 (m : Int)) rfl rfl rfl (by kernel_rfl) (fun _ _ _ h => h) (fun wq => by (go_simp; rw [IntWalk.i64_in _ (by omega)]; omega)) ?_
  refine wpSeq_pure (v := _) rfl rfl rfl (by kernel_rfl) (fun _ _ _ h => h) (fun wq => by first | (go_simp; done) | (go_simp; rfl)) ?_
  refine wpSeq_pure (v := _) rfl rfl rfl (by kernel_rfl) (fun _ _ _ h => h) (fun wq => by first | (go_simp; done) | (go_simp; rfl)) ?_
  refine wpSeq_load (v := _) rfl rfl (by kernel_rfl) (fun _ _ _ h => h) hS rfl (fun wq hq => by (try have hq1 := hq.1); (try have hq2 := hq.2.1); (try have hq3 := hq.2.2.1); (try have hq4 := hq.2.2.2.1); (try have hq5 := hq.2.2.2.2.1); (try have hq6 := hq.2.2.2.2.2.1); (try have hq7 := hq.2.2.2.2.2.2); (try have hr2 := hq.2); (try have hr3 := hq.2.2); (try have hr4 := hq.2.2.2); (try have hr5 := hq.2.2.2.2); first | (go_simp; done) | (go_simp; rfl)) ?_
  refine wpSeq_pure (v := _) rfl rfl rfl (by kernel_rfl) (fun _ _ _ h => h) (fun wq => by first | (go_simp; done) | (go_simp; rfl)) ?_
  refine wpSeq_pure (v := .int .i64 ((nx + n : Nat) : Int)) rfl rfl rfl (by kernel_rfl) (fun _ _ _ h => h) (fun wq => by (go_simp; rw [IntWalk.i64_in _ (by omega)])) ?_
  refine wpSeq_pure (v := _) rfl rfl rfl (by kernel_rfl) (fun _ _ _ h => h) (fun wq => by first | (go_simp; done) | (go_simp; rfl)) ?_
  refine wpSeq_pure (v := _) rfl rfl rfl (by kernel_rfl) (fun _ _ _ h => h) (fun wq => by first | (go_simp; done) | (go_simp; rfl)) ?_
  refine wpSeq_heavy rfl rfl (fun K hK => ?_); go_simp
  refine hK _ _ (fun h => by cases h) ?_; clear hK K
  refine wpSeq_end ?_
  go_wp2
  go_end0
  exact HP.out
end Go.Proofs.YthdmdgmchkhngaaGreat
namespace Go.Proofs.YthdmdgmchkhngaaGreat
open Go.RowKit Mc

theorem info_frame : (Tryz.prog.info? 80).map (fun i => (i.zero, i.size, i.bytes)) = some (some (.agg #[.slice none 0 0, .int .i64 0, .int .i64 0]), 3, 40) := by kernel_rfl

section
variable {w w1 : World} {mb : Nat} {O : Nat → Prop} {L : Lay} {s : St}
/-- a frame more, the row append's -/
theorem MaL.framed (h : MaL w mb O L s) {u v : Value} {code : List (Int × Int)} {more : Nat} (hv : Row w O 61 2 v code.length (pts code)) (hcl : code.length ≤ 1000000) (hm : more ≤ 15) (hl : s.frames.length < 21)
    (hrow : Row w1 (ext O w w1) 80 3 u (s.frames.length + 1) (frC L.frs s.frames ++ [v, .int .i64 0, .int .i64 more])) (hg : w.grownBy w1 L.fr.ownBlock) (hnew : ∀ g, u.ownBlock = some g → L.fr.ownBlock = some g ∨ w.heap.size ≤ g) :
    (∃ cs, Blk w1 mb 88 cs ∧ cs.size = 50) ∧ (∃ L', MaL (w1.setCell ⟨mb, 1, none⟩ u) mb (ext O w w1) L' { s with frames := ⟨code, 0, more⟩ :: s.frames }) ∧ Fr O w (w1.setCell ⟨mb, 1, none⟩ u) := by
  have hmb : Blk w1 mb 88 L.cs := h.blk.grown hg fun e => h.fr.ne_blk h.blk (by decide) e.symm rfl
  have hz := hg.size
  have hk : ∀ k, O k → k ≠ mb → some k ≠ L.fr.ownBlock → (w1.setCell ⟨mb, 1, none⟩ u).heap[k]? = w.heap[k]? := by
    intro k hk h1 h2
    rw [Below.heap_setCell _ _ _ _ h1]
    exact hg.block k (h.olt k hk) h2
  have hins : ∀ k cs, O k → Blk w k 61 cs → (w1.setCell ⟨mb, 1, none⟩ u).heap[k]? = w.heap[k]? := fun k cs hO hb => hk k hO (hb.ne_ h.blk (by decide)) (fun e => by obtain ⟨_, _, cs2, hb2⟩ := h.fr.block e.symm; exact hb.ne_ hb2 (by decide) rfl)
  refine ⟨⟨_, hmb, h.c.sz⟩, ⟨_, h.frames_ (u := u) (vs := v :: L.frs) (fs := ⟨code, 0, more⟩ :: s.frames) ?_ (hmb.set_ 1 u) (h.c.setFr _ _ _) ?_ hnew hk (fun _ h => .inl h) ?_ (h.ok.frames_ ?_ ?_)⟩, ?_⟩
  · exact ⟨hv.keep (fun g hg => by obtain ⟨h1, _, cs, h2⟩ := hv.block hg; exact hins g cs h1 h2) (fun _ h => .inl h), h.frc.keep hins (fun _ h => .inl h)⟩
  · have := hrow.keep (w' := w1.setCell ⟨mb, 1, none⟩ u) (O' := ext O w w1) (fun g hgb => Below.heap_setCell _ _ _ _ (fun (e : g = mb) => hrow.ne_blk hmb (by decide) hgb e)) (fun _ h => h)
    simpa [frC] using this
  · intro k hk
    have := h.ext_lt hz k hk
    simpa [World.setCell] using this
  · intro y hy
    rcases List.mem_cons.1 hy with rfl | hy
    · exact ⟨Nat.zero_le _, hm, hcl⟩
    · exact h.ok.frames y hy
  · simp only [List.length_cons]; omega
  · exact Fr.setCell (⟨hg.os, hg.tape, hg.output, hg.size, fun k hk hs => hg.block k hk (fun e => hs (h.fr.2 k e.symm))⟩) (.inl h.mbO) _
end
theorem call_yes {s : St} {a : Nat} {t : Int} {code : List (Int × Int)} (hc : s.funcs[a]? = some code) (ht : 0 < t) : call s a t = { s with frames := ⟨code, 0, (t - 1).toNat⟩ :: s.frames } := by
  unfold call
  rw [if_pos ht, Int.toNat_natCast, getD_of hc]
theorem call_no {s : St} {a t : Int} (ht : ¬ 0 < t) : call s a t = s := by unfold call; rw [if_neg ht]
set_option maxRecDepth 100000 in
set_option maxHeartbeats 1000000 in
theorem call_any (w : World) (mb : Nat) (O : Nat → Prop) (L : Lay) (s : St) (h : MaL w mb O L s) (a : Nat) (ha : a < s.funcs.length) (t : Int) (ht : t ≤ 16) (hfl : s.frames.length ≤ 20) :
    Calls Tryz.prog 104 #[.pointer (some ⟨mb, 0, none⟩), .int .i64 a, .int .i64 t] w (MPost w mb O (call s a t)) := by
  by_cases h0 : 0 < t
  · obtain ⟨code, hc⟩ : ∃ x, s.funcs[a]? = some x := ⟨_, List.getElem?_eq_getElem ha⟩
    obtain ⟨i0, hi0, hi1, hi2, hi3⟩ := info_m info_frame
    obtain ⟨n, rfl⟩ : ∃ n : Nat, t = (n + 1 : Nat) := ⟨(t - 1).toNat, by omega⟩
    have HQ : Hid (call s a ((n + 1 : Nat) : Int) = { s with frames := ⟨code, 0, n⟩ :: s.frames }) := Lib.hid (by rw [call_yes hc h0]; simp)
    obtain ⟨v, hv, hvr⟩ := h.fuc.get hc
    obtain ⟨g, cf, hfu, hcf, _, hg, hgl, hcells, hfz⟩ := h.fu.at_ (by omega)
    have e1 := hcells _ _ hv
    have c0 := h.blk.cell 0
    rw [h.c.c0, hfu] at c0
    have c1 := h.blk.cell 1
    rw [h.c.c1] at c1
    obtain ⟨Ac, cc, hvs, _, _⟩ := hvr.form
    have HV := Lib.hid hvr
    have H := Lib.hid h
    have hfnl := h.ok.fnl
    have hcl := h.ok.funcs code (List.mem_of_getElem? hc)
    have lmb := h.blk.lt
    have hmbg : mb ≠ g := (h.fu.ne_blk h.blk (by decide) (show L.fu.ownBlock = some g by rw [hfu]; rfl)).symm
    subst hvs
    have hn15 : n ≤ 15 := by omega
    have hS : w.drew.cell? ⟨mb, 0, none⟩ = some (.slice (some ⟨g, 0, none⟩) s.funcs.length cf) ∧ w.drew.cell? ⟨mb, 1, none⟩ = some L.fr ∧ w.drew.cell? ⟨g, a, none⟩ = some (.slice Ac code.length cc) := ⟨c0, c1, e1⟩
    have HM := Lib.hid (h.drew.alloc (.cells #[.slice Ac code.length cc, .int .i64 0, .int .i64 n] 80))
    have hS2 : (w.drew.alloc (.cells #[.slice Ac code.length cc, .int .i64 0, .int .i64 n] 80)).cell? ⟨mb, 0, none⟩ = some (.slice (some ⟨g, 0, none⟩) s.funcs.length cf) ∧ (w.drew.alloc (.cells #[.slice Ac code.length cc, .int .i64 0, .int .i64 n] 80)).cell? ⟨mb, 1, none⟩ = some L.fr ∧ (w.drew.alloc (.cells #[.slice Ac code.length cc, .int .i64 0, .int .i64 n] 80)).cell? ⟨g, a, none⟩ = some (.slice Ac code.length cc) := ⟨(World.cell?_alloc_lt _ _ _ (by simpa using lmb)).trans c0, (World.cell?_alloc_lt _ _ _ (by simpa using lmb)).trans c1, (World.cell?_alloc_lt _ _ _ (by simpa using hgl)).trans e1⟩
    clear h hvr hcells hfz hfu hc hv c0 c1 e1
    go_enter Tryz.func104, Tryz.ntmps104
    go_wp2_with fail
    refine wp_region_seqT (fun i => !([15, 16, 19] : List Nat).contains i) (fun i => ([4, 8, 11] : List Nat).contains i) (fun i => ([15] : List Nat).contains i) [0, 1, 2, 3, 4, 5, 6, 7, 8, 9, 10, 11, 12, 13, 14, 15, 16, 17, 18, 19] (fun w' : World => w'.cell? ⟨mb, 0, none⟩ = some (.slice (some ⟨g, 0, none⟩) s.funcs.length cf) ∧ w'.cell? ⟨mb, 1, none⟩ = some L.fr ∧ w'.cell? ⟨g, a, none⟩ = some (.slice Ac code.length cc)) (by kernel_rfl) (by kernel_rfl) (by kernel_rfl) (by kernel_rfl) ?_
    refine wpSeq_pure (v := _) rfl rfl rfl (by kernel_rfl) (fun _ _ _ h => h) (fun wq => by first | (go_simp; done) | (go_simp; rfl)) ?_
    refine wpSeq_pure (v := _) rfl rfl rfl (by kernel_rfl) (fun _ _ _ h => h) (fun wq => by first | (go_simp; done) | (go_simp; rfl)) ?_
    refine wpSeq_pure (v := _) rfl rfl rfl (by kernel_rfl) (fun _ _ _ h => h) (fun wq => by first | (go_simp; done) | (go_simp; rfl)) ?_
    refine wpSeq_pure (v := _) rfl rfl rfl (by kernel_rfl) (fun _ _ _ h => h) (fun wq => by first | (go_simp; done) | (go_simp; rfl)) ?_
    refine wpSeq_load (v := _) rfl rfl (by kernel_rfl) (fun _ _ _ h => h) hS rfl (fun wq hq => by (try have hq1 := hq.1); (try have hq2 := hq.2.1); (try have hq3 := hq.2.2.1); (try have hq4 := hq.2.2.2.1); (try have hq5 := hq.2.2.2.2.1); (try have hq6 := hq.2.2.2.2.2.1); (try have hq7 := hq.2.2.2.2.2.2); (try have hr2 := hq.2); (try have hr3 := hq.2.2); (try have hr4 := hq.2.2.2); (try have hr5 := hq.2.2.2.2); first | (go_simp; done) | (go_simp; rfl)) ?_
    refine wpSeq_pure (v := _) rfl rfl rfl (by kernel_rfl) (fun _ _ _ h => h) (fun wq => by first | (go_simp; done) | (go_simp; rfl)) ?_
    refine wpSeq_pure (v := _) rfl rfl rfl (by kernel_rfl) (fun _ _ _ h => h) (fun wq => by first | (go_simp; done) | (go_simp; rfl)) ?_
    refine wpSeq_pure (v := _) rfl rfl rfl (by kernel_rfl) (fun _ _ _ h => h) (fun wq => by first | (go_simp; done) | (go_simp; rfl)) ?_
    refine wpSeq_load (v := _) rfl rfl (by kernel_rfl) (fun _ _ _ h => h) hS rfl (fun wq hq => by (try have hq1 := hq.1); (try have hq2 := hq.2.1); (try have hq3 := hq.2.2.1); (try have hq4 := hq.2.2.2.1); (try have hq5 := hq.2.2.2.2.1); (try have hq6 := hq.2.2.2.2.2.1); (try have hq7 := hq.2.2.2.2.2.2); (try have hr2 := hq.2); (try have hr3 := hq.2.2); (try have hr4 := hq.2.2.2); (try have hr5 := hq.2.2.2.2); first | (go_simp; done) | (go_simp; rfl)) ?_
    refine wpSeq_pure (v := _) rfl rfl rfl (by kernel_rfl) (fun _ _ _ h => h) (fun wq => by first | (go_simp; done) | (go_simp; rfl)) ?_
    refine wpSeq_pure (v := _) rfl rfl rfl (by kernel_rfl) (fun _ _ _ h => h) (fun wq => by first | (go_simp; done) | (go_simp; rfl)) ?_
    refine wpSeq_load (v := _) rfl rfl (by kernel_rfl) (fun _ _ _ h => h) hS rfl (fun wq hq => by (try have hq1 := hq.1); (try have hq2 := hq.2.1); (try have hq3 := hq.2.2.1); (try have hq4 := hq.2.2.2.1); (try have hq5 := hq.2.2.2.2.1); (try have hq6 := hq.2.2.2.2.2.1); (try have hq7 := hq.2.2.2.2.2.2); (try have hr2 := hq.2); (try have hr3 := hq.2.2); (try have hr4 := hq.2.2.2); (try have hr5 := hq.2.2.2.2); first | (go_simp; done) | (go_simp; rfl)) ?_
    refine wpSeq_pure (v := _) rfl rfl rfl (by kernel_rfl) (fun _ _ _ h => h) (fun wq => by first | (go_simp; done) | (go_simp; rfl)) ?_
    refine wpSeq_pure (v := .int .i64 (n : Int)) rfl rfl rfl (by kernel_rfl) (fun _ _ _ h => h) (fun wq => by (go_simp; rw [IntWalk.i64_in _ (by omega)])) ?_
    refine wpSeq_pure (v := _) rfl rfl rfl (by kernel_rfl) (fun _ _ _ h => h) (fun wq => by first | (go_simp; done) | (go_simp; rfl)) ?_
    refine wpSeq_heavy rfl rfl (fun K hK => ?_); go_simp
    refine hK _ _ (fun _ => hS2) ?_; clear hK K
    refine wpSeq_heavy rfl rfl (fun K hK => ?_)
    refine step_row _ rfl (.tmp 12) (.tmp 23) _ rfl 80 i0 _ 3 40 Tryz.underlying81 hi0 hi1 hi2 hi3 rfl (by decide) _ _ _ _ rfl HM.out.fr _ _ 1 1 [.slice Ac code.length cc, .int .i64 0, .int .i64 n] rfl (Reads.blk (cs := [.slice Ac code.length cc, .int .i64 0, .int .i64 n]) (Blk.new _ _ _) 3 1 rfl) (by simp [Value.oneCell']) (by unfold maxLen; omega) (by omega) ?_
    intro v' w6 hrow hgr hnew
    obtain ⟨Av, nv, cv, hve⟩ : ∃ A n c, v' = .slice A n c := by obtain ⟨A, c, e, _⟩ := hrow.form; exact ⟨A, _, c, e⟩
    obtain ⟨⟨cs, hcs, hcz⟩, ⟨L2, hM2⟩, hF2⟩ := HM.out.framed (HV.out.keep (fun k hk => Below.heap_alloc _ _ _ (by have := (HV.out.block hk).2.1; simpa using this)) (fun _ h => h)) hcl hn15 (by omega) hrow hgr hnew
    have HP : Hid (MPost w mb O (call s a ((n + 1 : Nat) : Int)) (.returned (.tuple #[])) (w6.setCell ⟨mb, 1, none⟩ v')) := Lib.hid (by
      rw [HQ.out]
      exact MPost.from_ ((Fr.refl O w).drew.alloc _) ⟨rfl, ⟨_, hM2.mono (fun k hk => by rcases hk with hk | hk; exact .inl hk; exact .inr ⟨hk.1, by simpa [World.setCell] using hk.2⟩) (fun k hk => hM2.olt k (by rcases hk with hk | hk; exact .inl hk; exact .inr ⟨hk.1, by simpa [World.setCell] using hk.2⟩))⟩, hF2⟩)
    obtain ⟨u1, hu1⟩ : ∃ u, cs[1]? = some u := ⟨_, Array.getElem?_eq_getElem (by omega)⟩
    have k0 := hcs.cell 1
    rw [hu1] at k0
    have k1 := hcs.frozen 1
    have k2 := hcs.lt
    clear hM2 hF2 hcs hrow hu1 hgr hnew
    subst hve
    refine hK _ _ (fun h => by cases h) ?_; clear hK K
    refine wpSeq_pure (v := _) rfl rfl rfl (by kernel_rfl) (fun _ _ _ h => h) (fun wq => by first | (go_simp; done) | (go_simp; rfl)) ?_
    refine wpSeq_pure (v := _) rfl rfl rfl (by kernel_rfl) (fun _ _ _ h => h) (fun wq => by first | (go_simp; done) | (go_simp; rfl)) ?_
    refine wpSeq_heavy rfl rfl (fun K hK => ?_); go_simp
    refine hK _ _ (fun h => by cases h) ?_; clear hK K
    refine wpSeq_end ?_
    go_wp2
    go_end0
    exact HP.out
  · have HP := Lib.hid (MPost.here h (Fr.refl O w))
    rw [call_no h0]
    clear h
    go_enter Tryz.func104, Tryz.ntmps104
    go_wp2
    go_end0
    exact HP.out
end Go.Proofs.YthdmdgmchkhngaaGreat
namespace Go.Proofs.YthdmdgmchkhngaaGreat
open Go.RowKit Mc

theorem jump_deed (w : World) (mb : Nat) (O : Nat → Prop) (L : Lay) (s : St) (h : MaL w mb O L s) (f : Fm) (r : List Fm) (hf : s.frames = f :: r) (n : Nat) (hn : f.next + n ≤ f.code.length) :
    Calls Tryz.prog 99 #[.pointer (some ⟨mb, 0, none⟩), .int .i64 n] w (MPost w mb O (pass s n)) := by
  have HC := Lib.hid (pass_any w mb O L s h f r hf n hn)
  clear h hf hn
  go_enter Tryz.func99, Tryz.ntmps99
  go_wp2_with fail
  refine HC.out.mono ?_
  intro e w9 hp; have HP := Lib.hid hp; obtain ⟨rfl, _⟩ := hp; go_wp2; go_end0; exact HP.out
def jumpZV (s : St) (r : List Int) (x a : Int) : St := if x = 0 then pass { s with stack := r } a else { s with stack := r }
theorem jumpZV_yes (s : St) (r : List Int) (a : Int) : jumpZV s r 0 a = pass { s with stack := r } a := by unfold jumpZV; rw [if_pos rfl]
theorem jumpZV_no (s : St) (r : List Int) {x : Int} (hx : x ≠ 0) (a : Int) : jumpZV s r x a = { s with stack := r } := by unfold jumpZV; rw [if_neg hx]
theorem passIfZero_any (w : World) (mb : Nat) (O : Nat → Prop) (L : Lay) (s : St) (h : MaL w mb O L s) (x : Int) (l : List Int) (hs : s.stack = x :: l) (f : Fm) (r : List Fm) (hf : s.frames = f :: r) (n : Nat) (hn : f.next + n ≤ f.code.length) :
    Calls Tryz.prog 102 #[.pointer (some ⟨mb, 0, none⟩), .int .i64 n] w (MPost w mb O (jumpZV s l x n)) := by
  have H := Lib.hid h
  have HS := Lib.hid hs
  have HF := Lib.hid hf
  have HN := Lib.hid hn
  clear h hs hf hn
  by_cases hx : x = 0
  · subst hx
    go_enter Tryz.func102, Tryz.ntmps102
    go_wp2_with fail
    refine (take1_new w mb O L s H.out _ l HS.out _).mono ?_
    rintro e w' ⟨rfl, ht, hb1⟩; obtain ⟨L', hM⟩ := ht.ma; have HM := Lib.hid hM; have HT := Lib.hid ht; have hlt := ht.lt; have b1 := hb1.cell 0; have b1l := hb1.lt; have b1f := hb1.frozen 0; simp only [List.getElem?_toArray, List.getElem?_cons_zero] at b1; clear ht hM hb1
    go_wp2_with fail
    refine (pass_any w' mb O L' _ HM.out f r HF.out n HN.out).mono ?_
    intro e w9 hp; have HP := Lib.hid (hp.from_ HT.out.fr); obtain ⟨rfl, _⟩ := hp; go_wp2; go_end0
    rw [jumpZV_yes]
    exact HP.out
  · have hb : (x == 0) = false := by simpa using hx
    go_enter Tryz.func102, Tryz.ntmps102
    go_wp2_with fail
    refine (take1_new w mb O L s H.out _ l HS.out _).mono ?_
    rintro e w' ⟨rfl, ht, hb1⟩; obtain ⟨L', hM⟩ := ht.ma; have HM := Lib.hid hM; have HT := Lib.hid ht; have hlt := ht.lt; have b1 := hb1.cell 0; have b1l := hb1.lt; have b1f := hb1.frozen 0; simp only [List.getElem?_toArray, List.getElem?_cons_zero] at b1; clear ht hM hb1
    go_wp2
    go_end0
    rw [jumpZV_no _ _ hx]
    exact .here HM.out HT.out.fr
theorem jumpZ_deed (w : World) (mb : Nat) (O : Nat → Prop) (L : Lay) (s : St) (h : MaL w mb O L s) (x : Int) (l : List Int) (hs : s.stack = x :: l) (f : Fm) (r : List Fm) (hf : s.frames = f :: r) (n : Nat) (hn : f.next + n ≤ f.code.length) :
    Calls Tryz.prog 101 #[.pointer (some ⟨mb, 0, none⟩), .int .i64 n] w (MPost w mb O (jumpZV s l x n)) := by
  have HC := Lib.hid (passIfZero_any w mb O L s h x l hs f r hf n hn)
  clear h hs hf hn
  go_enter Tryz.func101, Tryz.ntmps101
  go_wp2_with fail
  refine HC.out.mono ?_
  intro e w9 hp; have HP := Lib.hid hp; obtain ⟨rfl, _⟩ := hp; go_wp2; go_end0; exact HP.out
theorem callF_deed (w : World) (mb : Nat) (O : Nat → Prop) (L : Lay) (s : St) (h : MaL w mb O L s) (a : Nat) (ha : a < s.funcs.length) (hfl : s.frames.length ≤ 20) :
    Calls Tryz.prog 103 #[.pointer (some ⟨mb, 0, none⟩), .int .i64 a] w (MPost w mb O (call s a 1)) := by
  have HC := Lib.hid (call_any w mb O L s h a ha 1 (by decide) hfl)
  clear h ha hfl
  go_enter Tryz.func103, Tryz.ntmps103
  go_wp2_with fail
  refine HC.out.mono ?_
  intro e w9 hp; have HP := Lib.hid hp; obtain ⟨rfl, _⟩ := hp; go_wp2; go_end0; exact HP.out
theorem loop_any (w : World) (mb : Nat) (O : Nat → Prop) (L : Lay) (s : St) (h : MaL w mb O L s) (x : Int) (l : List Int) (hs : s.stack = x :: l) (a : Nat) (ha : a < s.funcs.length) (hfl : s.frames.length ≤ 20) :
    Calls Tryz.prog 106 #[.pointer (some ⟨mb, 0, none⟩), .int .i64 a] w (MPost w mb O (call { s with stack := l } a (min x 16))) := by
  have H := Lib.hid h
  have HS := Lib.hid hs
  have hfn := h.ok.fnl
  generalize hmn : min x 16 = m
  have HMN := Lib.hid hmn
  clear h hs hmn
  by_cases hx : 16 < x
  · obtain rfl : m = 16 := by have := HMN.out; omega
    go_enter Tryz.func106, Tryz.ntmps106
    go_wp2_with fail
    refine (take1_new w mb O L s H.out _ l HS.out _).mono ?_
    rintro e w' ⟨rfl, ht, hb1⟩; obtain ⟨L', hM⟩ := ht.ma; have HM := Lib.hid hM; have HT := Lib.hid ht; have hlt := ht.lt; have b1 := hb1.cell 0; have b1l := hb1.lt; have b1f := hb1.frozen 0; simp only [List.getElem?_toArray, List.getElem?_cons_zero] at b1; clear ht hM hb1
    go_wp2_with fail
    refine (call_any w' mb O L' _ HM.out a ha _ (by omega) hfl).mono ?_
    intro e w9 hp; have HP := Lib.hid (hp.from_ HT.out.fr); obtain ⟨rfl, _⟩ := hp; go_wp2; go_end0; exact HP.out
  · obtain rfl : m = x := by have := HMN.out; omega
    go_enter Tryz.func106, Tryz.ntmps106
    go_wp2_with fail
    refine (take1_new w mb O L s H.out _ l HS.out _).mono ?_
    rintro e w' ⟨rfl, ht, hb1⟩; obtain ⟨L', hM⟩ := ht.ma; have HM := Lib.hid hM; have HT := Lib.hid ht; have hlt := ht.lt; have b1 := hb1.cell 0; have b1l := hb1.lt; have b1f := hb1.frozen 0; simp only [List.getElem?_toArray, List.getElem?_cons_zero] at b1; clear ht hM hb1
    go_wp2_with fail
    refine (call_any w' mb O L' _ HM.out a ha _ (by omega) hfl).mono ?_
    intro e w9 hp; have HP := Lib.hid (hp.from_ HT.out.fr); obtain ⟨rfl, _⟩ := hp; go_wp2; go_end0; exact HP.out
theorem loop_deed (w : World) (mb : Nat) (O : Nat → Prop) (L : Lay) (s : St) (h : MaL w mb O L s) (x : Int) (l : List Int) (hs : s.stack = x :: l) (a : Nat) (ha : a < s.funcs.length) (hfl : s.frames.length ≤ 20) :
    Calls Tryz.prog 105 #[.pointer (some ⟨mb, 0, none⟩), .int .i64 a] w (MPost w mb O (call { s with stack := l } a (min x 16))) := by
  have HC := Lib.hid (loop_any w mb O L s h x l hs a ha hfl)
  clear h hs ha hfl
  go_enter Tryz.func105, Tryz.ntmps105
  go_wp2_with fail
  refine HC.out.mono ?_
  intro e w9 hp; have HP := Lib.hid hp; obtain ⟨rfl, _⟩ := hp; go_wp2; go_end0; exact HP.out
end Go.Proofs.YthdmdgmchkhngaaGreat

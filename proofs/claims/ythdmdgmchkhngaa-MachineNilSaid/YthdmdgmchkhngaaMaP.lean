/- The machine's frames: the last one's cells, and what stays as they are written; pass, call: their contracts. -/
import Derived.Test.YthdmdgmchkhngaaMaN
namespace Go.Proofs.Ythdmdgmchkhngaa
open Go.RowKit Mc

theorem frC_get (v : Value) (vs : List Value) (f : Fm) (fs : List Fm) (hl : vs.length = fs.length) : (frC (v :: vs) (f :: fs))[fs.length * 3]? = some v ∧ (frC (v :: vs) (f :: fs))[fs.length * 3 + 1]? = some (.int .i64 f.next) ∧ (frC (v :: vs) (f :: fs))[fs.length * 3 + 2]? = some (.int .i64 f.more) := by
  have := frC_len vs fs hl
  simp only [frC]
  refine ⟨?_, ?_, ?_⟩ <;> rw [List.getElem?_append_right (by omega), this] <;> simp
theorem frC_set1 (v : Value) (vs : List Value) (f : Fm) (fs : List Fm) (hl : vs.length = fs.length) (n : Nat) : (frC (v :: vs) (f :: fs)).set (fs.length * 3 + 1) (.int .i64 n) = frC (v :: vs) ({ f with next := n } :: fs) := by
  have := frC_len vs fs hl
  simp only [frC]
  rw [List.set_append_right _ _ (by omega), this]
  simp
theorem frC_set2 (v : Value) (vs : List Value) (f : Fm) (fs : List Fm) (hl : vs.length = fs.length) (n : Nat) : (frC (v :: vs) (f :: fs)).set (fs.length * 3 + 2) (.int .i64 n) = frC (v :: vs) ({ f with more := n } :: fs) := by
  have := frC_len vs fs hl
  simp only [frC]
  rw [List.set_append_right _ _ (by omega), this]
  simp
theorem frC_take (v : Value) (vs : List Value) (f : Fm) (fs : List Fm) (hl : vs.length = fs.length) : (frC (v :: vs) (f :: fs)).take (fs.length * 3) = frC vs fs := by
  simp only [frC]
  exact List.take_left' (frC_len vs fs hl)

/-- the last frame, as it lies -/
structure Top (w : World) (mb : Nat) (O : Nat → Prop) (L : Lay) (s : St) (f : Fm) (r : List Fm) (g c : Nat) (v : Value) (vs : List Value) : Prop where
  fr : L.fr = .slice (some ⟨g, 0, none⟩) (r.length + 1) c
  frs : L.frs = v :: vs
  vsl : vs.length = r.length
  cap : r.length + 1 ≤ c
  capm : c ≤ maxLen
  gO : O g
  glt : g < w.heap.size
  gmb : g ≠ mb
  c0 : w.cell? ⟨g, r.length * 3, none⟩ = some v
  c1 : w.cell? ⟨g, r.length * 3 + 1, none⟩ = some (.int .i64 f.next)
  c2 : w.cell? ⟨g, r.length * 3 + 2, none⟩ = some (.int .i64 f.more)
  fz : ∀ j, w.frozen? ⟨g, j, none⟩ = false
  code : Row w O 39 2 v f.code.length (pts f.code)
  codes : Codes w O vs (r.map (·.code))

section
variable {w w' : World} {mb : Nat} {O : Nat → Prop} {L : Lay} {s : St} {f : Fm} {r : List Fm}
theorem MaL.top (h : MaL w mb O L s) (hf : s.frames = f :: r) : ∃ g c v vs, Top w mb O L s f r g c v vs := by
  have hfr := h.fr
  have hfrc := h.frc
  rw [hf] at hfr hfrc
  obtain ⟨g, c, hv, hc1, hc2, hg, hgl, hcells, hfz⟩ := hfr.at_ (by simp)
  rcases hL : L.frs with _ | ⟨v, vs⟩
  · rw [hL] at hfrc; exact hfrc.elim
  rw [hL] at hfrc hcells
  have hvl : vs.length = r.length := by simpa using hfrc.2.len
  obtain ⟨k0, k1, k2⟩ := frC_get v vs f r hvl
  exact ⟨g, c, v, vs, by simpa using hv, hL, hvl, by simpa using hc1, hc2, hg, hgl, hfr.ne_blk h.blk (by decide) (by rw [hv]; rfl), hcells _ _ k0, hcells _ _ k1, hcells _ _ k2, hfz, hfrc.1, hfrc.2⟩
theorem Top.keep {g c : Nat} {v : Value} {vs : List Value} (ht : Top w mb O L s f r g c v vs) (hk : ∀ k, O k → w'.heap[k]? = w.heap[k]?) (hz : w.heap.size ≤ w'.heap.size) : Top w' mb O L s f r g c v vs :=
  ⟨ht.fr, ht.frs, ht.vsl, ht.cap, ht.capm, ht.gO, Nat.lt_of_lt_of_le ht.glt hz, ht.gmb, (World.cell?_of_block (w := w) (hk g ht.gO)).trans ht.c0, (World.cell?_of_block (w := w) (hk g ht.gO)).trans ht.c1, (World.cell?_of_block (w := w) (hk g ht.gO)).trans ht.c2, fun j => (World.frozen?_of_block (w := w) (hk g ht.gO)).trans (ht.fz j), ht.code.keep (fun k hk' => hk k (ht.code.2 k hk')) (fun _ h => h), ht.codes.keep (fun k _ ho _ => hk k ho) (fun _ h => h)⟩
theorem Mc.Ok.frames_ (h : Ok s) {fs : List Fm} (h1 : ∀ f ∈ fs, f.next ≤ f.code.length ∧ f.more ≤ 15 ∧ f.code.length ≤ 1000000) (h2 : fs.length ≤ 21) : Ok { s with frames := fs } :=
  ⟨h.stack, h.slen, h.cvt, h.store, h.stl, h.cur, h.org, h.orgl, h.touch, h.tl, h.size, h.look, h.move, h.mode, h.peak, h1, h2, h.funcs, h.fnl, h.cont, h.contl, h.curl, h.cvl, h.endl⟩
theorem MaC.frames_ (h : MaC L s) (fs : List Fm) : MaC L { s with frames := fs } := ⟨h.sz, h.stl, h.st, h.c0, h.c1, h.c2, h.c3, h.c4, h.c5, h.c6, h.c7, h.c40, h.c41, h.c42, h.c43, h.c44, h.c45, h.c46, h.c47, h.c48, h.c49⟩
/-- a number of the last frame is written -/
theorem MaL.setFm (h : MaL w mb O L s) (hf : s.frames = f :: r) {g c : Nat} {v : Value} {vs : List Value} (ht : Top w mb O L s f r g c v vs) {f' : Fm} {j : Nat} {n : Nat} (hj : j < (r.length + 1) * 3) (hcode : f'.code = f.code)
    (hset : (frC (v :: vs) (f :: r)).set j (.int .i64 n) = frC (v :: vs) (f' :: r)) (hn : f'.next ≤ f'.code.length ∧ f'.more ≤ 15) :
    MaL (w.setCell ⟨g, j, none⟩ (.int .i64 n)) mb O L { s with frames := f' :: r } := by
  have hob : L.fr.ownBlock = some g := by rw [ht.fr]; rfl
  have hfr := h.fr
  rw [hf, ht.frs] at hfr
  have hflen := frC_len (v :: vs) (f :: r) (by simp [ht.vsl])
  have hrow := hfr.set_ hob (j := j) (by rw [hflen]; simpa using hj) (.int .i64 n)
  rw [hset] at hrow
  have hk : ∀ k, k ≠ g → (w.setCell ⟨g, j, none⟩ (.int .i64 n)).heap[k]? = w.heap[k]? := fun k hk => Below.heap_setCell _ _ _ _ hk
  have hcod : Codes (w.setCell ⟨g, j, none⟩ (.int .i64 n)) O (v :: vs) ((f' :: r).map (·.code)) := by
    have := h.frc
    rw [hf, ht.frs] at this
    simp only [List.map_cons, hcode] at this ⊢
    refine this.keep (fun k cs hko hb => hk k (fun e => ?_)) (fun _ h => h)
    obtain ⟨_, _, cs2, hb2⟩ := h.fr.block hob
    subst e
    exact hb.ne_ hb2 (by decide) rfl
  have hokf := h.ok.frames f (by rw [hf]; simp)
  have := h.frames_ (u := L.fr) (cs' := L.cs) (vs := v :: vs) (fs := f' :: r) hcod ((hk mb ht.gmb.symm).trans h.blk) (by rw [← ht.frs]; exact h.c.frames_ (f' :: r)) (by simpa using hrow) (fun g' hg' => .inl hg') (fun k _ _ hkk => hk k (fun e => hkk (by rw [hob, e]))) (fun _ h => h) (fun k hk => by have := h.olt k hk; simpa [World.setCell] using this)
    (h.ok.frames_ (fun x hx => by
      rcases List.mem_cons.1 hx with rfl | hx
      · exact ⟨hn.1, hn.2, by rw [hcode]; exact hokf.2.2⟩
      · exact h.ok.frames x (by rw [hf]; exact List.mem_cons_of_mem _ hx)) (by have := h.ok.flen; rw [hf] at this; simpa using this))
  rw [← ht.frs] at this
  exact this
end

theorem pass_yes {s : St} {f : Fm} {r : List Fm} (hf : s.frames = f :: r) (n : Nat) : pass s n = { s with frames := { f with next := f.next + n } :: r } := by
  unfold pass
  rw [hf]
  simp
set_option maxRecDepth 100000 in
set_option maxHeartbeats 1000000 in
theorem pass_any (w : World) (mb : Nat) (O : Nat → Prop) (L : Lay) (s : St) (h : MaL w mb O L s) (f : Fm) (r : List Fm) (hf : s.frames = f :: r) (n : Nat) (hn : f.next + n ≤ f.code.length) :
    Calls Try.prog 82 #[.pointer (some ⟨mb, 0, none⟩), .int .i64 n] w (MPost w mb O (pass s n)) := by
  obtain ⟨g, c, v, vs, ht⟩ := h.top hf
  have hokf := h.ok.frames f (by rw [hf]; simp)
  have h1 := h.drew.setFm hf (f' := { f with next := f.next + n }) (n := f.next + n) (j := r.length * 3 + 1) (ht.keep (fun _ _ => rfl) (Nat.le_refl _)) (by omega) rfl (frC_set1 v vs f r ht.vsl _) ⟨hn, hokf.2.1⟩
  have HP : Hid (MPost w mb O (pass s n) (.returned (.tuple #[])) (w.drew.setCell ⟨g, r.length * 3 + 1, none⟩ (.int .i64 (f.next + n : Nat)))) := Lib.hid (by rw [pass_yes hf]; exact .here h1 ((Fr.refl O w).drew.setCell (.inl ht.gO) _))
  have hc1 := h.blk.cell 1
  rw [h.c.c1, ht.fr] at hc1
  have e1 := ht.c1
  have e2 := ht.fz (r.length * 3 + 1)
  have e3 := ht.glt
  have e4 := ht.cap
  have e5 := ht.gmb
  have e6 := h.blk.lt
  have hfl := h.ok.flen
  rw [hf, List.length_cons] at hfl
  have hb1 := hokf.1
  have hb2 := hokf.2.2
  clear h h1 ht hf hokf
  generalize hm : r.length = m at *
  generalize hnx : f.next = nx at *
  clear hm hnx
  obtain ⟨k, hk1, hk2, hk⟩ : ∃ k, m < k ∧ k ≤ m + 1 ∧ m + 1 = k := ⟨m + 1, by omega, by omega, rfl⟩
  rw [hk] at hc1 e4 hfl
  clear hk
  have hS : w.drew.cell? ⟨mb, 1, none⟩ = some (.slice (some ⟨g, 0, none⟩) k c) ∧ w.drew.cell? ⟨g, m * 3 + 1, none⟩ = some (.int .i64 nx) := ⟨hc1, e1⟩
  go_enter Try.func82, Try.ntmps82
  go_wp2_with fail
  refine wp_region_seqT (fun i => !([17] : List Nat).contains i) (fun i => ([3, 7, 12] : List Nat).contains i) (fun i => ([] : List Nat).contains i) [0, 1, 2, 3, 4, 5, 6, 7, 8, 9, 10, 11, 12, 13, 14, 15, 16, 17] (fun w' : World => w'.cell? ⟨mb, 1, none⟩ = some (.slice (some ⟨g, 0, none⟩) k c) ∧ w'.cell? ⟨g, m * 3 + 1, none⟩ = some (.int .i64 nx)) (by kernel_rfl) (by kernel_rfl) (by kernel_rfl) (by kernel_rfl) ?_
  refine wpSeq_pure (v := _) rfl rfl rfl (by kernel_rfl) (fun _ _ _ h => h) (fun wq => by first | (go_simp; done) | (go_simp; rfl)) ?_
  refine wpSeq_pure (v := _) rfl rfl rfl (by kernel_rfl) (fun _ _ _ h => h) (fun wq => by first | (go_simp; done) | (go_simp; rfl)) ?_
  refine wpSeq_pure (v := _) rfl rfl rfl (by kernel_rfl) (fun _ _ _ h => h) (fun wq => by first | (go_simp; done) | (go_simp; rfl)) ?_
  refine wpSeq_load (v := _) rfl rfl (by kernel_rfl) (fun _ _ _ h => h) hS rfl (fun wq hq => by (try have hq1 := hq.1); (try have hq2 := hq.2.1); (try have hq3 := hq.2.2.1); (try have hq4 := hq.2.2.2.1); (try have hq5 := hq.2.2.2.2.1); (try have hq6 := hq.2.2.2.2.2.1); (try have hq7 := hq.2.2.2.2.2.2); (try have hr2 := hq.2); (try have hr3 := hq.2.2); (try have hr4 := hq.2.2.2); (try have hr5 := hq.2.2.2.2); first | (go_simp; done) | (go_simp; rfl)) ?_
  refine wpSeq_pure (v := _) rfl rfl rfl (by kernel_rfl) (fun _ _ _ h => h) (fun wq => by first | (go_simp; done) | (go_simp; rfl)) ?_
  refine wpSeq_pure (v := _) rfl rfl rfl (by kernel_rfl) (fun _ _ _ h => h) (fun wq => by first | (go_simp; done) | (go_simp; rfl)) ?_
  refine wpSeq_pure (v := _) rfl rfl rfl (by kernel_rfl) (fun _ _ _ h => h) (fun wq => by first | (go_simp; done) | (go_simp; rfl)) ?_
  refine wpSeq_load (v := _) rfl rfl (by kernel_rfl) (fun _ _ _ h => h) hS rfl (fun wq hq => by (try have hq1 := hq.1); (try have hq2 := hq.2.1); (try have hq3 := hq.2.2.1); (try have hq4 := hq.2.2.2.1); (try have hq5 := hq.2.2.2.2.1); (try have hq6 := hq.2.2.2.2.2.1); (try have hq7 := hq.2.2.2.2.2.2); (try have hr2 := hq.2); (try have hr3 := hq.2.2); (try have hr4 := hq.2.2.2); (try have hr5 := hq.2.2.2.2); first | (go_simp; done) | (go_simp; rfl)) ?_
  refine wpSeq_pure (v := _) rfl rfl rfl (by kernel_rfl) (fun _ _ _ h => h) (fun wq => by first | (go_simp; done) | (go_simp; rfl)) ?_
  refine wpSeq_pure (v := .int .i64 (m : Int)) rfl rfl rfl (by kernel_rfl) (fun _ _ _ h => h) (fun wq => by (go_simp; rw [IntWalk.i64_in _ (by omega)]; omega)) ?_
  refine wpSeq_pure (v := _) rfl rfl rfl (by kernel_rfl) (fun _ _ _ h => h) (fun wq => by first | (go_simp; done) | (go_simp; rfl)) ?_
  refine wpSeq_pure (v := _) rfl rfl rfl (by kernel_rfl) (fun _ _ _ h => h) (fun wq => by first | (go_simp; done) | (go_simp; rfl)) ?_
  refine wpSeq_load (v := _) rfl rfl (by kernel_rfl) (fun _ _ _ h => h) hS rfl (fun wq hq => by (try have hq1 := hq.1); (try have hq2 := hq.2.1); (try have hq3 := hq.2.2.1); (try have hq4 := hq.2.2.2.1); (try have hq5 := hq.2.2.2.2.1); (try have hq6 := hq.2.2.2.2.2.1); (try have hq7 := hq.2.2.2.2.2.2); (try have hr2 := hq.2); (try have hr3 := hq.2.2); (try have hr4 := hq.2.2.2); (try have hr5 := hq.2.2.2.2); first | (go_simp; done) | (go_simp; rfl)) ?_
  refine wpSeq_pure (v := _) rfl rfl rfl (by kernel_rfl) (fun _ _ _ h => h) (fun wq => by first | (go_simp; done) | (go_simp; rfl)) ?_
  refine wpSeq_pure (v := .int .i64 ((nx + n : Nat) : Int)) rfl rfl rfl (by kernel_rfl) (fun _ _ _ h => h) (fun wq => by (go_simp; rw [IntWalk.i64_in _ (by omega)])) ?_
  refine wpSeq_pure (v := _) rfl rfl rfl (by kernel_rfl) (fun _ _ _ h => h) (fun wq => by first | (go_simp; done) | (go_simp; rfl)) ?_
  refine wpSeq_pure (v := _) rfl rfl rfl (by kernel_rfl) (fun _ _ _ h => h) (fun wq => by first | (go_simp; done) | (go_simp; rfl)) ?_
  refine wpSeq_heavy rfl rfl (fun K hK => ?_); go_simp
  refine hK _ _ (fun h => by cases h) ?_; clear hK K
  refine wpSeq_end ?_
  go_wp2
  go_end0
  exact HP.out
end Go.Proofs.Ythdmdgmchkhngaa

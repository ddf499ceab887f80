/- The machine's deeds Jump, JumpZ, CallF, Loop: their contracts. -/
import Derived.Test.YthdmdgmchkhngaaMaP
namespace Go.Proofs.Ythdmdgmchkhngaa
open Go.RowKit Mc

theorem info_frame : (Try.prog.info? 56).map (fun i => (i.zero, i.size, i.bytes)) = some (some (.agg #[.slice none 0 0, .int .i64 0, .int .i64 0]), 3, 40) := by kernel_rfl

section
variable {w w1 : World} {mb : Nat} {O : Nat → Prop} {L : Lay} {s : St}
/-- a frame more, the row append's -/
theorem MaL.framed (h : MaL w mb O L s) {u v : Value} {code : List (Int × Int)} {more : Nat} (hv : Row w O 39 2 v code.length (pts code)) (hcl : code.length ≤ 1000000) (hm : more ≤ 15) (hl : s.frames.length < 21)
    (hrow : Row w1 (ext O w w1) 56 3 u (s.frames.length + 1) (frC L.frs s.frames ++ [v, .int .i64 0, .int .i64 more])) (hg : w.grownBy w1 L.fr.ownBlock) (hnew : ∀ g, u.ownBlock = some g → L.fr.ownBlock = some g ∨ w.heap.size ≤ g) :
    (∃ cs, Blk w1 mb 62 cs ∧ cs.size = 50) ∧ (∃ L', MaL (w1.setCell ⟨mb, 1, none⟩ u) mb (ext O w w1) L' { s with frames := ⟨code, 0, more⟩ :: s.frames }) ∧ Fr O w (w1.setCell ⟨mb, 1, none⟩ u) := by
  have hmb : Blk w1 mb 62 L.cs := h.blk.grown hg fun e => h.fr.ne_blk h.blk (by decide) e.symm rfl
  have hz := hg.size
  have hk : ∀ k, O k → k ≠ mb → some k ≠ L.fr.ownBlock → (w1.setCell ⟨mb, 1, none⟩ u).heap[k]? = w.heap[k]? := by
    intro k hk h1 h2
    rw [Below.heap_setCell _ _ _ _ h1]
    exact hg.block k (h.olt k hk) h2
  have hins : ∀ k cs, O k → Blk w k 39 cs → (w1.setCell ⟨mb, 1, none⟩ u).heap[k]? = w.heap[k]? := fun k cs hO hb => hk k hO (hb.ne_ h.blk (by decide)) (fun e => by obtain ⟨_, _, cs2, hb2⟩ := h.fr.block e.symm; exact hb.ne_ hb2 (by decide) rfl)
  refine ⟨⟨_, hmb, h.c.sz⟩, ⟨_, h.frames_ (u := u) (vs := v :: L.frs) (fs := ⟨code, 0, more⟩ :: s.frames) ?_ (hmb.set_ 1 u) (h.c.setFr _ _ _) ?_ hnew hk (fun _ h => .inl h) ?_ (h.ok.frames_ ?_ ?_)⟩, ?_⟩
  · exact ⟨hv.keep (fun g hg => by obtain ⟨h1, _, cs, h2⟩ := hv.block hg; exact hins g cs h1 h2) (fun _ h => .inl h), h.frc.keep hins (fun _ h => .inl h)⟩
  · have := hrow.keep (w' := w1.setCell ⟨mb, 1, none⟩ u) (O' := ext O w w1) (fun g hgb => Below.heap_setCell _ _ _ _ (fun (e : g = mb) => hrow.ne_blk hmb (by decide) hgb e)) (fun _ h => h)
    simpa [frC] using this
  · intro k hk
    have := h.ext_lt hz k hk
    simpa [World.setCell] using this
  · intro y hy
    rcases List.mem_cons.1 hy with rfl | hy
    · exact ⟨Nat.zero_le _, hm, hcl⟩
    · exact h.ok.frames y hy
  · simp only [List.length_cons]; omega
  · exact Fr.setCell (⟨hg.os, hg.tape, hg.output, hg.size, fun k hk hs => hg.block k hk (fun e => hs (h.fr.2 k e.symm))⟩) (.inl h.mbO) _
end
theorem call_yes {s : St} {a : Nat} {t : Int} {code : List (Int × Int)} (hc : s.funcs[a]? = some code) (ht : 0 < t) : call s a t = { s with frames := ⟨code, 0, (t - 1).toNat⟩ :: s.frames } := by
  unfold call
  rw [if_pos ht, Int.toNat_natCast, getD_of hc]
theorem call_no {s : St} {a t : Int} (ht : ¬ 0 < t) : call s a t = s := by unfold call; rw [if_neg ht]
set_option maxRecDepth 100000 in
set_option maxHeartbeats 1000000 in
theorem call_any (w : World) (mb : Nat) (O : Nat → Prop) (L : Lay) (s : St) (h : MaL w mb O L s) (a : Nat) (ha : a < s.funcs.length) (t : Int) (ht : t ≤ 16) (hfl : s.frames.length ≤ 20) :
    Calls Try.prog 86 #[.pointer (some ⟨mb, 0, none⟩), .int .i64 a, .int .i64 t] w (MPost w mb O (call s a t)) := by
  by_cases h0 : 0 < t
  · obtain ⟨code, hc⟩ : ∃ x, s.funcs[a]? = some x := ⟨_, List.getElem?_eq_getElem ha⟩
    obtain ⟨i0, hi0, hi1, hi2, hi3⟩ := info_m info_frame
    obtain ⟨n, rfl⟩ : ∃ n : Nat, t = (n + 1 : Nat) := ⟨(t - 1).toNat, by omega⟩
    have HQ : Hid (call s a ((n + 1 : Nat) : Int) = { s with frames := ⟨code, 0, n⟩ :: s.frames }) := Lib.hid (by rw [call_yes hc h0]; simp)
    obtain ⟨v, hv, hvr⟩ := h.fuc.get hc
    obtain ⟨g, cf, hfu, hcf, _, hg, hgl, hcells, hfz⟩ := h.fu.at_ (by omega)
    have e1 := hcells _ _ hv
    have c0 := h.blk.cell 0
    rw [h.c.c0, hfu] at c0
    have c1 := h.blk.cell 1
    rw [h.c.c1] at c1
    obtain ⟨Ac, cc, hvs, _, _⟩ := hvr.form
    have HV := Lib.hid hvr
    have H := Lib.hid h
    have hfnl := h.ok.fnl
    have hcl := h.ok.funcs code (List.mem_of_getElem? hc)
    have lmb := h.blk.lt
    have hmbg : mb ≠ g := (h.fu.ne_blk h.blk (by decide) (show L.fu.ownBlock = some g by rw [hfu]; rfl)).symm
    subst hvs
    have hn15 : n ≤ 15 := by omega
    have hS : w.drew.cell? ⟨mb, 0, none⟩ = some (.slice (some ⟨g, 0, none⟩) s.funcs.length cf) ∧ w.drew.cell? ⟨mb, 1, none⟩ = some L.fr ∧ w.drew.cell? ⟨g, a, none⟩ = some (.slice Ac code.length cc) := ⟨c0, c1, e1⟩
    have HM := Lib.hid (h.drew.alloc (.cells #[.slice Ac code.length cc, .int .i64 0, .int .i64 n] 56))
    have hS2 : (w.drew.alloc (.cells #[.slice Ac code.length cc, .int .i64 0, .int .i64 n] 56)).cell? ⟨mb, 0, none⟩ = some (.slice (some ⟨g, 0, none⟩) s.funcs.length cf) ∧ (w.drew.alloc (.cells #[.slice Ac code.length cc, .int .i64 0, .int .i64 n] 56)).cell? ⟨mb, 1, none⟩ = some L.fr ∧ (w.drew.alloc (.cells #[.slice Ac code.length cc, .int .i64 0, .int .i64 n] 56)).cell? ⟨g, a, none⟩ = some (.slice Ac code.length cc) := ⟨(World.cell?_alloc_lt _ _ _ (by simpa using lmb)).trans c0, (World.cell?_alloc_lt _ _ _ (by simpa using lmb)).trans c1, (World.cell?_alloc_lt _ _ _ (by simpa using hgl)).trans e1⟩
    clear h hvr hcells hfz hfu hc hv c0 c1 e1
    go_enter Try.func86, Try.ntmps86
    go_wp2_with fail
    refine wp_region_seqT (fun i => !([15, 16, 19] : List Nat).contains i) (fun i => ([4, 8, 11] : List Nat).contains i) (fun i => ([15] : List Nat).contains i) [0, 1, 2, 3, 4, 5, 6, 7, 8, 9, 10, 11, 12, 13, 14, 15, 16, 17, 18, 19] (fun w' : World => w'.cell? ⟨mb, 0, none⟩ = some (.slice (some ⟨g, 0, none⟩) s.funcs.length cf) ∧ w'.cell? ⟨mb, 1, none⟩ = some L.fr ∧ w'.cell? ⟨g, a, none⟩ = some (.slice Ac code.length cc)) (by kernel_rfl) (by kernel_rfl) (by kernel_rfl) (by kernel_rfl) ?_
    refine wpSeq_pure (v := _) rfl rfl rfl (by kernel_rfl) (fun _ _ _ h => h) (fun wq => by first | (go_simp; done) | (go_simp; rfl)) ?_
    refine wpSeq_pure (v := _) rfl rfl rfl (by kernel_rfl) (fun _ _ _ h => h) (fun wq => by first | (go_simp; done) | (go_simp; rfl)) ?_
    refine wpSeq_pure (v := _) rfl rfl rfl (by kernel_rfl) (fun _ _ _ h => h) (fun wq => by first | (go_simp; done) | (go_simp; rfl)) ?_
    refine wpSeq_pure (v := _) rfl rfl rfl (by kernel_rfl) (fun _ _ _ h => h) (fun wq => by first | (go_simp; done) | (go_simp; rfl)) ?_
    refine wpSeq_load (v := _) rfl rfl (by kernel_rfl) (fun _ _ _ h => h) hS rfl (fun wq hq => by (try have hq1 := hq.1); (try have hq2 := hq.2.1); (try have hq3 := hq.2.2.1); (try have hq4 := hq.2.2.2.1); (try have hq5 := hq.2.2.2.2.1); (try have hq6 := hq.2.2.2.2.2.1); (try have hq7 := hq.2.2.2.2.2.2); (try have hr2 := hq.2); (try have hr3 := hq.2.2); (try have hr4 := hq.2.2.2); (try have hr5 := hq.2.2.2.2); first | (go_simp; done) | (go_simp; rfl)) ?_
    refine wpSeq_pure (v := _) rfl rfl rfl (by kernel_rfl) (fun _ _ _ h => h) (fun wq => by first | (go_simp; done) | (go_simp; rfl)) ?_
    refine wpSeq_pure (v := _) rfl rfl rfl (by kernel_rfl) (fun _ _ _ h => h) (fun wq => by first | (go_simp; done) | (go_simp; rfl)) ?_
    refine wpSeq_pure (v := _) rfl rfl rfl (by kernel_rfl) (fun _ _ _ h => h) (fun wq => by first | (go_simp; done) | (go_simp; rfl)) ?_
    refine wpSeq_load (v := _) rfl rfl (by kernel_rfl) (fun _ _ _ h => h) hS rfl (fun wq hq => by (try have hq1 := hq.1); (try have hq2 := hq.2.1); (try have hq3 := hq.2.2.1); (try have hq4 := hq.2.2.2.1); (try have hq5 := hq.2.2.2.2.1); (try have hq6 := hq.2.2.2.2.2.1); (try have hq7 := hq.2.2.2.2.2.2); (try have hr2 := hq.2); (try have hr3 := hq.2.2); (try have hr4 := hq.2.2.2); (try have hr5 := hq.2.2.2.2); first | (go_simp; done) | (go_simp; rfl)) ?_
    refine wpSeq_pure (v := _) rfl rfl rfl (by kernel_rfl) (fun _ _ _ h => h) (fun wq => by first | (go_simp; done) | (go_simp; rfl)) ?_
    refine wpSeq_pure (v := _) rfl rfl rfl (by kernel_rfl) (fun _ _ _ h => h) (fun wq => by first | (go_simp; done) | (go_simp; rfl)) ?_
    refine wpSeq_load (v := _) rfl rfl (by kernel_rfl) (fun _ _ _ h => h) hS rfl (fun wq hq => by (try have hq1 := hq.1); (try have hq2 := hq.2.1); (try have hq3 := hq.2.2.1); (try have hq4 := hq.2.2.2.1); (try have hq5 := hq.2.2.2.2.1); (try have hq6 := hq.2.2.2.2.2.1); (try have hq7 := hq.2.2.2.2.2.2); (try have hr2 := hq.2); (try have hr3 := hq.2.2); (try have hr4 := hq.2.2.2); (try have hr5 := hq.2.2.2.2); first | (go_simp; done) | (go_simp; rfl)) ?_
    refine wpSeq_pure (v := _) rfl rfl rfl (by kernel_rfl) (fun _ _ _ h => h) (fun wq => by first | (go_simp; done) | (go_simp; rfl)) ?_
    refine wpSeq_pure (v := .int .i64 (n : Int)) rfl rfl rfl (by kernel_rfl) (fun _ _ _ h => h) (fun wq => by (go_simp; rw [IntWalk.i64_in _ (by omega)])) ?_
    refine wpSeq_pure (v := _) rfl rfl rfl (by kernel_rfl) (fun _ _ _ h => h) (fun wq => by first | (go_simp; done) | (go_simp; rfl)) ?_
    refine wpSeq_heavy rfl rfl (fun K hK => ?_); go_simp
    refine hK _ _ (fun _ => hS2) ?_; clear hK K
    refine wpSeq_heavy rfl rfl (fun K hK => ?_)
    refine step_row _ rfl (.tmp 12) (.tmp 23) _ rfl 56 i0 _ 3 40 Try.underlying57 hi0 hi1 hi2 hi3 rfl (by decide) _ _ _ _ rfl HM.out.fr _ _ 1 1 [.slice Ac code.length cc, .int .i64 0, .int .i64 n] rfl (Reads.blk (cs := [.slice Ac code.length cc, .int .i64 0, .int .i64 n]) (Blk.new _ _ _) 3 1 rfl) (by simp [Value.oneCell']) (by unfold maxLen; omega) (by omega) ?_
    intro v' w6 hrow hgr hnew
    obtain ⟨Av, nv, cv, hve⟩ : ∃ A n c, v' = .slice A n c := by obtain ⟨A, c, e, _⟩ := hrow.form; exact ⟨A, _, c, e⟩
    obtain ⟨⟨cs, hcs, hcz⟩, ⟨L2, hM2⟩, hF2⟩ := HM.out.framed (HV.out.keep (fun k hk => Below.heap_alloc _ _ _ (by have := (HV.out.block hk).2.1; simpa using this)) (fun _ h => h)) hcl hn15 (by omega) hrow hgr hnew
    have HP : Hid (MPost w mb O (call s a ((n + 1 : Nat) : Int)) (.returned (.tuple #[])) (w6.setCell ⟨mb, 1, none⟩ v')) := Lib.hid (by
      rw [HQ.out]
      exact MPost.from_ ((Fr.refl O w).drew.alloc _) ⟨rfl, ⟨_, hM2.mono (fun k hk => by rcases hk with hk | hk; exact .inl hk; exact .inr ⟨hk.1, by simpa [World.setCell] using hk.2⟩) (fun k hk => hM2.olt k (by rcases hk with hk | hk; exact .inl hk; exact .inr ⟨hk.1, by simpa [World.setCell] using hk.2⟩))⟩, hF2⟩)
    obtain ⟨u1, hu1⟩ : ∃ u, cs[1]? = some u := ⟨_, Array.getElem?_eq_getElem (by omega)⟩
    have k0 := hcs.cell 1
    rw [hu1] at k0
    have k1 := hcs.frozen 1
    have k2 := hcs.lt
    clear hM2 hF2 hcs hrow hu1 hgr hnew
    subst hve
    refine hK _ _ (fun h => by cases h) ?_; clear hK K
    refine wpSeq_pure (v := _) rfl rfl rfl (by kernel_rfl) (fun _ _ _ h => h) (fun wq => by first | (go_simp; done) | (go_simp; rfl)) ?_
    refine wpSeq_pure (v := _) rfl rfl rfl (by kernel_rfl) (fun _ _ _ h => h) (fun wq => by first | (go_simp; done) | (go_simp; rfl)) ?_
    refine wpSeq_heavy rfl rfl (fun K hK => ?_); go_simp
    refine hK _ _ (fun h => by cases h) ?_; clear hK K
    refine wpSeq_end ?_
    go_wp2
    go_end0
    exact HP.out
  · have HP := Lib.hid (MPost.here h (Fr.refl O w))
    rw [call_no h0]
    clear h
    go_enter Try.func86, Try.ntmps86
    go_wp2
    go_end0
    exact HP.out
end Go.Proofs.Ythdmdgmchkhngaa

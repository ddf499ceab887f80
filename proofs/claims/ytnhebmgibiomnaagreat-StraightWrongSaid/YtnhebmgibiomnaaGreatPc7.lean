/- Parts of the proof, joined: McC SrF SrG. -/
import Derived.Test.YtnhebmgibiomnaaGreatPc6
set_option linter.unusedVariables false
set_option linter.unusedSimpArgs false
namespace Go.Proofs.YtnhebmgibiomnaaGreat
open Go.RowKit Mc
theorem pts_coord {l : List (Int × Int)} {i : Nat} {v : Int × Int} (h : l[i]? = some v) (axis : Int) : (pts l)[i * 2 + (if axis = 1 then 1 else 0)]? = some (.int .i64 (coord axis v)) := by
  have := pts_get h
  unfold coord
  split
  · rw [Nat.mul_comm]; exact this.2
  · rw [Nat.mul_comm]; exact this.1
end Go.Proofs.YtnhebmgibiomnaaGreat
namespace Go.Proofs.YtnhebmgibiomnaaGreat
open Go.RowKit Mc
section
variable {w w' : World} {mb : Nat} {O : Nat → Prop} {L : Lay} {s : St}
theorem Mc.Ok.cur_ (h : Ok s) {l : List (Int × Int)} (h1 : ∀ p ∈ l, K32 p.1 ∧ K32 p.2) (h2 : l.length = s.cur.length) : Ok { s with cur := l } :=
  ⟨h.stack, h.slen, h.cvt, h.store, h.stl, h1, h.org, by rw [h.orgl]; exact h2.symm, h.touch, by rw [h.tl]; exact h2.symm, h.size, h.look, h.move, h.mode, h.peak, h.frames, h.flen, h.funcs, h.fnl, fun c hc => by have := h.cont c hc; simp only [h2]; exact this, h.contl, by rw [h2]; exact h.curl, h.cvl, h.endl⟩
theorem Mc.Ok.touch_ (h : Ok s) {l : List Int} (h1 : ∀ t ∈ l, 0 ≤ t ∧ t ≤ 3) (h2 : l.length = s.touch.length) : Ok { s with touch := l } :=
  ⟨h.stack, h.slen, h.cvt, h.store, h.stl, h.cur, h.org, h.orgl, h1, by rw [← h.tl]; exact h2, h.size, h.look, h.move, h.mode, h.peak, h.frames, h.flen, h.funcs, h.fnl, h.cont, h.contl, h.curl, h.cvl, h.endl⟩
theorem MaL.setTo (h : MaL w mb O L s) {g m c : Nat} (hv : L.to = .slice (some ⟨g, 0, none⟩) m c) {i : Nat} (hi : i < s.touch.length) {t : Int} (ht : 0 ≤ t ∧ t ≤ 3) : MaL (w.setCell ⟨g, i, none⟩ (.int .i64 t)) mb O L { s with touch := s.touch.set i t } := by
  have hob : L.to.ownBlock = some g := by rw [hv]; rfl
  have hg : g ≠ mb := h.to.ne_blk h.blk (by decide) hob
  refine h.touch_ (by simp) ?_ (Below.heap_setCell _ _ _ _ hg.symm) (fun k _ _ hk => Below.heap_setCell _ _ _ _ (fun e => hk (by rw [hob, e]))) (fun _ h => h) (fun k hk => by have := h.olt k hk; simpa [World.setCell] using this) (h.ok.touch_ (fun p hp => ?_) (by simp))
  · rw [ints_set]
    exact h.to.set_ hob (by rw [ints_len]; exact hi) _
  · rcases List.mem_or_eq_of_mem_set hp with hp | rfl
    · exact h.ok.touch p hp
    · exact ht
end
def tbit (axis t : Int) : Int := if bit axis t then t else t + (axis + 1)
theorem tbit_in {axis t : Int} (ha : 0 ≤ axis ∧ axis ≤ 1) (ht : 0 ≤ t ∧ t ≤ 3) : 0 ≤ tbit axis t ∧ tbit axis t ≤ 3 := by
  obtain ⟨h1, h2⟩ := ha
  obtain ⟨h3, h4⟩ := ht
  have e1 : axis = 0 ∨ axis = 1 := by omega
  have e2 : t = 0 ∨ t = 1 ∨ t = 2 ∨ t = 3 := by omega
  rcases e1 with rfl | rfl <;> rcases e2 with rfl | rfl | rfl | rfl <;> decide
theorem bits_tbit {axis t : Int} (ha : 0 ≤ axis ∧ axis ≤ 1) (ht : 0 ≤ t ∧ t ≤ 3) : bits BinOp.or IntKind.i64 t (axis + 1) = tbit axis t := by
  obtain ⟨h1, h2⟩ := ha
  obtain ⟨h3, h4⟩ := ht
  have e1 : axis = 0 ∨ axis = 1 := by omega
  have e2 : t = 0 ∨ t = 1 ∨ t = 2 ∨ t = 3 := by omega
  rcases e1 with rfl | rfl <;> rcases e2 with rfl | rfl | rfl | rfl <;> rfl
section
variable {w w' : World} {mb : Nat} {O : Nat → Prop} {L : Lay} {s : St}
end
end Go.Proofs.YtnhebmgibiomnaaGreat
namespace Go.Proofs.YtnhebmgibiomnaaGreat
open Go.RowKit Mc
theorem has_nat {s : St} {x : Int} (h : has s x = true) : ∃ i : Nat, x = i ∧ i < s.cur.length := by
  simp only [has, decide_eq_true_eq] at h
  exact ⟨x.toNat, by omega, by omega⟩
end Go.Proofs.YtnhebmgibiomnaaGreat
namespace Go.Proofs.YtnhebmgibiomnaaGreat
open Go.RowKit Mc
end Go.Proofs.YtnhebmgibiomnaaGreat
namespace Go.Proofs.YtnhebmgibiomnaaGreat
open Go.RowKit Mc
section
variable {w w' w1 : World} {sb : Nat} {L : SLay} {s : Sr.St}
theorem SrL.pt (h : SrL w sb L s) {p : Nat} (hp : p < s.m.cur.length) : ∃ g c x, L.cu = .slice (some ⟨g, 0, none⟩) s.m.cur.length c ∧ s.m.cur.length ≤ c ∧ s.m.cur[p]? = some x ∧ g < w.heap.size ∧ (∀ axis, w.cell? ⟨g, p * 2 + (if axis = 1 then 1 else 0), none⟩ = some (.int .i64 (coord axis x))) ∧ ∀ j, w.frozen? ⟨g, j, none⟩ = false := by
  obtain ⟨x, hx⟩ : ∃ x, s.m.cur[p]? = some x := ⟨_, List.getElem?_eq_getElem hp⟩
  obtain ⟨g, c, hv, hc1, hg0, hgl, hcells⟩ := owns_at h.cu (by omega)
  refine ⟨g, c, x, hv, hc1, hx, hgl, fun axis => hcells _ _ (pts_coord hx axis), fun j => ?_⟩
  obtain ⟨_, _, _, hb⟩ := owns_block h.cu (g := g) (by rw [hv]; rfl)
  exact hb.frozen j
theorem SrL.tqAt (h : SrL w sb L s) {p : Nat} (hp : p < s.m.cur.length) : ∃ g c t, L.tq = .slice (some ⟨g, 0, none⟩) s.m.touch.length c ∧ s.m.touch[p]? = some t ∧ g < w.heap.size ∧ w.cell? ⟨g, p, none⟩ = some (.int .i64 t) ∧ w.frozen? ⟨g, p, none⟩ = false := by
  have hpt : p < s.m.touch.length := by rw [h.ok.m.tl]; exact hp
  obtain ⟨t, ht⟩ : ∃ t, s.m.touch[p]? = some t := ⟨_, List.getElem?_eq_getElem hpt⟩
  obtain ⟨g, c, hv, hc1, hg0, hgl, hcells⟩ := owns_at h.tq (by omega)
  obtain ⟨_, _, _, hb⟩ := owns_block h.tq (g := g) (by rw [hv]; rfl)
  exact ⟨g, c, t, hv, ht, hgl, hcells _ _ (ints_get ht), hb.frozen p⟩
end
theorem shas_any (w : World) (sb : Nat) (L : SLay) (s : Sr.St) (h : SrL w sb L s) (x : Int) : Calls Tryz.prog 226 #[.pointer (some ⟨sb, 0, none⟩), .int .i64 x] w fun e w' => e = .returned (.bool (has s.m x)) ∧ w = w' := by
  obtain ⟨A, c, hv, hc1, hc2⟩ := owns_form h.cu
  have c65 := h.c65
  rw [hv] at c65
  have hs := h.blk.lt
  clear h hv
  by_cases h0 : 0 ≤ x
  all_goals
    go_enter Tryz.func226, Tryz.ntmps226
    go_wp2_with fail
    go_wp2
    all_goals
      go_ret
      exact ⟨ret_bool (by unfold has; simp; omega), rfl⟩
theorem spass_any (w : World) (sb : Nat) (L : SLay) (s : Sr.St) (h : SrL w sb L s) (n : Int) (so : Bool) (hn : so = true → 0 ≤ n ∧ s.pc + n ≤ 1000000) : Calls Tryz.prog 150 #[.pointer (some ⟨sb, 0, none⟩), .int .i64 n, .bool so] w (SPost w sb L (Sr.pass s n so)) := by
  have c75 := h.c75
  have hs := h.blk.lt
  have H := Lib.hid h
  cases so with
  | false =>
    clear h hn
    go_enter Tryz.func150, Tryz.ntmps150
    go_wp2_with fail
    go_wp2
    go_end0
    exact .here H.out (Fr.refl _ w)
  | true =>
    obtain ⟨hn0, hn1⟩ := hn rfl
    have HP := Lib.hid (show SPost w sb L (Sr.pass s n true) (.returned (.tuple #[])) (w.setCell ⟨sb, 75, none⟩ (.int .i64 ((s.pc + n.toNat : Nat) : Int))) from ⟨rfl, h.setPc _, (Fr.refl _ w).setCell (.inl (.inl rfl)) _⟩)
    obtain ⟨n, rfl⟩ : ∃ m : Nat, n = m := ⟨n.toNat, by omega⟩
    have fz := h.blk.frozen 75
    rw [Int.toNat_natCast] at HP
    have e : ((s.pc + n : Nat) : Int) = (s.pc : Int) + n := by omega
    rw [e] at HP
    clear h e
    generalize s.pc = pc at *
    go_enter Tryz.func150, Tryz.ntmps150
    go_wp2_with fail
    go_wp2
    go_end0
    exact HP.out
set_option maxRecDepth 100000 in
set_option maxHeartbeats 1000000 in
theorem sput_any (w : World) (sb : Nat) (L : SLay) (s : Sr.St) (h : SrL w sb L s) (p : Nat) (v : Int) (hp : p < s.m.cur.length) : Calls Tryz.prog 228 #[.pointer (some ⟨sb, 0, none⟩), .int .i64 p, .int .i64 v] w (SPost w sb L { s with m := goes s.m p s.m.move v }) := by
  obtain ⟨g, c, x, hv, hc1, hx, hg, hcell, hfz⟩ := h.pt hp
  obtain ⟨gt, ct, t, hvt, ht, hgt, tc, tf⟩ := h.tqAt hp
  have d0 := hcell s.m.move
  have f0 := hfz (p * 2 + (if s.m.move = 1 then 1 else 0))
  have c65 := h.c65
  rw [hv] at c65
  have c73 := h.c73
  have hmv := h.ok.m.move
  have hxk := h.ok.m.cur x (List.mem_of_getElem? hx)
  have htk := h.ok.m.touch t (List.mem_of_getElem? ht)
  have h1 := (h.setCu (g := g) (by rw [hv]; rfl) hx s.m.move (k32 v) (k32_in v) hxk).drew
  have h2 := h1.drew.setTq (g := gt) (by rw [hvt]; rfl) (i := p) (by have := h.ok.m.tl; simp only; omega) (tbit_in hmv htk)
  have hf : Fr (SrS L sb) w ((w.setCell ⟨g, p * 2 + (if s.m.move = 1 then 1 else 0), none⟩ (.int .i64 (k32 v))).drew.drew.setCell ⟨gt, p, none⟩ (.int .i64 (tbit s.m.move t))) := ((Fr.refl _ w).setCell (.inl (.inr (.inl (by rw [hv]; rfl)))) _).drew.drew.setCell (.inl (.inr (.inr (.inl (by rw [hvt]; rfl))))) _
  have hq : { s with m := { s.m with cur := s.m.cur.set p (if s.m.move = 1 then (x.1, k32 v) else (k32 v, x.2)), touch := s.m.touch.set p (tbit s.m.move t) } } = { s with m := goes s.m p s.m.move v } := by
    unfold goes tbit to_
    rw [getD_of hx, getD_of ht]
  have HP : Hid (SPost w sb L { s with m := goes s.m p s.m.move v } (.returned (.tuple #[])) ((w.setCell ⟨g, p * 2 + (if s.m.move = 1 then 1 else 0), none⟩ (.int .i64 (k32 v))).drew.drew.setCell ⟨gt, p, none⟩ (.int .i64 (tbit s.m.move t)))) := Lib.hid (by rw [← hq]; exact .here h2 hf)
  have H1 := Lib.hid h1
  have e66 := h1.drew.c66
  have e73 := h1.drew.c73
  obtain ⟨gt', _, t', hvt', ht', _, tc', tf'⟩ := h1.drew.tqAt (p := p) (by simpa using hp)
  simp only at hvt' ht' e73
  obtain rfl : t = t' := by rw [ht] at ht'; injection ht' with ht'
  rw [hvt] at hvt' e66
  injection hvt' with hvt'
  injection hvt' with hvt'
  injection hvt' with hvt'
  subst hvt'
  have hs := h.blk.lt
  have hpl : (p : Int) < s.m.cur.length := by omega
  have hcl := h.ok.m.curl
  have hlt := h.ok.m.tl
  have hptl : p < s.m.touch.length := by omega
  have hptl' : s.m.touch.length ≤ 1000000 := by omega
  have HTL := Lib.hid hlt
  clear h h1 h2 hf hq hcell hfz hv hvt hx ht ht' hlt hc1
  generalize hm : s.m.move = mv at *
  generalize hd : (if mv = 1 then 1 else 0 : Nat) = d at *
  have HD := Lib.hid hd
  have HM := Lib.hid hm
  clear hd hm
  go_enter Tryz.func228, Tryz.ntmps228
  go_wp2_with fail
  have hS : w.drew.cell? ⟨sb, 65, none⟩ = some (.slice (some ⟨g, 0, none⟩) s.m.cur.length c) ∧ w.drew.cell? ⟨sb, 73, none⟩ = some (.int .i64 mv) := ⟨c65, c73⟩
  refine wp_region_seqT (fun i => !([11, 13, 15] : List Nat).contains i) (fun i => ([4, 10] : List Nat).contains i) (fun i => ([] : List Nat).contains i) [0, 1, 2, 3, 4, 5, 6, 7, 8, 9, 10, 12, 11, 13, 14, 15] (fun wq : World => wq.cell? ⟨sb, 65, none⟩ = some (.slice (some ⟨g, 0, none⟩) s.m.cur.length c) ∧ wq.cell? ⟨sb, 73, none⟩ = some (.int .i64 mv)) (by kernel_rfl) (by kernel_rfl) (by kernel_rfl) (by kernel_rfl) ?_
  repeat (first | refine wpSeq_pureA (v := _) rfl rfl rfl ?_ | refine wpSeq_loadA (v := _) rfl rfl hS rfl ?_)
  refine wpSeq_heavy rfl rfl (fun K hK => ?_); go_simp
  refine (scoord_any _ _ _ _ hmv.1 hmv.2).mono ?_
  rintro e w5 ⟨rfl, rfl⟩
  rw [HD.out]
  dsimp only
  refine hK _ _ (fun _ => hS) ?_; clear hK K
  refine wpSeq_heavy rfl rfl (fun K hK => ?_); go_simp
  refine (skept_any _ _).mono ?_
  rintro e w5 ⟨rfl, rfl⟩
  dsimp only
  refine hK _ _ (fun _ => hS) ?_; clear hK K
  repeat (first | refine wpSeq_pureA (v := _) rfl rfl rfl ?_ | refine wpSeq_loadA (v := _) rfl rfl hS rfl ?_)
  refine wpSeq_heavy rfl rfl (fun K hK => ?_); go_simp
  refine hK _ _ (fun h => by cases h) ?_; clear hK K
  refine wpSeq_end ?_
  clear hS c65 c73 d0 f0 tc tf
  go_wp2_with fail
  generalize (w.setCell ⟨g, p * 2 + d, none⟩ (.int .i64 (k32 v))).drew = W at *
  have bt := bits_tbit hmv htk
  generalize htb : tbit mv t = tb at *
  have HTB := Lib.hid htb
  clear htb
  rcases (show mv = 0 ∨ mv = 1 by omega) with hm | hm
  · subst hm
    replace bt : bits BinOp.or IntKind.i64 t (IntKind.i64.wrap 1) = tb := bt
    have hS : W.drew.cell? ⟨sb, 66, none⟩ = some (.slice (some ⟨gt, 0, none⟩) s.m.touch.length ct) ∧ W.drew.cell? ⟨sb, 73, none⟩ = some (.int .i64 0) ∧ W.drew.cell? ⟨gt, p, none⟩ = some (.int .i64 t) := ⟨e66, e73, tc'⟩
    refine wp_region_seqT (fun i => !([15] : List Nat).contains i) (fun i => ([4, 7, 11] : List Nat).contains i) (fun i => ([] : List Nat).contains i) [0, 1, 2, 3, 4, 5, 6, 7, 8, 9, 10, 11, 12, 13, 14, 15] (fun wq : World => wq.cell? ⟨sb, 66, none⟩ = some (.slice (some ⟨gt, 0, none⟩) s.m.touch.length ct) ∧ wq.cell? ⟨sb, 73, none⟩ = some (.int .i64 0) ∧ wq.cell? ⟨gt, p, none⟩ = some (.int .i64 t)) (by kernel_rfl) (by kernel_rfl) (by kernel_rfl) (by kernel_rfl) ?_
    repeat (first | refine wpSeq_pureA (v := _) rfl rfl rfl ?_ | refine wpSeq_loadA (v := _) rfl rfl hS rfl ?_)
    refine wpSeq_heavy rfl rfl (fun K hK => ?_); go_simp
    refine hK _ _ (fun h => by cases h) ?_; clear hK K
    refine wpSeq_end ?_
    go_wp2
    go_end0
    exact HP.out
  · subst hm
    replace bt : bits BinOp.or IntKind.i64 t (IntKind.i64.wrap 2) = tb := bt
    have hS : W.drew.cell? ⟨sb, 66, none⟩ = some (.slice (some ⟨gt, 0, none⟩) s.m.touch.length ct) ∧ W.drew.cell? ⟨sb, 73, none⟩ = some (.int .i64 1) ∧ W.drew.cell? ⟨gt, p, none⟩ = some (.int .i64 t) := ⟨e66, e73, tc'⟩
    refine wp_region_seqT (fun i => !([15] : List Nat).contains i) (fun i => ([4, 7, 11] : List Nat).contains i) (fun i => ([] : List Nat).contains i) [0, 1, 2, 3, 4, 5, 6, 7, 8, 9, 10, 11, 12, 13, 14, 15] (fun wq : World => wq.cell? ⟨sb, 66, none⟩ = some (.slice (some ⟨gt, 0, none⟩) s.m.touch.length ct) ∧ wq.cell? ⟨sb, 73, none⟩ = some (.int .i64 1) ∧ wq.cell? ⟨gt, p, none⟩ = some (.int .i64 t)) (by kernel_rfl) (by kernel_rfl) (by kernel_rfl) (by kernel_rfl) ?_
    repeat (first | refine wpSeq_pureA (v := _) rfl rfl rfl ?_ | refine wpSeq_loadA (v := _) rfl rfl hS rfl ?_)
    refine wpSeq_heavy rfl rfl (fun K hK => ?_); go_simp
    refine hK _ _ (fun h => by cases h) ?_; clear hK K
    refine wpSeq_end ?_
    go_wp2
    go_end0
    exact HP.out
end Go.Proofs.YtnhebmgibiomnaaGreat
namespace Go.Proofs.YtnhebmgibiomnaaGreat
open Go.RowKit Mc
theorem SPost.to {w w1 : World} {sb : Nat} {L : SLay} {s' : Sr.St} (h : SrL w1 sb L s') (hf : Fr (SrS L sb) w w1) : SPost w sb L s' (.returned (.tuple #[])) w1 := ⟨rfl, h, hf⟩
set_option maxRecDepth 100000 in
set_option maxHeartbeats 1000000 in
theorem swrite_no (w : World) (sb : Nat) (L : SLay) (s : Sr.St) (h : SrL w sb L s) (op n b d : Int) (a : Nat) (ha : a < 64) (A : Option Addr) (k c : Nat) (hk : k ≤ 1000000) (hx : ¬ (0 ≤ s.regs.getD a 0 ∧ s.regs.getD a 0 < k)) :
    Calls Tryz.prog 130 #[.pointer (some ⟨sb, 0, none⟩), .slice A k c, regV ⟨op, d, a, b, n⟩] w (SPost w sb L s) := by
  unfold regV
  have H := Lib.hid h
  have ha64 : (a : Int) < 64 := by omega
  have hs1 := h.blk.lt
  obtain ⟨x, hxe, _, _⟩ := h.getR ha
  rw [hxe] at hx
  have HX := Lib.hid hxe
  clear h hxe
  by_cases h0 : 0 ≤ x
  · have h1 : ¬ x < k := fun e => hx ⟨h0, e⟩
    clear hx
    go_enter Tryz.func130, Tryz.ntmps130
    go_wp2_with fail
    have r1 : (w.alloc (.cells #[.int .i64 op, .int .i64 (d : Int), .int .i64 (a : Int), .int .i64 (b : Int), .int .i64 n] 50)).cell? ⟨w.heap.size, 1, none⟩ = some (.int .i64 (d : Int)) := (Blk.new w _ _).cell 1
    have r2 : (w.alloc (.cells #[.int .i64 op, .int .i64 (d : Int), .int .i64 (a : Int), .int .i64 (b : Int), .int .i64 n] 50)).cell? ⟨w.heap.size, 2, none⟩ = some (.int .i64 (a : Int)) := (Blk.new w _ _).cell 2
    have r3 : (w.alloc (.cells #[.int .i64 op, .int .i64 (d : Int), .int .i64 (a : Int), .int .i64 (b : Int), .int .i64 n] 50)).cell? ⟨w.heap.size, 3, none⟩ = some (.int .i64 (b : Int)) := (Blk.new w _ _).cell 3
    have H1 := Lib.hid (H.out.alloc (.cells #[.int .i64 op, .int .i64 (d : Int), .int .i64 (a : Int), .int .i64 (b : Int), .int .i64 n] 50))
    have F1 := Lib.hid ((Fr.refl (SrS L sb) w).alloc (.cells #[.int .i64 op, .int .i64 (d : Int), .int .i64 (a : Int), .int .i64 (b : Int), .int .i64 n] 50))
    have hz : w.heap.size < (w.alloc (.cells #[.int .i64 op, .int .i64 (d : Int), .int .i64 (a : Int), .int .i64 (b : Int), .int .i64 n] 50)).heap.size := by simp
    generalize (w.alloc (.cells #[.int .i64 op, .int .i64 (d : Int), .int .i64 (a : Int), .int .i64 (b : Int), .int .i64 n] 50)) = W at *
    have c1 := H1.out.reg ha
    rw [HX.out] at c1
    have hS : W.drew.cell? ⟨w.heap.size, 2, none⟩ = some (.int .i64 (a : Int)) ∧ W.drew.cell? ⟨sb, a, none⟩ = some (.int .i64 x) := ⟨r2, c1⟩
    refine wp_region_seqT (fun i => !([] : List Nat).contains i) (fun i => ([2, 6] : List Nat).contains i) (fun i => ([] : List Nat).contains i) [0, 1, 2, 3, 4, 5, 6, 7] (fun wq : World => wq.cell? ⟨w.heap.size, 2, none⟩ = some (.int .i64 (a : Int)) ∧ wq.cell? ⟨sb, a, none⟩ = some (.int .i64 x)) (by kernel_rfl) (by kernel_rfl) (by kernel_rfl) (by kernel_rfl) ?_
    repeat (first | refine wpSeq_pureA (v := _) rfl rfl rfl ?_ | refine wpSeq_loadA (v := _) rfl rfl hS rfl ?_)
    refine wpSeq_end ?_
    clear c1
    have H1 := Lib.hid H1.out.drew
    have F1 := Lib.hid F1.out.drew
    replace r1 : W.drew.cell? ⟨w.heap.size, 1, none⟩ = some (.int .i64 (d : Int)) := r1
    replace r2 : W.drew.cell? ⟨w.heap.size, 2, none⟩ = some (.int .i64 (a : Int)) := r2
    replace r3 : W.drew.cell? ⟨w.heap.size, 3, none⟩ = some (.int .i64 (b : Int)) := r3
    replace hz : w.heap.size < W.drew.heap.size := hz
    clear hS
    generalize W.drew = W at *
    go_wp2
    go_end0
    exact .here H1.out F1.out
  · clear hx
    go_enter Tryz.func130, Tryz.ntmps130
    go_wp2_with fail
    have r1 : (w.alloc (.cells #[.int .i64 op, .int .i64 (d : Int), .int .i64 (a : Int), .int .i64 (b : Int), .int .i64 n] 50)).cell? ⟨w.heap.size, 1, none⟩ = some (.int .i64 (d : Int)) := (Blk.new w _ _).cell 1
    have r2 : (w.alloc (.cells #[.int .i64 op, .int .i64 (d : Int), .int .i64 (a : Int), .int .i64 (b : Int), .int .i64 n] 50)).cell? ⟨w.heap.size, 2, none⟩ = some (.int .i64 (a : Int)) := (Blk.new w _ _).cell 2
    have r3 : (w.alloc (.cells #[.int .i64 op, .int .i64 (d : Int), .int .i64 (a : Int), .int .i64 (b : Int), .int .i64 n] 50)).cell? ⟨w.heap.size, 3, none⟩ = some (.int .i64 (b : Int)) := (Blk.new w _ _).cell 3
    have H1 := Lib.hid (H.out.alloc (.cells #[.int .i64 op, .int .i64 (d : Int), .int .i64 (a : Int), .int .i64 (b : Int), .int .i64 n] 50))
    have F1 := Lib.hid ((Fr.refl (SrS L sb) w).alloc (.cells #[.int .i64 op, .int .i64 (d : Int), .int .i64 (a : Int), .int .i64 (b : Int), .int .i64 n] 50))
    have hz : w.heap.size < (w.alloc (.cells #[.int .i64 op, .int .i64 (d : Int), .int .i64 (a : Int), .int .i64 (b : Int), .int .i64 n] 50)).heap.size := by simp
    generalize (w.alloc (.cells #[.int .i64 op, .int .i64 (d : Int), .int .i64 (a : Int), .int .i64 (b : Int), .int .i64 n] 50)) = W at *
    have c1 := H1.out.reg ha
    rw [HX.out] at c1
    have hS : W.drew.cell? ⟨w.heap.size, 2, none⟩ = some (.int .i64 (a : Int)) ∧ W.drew.cell? ⟨sb, a, none⟩ = some (.int .i64 x) := ⟨r2, c1⟩
    refine wp_region_seqT (fun i => !([] : List Nat).contains i) (fun i => ([2, 6] : List Nat).contains i) (fun i => ([] : List Nat).contains i) [0, 1, 2, 3, 4, 5, 6, 7] (fun wq : World => wq.cell? ⟨w.heap.size, 2, none⟩ = some (.int .i64 (a : Int)) ∧ wq.cell? ⟨sb, a, none⟩ = some (.int .i64 x)) (by kernel_rfl) (by kernel_rfl) (by kernel_rfl) (by kernel_rfl) ?_
    repeat (first | refine wpSeq_pureA (v := _) rfl rfl rfl ?_ | refine wpSeq_loadA (v := _) rfl rfl hS rfl ?_)
    refine wpSeq_end ?_
    clear c1
    have H1 := Lib.hid H1.out.drew
    have F1 := Lib.hid F1.out.drew
    replace r1 : W.drew.cell? ⟨w.heap.size, 1, none⟩ = some (.int .i64 (d : Int)) := r1
    replace r2 : W.drew.cell? ⟨w.heap.size, 2, none⟩ = some (.int .i64 (a : Int)) := r2
    replace r3 : W.drew.cell? ⟨w.heap.size, 3, none⟩ = some (.int .i64 (b : Int)) := r3
    replace hz : w.heap.size < W.drew.heap.size := hz
    clear hS
    generalize W.drew = W at *
    go_wp2
    go_end0
    exact .here H1.out F1.out
set_option maxRecDepth 100000 in
set_option maxHeartbeats 1000000 in
theorem swrite_yes (w : World) (sb : Nat) (L : SLay) (s : Sr.St) (h : SrL w sb L s) (op n d : Int) (a b : Nat) (ha : a < 64) (hb : b < 64) (i k c g : Nat) (hk : k ≤ 1000000) (hx : s.regs.getD a 0 = i) (hi : i < k) (s' : Sr.St) (hg : SrS L sb g)
    (hrow : ∀ W, SrL W sb L s → SrL (W.setCell ⟨g, i, none⟩ (.int .i64 (s.regs.getD b 0))) sb L s' ∧ (∃ u, W.cell? ⟨g, i, none⟩ = some u) ∧ W.frozen? ⟨g, i, none⟩ = false) :
    Calls Tryz.prog 130 #[.pointer (some ⟨sb, 0, none⟩), .slice (some ⟨g, 0, none⟩) k c, regV ⟨op, d, a, b, n⟩] w (SPost w sb L s') := by
  unfold regV
  have H := Lib.hid h
  have ha64 : (a : Int) < 64 := by omega
  have hb64 : (b : Int) < 64 := by omega
  have hs1 := h.blk.lt
  have HX := Lib.hid hx
  have HR := Lib.hid hrow
  obtain ⟨y, hye, _, _⟩ := h.getR hb
  have HY := Lib.hid hye
  rw [hye] at HR
  clear h hx hye hrow
  go_enter Tryz.func130, Tryz.ntmps130
  go_wp2_with fail
  have r1 : (w.alloc (.cells #[.int .i64 op, .int .i64 (d : Int), .int .i64 (a : Int), .int .i64 (b : Int), .int .i64 n] 50)).cell? ⟨w.heap.size, 1, none⟩ = some (.int .i64 (d : Int)) := (Blk.new w _ _).cell 1
  have r2 : (w.alloc (.cells #[.int .i64 op, .int .i64 (d : Int), .int .i64 (a : Int), .int .i64 (b : Int), .int .i64 n] 50)).cell? ⟨w.heap.size, 2, none⟩ = some (.int .i64 (a : Int)) := (Blk.new w _ _).cell 2
  have r3 : (w.alloc (.cells #[.int .i64 op, .int .i64 (d : Int), .int .i64 (a : Int), .int .i64 (b : Int), .int .i64 n] 50)).cell? ⟨w.heap.size, 3, none⟩ = some (.int .i64 (b : Int)) := (Blk.new w _ _).cell 3
  have H1 := Lib.hid (H.out.alloc (.cells #[.int .i64 op, .int .i64 (d : Int), .int .i64 (a : Int), .int .i64 (b : Int), .int .i64 n] 50))
  have F1 := Lib.hid ((Fr.refl (SrS L sb) w).alloc (.cells #[.int .i64 op, .int .i64 (d : Int), .int .i64 (a : Int), .int .i64 (b : Int), .int .i64 n] 50))
  have hz : w.heap.size < (w.alloc (.cells #[.int .i64 op, .int .i64 (d : Int), .int .i64 (a : Int), .int .i64 (b : Int), .int .i64 n] 50)).heap.size := by simp
  generalize (w.alloc (.cells #[.int .i64 op, .int .i64 (d : Int), .int .i64 (a : Int), .int .i64 (b : Int), .int .i64 n] 50)) = W at *
  have c1 := H1.out.reg ha
  rw [HX.out] at c1
  have hS : W.drew.cell? ⟨w.heap.size, 2, none⟩ = some (.int .i64 (a : Int)) ∧ W.drew.cell? ⟨sb, a, none⟩ = some (.int .i64 i) := ⟨r2, c1⟩
  refine wp_region_seqT (fun i => !([] : List Nat).contains i) (fun i => ([2, 6] : List Nat).contains i) (fun i => ([] : List Nat).contains i) [0, 1, 2, 3, 4, 5, 6, 7] (fun wq : World => wq.cell? ⟨w.heap.size, 2, none⟩ = some (.int .i64 (a : Int)) ∧ wq.cell? ⟨sb, a, none⟩ = some (.int .i64 i)) (by kernel_rfl) (by kernel_rfl) (by kernel_rfl) (by kernel_rfl) ?_
  repeat (first | refine wpSeq_pureA (v := _) rfl rfl rfl ?_ | refine wpSeq_loadA (v := _) rfl rfl hS rfl ?_)
  refine wpSeq_end ?_
  clear c1
  have H1 := Lib.hid H1.out.drew
  have F1 := Lib.hid F1.out.drew
  replace r1 : W.drew.cell? ⟨w.heap.size, 1, none⟩ = some (.int .i64 (d : Int)) := r1
  replace r2 : W.drew.cell? ⟨w.heap.size, 2, none⟩ = some (.int .i64 (a : Int)) := r2
  replace r3 : W.drew.cell? ⟨w.heap.size, 3, none⟩ = some (.int .i64 (b : Int)) := r3
  replace hz : w.heap.size < W.drew.heap.size := hz
  clear hS
  generalize W.drew = W at *
  go_wp2_with fail
  have c2 := H1.out.reg hb
  rw [HY.out] at c2
  obtain ⟨h2, ⟨u, cu⟩, fz⟩ := HR.out W.drew H1.out.drew
  have HP := Lib.hid (SPost.to h2 (F1.out.drew.setCell (p := ⟨g, i, none⟩) (.inl hg) (.int .i64 y)))
  clear h2
  have hS : W.drew.cell? ⟨w.heap.size, 3, none⟩ = some (.int .i64 (b : Int)) ∧ W.drew.cell? ⟨sb, b, none⟩ = some (.int .i64 y) := ⟨r3, c2⟩
  refine wp_region_seqT (fun i => !([10] : List Nat).contains i) (fun i => ([4, 8] : List Nat).contains i) (fun i => ([] : List Nat).contains i) [0, 1, 2, 3, 4, 5, 6, 7, 8, 9, 10] (fun wq : World => wq.cell? ⟨w.heap.size, 3, none⟩ = some (.int .i64 (b : Int)) ∧ wq.cell? ⟨sb, b, none⟩ = some (.int .i64 y)) (by kernel_rfl) (by kernel_rfl) (by kernel_rfl) (by kernel_rfl) ?_
  repeat (first | refine wpSeq_pureA (v := _) rfl rfl rfl ?_ | refine wpSeq_loadA (v := _) rfl rfl hS rfl ?_)
  refine wpSeq_heavy rfl rfl (fun K hK => ?_); go_simp
  refine hK _ _ (fun h => by cases h) ?_; clear hK K
  refine wpSeq_end ?_
  go_wp2
  go_end0
  exact HP.out
def whereV (s : Sr.St) (l : List (Int × Int)) (d : Nat) (p : Int) : Sr.St := { s with regs := s.regs.set d (if has s.m p then coord s.m.look (l.getD p.toNat (0, 0)) else 0) }
set_option maxRecDepth 100000 in
set_option maxHeartbeats 1000000 in
theorem swhere_any (w : World) (sb : Nat) (L : SLay) (s : Sr.St) (h : SrL w sb L s) (op n b : Int) (d a : Nat) (hd : d < 64) (ha : a < 64) (v : Value) (l : List (Int × Int)) (hl : l.length = s.m.cur.length) (hv : ∀ W, SrL W sb L s → W.ownsRow 0 76 2 v l.length (pts l)) (hk : ∀ p ∈ l, K32 p.1 ∧ K32 p.2) :
    Calls Tryz.prog 138 #[.pointer (some ⟨sb, 0, none⟩), v, regV ⟨op, d, a, b, n⟩] w (SPost w sb L (whereV s l d (s.regs.getD a 0))) := by
  unfold regV
  have H := Lib.hid h
  have ha64 : (a : Int) < 64 := by omega
  have hd64 : (d : Int) < 64 := by omega
  have hs1 := h.blk.lt
  have hcl := h.ok.m.curl
  have hlk := h.ok.m.look
  obtain ⟨x, hx, c1, hxk⟩ := h.getR ha
  have HX := Lib.hid hx
  rw [hx]
  obtain ⟨A, c, rfl, hc1, hc2⟩ := owns_form (hv w h)
  have HV := Lib.hid hv
  have HL := Lib.hid hl
  by_cases hh : has s.m x = true
  · obtain ⟨i, rfl, hi⟩ := has_nat hh
    have hil : i < l.length := by omega
    have hll : l.length ≤ 1000000 := by omega
    obtain ⟨p, hp⟩ : ∃ p, l[i]? = some p := ⟨_, List.getElem?_eq_getElem hil⟩
    have HQ := Lib.hid (show whereV s l d i = { s with regs := s.regs.set d (coord s.m.look p) } by unfold whereV; rw [if_pos hh, Int.toNat_natCast, getD_of hp])
    have hck : K32 (coord s.m.look p) := by
      have := hk p (List.mem_of_getElem? hp)
      unfold coord
      split
      · exact this.2
      · exact this.1
    have HCK := Lib.hid hck
    have HH := Lib.hid hh
    have HPP := Lib.hid hp
    clear h hx hv hk hc1 hc2 c1 hl hh hp hck
    go_enter Tryz.func138, Tryz.ntmps138
    go_wp2_with fail
    have r1 : (w.alloc (.cells #[.int .i64 op, .int .i64 (d : Int), .int .i64 (a : Int), .int .i64 (b : Int), .int .i64 n] 50)).cell? ⟨w.heap.size, 1, none⟩ = some (.int .i64 (d : Int)) := (Blk.new w _ _).cell 1
    have r2 : (w.alloc (.cells #[.int .i64 op, .int .i64 (d : Int), .int .i64 (a : Int), .int .i64 (b : Int), .int .i64 n] 50)).cell? ⟨w.heap.size, 2, none⟩ = some (.int .i64 (a : Int)) := (Blk.new w _ _).cell 2
    have r3 : (w.alloc (.cells #[.int .i64 op, .int .i64 (d : Int), .int .i64 (a : Int), .int .i64 (b : Int), .int .i64 n] 50)).cell? ⟨w.heap.size, 3, none⟩ = some (.int .i64 (b : Int)) := (Blk.new w _ _).cell 3
    have H1 := Lib.hid (H.out.alloc (.cells #[.int .i64 op, .int .i64 (d : Int), .int .i64 (a : Int), .int .i64 (b : Int), .int .i64 n] 50))
    have F1 := Lib.hid ((Fr.refl (SrS L sb) w).alloc (.cells #[.int .i64 op, .int .i64 (d : Int), .int .i64 (a : Int), .int .i64 (b : Int), .int .i64 n] 50))
    have hz : w.heap.size < (w.alloc (.cells #[.int .i64 op, .int .i64 (d : Int), .int .i64 (a : Int), .int .i64 (b : Int), .int .i64 n] 50)).heap.size := by simp
    generalize (w.alloc (.cells #[.int .i64 op, .int .i64 (d : Int), .int .i64 (a : Int), .int .i64 (b : Int), .int .i64 n] 50)) = W at *
    have c1 := H1.out.reg ha
    rw [HX.out] at c1
    have hS : W.drew.cell? ⟨w.heap.size, 2, none⟩ = some (.int .i64 (a : Int)) ∧ W.drew.cell? ⟨sb, a, none⟩ = some (.int .i64 i) := ⟨r2, c1⟩
    refine wp_region_seqT (fun i => !([] : List Nat).contains i) (fun i => ([2, 6] : List Nat).contains i) (fun i => ([] : List Nat).contains i) [0, 1, 2, 3, 4, 5, 6, 7, 8] (fun wq : World => wq.cell? ⟨w.heap.size, 2, none⟩ = some (.int .i64 (a : Int)) ∧ wq.cell? ⟨sb, a, none⟩ = some (.int .i64 i)) (by kernel_rfl) (by kernel_rfl) (by kernel_rfl) (by kernel_rfl) ?_
    repeat (first | refine wpSeq_pureA (v := _) rfl rfl rfl ?_ | refine wpSeq_loadA (v := _) rfl rfl hS rfl ?_)
    refine wpSeq_end ?_
    clear c1
    have H1 := Lib.hid H1.out.drew
    have F1 := Lib.hid F1.out.drew
    replace r1 : W.drew.cell? ⟨w.heap.size, 1, none⟩ = some (.int .i64 (d : Int)) := r1
    replace r2 : W.drew.cell? ⟨w.heap.size, 2, none⟩ = some (.int .i64 (a : Int)) := r2
    replace r3 : W.drew.cell? ⟨w.heap.size, 3, none⟩ = some (.int .i64 (b : Int)) := r3
    replace hz : w.heap.size < W.drew.heap.size := hz
    clear hS
    generalize W.drew = W at *
    go_wp2_with fail
    refine (shas_any _ _ _ _ H1.out _).mono ?_
    rintro e w5 ⟨rfl, rfl⟩
    rw [HH.out]
    go_wp2_with fail
    obtain ⟨g, c', hA, _, _, hg, hcell⟩ := owns_at (HV.out W H1.out) (by omega)
    have cp := hcell _ _ (pts_coord HPP.out s.m.look)
    injection hA with hA
    subst hA
    have c72 := H1.out.c72
    clear hcell
    generalize hlk' : s.m.look = lk at *
    have HLK := Lib.hid hlk'
    clear hlk'
    generalize hd' : (if lk = 1 then 1 else 0 : Nat) = dd at *
    have HD := Lib.hid hd'
    clear hd'
    have hS : W.drew.cell? ⟨sb, 72, none⟩ = some (.int .i64 lk) ∧ W.drew.cell? ⟨g, i * 2 + dd, none⟩ = some (.int .i64 (coord lk p)) := ⟨c72, cp⟩
    refine wp_region_seqT (fun i => !([7] : List Nat).contains i) (fun i => ([6, 9] : List Nat).contains i) (fun i => ([] : List Nat).contains i) [0, 1, 2, 3, 4, 5, 6, 7, 8, 9, 10] (fun wq : World => wq.cell? ⟨sb, 72, none⟩ = some (.int .i64 lk) ∧ wq.cell? ⟨g, i * 2 + dd, none⟩ = some (.int .i64 (coord lk p))) (by kernel_rfl) (by kernel_rfl) (by kernel_rfl) (by kernel_rfl) ?_
    repeat (first | refine wpSeq_pureA (v := _) rfl rfl rfl ?_ | refine wpSeq_loadA (v := _) rfl rfl hS rfl ?_)
    refine wpSeq_heavy rfl rfl (fun K hK => ?_); go_simp
    refine (scoord_any _ _ _ _ hlk.1 hlk.2).mono ?_
    rintro e w5 ⟨rfl, rfl⟩
    rw [HD.out]
    dsimp only
    refine hK _ _ (fun _ => hS) ?_; clear hK K
    repeat (first | refine wpSeq_pureA (v := _) rfl rfl rfl ?_ | refine wpSeq_loadA (v := _) rfl rfl hS rfl ?_)
    refine wpSeq_end ?_
    clear cp c72
    have H1 := Lib.hid H1.out.drew
    have F1 := Lib.hid F1.out.drew
    replace r1 : W.drew.cell? ⟨w.heap.size, 1, none⟩ = some (.int .i64 (d : Int)) := r1
    replace r2 : W.drew.cell? ⟨w.heap.size, 2, none⟩ = some (.int .i64 (a : Int)) := r2
    replace r3 : W.drew.cell? ⟨w.heap.size, 3, none⟩ = some (.int .i64 (b : Int)) := r3
    replace hz : w.heap.size < W.drew.heap.size := hz
    clear hS
    generalize W.drew = W at *
    go_wp2_with fail
    have fz := H1.out.drew.blk.frozen d
    have c0 := H1.out.drew.reg hd
    have hS : W.drew.cell? ⟨w.heap.size, 1, none⟩ = some (.int .i64 (d : Int)) := r1
    refine wp_region_seqT (fun i => !([7] : List Nat).contains i) (fun i => ([2] : List Nat).contains i) (fun i => ([] : List Nat).contains i) [0, 1, 2, 3, 4, 5, 6, 7] (fun wq : World => wq.cell? ⟨w.heap.size, 1, none⟩ = some (.int .i64 (d : Int))) (by kernel_rfl) (by kernel_rfl) (by kernel_rfl) (by kernel_rfl) ?_
    repeat (first | refine wpSeq_pureA (v := _) rfl rfl rfl ?_ | refine wpSeq_loadA (v := _) rfl rfl hS rfl ?_)
    refine wpSeq_heavy rfl rfl (fun K hK => ?_); go_simp
    refine hK _ _ (fun h => by cases h) ?_; clear hK K
    refine wpSeq_end ?_
    go_wp2
    go_end0
    exact HQ.out ▸ .put H1.out.drew F1.out.drew hd HCK.out
  · have hh' : has s.m x = false := by simpa using hh
    have HQ := Lib.hid (show whereV s l d x = { s with regs := s.regs.set d 0 } by unfold whereV; rw [if_neg hh])
    have HH := Lib.hid hh'
    clear h hx hv hk hc1 hc2 c1 hl hh hh'
    go_enter Tryz.func138, Tryz.ntmps138
    go_wp2_with fail
    have r1 : (w.alloc (.cells #[.int .i64 op, .int .i64 (d : Int), .int .i64 (a : Int), .int .i64 (b : Int), .int .i64 n] 50)).cell? ⟨w.heap.size, 1, none⟩ = some (.int .i64 (d : Int)) := (Blk.new w _ _).cell 1
    have r2 : (w.alloc (.cells #[.int .i64 op, .int .i64 (d : Int), .int .i64 (a : Int), .int .i64 (b : Int), .int .i64 n] 50)).cell? ⟨w.heap.size, 2, none⟩ = some (.int .i64 (a : Int)) := (Blk.new w _ _).cell 2
    have r3 : (w.alloc (.cells #[.int .i64 op, .int .i64 (d : Int), .int .i64 (a : Int), .int .i64 (b : Int), .int .i64 n] 50)).cell? ⟨w.heap.size, 3, none⟩ = some (.int .i64 (b : Int)) := (Blk.new w _ _).cell 3
    have H1 := Lib.hid (H.out.alloc (.cells #[.int .i64 op, .int .i64 (d : Int), .int .i64 (a : Int), .int .i64 (b : Int), .int .i64 n] 50))
    have F1 := Lib.hid ((Fr.refl (SrS L sb) w).alloc (.cells #[.int .i64 op, .int .i64 (d : Int), .int .i64 (a : Int), .int .i64 (b : Int), .int .i64 n] 50))
    have hz : w.heap.size < (w.alloc (.cells #[.int .i64 op, .int .i64 (d : Int), .int .i64 (a : Int), .int .i64 (b : Int), .int .i64 n] 50)).heap.size := by simp
    generalize (w.alloc (.cells #[.int .i64 op, .int .i64 (d : Int), .int .i64 (a : Int), .int .i64 (b : Int), .int .i64 n] 50)) = W at *
    have c1 := H1.out.reg ha
    rw [HX.out] at c1
    have hS : W.drew.cell? ⟨w.heap.size, 2, none⟩ = some (.int .i64 (a : Int)) ∧ W.drew.cell? ⟨sb, a, none⟩ = some (.int .i64 x) := ⟨r2, c1⟩
    refine wp_region_seqT (fun i => !([] : List Nat).contains i) (fun i => ([2, 6] : List Nat).contains i) (fun i => ([] : List Nat).contains i) [0, 1, 2, 3, 4, 5, 6, 7, 8] (fun wq : World => wq.cell? ⟨w.heap.size, 2, none⟩ = some (.int .i64 (a : Int)) ∧ wq.cell? ⟨sb, a, none⟩ = some (.int .i64 x)) (by kernel_rfl) (by kernel_rfl) (by kernel_rfl) (by kernel_rfl) ?_
    repeat (first | refine wpSeq_pureA (v := _) rfl rfl rfl ?_ | refine wpSeq_loadA (v := _) rfl rfl hS rfl ?_)
    refine wpSeq_end ?_
    clear c1
    have H1 := Lib.hid H1.out.drew
    have F1 := Lib.hid F1.out.drew
    replace r1 : W.drew.cell? ⟨w.heap.size, 1, none⟩ = some (.int .i64 (d : Int)) := r1
    replace r2 : W.drew.cell? ⟨w.heap.size, 2, none⟩ = some (.int .i64 (a : Int)) := r2
    replace r3 : W.drew.cell? ⟨w.heap.size, 3, none⟩ = some (.int .i64 (b : Int)) := r3
    replace hz : w.heap.size < W.drew.heap.size := hz
    clear hS
    generalize W.drew = W at *
    go_wp2_with fail
    refine (shas_any _ _ _ _ H1.out _).mono ?_
    rintro e w5 ⟨rfl, rfl⟩
    rw [HH.out]
    go_wp2_with fail
    have fz := H1.out.drew.blk.frozen d
    have c0 := H1.out.drew.reg hd
    have hS : W.drew.cell? ⟨w.heap.size, 1, none⟩ = some (.int .i64 (d : Int)) := r1
    refine wp_region_seqT (fun i => !([7] : List Nat).contains i) (fun i => ([2] : List Nat).contains i) (fun i => ([] : List Nat).contains i) [0, 1, 2, 3, 4, 5, 6, 7] (fun wq : World => wq.cell? ⟨w.heap.size, 1, none⟩ = some (.int .i64 (d : Int))) (by kernel_rfl) (by kernel_rfl) (by kernel_rfl) (by kernel_rfl) ?_
    repeat (first | refine wpSeq_pureA (v := _) rfl rfl rfl ?_ | refine wpSeq_loadA (v := _) rfl rfl hS rfl ?_)
    refine wpSeq_heavy rfl rfl (fun K hK => ?_); go_simp
    refine hK _ _ (fun h => by cases h) ?_; clear hK K
    refine wpSeq_end ?_
    go_wp2
    go_end0
    exact HQ.out ▸ .put H1.out.drew F1.out.drew hd ⟨by decide, by decide⟩
end Go.Proofs.YtnhebmgibiomnaaGreat

/- Points of the machine: has, where, put, and the deeds Get, Org, Move, Set, Align: their contracts. · Points of the machine: put, and the deeds Get, Org: their contracts. · Points of the machine: the deeds Move, Set, Align: their contracts. · Points of the machine: the deeds Move, Set, Align: their contracts. -/
import Derived.Test.YthdmdgmchkhngaaGreatMcB
import Derived.Test.YthdmdgmchkhngaaGreatSeqs
namespace Go.Proofs.YthdmdgmchkhngaaGreat
open Go.RowKit Mc

theorem has_any (w : World) (mb : Nat) (O : Nat → Prop) (L : Lay) (s : St) (h : MaL w mb O L s) (p : Int) :
    Calls Tryz.prog 124 #[.pointer (some ⟨mb, 0, none⟩), .int .i64 p] w fun e w' => e = .returned (.bool (has s p)) ∧ w = w' := by
  obtain ⟨A, c, hv, hc1, hc2⟩ := h.cu.form
  have c3 := h.blk.cell 3
  rw [h.c.c3, hv] at c3
  have hcl := h.ok.curl
  have HD : Hid (has s p = decide (0 ≤ p ∧ p < s.cur.length)) := Lib.hid rfl
  clear h hv hc1 hc2
  by_cases h0 : 0 ≤ p
  · by_cases h1 : p < s.cur.length
    · go_enter Tryz.func124, Tryz.ntmps124
      go_wp2
      go_ret
      exact ⟨ret_bool (by rw [HD.out]; simp; omega), rfl⟩
    · go_enter Tryz.func124, Tryz.ntmps124
      go_wp2
      go_ret
      exact ⟨ret_bool (by rw [HD.out]; simp; omega), rfl⟩
  · go_enter Tryz.func124, Tryz.ntmps124
    go_wp2
    go_ret
    exact ⟨ret_bool (by rw [HD.out]; simp; omega), rfl⟩

/-- a point's cell along an axis -/
theorem pts_coord {l : List (Int × Int)} {i : Nat} {v : Int × Int} (h : l[i]? = some v) (axis : Int) : (pts l)[i * 2 + (if axis = 1 then 1 else 0)]? = some (.int .i64 (coord axis v)) := by
  have := pts_get h
  unfold coord
  split
  · rw [Nat.mul_comm]; exact this.2
  · rw [Nat.mul_comm]; exact this.1
/-- where a point is among some -/
def lookV (s : St) (l : List (Int × Int)) (x : Int) : Int := if has s x then coord s.look (l.getD x.toNat (0, 0)) else 0
theorem lookV_yes {s : St} {l : List (Int × Int)} {i : Nat} {v : Int × Int} (h : has s i = true) (hv : l[i]? = some v) : lookV s l i = coord s.look v := by
  unfold lookV
  rw [if_pos h, Int.toNat_natCast, List.getD_eq_getElem?_getD, hv]
  rfl
theorem lookV_no {s : St} {l : List (Int × Int)} {x : Int} (h : ¬ has s x = true) : lookV s l x = 0 := by unfold lookV; rw [if_neg h]
theorem where_any (w : World) (mb : Nat) (O : Nat → Prop) (L : Lay) (s : St) (h : MaL w mb O L s) (x : Int) (r : List Int) (hs : s.stack = x :: r) (A : Option Addr) (l : List (Int × Int)) (c : Nat) (hll : l.length = s.cur.length)
    (hrow : Row w O 50 2 (.slice A l.length c) l.length (pts l)) :
    Calls Tryz.prog 89 #[.pointer (some ⟨mb, 0, none⟩), .slice A l.length c] w (MPost w mb O (push (lookV s l x) { s with stack := r })) := by
  have H := Lib.hid h
  have HS := Lib.hid hs
  have hl := h.ok.slen
  rw [hs, List.length_cons] at hl
  have hcl := h.ok.curl
  rw [← hll] at hcl
  have hlk := h.ok.look
  have HR := Lib.hid hrow
  have HLL := Lib.hid hll
  clear h hs hrow hll
  by_cases hx : has s x = true
  · have HX := Lib.hid hx
    have hx' := hx
    simp only [has, decide_eq_true_eq] at hx'
    rw [← HLL.out] at hx'
    obtain ⟨i, rfl⟩ : ∃ i : Nat, x = i := ⟨x.toNat, by omega⟩
    have hil : i < l.length := by omega
    obtain ⟨g, c', hv, _, _, hg, _⟩ := HR.out.at_ (by omega)
    injection hv with hv _ hc
    subst hv hc
    obtain ⟨v, hv⟩ : ∃ v, l[i]? = some v := ⟨_, List.getElem?_eq_getElem hil⟩
    have HV := Lib.hid hv
    clear hx hx' hv hg
    go_enter Tryz.func89, Tryz.ntmps89
    go_wp2_with fail
    refine (take1_new w mb O L s H.out _ r HS.out _).mono ?_
    rintro e w' ⟨rfl, ht, hb1⟩; obtain ⟨L', hM⟩ := ht.ma; have HM := Lib.hid hM; have HT := Lib.hid ht; have hlt := ht.lt; have b1 := hb1.cell 0; have b1l := hb1.lt; have b1f := hb1.frozen 0; simp only [List.getElem?_toArray, List.getElem?_cons_zero] at b1; clear ht hM hb1
    go_wp2_with fail
    refine (has_any w' mb O L' _ HM.out _).mono ?_
    rintro e w5 ⟨rfl, rfl⟩
    have hh : has { s with stack := r } (i : Int) = true := HX.out
    rw [hh]
    clear hh
    go_wp2_with fail
    have c42 := HM.out.blk.cell 42
    rw [HM.out.c.c42] at c42
    dsimp only at c42
    obtain ⟨g2, c2, hv2, _, _, hO, hgl, hc, hf⟩ := (HT.out.row (by decide) HR.out).at_ (by omega)
    injection hv2 with hv2
    injection hv2 with hv2
    injection hv2 with hv2
    subst hv2
    have d0 := hc _ _ (pts_coord HV.out s.look)
    clear hc hf
    generalize hd : (if s.look = 1 then 1 else 0 : Nat) = d at d0
    have HD := Lib.hid hd
    clear hd
    have hS : w'.drew.cell? ⟨mb, 42, none⟩ = some (.int .i64 s.look) ∧ w'.drew.cell? ⟨w.heap.size, 0, none⟩ = some (.int .i64 i) ∧ w'.drew.cell? ⟨g, i * 2 + d, none⟩ = some (.int .i64 (coord s.look v)) := ⟨c42, b1, d0⟩
    refine wp_region_seqT (fun i => !([7] : List Nat).contains i) (fun i => ([1, 6, 9] : List Nat).contains i) (fun i => ([] : List Nat).contains i) [0, 1, 2, 3, 4, 5, 6, 7, 8, 9, 10] (fun w' : World => w'.cell? ⟨mb, 42, none⟩ = some (.int .i64 s.look) ∧ w'.cell? ⟨w.heap.size, 0, none⟩ = some (.int .i64 i) ∧ w'.cell? ⟨g, i * 2 + d, none⟩ = some (.int .i64 (coord s.look v))) (by kernel_rfl) (by kernel_rfl) (by kernel_rfl) (by kernel_rfl) ?_
    refine wpSeq_pure (v := _) rfl rfl rfl (by kernel_rfl) (fun _ _ _ h => h) (fun wq => by first | (go_simp; done) | (go_simp; rfl)) ?_
    refine wpSeq_load (v := _) rfl rfl (by kernel_rfl) (fun _ _ _ h => h) hS rfl (fun wq hq => by (try have hq1 := hq.1); (try have hq2 := hq.2.1); (try have hq3 := hq.2.2.1); (try have hq4 := hq.2.2.2.1); (try have hq5 := hq.2.2.2.2.1); (try have hq6 := hq.2.2.2.2.2.1); (try have hq7 := hq.2.2.2.2.2.2); (try have hr2 := hq.2); (try have hr3 := hq.2.2); (try have hr4 := hq.2.2.2); (try have hr5 := hq.2.2.2.2); first | (go_simp; done) | (go_simp; rfl)) ?_
    refine wpSeq_pure (v := _) rfl rfl rfl (by kernel_rfl) (fun _ _ _ h => h) (fun wq => by first | (go_simp; done) | (go_simp; rfl)) ?_
    refine wpSeq_pure (v := _) rfl rfl rfl (by kernel_rfl) (fun _ _ _ h => h) (fun wq => by first | (go_simp; done) | (go_simp; rfl)) ?_
    refine wpSeq_pure (v := _) rfl rfl rfl (by kernel_rfl) (fun _ _ _ h => h) (fun wq => by first | (go_simp; done) | (go_simp; rfl)) ?_
    refine wpSeq_pure (v := _) rfl rfl rfl (by kernel_rfl) (fun _ _ _ h => h) (fun wq => by first | (go_simp; done) | (go_simp; rfl)) ?_
    refine wpSeq_load (v := _) rfl rfl (by kernel_rfl) (fun _ _ _ h => h) hS rfl (fun wq hq => by (try have hq1 := hq.1); (try have hq2 := hq.2.1); (try have hq3 := hq.2.2.1); (try have hq4 := hq.2.2.2.1); (try have hq5 := hq.2.2.2.2.1); (try have hq6 := hq.2.2.2.2.2.1); (try have hq7 := hq.2.2.2.2.2.2); (try have hr2 := hq.2); (try have hr3 := hq.2.2); (try have hr4 := hq.2.2.2); (try have hr5 := hq.2.2.2.2); first | (go_simp; done) | (go_simp; rfl)) ?_
    refine wpSeq_heavy rfl rfl (fun K hK => ?_); go_simp
    refine (coordinate_any _ _ _ _).mono ?_
    rintro e w5 ⟨rfl, rfl⟩
    rw [HD.out]
    dsimp only
    refine hK _ _ (fun h => by cases h) ?_; clear hK K
    refine wpSeq_pure (v := _) rfl rfl rfl (by kernel_rfl) (fun _ _ _ h => h) (fun wq => by first | (go_simp; done) | (go_simp; rfl)) ?_
    refine wpSeq_load (v := _) rfl rfl (by kernel_rfl) (fun _ _ _ h => h) hS rfl (fun wq hq => by (try have hq1 := hq.1); (try have hq2 := hq.2.1); (try have hq3 := hq.2.2.1); (try have hq4 := hq.2.2.2.1); (try have hq5 := hq.2.2.2.2.1); (try have hq6 := hq.2.2.2.2.2.1); (try have hq7 := hq.2.2.2.2.2.2); (try have hr2 := hq.2); (try have hr3 := hq.2.2); (try have hr4 := hq.2.2.2); (try have hr5 := hq.2.2.2.2); first | (go_simp; done) | (go_simp; rfl)) ?_
    refine wpSeq_pure (v := _) rfl rfl rfl (by kernel_rfl) (fun _ _ _ h => h) (fun wq => by first | (go_simp; done) | (go_simp; rfl)) ?_
    refine wpSeq_end ?_
    have HMD := Lib.hid HM.out.drew
    have HTF := Lib.hid HT.out.fr.drew
    go_wp2_with fail
    refine (leave1_new w'.drew mb O L' _ HMD.out _ (by simp only; omega)).mono ?_
    intro e w9 hp
    have HP := Lib.hid (hp.from_ HTF.out)
    obtain ⟨rfl, _⟩ := hp
    go_wp2
    go_end0
    rw [lookV_yes HX.out HV.out]
    exact HP.out
  · have HX := Lib.hid hx
    have hx' : has s x = false := by simpa using hx
    have HX' := Lib.hid hx'
    clear hx hx'
    go_enter Tryz.func89, Tryz.ntmps89
    go_wp2_with fail
    refine (take1_new w mb O L s H.out _ r HS.out _).mono ?_
    rintro e w' ⟨rfl, ht, hb1⟩; obtain ⟨L', hM⟩ := ht.ma; have HM := Lib.hid hM; have HT := Lib.hid ht; have hlt := ht.lt; have b1 := hb1.cell 0; have b1l := hb1.lt; have b1f := hb1.frozen 0; simp only [List.getElem?_toArray, List.getElem?_cons_zero] at b1; clear ht hM hb1
    go_wp2_with fail
    refine (has_any w' mb O L' _ HM.out _).mono ?_
    rintro e w5 ⟨rfl, rfl⟩
    have hh : has { s with stack := r } x = false := HX'.out
    rw [hh]
    clear hh
    go_wp2_with fail
    refine (leave1_new w' mb O L' _ HM.out _ (by simp only; omega)).mono ?_
    intro e w9 hp; have HP := Lib.hid (hp.from_ HT.out.fr); obtain ⟨rfl, _⟩ := hp; go_wp2; go_end0
    rw [lookV_no HX.out]
    exact HP.out
end Go.Proofs.YthdmdgmchkhngaaGreat
namespace Go.Proofs.YthdmdgmchkhngaaGreat
open Go.RowKit Mc

theorem get_deed (w : World) (mb : Nat) (O : Nat → Prop) (L : Lay) (s : St) (h : MaL w mb O L s) (a x : Int) (r : List Int) (hs : s.stack = x :: r) :
    Calls Tryz.prog 88 #[.pointer (some ⟨mb, 0, none⟩), .int .i64 a] w (MPost w mb O (push (lookV s s.cur x) { s with stack := r })) := by
  obtain ⟨A, c, hv, hc1, hc2⟩ := h.cu.form
  have c3 := h.blk.cell 3
  rw [h.c.c3, hv] at c3
  have hrow := h.cu
  rw [hv] at hrow
  have HC := Lib.hid (where_any w mb O L s h x r hs A s.cur c rfl hrow)
  clear h hs hv hc1 hc2 hrow
  go_enter Tryz.func88, Tryz.ntmps88
  go_wp2_with fail
  refine HC.out.mono ?_
  intro e w9 hp; have HP := Lib.hid hp; obtain ⟨rfl, _⟩ := hp; go_wp2; go_end0; exact HP.out
theorem org_deed (w : World) (mb : Nat) (O : Nat → Prop) (L : Lay) (s : St) (h : MaL w mb O L s) (a x : Int) (r : List Int) (hs : s.stack = x :: r) :
    Calls Tryz.prog 90 #[.pointer (some ⟨mb, 0, none⟩), .int .i64 a] w (MPost w mb O (push (lookV s s.org x) { s with stack := r })) := by
  obtain ⟨A, c, hv, hc1, hc2⟩ := h.og.form
  have c2 := h.blk.cell 2
  rw [h.c.c2, hv] at c2
  have hrow := h.og
  rw [hv] at hrow
  have HC := Lib.hid (where_any w mb O L s h x r hs A s.org c h.ok.orgl hrow)
  clear h hs hv hc1 hc2 hrow
  go_enter Tryz.func90, Tryz.ntmps90
  go_wp2_with fail
  refine HC.out.mono ?_
  intro e w9 hp; have HP := Lib.hid hp; obtain ⟨rfl, _⟩ := hp; go_wp2; go_end0; exact HP.out

theorem pts_set : ∀ {l : List (Int × Int)} {i : Nat} {x : Int × Int} (_ : l[i]? = some x) (axis v : Int), pts (l.set i (to_ axis x v)) = (pts l).set (i * 2 + (if axis = 1 then 1 else 0)) (.int .i64 (k32 v))
  | a :: l, 0, x, h, axis, v => by
    simp only [List.getElem?_cons_zero, Option.some.injEq] at h
    subst h
    unfold to_
    split <;> simp [pts]
  | a :: l, i + 1, x, h, axis, v => by
    have ih := pts_set (l := l) (i := i) (x := x) h axis v
    have : (pts (a :: l)).set ((i + 1) * 2 + (if axis = 1 then 1 else 0)) (.int .i64 (k32 v)) = .int .i64 a.1 :: .int .i64 a.2 :: (pts l).set (i * 2 + (if axis = 1 then 1 else 0)) (.int .i64 (k32 v)) := by
      rw [show (i + 1) * 2 + (if axis = 1 then 1 else 0) = (i * 2 + (if axis = 1 then 1 else 0)) + 1 + 1 by omega]
      rfl
    rw [this, ← ih]
    rfl
  | [], i, x, h, _, _ => by simp at h
section
variable {w w' : World} {mb : Nat} {O : Nat → Prop} {L : Lay} {s : St}
theorem Mc.Ok.cur_ (h : Ok s) {l : List (Int × Int)} (h1 : ∀ p ∈ l, K32 p.1 ∧ K32 p.2) (h2 : l.length = s.cur.length) : Ok { s with cur := l } :=
  ⟨h.stack, h.slen, h.cvt, h.store, h.stl, h1, h.org, by rw [h.orgl]; exact h2.symm, h.touch, by rw [h.tl]; exact h2.symm, h.size, h.look, h.move, h.mode, h.peak, h.frames, h.flen, h.funcs, h.fnl, fun c hc => by have := h.cont c hc; simp only [h2]; exact this, h.contl, by rw [h2]; exact h.curl, h.cvl, h.endl⟩
theorem Mc.Ok.touch_ (h : Ok s) {l : List Int} (h1 : ∀ t ∈ l, 0 ≤ t ∧ t ≤ 3) (h2 : l.length = s.touch.length) : Ok { s with touch := l } :=
  ⟨h.stack, h.slen, h.cvt, h.store, h.stl, h.cur, h.org, h.orgl, h1, by rw [← h.tl]; exact h2, h.size, h.look, h.move, h.mode, h.peak, h.frames, h.flen, h.funcs, h.fnl, h.cont, h.contl, h.curl, h.cvl, h.endl⟩
theorem to_k (axis : Int) (p : Int × Int) (v : Int) (h : K32 p.1 ∧ K32 p.2) : K32 (to_ axis p v).1 ∧ K32 (to_ axis p v).2 := by
  unfold to_
  split
  · exact ⟨h.1, k32_in v⟩
  · exact ⟨k32_in v, h.2⟩
theorem MaL.setCu (h : MaL w mb O L s) {g m c : Nat} (hv : L.cu = .slice (some ⟨g, 0, none⟩) m c) {i : Nat} {x : Int × Int} (hi : s.cur[i]? = some x) (axis v : Int) : MaL (w.setCell ⟨g, i * 2 + (if axis = 1 then 1 else 0), none⟩ (.int .i64 (k32 v))) mb O L { s with cur := s.cur.set i (to_ axis x v) } := by
  have hob : L.cu.ownBlock = some g := by rw [hv]; rfl
  have hg : g ≠ mb := h.cu.ne_blk h.blk (by decide) hob
  have hil := (List.getElem?_eq_some_iff.1 hi).1
  refine h.cur_ (by simp) ?_ (Below.heap_setCell _ _ _ _ hg.symm) (fun k _ _ hk => Below.heap_setCell _ _ _ _ (fun e => hk (by rw [hob, e]))) (fun _ h => h) (fun k hk => by have := h.olt k hk; simpa [World.setCell] using this) (h.ok.cur_ (fun p hp => ?_) (by simp))
  · rw [pts_set hi]
    refine h.cu.set_ hob (by rw [pts_len]; split <;> omega) _
  · rcases List.mem_or_eq_of_mem_set hp with hp | rfl
    · exact h.ok.cur p hp
    · exact to_k _ _ _ (h.ok.cur x (List.mem_of_getElem? hi))
theorem MaL.setTo (h : MaL w mb O L s) {g m c : Nat} (hv : L.to = .slice (some ⟨g, 0, none⟩) m c) {i : Nat} (hi : i < s.touch.length) {t : Int} (ht : 0 ≤ t ∧ t ≤ 3) : MaL (w.setCell ⟨g, i, none⟩ (.int .i64 t)) mb O L { s with touch := s.touch.set i t } := by
  have hob : L.to.ownBlock = some g := by rw [hv]; rfl
  have hg : g ≠ mb := h.to.ne_blk h.blk (by decide) hob
  refine h.touch_ (by simp) ?_ (Below.heap_setCell _ _ _ _ hg.symm) (fun k _ _ hk => Below.heap_setCell _ _ _ _ (fun e => hk (by rw [hob, e]))) (fun _ h => h) (fun k hk => by have := h.olt k hk; simpa [World.setCell] using this) (h.ok.touch_ (fun p hp => ?_) (by simp))
  · rw [ints_set]
    exact h.to.set_ hob (by rw [ints_len]; exact hi) _
  · rcases List.mem_or_eq_of_mem_set hp with hp | rfl
    · exact h.ok.touch p hp
    · exact ht
end
def tbit (axis t : Int) : Int := if bit axis t then t else t + (axis + 1)
theorem tbit_in {axis t : Int} (ha : 0 ≤ axis ∧ axis ≤ 1) (ht : 0 ≤ t ∧ t ≤ 3) : 0 ≤ tbit axis t ∧ tbit axis t ≤ 3 := by
  obtain ⟨h1, h2⟩ := ha
  obtain ⟨h3, h4⟩ := ht
  have e1 : axis = 0 ∨ axis = 1 := by omega
  have e2 : t = 0 ∨ t = 1 ∨ t = 2 ∨ t = 3 := by omega
  rcases e1 with rfl | rfl <;> rcases e2 with rfl | rfl | rfl | rfl <;> decide
theorem bits_tbit {axis t : Int} (ha : 0 ≤ axis ∧ axis ≤ 1) (ht : 0 ≤ t ∧ t ≤ 3) : bits BinOp.or IntKind.i64 t (axis + 1) = tbit axis t := by
  obtain ⟨h1, h2⟩ := ha
  obtain ⟨h3, h4⟩ := ht
  have e1 : axis = 0 ∨ axis = 1 := by omega
  have e2 : t = 0 ∨ t = 1 ∨ t = 2 ∨ t = 3 := by omega
  rcases e1 with rfl | rfl <;> rcases e2 with rfl | rfl | rfl | rfl <;> rfl
theorem put_any (w : World) (mb : Nat) (O : Nat → Prop) (L : Lay) (s : St) (h : MaL w mb O L s) (p : Nat) (axis v : Int) (hp : p < s.cur.length) (ha : 0 ≤ axis ∧ axis ≤ 1) :
    Calls Tryz.prog 126 #[.pointer (some ⟨mb, 0, none⟩), .int .i64 p, .int .i64 axis, .int .i64 v] w (MPost w mb O (goes s p axis v)) := by
  obtain ⟨x, hx⟩ : ∃ x, s.cur[p]? = some x := ⟨_, List.getElem?_eq_getElem hp⟩
  have hpt : p < s.touch.length := by rw [h.ok.tl]; exact hp
  obtain ⟨t, ht⟩ : ∃ t, s.touch[p]? = some t := ⟨_, List.getElem?_eq_getElem hpt⟩
  obtain ⟨g, c, hv, hc1, hc2, hg, hgl, hcells, hfz⟩ := h.cu.at_ (by omega)
  have d0 := hcells _ _ (pts_coord hx axis)
  have f0 := hfz (p * 2 + (if axis = 1 then 1 else 0))
  have c3 := h.blk.cell 3
  rw [h.c.c3, hv] at c3
  obtain ⟨gt, ct, hvt, hct1, hct2, hgt, hgtl, htcells, htfz⟩ := h.to.at_ (by omega)
  have t0 := htcells _ _ (ints_get ht)
  have ft := htfz p
  have c4 := h.blk.cell 4
  rw [h.c.c4, hvt] at c4
  have hne : gt ≠ g := fun e => h.to.apart h.cu (by decide) g (by rw [hvt, e]; rfl) (by rw [hv]; rfl)
  have hmg : mb ≠ g := fun e => h.cu.ne_blk h.blk (by decide) (show L.cu.ownBlock = some g by rw [hv]; rfl) e.symm
  have h1 := h.setCu hv hx axis v
  have h2 := h1.drew.setTo hvt hpt (tbit_in ha (h.ok.touch t (List.mem_of_getElem? ht)))
  have hf : Fr O w ((w.setCell ⟨g, p * 2 + (if axis = 1 then 1 else 0), none⟩ (.int .i64 (k32 v))).drew.setCell ⟨gt, p, none⟩ (.int .i64 (tbit axis t))) := ((Fr.refl O w).setCell (.inl hg) _).drew.setCell (.inl hgt) _
  have hq : { s with cur := s.cur.set p (to_ axis x v), touch := s.touch.set p (tbit axis t) } = goes s p axis v := by
    unfold goes tbit
    rw [List.getD_eq_getElem?_getD, List.getD_eq_getElem?_getD, hx, ht]
    rfl
  have HP : Hid (MPost w mb O (goes s p axis v) (.returned (.tuple #[])) ((w.setCell ⟨g, p * 2 + (if axis = 1 then 1 else 0), none⟩ (.int .i64 (k32 v))).drew.setCell ⟨gt, p, none⟩ (.int .i64 (tbit axis t)))) := Lib.hid (by rw [← hq]; exact .here h2 hf)
  have hto := h.ok.touch t (List.mem_of_getElem? ht)
  have hcl := h.ok.curl
  have hlt := h.ok.tl
  have hptl : s.touch.length ≤ 1000000 := by omega
  have _hmbl := h.blk.lt
  clear h h1 h2 hf hq hcells hfz htcells htfz hv hvt hx ht hlt hc2 hct2
  generalize hd : (if axis = 1 then 1 else 0 : Nat) = d at *
  have HD := Lib.hid hd
  clear hd
  go_enter Tryz.func126, Tryz.ntmps126
  go_wp2_with fail
  refine (coordinate_any _ _ _ _).mono ?_
  rintro e w5 ⟨rfl, rfl⟩
  rw [HD.out]
  go_wp2_with fail
  refine (kept_any _ _).mono ?_
  rintro e w5 ⟨rfl, rfl⟩
  go_wp2_with fail
  have hS : (w.setCell ⟨g, p * 2 + d, none⟩ (.int .i64 (k32 v))).drew.cell? ⟨mb, 4, none⟩ = some (.slice (some ⟨gt, 0, none⟩) s.touch.length ct) ∧ (w.setCell ⟨g, p * 2 + d, none⟩ (.int .i64 (k32 v))).drew.cell? ⟨gt, p, none⟩ = some (.int .i64 t) :=
    ⟨(World.cell?_setCell_other _ _ _ _ (fun e => by injection e with e; omega)).trans c4, (World.cell?_setCell_other _ _ _ _ (fun e => by injection e with e; omega)).trans t0⟩
  have hF : (w.setCell ⟨g, p * 2 + d, none⟩ (.int .i64 (k32 v))).drew.frozen? ⟨gt, p, none⟩ = false := ((Fr.refl (fun k => k = g) w).setCell (p := ⟨g, p * 2 + d, none⟩) (.inl rfl) _).drew.frozen (p := ⟨gt, p, none⟩) hgtl hne |>.trans ft
  clear d0 f0 c3 c4 t0 ft
  generalize (w.setCell ⟨g, p * 2 + d, none⟩ (.int .i64 (k32 v))) = W at *
  have hS1 := hS.1
  have hS2 := hS.2
  refine wp_region_seqT (fun i => !([9, 12] : List Nat).contains i) (fun i => ([4, 7] : List Nat).contains i) (fun i => ([9] : List Nat).contains i) [0, 1, 2, 3, 4, 5, 6, 7, 8, 9, 10, 11, 12] (fun w' : World => w'.cell? ⟨mb, 4, none⟩ = some (.slice (some ⟨gt, 0, none⟩) s.touch.length ct) ∧ w'.cell? ⟨gt, p, none⟩ = some (.int .i64 t)) (by kernel_rfl) (by kernel_rfl) (by kernel_rfl) (by kernel_rfl) ?_
  refine wpSeq_pure (v := _) rfl rfl rfl (by kernel_rfl) (fun _ _ _ h => h) (fun wq => by first | (go_simp; done) | (go_simp; rfl)) ?_
  refine wpSeq_pure (v := _) rfl rfl rfl (by kernel_rfl) (fun _ _ _ h => h) (fun wq => by first | (go_simp; done) | (go_simp; rfl)) ?_
  refine wpSeq_pure (v := _) rfl rfl rfl (by kernel_rfl) (fun _ _ _ h => h) (fun wq => by first | (go_simp; done) | (go_simp; rfl)) ?_
  refine wpSeq_pure (v := _) rfl rfl rfl (by kernel_rfl) (fun _ _ _ h => h) (fun wq => by first | (go_simp; done) | (go_simp; rfl)) ?_
  refine wpSeq_load (v := _) rfl rfl (by kernel_rfl) (fun _ _ _ h => h) hS rfl (fun wq hq => by (try have hq1 := hq.1); (try have hq2 := hq.2.1); (try have hq3 := hq.2.2.1); (try have hq4 := hq.2.2.2.1); (try have hq5 := hq.2.2.2.2.1); (try have hq6 := hq.2.2.2.2.2.1); (try have hq7 := hq.2.2.2.2.2.2); (try have hr2 := hq.2); (try have hr3 := hq.2.2); (try have hr4 := hq.2.2.2); (try have hr5 := hq.2.2.2.2); first | (go_simp; done) | (go_simp; rfl)) ?_
  refine wpSeq_pure (v := _) rfl rfl rfl (by kernel_rfl) (fun _ _ _ h => h) (fun wq => by first | (go_simp; done) | (go_simp; rfl)) ?_
  refine wpSeq_pure (v := _) rfl rfl rfl (by kernel_rfl) (fun _ _ _ h => h) (fun wq => by first | (go_simp; done) | (go_simp; rfl)) ?_
  refine wpSeq_load (v := _) rfl rfl (by kernel_rfl) (fun _ _ _ h => h) hS rfl (fun wq hq => by (try have hq1 := hq.1); (try have hq2 := hq.2.1); (try have hq3 := hq.2.2.1); (try have hq4 := hq.2.2.2.1); (try have hq5 := hq.2.2.2.2.1); (try have hq6 := hq.2.2.2.2.2.1); (try have hq7 := hq.2.2.2.2.2.2); (try have hr2 := hq.2); (try have hr3 := hq.2.2); (try have hr4 := hq.2.2.2); (try have hr5 := hq.2.2.2.2); first | (go_simp; done) | (go_simp; rfl)) ?_
  refine wpSeq_pure (v := _) rfl rfl rfl (by kernel_rfl) (fun _ _ _ h => h) (fun wq => by first | (go_simp; done) | (go_simp; rfl)) ?_
  refine wpSeq_heavy rfl rfl (fun K hK => ?_); go_simp
  refine (touched_any _ _ ha.1 ha.2).mono ?_
  rintro e w5 ⟨rfl, rfl⟩
  dsimp only
  refine hK _ _ (fun _ => hS) ?_; clear hK K
  refine wpSeq_pure (v := _) rfl rfl rfl (by kernel_rfl) (fun _ _ _ h => h) (fun wq => by first | (go_simp; done) | (go_simp; rfl)) ?_
  refine wpSeq_pure (v := _) rfl rfl rfl (by kernel_rfl) (fun _ _ _ h => h) (fun wq => by first | (go_simp; done) | (go_simp; rfl)) ?_
  refine wpSeq_heavy rfl rfl (fun K hK => ?_); go_simp
  rw [bits_tbit ha hto]
  refine hK _ _ (fun h => by cases h) ?_; clear hK K
  refine wpSeq_end ?_
  go_wp2
  go_end0
  exact HP.out

section
variable {w w' : World} {mb : Nat} {O : Nat → Prop} {L : Lay} {s : St}
/-- a point's cell, as it lies -/
theorem MaL.pt (h : MaL w mb O L s) {p : Nat} (hp : p < s.cur.length) : ∃ g c x, L.cu = .slice (some ⟨g, 0, none⟩) s.cur.length c ∧ s.cur.length ≤ c ∧ s.cur[p]? = some x ∧ g < w.heap.size ∧ ∀ axis, w.cell? ⟨g, p * 2 + (if axis = 1 then 1 else 0), none⟩ = some (.int .i64 (coord axis x)) := by
  obtain ⟨x, hx⟩ : ∃ x, s.cur[p]? = some x := ⟨_, List.getElem?_eq_getElem hp⟩
  obtain ⟨g, c, hv, hc1, hc2, hg, hgl, hcells, hfz⟩ := h.cu.at_ (by omega)
  exact ⟨g, c, x, hv, hc1, hx, hgl, fun axis => hcells _ _ (pts_coord hx axis)⟩
theorem getD_of {α : Type} {l : List α} {i : Nat} {x d : α} (h : l[i]? = some x) : l.getD i d = x := by rw [List.getD_eq_getElem?_getD, h]; rfl
end
/-- what Move does -/
def moveV (s : St) (r : List Int) (p : Int) (d : Int) : St := if has s p then goes { s with stack := r } p.toNat s.move (coord s.move (s.cur.getD p.toNat (0, 0)) + d) else { s with stack := r }
theorem moveV_no {s : St} {r : List Int} {p d : Int} (h : ¬ has s p = true) : moveV s r p d = { s with stack := r } := by unfold moveV; rw [if_neg h]
theorem moveV_yes {s : St} {r : List Int} {i : Nat} {d : Int} {x : Int × Int} (h : has s i = true) (hx : s.cur[i]? = some x) : moveV s r i d = goes { s with stack := r } i s.move (coord s.move x + d) := by
  unfold moveV
  rw [if_pos h, Int.toNat_natCast, getD_of hx]
set_option maxRecDepth 100000 in
theorem shove_any (w : World) (mb : Nat) (O : Nat → Prop) (L : Lay) (s : St) (h : MaL w mb O L s) (x y : Int) (r : List Int) (hs : s.stack = y :: x :: r) :
    Calls Tryz.prog 92 #[.pointer (some ⟨mb, 0, none⟩)] w (MPost w mb O (moveV s r x y)) := by
  have H := Lib.hid h
  have HS := Lib.hid hs
  have hyk := h.ok.stack y (by rw [hs]; simp)
  unfold K32 at hyk
  have hcl := h.ok.curl
  by_cases hx : has s x = true
  · have HX := Lib.hid hx
    have hx' := hx
    simp only [has, decide_eq_true_eq] at hx'
    obtain ⟨i, rfl⟩ : ∃ i : Nat, x = i := ⟨x.toNat, by omega⟩
    have hil : i < s.cur.length := by omega
    obtain ⟨pt, hpt⟩ : ∃ x, s.cur[i]? = some x := ⟨_, List.getElem?_eq_getElem hil⟩
    have hk : -2147483648 ≤ coord s.move pt ∧ coord s.move pt ≤ 2147483647 := by
      have := h.ok.cur pt (List.mem_of_getElem? hpt)
      unfold coord
      split
      · exact this.2
      · exact this.1
    have HPT := Lib.hid hpt
    have hmv := h.ok.move
    clear h hs hx hx' hpt
    go_enter Tryz.func92, Tryz.ntmps92
    go_wp2_with fail
    refine (take2_new w mb O L s H.out _ y r HS.out _ _).mono ?_
    rintro e w' ⟨rfl, ht, hb1, hb2⟩; obtain ⟨L', hM⟩ := ht.ma; have HM := Lib.hid hM; have HT := Lib.hid ht; have hlt := ht.lt; have b1 := hb1.cell 0; have b1l := hb1.lt; have b1f := hb1.frozen 0; have b2 := hb2.cell 0; have b2l := hb2.lt; have b2f := hb2.frozen 0; simp only [List.getElem?_toArray, List.getElem?_cons_zero] at b1 b2; clear ht hM hb1 hb2
    go_wp2_with fail
    refine (has_any w' mb O L' _ HM.out _).mono ?_
    rintro e w5 ⟨rfl, rfl⟩
    have hh : has { s with stack := r } (i : Int) = true := HX.out
    rw [hh]
    clear hh
    go_wp2_with fail
    have c43 := HM.out.blk.cell 43
    rw [HM.out.c.c43] at c43
    dsimp only at c43
    obtain ⟨g, c, x', hv, hc1, hx', hgl, hcell⟩ := HM.out.pt (p := i) hil
    dsimp only at hx' hv hc1
    obtain rfl : x' = pt := by rw [HPT.out] at hx'; injection hx' with hx'; exact hx'.symm
    have c3 := HM.out.blk.cell 3
    rw [HM.out.c.c3, hv] at c3
    have d0 := hcell s.move
    clear hcell hx' hv
    generalize hd : (if s.move = 1 then 1 else 0 : Nat) = d at d0
    have HD := Lib.hid hd
    clear hd
    have hS : w'.drew.cell? ⟨mb, 43, none⟩ = some (.int .i64 s.move) ∧ w'.drew.cell? ⟨mb, 3, none⟩ = some (.slice (some ⟨g, 0, none⟩) s.cur.length c) ∧ w'.drew.cell? ⟨w.heap.size, 0, none⟩ = some (.int .i64 i) ∧ w'.drew.cell? ⟨w.heap.size + 1, 0, none⟩ = some (.int .i64 y) ∧ w'.drew.cell? ⟨g, i * 2 + d, none⟩ = some (.int .i64 (coord s.move x')) := ⟨c43, c3, b1, b2, d0⟩
    refine wp_region_seqT (fun i => !([17, 22] : List Nat).contains i) (fun i => ([1, 5, 10, 11, 16, 19, 20] : List Nat).contains i) (fun i => ([17] : List Nat).contains i) [0, 1, 2, 3, 4, 5, 6, 7, 8, 9, 10, 11, 12, 13, 14, 15, 16, 20, 17, 18, 19, 21, 22] (fun w' : World => w'.cell? ⟨mb, 43, none⟩ = some (.int .i64 s.move) ∧ w'.cell? ⟨mb, 3, none⟩ = some (.slice (some ⟨g, 0, none⟩) s.cur.length c) ∧ w'.cell? ⟨w.heap.size, 0, none⟩ = some (.int .i64 i) ∧ w'.cell? ⟨w.heap.size + 1, 0, none⟩ = some (.int .i64 y) ∧ w'.cell? ⟨g, i * 2 + d, none⟩ = some (.int .i64 (coord s.move x'))) (by kernel_rfl) (by kernel_rfl) (by kernel_rfl) (by kernel_rfl) ?_
    refine wpSeq_pure (v := _) rfl rfl rfl (by kernel_rfl) (fun _ _ _ h => h) (fun wq => by first | (go_simp; done) | (go_simp; rfl)) ?_
    refine wpSeq_load (v := _) rfl rfl (by kernel_rfl) (fun _ _ _ h => h) hS rfl (fun wq hq => by (try have hq1 := hq.1); (try have hq2 := hq.2.1); (try have hq3 := hq.2.2.1); (try have hq4 := hq.2.2.2.1); (try have hq5 := hq.2.2.2.2.1); (try have hq6 := hq.2.2.2.2.2.1); (try have hq7 := hq.2.2.2.2.2.2); (try have hr2 := hq.2); (try have hr3 := hq.2.2); (try have hr4 := hq.2.2.2); (try have hr5 := hq.2.2.2.2); first | (go_simp; done) | (go_simp; rfl)) ?_
    refine wpSeq_pure (v := _) rfl rfl rfl (by kernel_rfl) (fun _ _ _ h => h) (fun wq => by first | (go_simp; done) | (go_simp; rfl)) ?_
    refine wpSeq_pure (v := _) rfl rfl rfl (by kernel_rfl) (fun _ _ _ h => h) (fun wq => by first | (go_simp; done) | (go_simp; rfl)) ?_
    refine wpSeq_pure (v := _) rfl rfl rfl (by kernel_rfl) (fun _ _ _ h => h) (fun wq => by first | (go_simp; done) | (go_simp; rfl)) ?_
    refine wpSeq_load (v := _) rfl rfl (by kernel_rfl) (fun _ _ _ h => h) hS rfl (fun wq hq => by (try have hq1 := hq.1); (try have hq2 := hq.2.1); (try have hq3 := hq.2.2.1); (try have hq4 := hq.2.2.2.1); (try have hq5 := hq.2.2.2.2.1); (try have hq6 := hq.2.2.2.2.2.1); (try have hq7 := hq.2.2.2.2.2.2); (try have hr2 := hq.2); (try have hr3 := hq.2.2); (try have hr4 := hq.2.2.2); (try have hr5 := hq.2.2.2.2); first | (go_simp; done) | (go_simp; rfl)) ?_
    refine wpSeq_pure (v := _) rfl rfl rfl (by kernel_rfl) (fun _ _ _ h => h) (fun wq => by first | (go_simp; done) | (go_simp; rfl)) ?_
    refine wpSeq_pure (v := _) rfl rfl rfl (by kernel_rfl) (fun _ _ _ h => h) (fun wq => by first | (go_simp; done) | (go_simp; rfl)) ?_
    refine wpSeq_pure (v := _) rfl rfl rfl (by kernel_rfl) (fun _ _ _ h => h) (fun wq => by first | (go_simp; done) | (go_simp; rfl)) ?_
    refine wpSeq_pure (v := _) rfl rfl rfl (by kernel_rfl) (fun _ _ _ h => h) (fun wq => by first | (go_simp; done) | (go_simp; rfl)) ?_
    refine wpSeq_load (v := _) rfl rfl (by kernel_rfl) (fun _ _ _ h => h) hS rfl (fun wq hq => by (try have hq1 := hq.1); (try have hq2 := hq.2.1); (try have hq3 := hq.2.2.1); (try have hq4 := hq.2.2.2.1); (try have hq5 := hq.2.2.2.2.1); (try have hq6 := hq.2.2.2.2.2.1); (try have hq7 := hq.2.2.2.2.2.2); (try have hr2 := hq.2); (try have hr3 := hq.2.2); (try have hr4 := hq.2.2.2); (try have hr5 := hq.2.2.2.2); first | (go_simp; done) | (go_simp; rfl)) ?_
    refine wpSeq_load (v := _) rfl rfl (by kernel_rfl) (fun _ _ _ h => h) hS rfl (fun wq hq => by (try have hq1 := hq.1); (try have hq2 := hq.2.1); (try have hq3 := hq.2.2.1); (try have hq4 := hq.2.2.2.1); (try have hq5 := hq.2.2.2.2.1); (try have hq6 := hq.2.2.2.2.2.1); (try have hq7 := hq.2.2.2.2.2.2); (try have hr2 := hq.2); (try have hr3 := hq.2.2); (try have hr4 := hq.2.2.2); (try have hr5 := hq.2.2.2.2); first | (go_simp; done) | (go_simp; rfl)) ?_
    refine wpSeq_pure (v := _) rfl rfl rfl (by kernel_rfl) (fun _ _ _ h => h) (fun wq => by first | (go_simp; done) | (go_simp; rfl)) ?_
    refine wpSeq_pure (v := _) rfl rfl rfl (by kernel_rfl) (fun _ _ _ h => h) (fun wq => by first | (go_simp; done) | (go_simp; rfl)) ?_
    refine wpSeq_pure (v := _) rfl rfl rfl (by kernel_rfl) (fun _ _ _ h => h) (fun wq => by first | (go_simp; done) | (go_simp; rfl)) ?_
    refine wpSeq_pure (v := _) rfl rfl rfl (by kernel_rfl) (fun _ _ _ h => h) (fun wq => by first | (go_simp; done) | (go_simp; rfl)) ?_
    refine wpSeq_load (v := _) rfl rfl (by kernel_rfl) (fun _ _ _ h => h) hS rfl (fun wq hq => by (try have hq1 := hq.1); (try have hq2 := hq.2.1); (try have hq3 := hq.2.2.1); (try have hq4 := hq.2.2.2.1); (try have hq5 := hq.2.2.2.2.1); (try have hq6 := hq.2.2.2.2.2.1); (try have hq7 := hq.2.2.2.2.2.2); (try have hr2 := hq.2); (try have hr3 := hq.2.2); (try have hr4 := hq.2.2.2); (try have hr5 := hq.2.2.2.2); first | (go_simp; done) | (go_simp; rfl)) ?_
    refine wpSeq_load (v := _) rfl rfl (by kernel_rfl) (fun _ _ _ h => h) hS rfl (fun wq hq => by (try have hq1 := hq.1); (try have hq2 := hq.2.1); (try have hq3 := hq.2.2.1); (try have hq4 := hq.2.2.2.1); (try have hq5 := hq.2.2.2.2.1); (try have hq6 := hq.2.2.2.2.2.1); (try have hq7 := hq.2.2.2.2.2.2); (try have hr2 := hq.2); (try have hr3 := hq.2.2); (try have hr4 := hq.2.2.2); (try have hr5 := hq.2.2.2.2); first | (go_simp; done) | (go_simp; rfl)) ?_
    refine wpSeq_heavy rfl rfl (fun K hK => ?_); go_simp
    refine (coordinate_any _ _ _ _).mono ?_
    rintro e w5 ⟨rfl, rfl⟩
    rw [HD.out]
    dsimp only
    refine hK _ _ (fun _ => hS) ?_; clear hK K
    refine wpSeq_pure (v := _) rfl rfl rfl (by kernel_rfl) (fun _ _ _ h => h) (fun wq => by first | (go_simp; done) | (go_simp; rfl)) ?_
    refine wpSeq_load (v := _) rfl rfl (by kernel_rfl) (fun _ _ _ h => h) hS rfl (fun wq hq => by (try have hq1 := hq.1); (try have hq2 := hq.2.1); (try have hq3 := hq.2.2.1); (try have hq4 := hq.2.2.2.1); (try have hq5 := hq.2.2.2.2.1); (try have hq6 := hq.2.2.2.2.2.1); (try have hq7 := hq.2.2.2.2.2.2); (try have hr2 := hq.2); (try have hr3 := hq.2.2); (try have hr4 := hq.2.2.2); (try have hr5 := hq.2.2.2.2); first | (go_simp; done) | (go_simp; rfl)) ?_
    refine wpSeq_pure (v := _) rfl rfl rfl (by kernel_rfl) (fun _ _ _ h => h) (fun wq => by first | (go_simp; done) | (go_simp; rfl)) ?_
    refine wpSeq_heavy rfl rfl (fun K hK => ?_); go_simp
    refine (put_any w'.drew mb O L' _ HM.out.drew i s.move _ hil hmv).mono ?_
    intro e w9 hp
    have HP := Lib.hid (hp.from_ HT.out.fr.drew)
    obtain ⟨rfl, _⟩ := hp
    dsimp only
    refine hK _ _ (fun h => by cases h) ?_; clear hK K
    refine wpSeq_end ?_
    go_wp2
    go_end0
    rw [moveV_yes HX.out HPT.out]
    have hW := HP.out
    rw [IntWalk.i64_in _ (by omega)] at hW
    exact hW
  · have HX := Lib.hid hx
    have hx' : has s x = false := by simpa using hx
    have HX' := Lib.hid hx'
    clear hx hx' h hs
    go_enter Tryz.func92, Tryz.ntmps92
    go_wp2_with fail
    refine (take2_new w mb O L s H.out x y r HS.out _ _).mono ?_
    rintro e w' ⟨rfl, ht, hb1, hb2⟩; obtain ⟨L', hM⟩ := ht.ma; have HM := Lib.hid hM; have HT := Lib.hid ht; have hlt := ht.lt; have b1 := hb1.cell 0; have b1l := hb1.lt; have b1f := hb1.frozen 0; have b2 := hb2.cell 0; have b2l := hb2.lt; have b2f := hb2.frozen 0; simp only [List.getElem?_toArray, List.getElem?_cons_zero] at b1 b2; clear ht hM hb1 hb2
    go_wp2_with fail
    refine (has_any w' mb O L' _ HM.out _).mono ?_
    rintro e w5 ⟨rfl, rfl⟩
    have hh : has { s with stack := r } x = false := HX'.out
    rw [hh]
    clear hh
    go_wp2
    go_end0
    rw [moveV_no HX.out]
    exact .here HM.out HT.out.fr
end Go.Proofs.YthdmdgmchkhngaaGreat
namespace Go.Proofs.YthdmdgmchkhngaaGreat
open Go.RowKit Mc

/-- what Set does -/
def setV (s : St) (r : List Int) (p v : Int) : St := if s.look = s.move ∧ has s p then goes { s with stack := r } p.toNat s.move v else { s with stack := r }
theorem setV_no {s : St} {r : List Int} {p v : Int} (h : ¬ (s.look = s.move ∧ has s p = true)) : setV s r p v = { s with stack := r } := by unfold setV; rw [if_neg h]
theorem setV_yes {s : St} {r : List Int} {i : Nat} {v : Int} (h : s.look = s.move) (h' : has s i = true) : setV s r i v = goes { s with stack := r } i s.move v := by
  unfold setV
  rw [if_pos ⟨h, h'⟩, Int.toNat_natCast]
/-- what Align does -/
def alignV (s : St) (r : List Int) (p q : Int) : St := if s.look = s.move ∧ has s p ∧ has s q then goes { s with stack := r } q.toNat s.move (coord s.move (s.cur.getD p.toNat (0, 0))) else { s with stack := r }
theorem alignV_no {s : St} {r : List Int} {p q : Int} (h : ¬ (s.look = s.move ∧ has s p = true ∧ has s q = true)) : alignV s r p q = { s with stack := r } := by unfold alignV; rw [if_neg h]
theorem alignV_yes {s : St} {r : List Int} {i j : Nat} {x : Int × Int} (h : s.look = s.move) (h' : has s i = true) (h'' : has s j = true) (hx : s.cur[i]? = some x) : alignV s r i j = goes { s with stack := r } j s.move (coord s.move x) := by
  unfold alignV
  rw [if_pos ⟨h, h', h''⟩, Int.toNat_natCast, Int.toNat_natCast, getD_of hx]
theorem has_nat {s : St} {x : Int} (h : has s x = true) : ∃ i : Nat, x = i ∧ i < s.cur.length := by
  simp only [has, decide_eq_true_eq] at h
  exact ⟨x.toNat, by omega, by omega⟩
set_option maxRecDepth 100000 in
set_option maxHeartbeats 1000000 in
theorem set_any (w : World) (mb : Nat) (O : Nat → Prop) (L : Lay) (s : St) (h : MaL w mb O L s) (x y : Int) (r : List Int) (hs : s.stack = y :: x :: r) :
    Calls Tryz.prog 94 #[.pointer (some ⟨mb, 0, none⟩)] w (MPost w mb O (setV s r x y)) := by
  have H := Lib.hid h
  have HS := Lib.hid hs
  have hmv := h.ok.move
  have hcl := h.ok.curl
  clear h hs
  by_cases hlm : s.look = s.move
  · have HLM := Lib.hid hlm
    clear hlm
    by_cases hx : has s x = true
    · have HX := Lib.hid hx
      obtain ⟨i, rfl, hil⟩ := has_nat hx
      clear hx
      go_enter Tryz.func94, Tryz.ntmps94
      go_wp2_with fail
      refine (take2_new w mb O L s H.out _ y r HS.out _ _).mono ?_
      rintro e w' ⟨rfl, ht, hb1, hb2⟩; obtain ⟨L', hM⟩ := ht.ma; have HM := Lib.hid hM; have HT := Lib.hid ht; have hlt := ht.lt; have b1 := hb1.cell 0; have b1l := hb1.lt; have b1f := hb1.frozen 0; have b2 := hb2.cell 0; have b2l := hb2.lt; have b2f := hb2.frozen 0; simp only [List.getElem?_toArray, List.getElem?_cons_zero] at b1 b2; clear ht hM hb1 hb2
      go_wp2_with fail
      have c42 := HM.out.blk.cell 42
      rw [HM.out.c.c42] at c42
      dsimp only at c42
      have c43 := HM.out.blk.cell 43
      rw [HM.out.c.c43] at c43
      dsimp only at c43
      rw [HLM.out] at c42
      have hS : w'.drew.cell? ⟨mb, 42, none⟩ = some (.int .i64 s.move) ∧ w'.drew.cell? ⟨mb, 43, none⟩ = some (.int .i64 s.move) ∧ w'.drew.cell? ⟨w.heap.size, 0, none⟩ = some (.int .i64 i) := ⟨c42, c43, b1⟩
      refine wp_region_seqT (fun i => !([12] : List Nat).contains i) (fun i => ([3, 7, 11] : List Nat).contains i) (fun i => ([] : List Nat).contains i) [0, 1, 2, 3, 4, 5, 6, 7, 8, 9, 10, 11, 12, 13] (fun w' : World => w'.cell? ⟨mb, 42, none⟩ = some (.int .i64 s.move) ∧ w'.cell? ⟨mb, 43, none⟩ = some (.int .i64 s.move) ∧ w'.cell? ⟨w.heap.size, 0, none⟩ = some (.int .i64 i)) (by kernel_rfl) (by kernel_rfl) (by kernel_rfl) (by kernel_rfl) ?_
      refine wpSeq_pure (v := _) rfl rfl rfl (by kernel_rfl) (fun _ _ _ h => h) (fun wq => by first | (go_simp; done) | (go_simp; rfl)) ?_
      refine wpSeq_pure (v := _) rfl rfl rfl (by kernel_rfl) (fun _ _ _ h => h) (fun wq => by first | (go_simp; done) | (go_simp; rfl)) ?_
      refine wpSeq_pure (v := _) rfl rfl rfl (by kernel_rfl) (fun _ _ _ h => h) (fun wq => by first | (go_simp; done) | (go_simp; rfl)) ?_
      refine wpSeq_load (v := _) rfl rfl (by kernel_rfl) (fun _ _ _ h => h) hS rfl (fun wq hq => by (try have hq1 := hq.1); (try have hq2 := hq.2.1); (try have hq3 := hq.2.2.1); (try have hq4 := hq.2.2.2.1); (try have hq5 := hq.2.2.2.2.1); (try have hq6 := hq.2.2.2.2.2.1); (try have hq7 := hq.2.2.2.2.2.2); (try have hr2 := hq.2); (try have hr3 := hq.2.2); (try have hr4 := hq.2.2.2); (try have hr5 := hq.2.2.2.2); first | (go_simp; done) | (go_simp; rfl)) ?_
      refine wpSeq_pure (v := _) rfl rfl rfl (by kernel_rfl) (fun _ _ _ h => h) (fun wq => by first | (go_simp; done) | (go_simp; rfl)) ?_
      refine wpSeq_pure (v := _) rfl rfl rfl (by kernel_rfl) (fun _ _ _ h => h) (fun wq => by first | (go_simp; done) | (go_simp; rfl)) ?_
      refine wpSeq_pure (v := _) rfl rfl rfl (by kernel_rfl) (fun _ _ _ h => h) (fun wq => by first | (go_simp; done) | (go_simp; rfl)) ?_
      refine wpSeq_load (v := _) rfl rfl (by kernel_rfl) (fun _ _ _ h => h) hS rfl (fun wq hq => by (try have hq1 := hq.1); (try have hq2 := hq.2.1); (try have hq3 := hq.2.2.1); (try have hq4 := hq.2.2.2.1); (try have hq5 := hq.2.2.2.2.1); (try have hq6 := hq.2.2.2.2.2.1); (try have hq7 := hq.2.2.2.2.2.2); (try have hr2 := hq.2); (try have hr3 := hq.2.2); (try have hr4 := hq.2.2.2); (try have hr5 := hq.2.2.2.2); first | (go_simp; done) | (go_simp; rfl)) ?_
      refine wpSeq_pure (v := _) rfl rfl rfl (by kernel_rfl) (fun _ _ _ h => h) (fun wq => by first | (go_simp; done) | (go_simp; rfl)) ?_
      refine wpSeq_pure (v := _) rfl rfl rfl (by kernel_rfl) (fun _ _ _ h => h) (fun wq => by first | (go_simp; done) | (go_simp; rfl)) ?_
      refine wpSeq_pure (v := _) rfl rfl rfl (by kernel_rfl) (fun _ _ _ h => h) (fun wq => by first | (go_simp; done) | (go_simp; rfl)) ?_
      go_simp
      refine wpSeq_load (v := _) rfl rfl (by kernel_rfl) (fun _ _ _ h => h) hS rfl (fun wq hq => by (try have hq1 := hq.1); (try have hq2 := hq.2.1); (try have hq3 := hq.2.2.1); (try have hq4 := hq.2.2.2.1); (try have hq5 := hq.2.2.2.2.1); (try have hq6 := hq.2.2.2.2.2.1); (try have hq7 := hq.2.2.2.2.2.2); (try have hr2 := hq.2); (try have hr3 := hq.2.2); (try have hr4 := hq.2.2.2); (try have hr5 := hq.2.2.2.2); first | (go_simp; done) | (go_simp; rfl)) ?_
      refine wpSeq_heavy rfl rfl (fun K hK => ?_); go_simp
      refine (has_any w'.drew mb O L' _ HM.out.drew _).mono ?_
      rintro e w5 ⟨rfl, rfl⟩
      have hh : has { s with stack := r } (i : Int) = true := HX.out
      rw [hh]
      clear hh
      dsimp only
      refine hK _ _ (fun h => by cases h) ?_; clear hK K
      refine wpSeq_pure (v := _) rfl rfl rfl (by kernel_rfl) (fun _ _ _ h => h) (fun wq => by first | (go_simp; done) | (go_simp; rfl)) ?_
      refine wpSeq_end ?_
      have HM2 := Lib.hid HM.out.drew
      have HT2 := Lib.hid HT.out.fr.drew
      have e1 : w'.drew.cell? ⟨w.heap.size, 0, none⟩ = some (.int .i64 i) := b1
      have e2 : w'.drew.cell? ⟨w.heap.size + 1, 0, none⟩ = some (.int .i64 y) := b2
      have e3 : w'.drew.cell? ⟨mb, 43, none⟩ = some (.int .i64 s.move) := c43
      have e1l : w.heap.size < w'.drew.heap.size := b1l
      have e2l : w.heap.size + 1 < w'.drew.heap.size := b2l
      have mbl : mb < w'.drew.heap.size := HM2.out.blk.lt
      clear hS c42 c43 b1 b2 b1l b2l b1f b2f
      generalize w'.drew = W at *
      go_wp2_with fail
      have hS : W.drew.cell? ⟨mb, 43, none⟩ = some (.int .i64 s.move) ∧ W.drew.cell? ⟨w.heap.size, 0, none⟩ = some (.int .i64 i) ∧ W.drew.cell? ⟨w.heap.size + 1, 0, none⟩ = some (.int .i64 y) := ⟨e3, e1, e2⟩
      refine wp_region_seqT (fun i => !([7] : List Nat).contains i) (fun i => ([1, 5, 6] : List Nat).contains i) (fun i => ([] : List Nat).contains i) [0, 1, 2, 3, 4, 5, 6, 7] (fun w' : World => w'.cell? ⟨mb, 43, none⟩ = some (.int .i64 s.move) ∧ w'.cell? ⟨w.heap.size, 0, none⟩ = some (.int .i64 i) ∧ w'.cell? ⟨w.heap.size + 1, 0, none⟩ = some (.int .i64 y)) (by kernel_rfl) (by kernel_rfl) (by kernel_rfl) (by kernel_rfl) ?_
      refine wpSeq_pure (v := _) rfl rfl rfl (by kernel_rfl) (fun _ _ _ h => h) (fun wq => by first | (go_simp; done) | (go_simp; rfl)) ?_
      refine wpSeq_load (v := _) rfl rfl (by kernel_rfl) (fun _ _ _ h => h) hS rfl (fun wq hq => by (try have hq1 := hq.1); (try have hq2 := hq.2.1); (try have hq3 := hq.2.2.1); (try have hq4 := hq.2.2.2.1); (try have hq5 := hq.2.2.2.2.1); (try have hq6 := hq.2.2.2.2.2.1); (try have hq7 := hq.2.2.2.2.2.2); (try have hr2 := hq.2); (try have hr3 := hq.2.2); (try have hr4 := hq.2.2.2); (try have hr5 := hq.2.2.2.2); first | (go_simp; done) | (go_simp; rfl)) ?_
      refine wpSeq_pure (v := _) rfl rfl rfl (by kernel_rfl) (fun _ _ _ h => h) (fun wq => by first | (go_simp; done) | (go_simp; rfl)) ?_
      refine wpSeq_pure (v := _) rfl rfl rfl (by kernel_rfl) (fun _ _ _ h => h) (fun wq => by first | (go_simp; done) | (go_simp; rfl)) ?_
      refine wpSeq_pure (v := _) rfl rfl rfl (by kernel_rfl) (fun _ _ _ h => h) (fun wq => by first | (go_simp; done) | (go_simp; rfl)) ?_
      refine wpSeq_load (v := _) rfl rfl (by kernel_rfl) (fun _ _ _ h => h) hS rfl (fun wq hq => by (try have hq1 := hq.1); (try have hq2 := hq.2.1); (try have hq3 := hq.2.2.1); (try have hq4 := hq.2.2.2.1); (try have hq5 := hq.2.2.2.2.1); (try have hq6 := hq.2.2.2.2.2.1); (try have hq7 := hq.2.2.2.2.2.2); (try have hr2 := hq.2); (try have hr3 := hq.2.2); (try have hr4 := hq.2.2.2); (try have hr5 := hq.2.2.2.2); first | (go_simp; done) | (go_simp; rfl)) ?_
      refine wpSeq_load (v := _) rfl rfl (by kernel_rfl) (fun _ _ _ h => h) hS rfl (fun wq hq => by (try have hq1 := hq.1); (try have hq2 := hq.2.1); (try have hq3 := hq.2.2.1); (try have hq4 := hq.2.2.2.1); (try have hq5 := hq.2.2.2.2.1); (try have hq6 := hq.2.2.2.2.2.1); (try have hq7 := hq.2.2.2.2.2.2); (try have hr2 := hq.2); (try have hr3 := hq.2.2); (try have hr4 := hq.2.2.2); (try have hr5 := hq.2.2.2.2); first | (go_simp; done) | (go_simp; rfl)) ?_
      refine wpSeq_heavy rfl rfl (fun K hK => ?_); go_simp
      refine (put_any W.drew mb O L' _ HM2.out.drew i s.move _ hil hmv).mono ?_
      intro e w9 hp
      have HP := Lib.hid (hp.from_ HT2.out.drew)
      obtain ⟨rfl, _⟩ := hp
      dsimp only
      refine hK _ _ (fun h => by cases h) ?_; clear hK K
      refine wpSeq_end ?_
      go_wp2
      go_end0
      rw [setV_yes HLM.out HX.out]
      exact HP.out
    · have HX := Lib.hid hx
      have hx' : has s x = false := by simpa using hx
      have HX' := Lib.hid hx'
      clear hx hx'
      go_enter Tryz.func94, Tryz.ntmps94
      go_wp2_with fail
      refine (take2_new w mb O L s H.out x y r HS.out _ _).mono ?_
      rintro e w' ⟨rfl, ht, hb1, hb2⟩; obtain ⟨L', hM⟩ := ht.ma; have HM := Lib.hid hM; have HT := Lib.hid ht; have hlt := ht.lt; have b1 := hb1.cell 0; have b1l := hb1.lt; have b1f := hb1.frozen 0; have b2 := hb2.cell 0; have b2l := hb2.lt; have b2f := hb2.frozen 0; simp only [List.getElem?_toArray, List.getElem?_cons_zero] at b1 b2; clear ht hM hb1 hb2
      go_wp2_with fail
      have c42 := HM.out.blk.cell 42
      rw [HM.out.c.c42] at c42
      dsimp only at c42
      have c43 := HM.out.blk.cell 43
      rw [HM.out.c.c43] at c43
      dsimp only at c43
      rw [HLM.out] at c42
      have hS : w'.drew.cell? ⟨mb, 42, none⟩ = some (.int .i64 s.move) ∧ w'.drew.cell? ⟨mb, 43, none⟩ = some (.int .i64 s.move) ∧ w'.drew.cell? ⟨w.heap.size, 0, none⟩ = some (.int .i64 x) := ⟨c42, c43, b1⟩
      refine wp_region_seqT (fun i => !([12] : List Nat).contains i) (fun i => ([3, 7, 11] : List Nat).contains i) (fun i => ([] : List Nat).contains i) [0, 1, 2, 3, 4, 5, 6, 7, 8, 9, 10, 11, 12, 13] (fun w' : World => w'.cell? ⟨mb, 42, none⟩ = some (.int .i64 s.move) ∧ w'.cell? ⟨mb, 43, none⟩ = some (.int .i64 s.move) ∧ w'.cell? ⟨w.heap.size, 0, none⟩ = some (.int .i64 x)) (by kernel_rfl) (by kernel_rfl) (by kernel_rfl) (by kernel_rfl) ?_
      refine wpSeq_pure (v := _) rfl rfl rfl (by kernel_rfl) (fun _ _ _ h => h) (fun wq => by first | (go_simp; done) | (go_simp; rfl)) ?_
      refine wpSeq_pure (v := _) rfl rfl rfl (by kernel_rfl) (fun _ _ _ h => h) (fun wq => by first | (go_simp; done) | (go_simp; rfl)) ?_
      refine wpSeq_pure (v := _) rfl rfl rfl (by kernel_rfl) (fun _ _ _ h => h) (fun wq => by first | (go_simp; done) | (go_simp; rfl)) ?_
      refine wpSeq_load (v := _) rfl rfl (by kernel_rfl) (fun _ _ _ h => h) hS rfl (fun wq hq => by (try have hq1 := hq.1); (try have hq2 := hq.2.1); (try have hq3 := hq.2.2.1); (try have hq4 := hq.2.2.2.1); (try have hq5 := hq.2.2.2.2.1); (try have hq6 := hq.2.2.2.2.2.1); (try have hq7 := hq.2.2.2.2.2.2); (try have hr2 := hq.2); (try have hr3 := hq.2.2); (try have hr4 := hq.2.2.2); (try have hr5 := hq.2.2.2.2); first | (go_simp; done) | (go_simp; rfl)) ?_
      refine wpSeq_pure (v := _) rfl rfl rfl (by kernel_rfl) (fun _ _ _ h => h) (fun wq => by first | (go_simp; done) | (go_simp; rfl)) ?_
      refine wpSeq_pure (v := _) rfl rfl rfl (by kernel_rfl) (fun _ _ _ h => h) (fun wq => by first | (go_simp; done) | (go_simp; rfl)) ?_
      refine wpSeq_pure (v := _) rfl rfl rfl (by kernel_rfl) (fun _ _ _ h => h) (fun wq => by first | (go_simp; done) | (go_simp; rfl)) ?_
      refine wpSeq_load (v := _) rfl rfl (by kernel_rfl) (fun _ _ _ h => h) hS rfl (fun wq hq => by (try have hq1 := hq.1); (try have hq2 := hq.2.1); (try have hq3 := hq.2.2.1); (try have hq4 := hq.2.2.2.1); (try have hq5 := hq.2.2.2.2.1); (try have hq6 := hq.2.2.2.2.2.1); (try have hq7 := hq.2.2.2.2.2.2); (try have hr2 := hq.2); (try have hr3 := hq.2.2); (try have hr4 := hq.2.2.2); (try have hr5 := hq.2.2.2.2); first | (go_simp; done) | (go_simp; rfl)) ?_
      refine wpSeq_pure (v := _) rfl rfl rfl (by kernel_rfl) (fun _ _ _ h => h) (fun wq => by first | (go_simp; done) | (go_simp; rfl)) ?_
      refine wpSeq_pure (v := _) rfl rfl rfl (by kernel_rfl) (fun _ _ _ h => h) (fun wq => by first | (go_simp; done) | (go_simp; rfl)) ?_
      refine wpSeq_pure (v := _) rfl rfl rfl (by kernel_rfl) (fun _ _ _ h => h) (fun wq => by first | (go_simp; done) | (go_simp; rfl)) ?_
      go_simp
      refine wpSeq_load (v := _) rfl rfl (by kernel_rfl) (fun _ _ _ h => h) hS rfl (fun wq hq => by (try have hq1 := hq.1); (try have hq2 := hq.2.1); (try have hq3 := hq.2.2.1); (try have hq4 := hq.2.2.2.1); (try have hq5 := hq.2.2.2.2.1); (try have hq6 := hq.2.2.2.2.2.1); (try have hq7 := hq.2.2.2.2.2.2); (try have hr2 := hq.2); (try have hr3 := hq.2.2); (try have hr4 := hq.2.2.2); (try have hr5 := hq.2.2.2.2); first | (go_simp; done) | (go_simp; rfl)) ?_
      refine wpSeq_heavy rfl rfl (fun K hK => ?_); go_simp
      refine (has_any w'.drew mb O L' _ HM.out.drew _).mono ?_
      rintro e w5 ⟨rfl, rfl⟩
      have hh : has { s with stack := r } x = false := HX'.out
      rw [hh]
      clear hh
      dsimp only
      refine hK _ _ (fun h => by cases h) ?_; clear hK K
      refine wpSeq_pure (v := _) rfl rfl rfl (by kernel_rfl) (fun _ _ _ h => h) (fun wq => by first | (go_simp; done) | (go_simp; rfl)) ?_
      refine wpSeq_end ?_
      have HM2 := Lib.hid HM.out.drew
      have HT2 := Lib.hid HT.out.fr.drew
      go_wp2
      go_end0
      rw [setV_no (fun e => HX.out e.2)]
      exact .here HM2.out HT2.out
  · have HLM := Lib.hid hlm
    have hb : (s.look == s.move) = false := by simpa using hlm
    clear hlm
    go_enter Tryz.func94, Tryz.ntmps94
    go_wp2_with fail
    refine (take2_new w mb O L s H.out x y r HS.out _ _).mono ?_
    rintro e w' ⟨rfl, ht, hb1, hb2⟩; obtain ⟨L', hM⟩ := ht.ma; have HM := Lib.hid hM; have HT := Lib.hid ht; have hlt := ht.lt; have b1 := hb1.cell 0; have b1l := hb1.lt; have b1f := hb1.frozen 0; have b2 := hb2.cell 0; have b2l := hb2.lt; have b2f := hb2.frozen 0; simp only [List.getElem?_toArray, List.getElem?_cons_zero] at b1 b2; clear ht hM hb1 hb2
    go_wp2_with fail
    have c42 := HM.out.blk.cell 42
    rw [HM.out.c.c42] at c42
    dsimp only at c42
    have c43 := HM.out.blk.cell 43
    rw [HM.out.c.c43] at c43
    dsimp only at c43
    have hS : w'.drew.cell? ⟨mb, 42, none⟩ = some (.int .i64 s.look) ∧ w'.drew.cell? ⟨mb, 43, none⟩ = some (.int .i64 s.move) ∧ w'.drew.cell? ⟨w.heap.size, 0, none⟩ = some (.int .i64 x) := ⟨c42, c43, b1⟩
    refine wp_region_seqT (fun i => !([] : List Nat).contains i) (fun i => ([3, 7] : List Nat).contains i) (fun i => ([] : List Nat).contains i) [0, 1, 2, 3, 4, 5, 6, 7, 8, 9, 10, 11, 12, 13] (fun w' : World => w'.cell? ⟨mb, 42, none⟩ = some (.int .i64 s.look) ∧ w'.cell? ⟨mb, 43, none⟩ = some (.int .i64 s.move) ∧ w'.cell? ⟨w.heap.size, 0, none⟩ = some (.int .i64 x)) (by kernel_rfl) (by kernel_rfl) (by kernel_rfl) (by kernel_rfl) ?_
    refine wpSeq_pure (v := _) rfl rfl rfl (by kernel_rfl) (fun _ _ _ h => h) (fun wq => by first | (go_simp; done) | (go_simp; rfl)) ?_
    refine wpSeq_pure (v := _) rfl rfl rfl (by kernel_rfl) (fun _ _ _ h => h) (fun wq => by first | (go_simp; done) | (go_simp; rfl)) ?_
    refine wpSeq_pure (v := _) rfl rfl rfl (by kernel_rfl) (fun _ _ _ h => h) (fun wq => by first | (go_simp; done) | (go_simp; rfl)) ?_
    refine wpSeq_load (v := _) rfl rfl (by kernel_rfl) (fun _ _ _ h => h) hS rfl (fun wq hq => by (try have hq1 := hq.1); (try have hq2 := hq.2.1); (try have hq3 := hq.2.2.1); (try have hq4 := hq.2.2.2.1); (try have hq5 := hq.2.2.2.2.1); (try have hq6 := hq.2.2.2.2.2.1); (try have hq7 := hq.2.2.2.2.2.2); (try have hr2 := hq.2); (try have hr3 := hq.2.2); (try have hr4 := hq.2.2.2); (try have hr5 := hq.2.2.2.2); first | (go_simp; done) | (go_simp; rfl)) ?_
    refine wpSeq_pure (v := _) rfl rfl rfl (by kernel_rfl) (fun _ _ _ h => h) (fun wq => by first | (go_simp; done) | (go_simp; rfl)) ?_
    refine wpSeq_pure (v := _) rfl rfl rfl (by kernel_rfl) (fun _ _ _ h => h) (fun wq => by first | (go_simp; done) | (go_simp; rfl)) ?_
    refine wpSeq_pure (v := _) rfl rfl rfl (by kernel_rfl) (fun _ _ _ h => h) (fun wq => by first | (go_simp; done) | (go_simp; rfl)) ?_
    refine wpSeq_load (v := _) rfl rfl (by kernel_rfl) (fun _ _ _ h => h) hS rfl (fun wq hq => by (try have hq1 := hq.1); (try have hq2 := hq.2.1); (try have hq3 := hq.2.2.1); (try have hq4 := hq.2.2.2.1); (try have hq5 := hq.2.2.2.2.1); (try have hq6 := hq.2.2.2.2.2.1); (try have hq7 := hq.2.2.2.2.2.2); (try have hr2 := hq.2); (try have hr3 := hq.2.2); (try have hr4 := hq.2.2.2); (try have hr5 := hq.2.2.2.2); first | (go_simp; done) | (go_simp; rfl)) ?_
    refine wpSeq_pure (v := _) rfl rfl rfl (by kernel_rfl) (fun _ _ _ h => h) (fun wq => by first | (go_simp; done) | (go_simp; rfl)) ?_
    refine wpSeq_pure (v := _) rfl rfl rfl (by kernel_rfl) (fun _ _ _ h => h) (fun wq => by first | (go_simp; done) | (go_simp; rfl)) ?_
    go_simp
    refine wpSeq_skip rfl rfl rfl (by kernel_rfl) (fun _ _ _ h => h) ?_
    refine wpSeq_skip rfl rfl rfl (by kernel_rfl) (fun _ _ _ h => h) ?_
    refine wpSeq_skip rfl rfl rfl (by kernel_rfl) (fun _ _ _ h => h) ?_
    refine wpSeq_pure (v := _) rfl rfl rfl (by kernel_rfl) (fun _ _ _ h => h) (fun wq => by first | (go_simp; done) | (go_simp; rfl)) ?_
    refine wpSeq_end ?_
    have HM2 := Lib.hid HM.out.drew
    have HT2 := Lib.hid HT.out.fr.drew
    go_wp2
    go_end0
    rw [setV_no (fun e => HLM.out e.1)]
    exact .here HM2.out HT2.out
end Go.Proofs.YthdmdgmchkhngaaGreat
namespace Go.Proofs.YthdmdgmchkhngaaGreat
open Go.RowKit Mc
set_option maxRecDepth 100000 in
set_option maxHeartbeats 2000000 in
theorem align_any (w : World) (mb : Nat) (O : Nat → Prop) (L : Lay) (s : St) (h : MaL w mb O L s) (x y : Int) (r : List Int) (hs : s.stack = y :: x :: r) :
    Calls Tryz.prog 96 #[.pointer (some ⟨mb, 0, none⟩)] w (MPost w mb O (alignV s r x y)) := by
  have H := Lib.hid h
  have HS := Lib.hid hs
  have hmv := h.ok.move
  have hcl := h.ok.curl
  clear h hs
  by_cases hlm : s.look = s.move
  · have HLM := Lib.hid hlm
    clear hlm
    by_cases hx : has s x = true
    · have HX := Lib.hid hx
      obtain ⟨i, rfl, hil⟩ := has_nat hx
      clear hx
      by_cases hy : has s y = true
      · have HY := Lib.hid hy
        obtain ⟨j, rfl, hjl⟩ := has_nat hy
        clear hy
        go_enter Tryz.func96, Tryz.ntmps96
        go_wp2_with fail
        refine (take2_new w mb O L s H.out _ _ r HS.out _ _).mono ?_
        rintro e w' ⟨rfl, ht, hb1, hb2⟩; obtain ⟨L', hM⟩ := ht.ma; have HM := Lib.hid hM; have HT := Lib.hid ht; have hlt := ht.lt; have b1 := hb1.cell 0; have b1l := hb1.lt; have b1f := hb1.frozen 0; have b2 := hb2.cell 0; have b2l := hb2.lt; have b2f := hb2.frozen 0; simp only [List.getElem?_toArray, List.getElem?_cons_zero] at b1 b2; clear ht hM hb1 hb2
        go_wp2_with fail
        have c42 := HM.out.blk.cell 42
        rw [HM.out.c.c42] at c42
        dsimp only at c42
        have c43 := HM.out.blk.cell 43
        rw [HM.out.c.c43] at c43
        dsimp only at c43
        rw [HLM.out] at c42
        have hS : w'.drew.cell? ⟨mb, 42, none⟩ = some (.int .i64 s.move) ∧ w'.drew.cell? ⟨mb, 43, none⟩ = some (.int .i64 s.move) ∧ w'.drew.cell? ⟨w.heap.size, 0, none⟩ = some (.int .i64 i) ∧ w'.drew.cell? ⟨w.heap.size + 1, 0, none⟩ = some (.int .i64 j) := ⟨c42, c43, b1, b2⟩
        refine wp_region_seqT (fun i => !([12, 17] : List Nat).contains i) (fun i => ([3, 7, 11, 16] : List Nat).contains i) (fun i => ([12] : List Nat).contains i) [0, 1, 2, 3, 4, 5, 6, 7, 8, 9, 10, 11, 12, 13, 14, 15, 16, 17, 18] (fun w' : World => w'.cell? ⟨mb, 42, none⟩ = some (.int .i64 s.move) ∧ w'.cell? ⟨mb, 43, none⟩ = some (.int .i64 s.move) ∧ w'.cell? ⟨w.heap.size, 0, none⟩ = some (.int .i64 i) ∧ w'.cell? ⟨w.heap.size + 1, 0, none⟩ = some (.int .i64 j)) (by kernel_rfl) (by kernel_rfl) (by kernel_rfl) (by kernel_rfl) ?_
        refine wpSeq_pure (v := _) rfl rfl rfl (by kernel_rfl) (fun _ _ _ h => h) (fun wq => by first | (go_simp; done) | (go_simp; rfl)) ?_
        refine wpSeq_pure (v := _) rfl rfl rfl (by kernel_rfl) (fun _ _ _ h => h) (fun wq => by first | (go_simp; done) | (go_simp; rfl)) ?_
        refine wpSeq_pure (v := _) rfl rfl rfl (by kernel_rfl) (fun _ _ _ h => h) (fun wq => by first | (go_simp; done) | (go_simp; rfl)) ?_
        refine wpSeq_load (v := _) rfl rfl (by kernel_rfl) (fun _ _ _ h => h) hS rfl (fun wq hq => by (try have hq1 := hq.1); (try have hq2 := hq.2.1); (try have hq3 := hq.2.2.1); (try have hq4 := hq.2.2.2.1); (try have hq5 := hq.2.2.2.2.1); (try have hq6 := hq.2.2.2.2.2.1); (try have hq7 := hq.2.2.2.2.2.2); (try have hr2 := hq.2); (try have hr3 := hq.2.2); (try have hr4 := hq.2.2.2); (try have hr5 := hq.2.2.2.2); first | (go_simp; done) | (go_simp; rfl)) ?_
        refine wpSeq_pure (v := _) rfl rfl rfl (by kernel_rfl) (fun _ _ _ h => h) (fun wq => by first | (go_simp; done) | (go_simp; rfl)) ?_
        refine wpSeq_pure (v := _) rfl rfl rfl (by kernel_rfl) (fun _ _ _ h => h) (fun wq => by first | (go_simp; done) | (go_simp; rfl)) ?_
        refine wpSeq_pure (v := _) rfl rfl rfl (by kernel_rfl) (fun _ _ _ h => h) (fun wq => by first | (go_simp; done) | (go_simp; rfl)) ?_
        refine wpSeq_load (v := _) rfl rfl (by kernel_rfl) (fun _ _ _ h => h) hS rfl (fun wq hq => by (try have hq1 := hq.1); (try have hq2 := hq.2.1); (try have hq3 := hq.2.2.1); (try have hq4 := hq.2.2.2.1); (try have hq5 := hq.2.2.2.2.1); (try have hq6 := hq.2.2.2.2.2.1); (try have hq7 := hq.2.2.2.2.2.2); (try have hr2 := hq.2); (try have hr3 := hq.2.2); (try have hr4 := hq.2.2.2); (try have hr5 := hq.2.2.2.2); first | (go_simp; done) | (go_simp; rfl)) ?_
        refine wpSeq_pure (v := _) rfl rfl rfl (by kernel_rfl) (fun _ _ _ h => h) (fun wq => by first | (go_simp; done) | (go_simp; rfl)) ?_
        refine wpSeq_pure (v := _) rfl rfl rfl (by kernel_rfl) (fun _ _ _ h => h) (fun wq => by first | (go_simp; done) | (go_simp; rfl)) ?_
        refine wpSeq_pure (v := _) rfl rfl rfl (by kernel_rfl) (fun _ _ _ h => h) (fun wq => by first | (go_simp; done) | (go_simp; rfl)) ?_
        go_simp
        refine wpSeq_load (v := _) rfl rfl (by kernel_rfl) (fun _ _ _ h => h) hS rfl (fun wq hq => by (try have hq1 := hq.1); (try have hq2 := hq.2.1); (try have hq3 := hq.2.2.1); (try have hq4 := hq.2.2.2.1); (try have hq5 := hq.2.2.2.2.1); (try have hq6 := hq.2.2.2.2.2.1); (try have hq7 := hq.2.2.2.2.2.2); (try have hr2 := hq.2); (try have hr3 := hq.2.2); (try have hr4 := hq.2.2.2); (try have hr5 := hq.2.2.2.2); first | (go_simp; done) | (go_simp; rfl)) ?_
        refine wpSeq_heavy rfl rfl (fun K hK => ?_); go_simp
        refine (has_any w'.drew mb O L' _ HM.out.drew _).mono ?_
        rintro e w5 ⟨rfl, rfl⟩
        have hh : has { s with stack := r } ((i : Int)) = true := HX.out
        rw [hh]
        clear hh
        dsimp only
        refine hK _ _ (fun _ => hS) ?_; clear hK K
        refine wpSeq_pure (v := _) rfl rfl rfl (by kernel_rfl) (fun _ _ _ h => h) (fun wq => by first | (go_simp; done) | (go_simp; rfl)) ?_
        refine wpSeq_pure (v := _) rfl rfl rfl (by kernel_rfl) (fun _ _ _ h => h) (fun wq => by first | (go_simp; done) | (go_simp; rfl)) ?_
        refine wpSeq_pure (v := _) rfl rfl rfl (by kernel_rfl) (fun _ _ _ h => h) (fun wq => by first | (go_simp; done) | (go_simp; rfl)) ?_
        go_simp
        refine wpSeq_load (v := _) rfl rfl (by kernel_rfl) (fun _ _ _ h => h) hS rfl (fun wq hq => by (try have hq1 := hq.1); (try have hq2 := hq.2.1); (try have hq3 := hq.2.2.1); (try have hq4 := hq.2.2.2.1); (try have hq5 := hq.2.2.2.2.1); (try have hq6 := hq.2.2.2.2.2.1); (try have hq7 := hq.2.2.2.2.2.2); (try have hr2 := hq.2); (try have hr3 := hq.2.2); (try have hr4 := hq.2.2.2); (try have hr5 := hq.2.2.2.2); first | (go_simp; done) | (go_simp; rfl)) ?_
        refine wpSeq_heavy rfl rfl (fun K hK => ?_); go_simp
        refine (has_any w'.drew mb O L' _ HM.out.drew _).mono ?_
        rintro e w5 ⟨rfl, rfl⟩
        have hh : has { s with stack := r } ((j : Int)) = true := HY.out
        rw [hh]
        clear hh
        dsimp only
        refine hK _ _ (fun h => by cases h) ?_; clear hK K
        refine wpSeq_pure (v := _) rfl rfl rfl (by kernel_rfl) (fun _ _ _ h => h) (fun wq => by first | (go_simp; done) | (go_simp; rfl)) ?_
        refine wpSeq_end ?_
        have HM2 := Lib.hid HM.out.drew
        have HT2 := Lib.hid HT.out.fr.drew
        have e1 : w'.drew.cell? ⟨w.heap.size, 0, none⟩ = some (.int .i64 i) := b1
        have e2 : w'.drew.cell? ⟨w.heap.size + 1, 0, none⟩ = some (.int .i64 j) := b2
        have e3 : w'.drew.cell? ⟨mb, 43, none⟩ = some (.int .i64 s.move) := c43
        have e1l : w.heap.size < w'.drew.heap.size := b1l
        have e2l : w.heap.size + 1 < w'.drew.heap.size := b2l
        have mbl : mb < w'.drew.heap.size := HM2.out.blk.lt
        obtain ⟨g, c, pt, hv, hc1, hpt, hgl, hcell⟩ := HM2.out.pt (p := i) hil
        dsimp only at hpt hv hc1
        have HPT := Lib.hid hpt
        have e4 := HM2.out.blk.cell 3
        rw [HM2.out.c.c3, hv] at e4
        have d0 := hcell s.move
        clear hcell hpt hv hS c42 c43 b1 b2 b1l b2l b1f b2f
        generalize hd : (if s.move = 1 then 1 else 0 : Nat) = d at d0
        have HD := Lib.hid hd
        clear hd
        generalize w'.drew = W at *
        go_wp2_with fail
        have hS : W.drew.cell? ⟨mb, 43, none⟩ = some (.int .i64 s.move) ∧ W.drew.cell? ⟨mb, 3, none⟩ = some (.slice (some ⟨g, 0, none⟩) s.cur.length c) ∧ W.drew.cell? ⟨w.heap.size, 0, none⟩ = some (.int .i64 i) ∧ W.drew.cell? ⟨w.heap.size + 1, 0, none⟩ = some (.int .i64 j) ∧ W.drew.cell? ⟨g, i * 2 + d, none⟩ = some (.int .i64 (coord s.move pt)) := ⟨e3, e4, e1, e2, d0⟩
        refine wp_region_seqT (fun i => !([17, 20] : List Nat).contains i) (fun i => ([1, 5, 10, 11, 16, 19] : List Nat).contains i) (fun i => ([17] : List Nat).contains i) [0, 1, 2, 3, 4, 5, 6, 7, 8, 9, 10, 11, 12, 13, 14, 15, 16, 17, 18, 19, 20] (fun w' : World => w'.cell? ⟨mb, 43, none⟩ = some (.int .i64 s.move) ∧ w'.cell? ⟨mb, 3, none⟩ = some (.slice (some ⟨g, 0, none⟩) s.cur.length c) ∧ w'.cell? ⟨w.heap.size, 0, none⟩ = some (.int .i64 i) ∧ w'.cell? ⟨w.heap.size + 1, 0, none⟩ = some (.int .i64 j) ∧ w'.cell? ⟨g, i * 2 + d, none⟩ = some (.int .i64 (coord s.move pt))) (by kernel_rfl) (by kernel_rfl) (by kernel_rfl) (by kernel_rfl) ?_
        refine wpSeq_pure (v := _) rfl rfl rfl (by kernel_rfl) (fun _ _ _ h => h) (fun wq => by first | (go_simp; done) | (go_simp; rfl)) ?_
        refine wpSeq_load (v := _) rfl rfl (by kernel_rfl) (fun _ _ _ h => h) hS rfl (fun wq hq => by (try have hq1 := hq.1); (try have hq2 := hq.2.1); (try have hq3 := hq.2.2.1); (try have hq4 := hq.2.2.2.1); (try have hq5 := hq.2.2.2.2.1); (try have hq6 := hq.2.2.2.2.2.1); (try have hq7 := hq.2.2.2.2.2.2); (try have hr2 := hq.2); (try have hr3 := hq.2.2); (try have hr4 := hq.2.2.2); (try have hr5 := hq.2.2.2.2); first | (go_simp; done) | (go_simp; rfl)) ?_
        refine wpSeq_pure (v := _) rfl rfl rfl (by kernel_rfl) (fun _ _ _ h => h) (fun wq => by first | (go_simp; done) | (go_simp; rfl)) ?_
        refine wpSeq_pure (v := _) rfl rfl rfl (by kernel_rfl) (fun _ _ _ h => h) (fun wq => by first | (go_simp; done) | (go_simp; rfl)) ?_
        refine wpSeq_pure (v := _) rfl rfl rfl (by kernel_rfl) (fun _ _ _ h => h) (fun wq => by first | (go_simp; done) | (go_simp; rfl)) ?_
        refine wpSeq_load (v := _) rfl rfl (by kernel_rfl) (fun _ _ _ h => h) hS rfl (fun wq hq => by (try have hq1 := hq.1); (try have hq2 := hq.2.1); (try have hq3 := hq.2.2.1); (try have hq4 := hq.2.2.2.1); (try have hq5 := hq.2.2.2.2.1); (try have hq6 := hq.2.2.2.2.2.1); (try have hq7 := hq.2.2.2.2.2.2); (try have hr2 := hq.2); (try have hr3 := hq.2.2); (try have hr4 := hq.2.2.2); (try have hr5 := hq.2.2.2.2); first | (go_simp; done) | (go_simp; rfl)) ?_
        refine wpSeq_pure (v := _) rfl rfl rfl (by kernel_rfl) (fun _ _ _ h => h) (fun wq => by first | (go_simp; done) | (go_simp; rfl)) ?_
        refine wpSeq_pure (v := _) rfl rfl rfl (by kernel_rfl) (fun _ _ _ h => h) (fun wq => by first | (go_simp; done) | (go_simp; rfl)) ?_
        refine wpSeq_pure (v := _) rfl rfl rfl (by kernel_rfl) (fun _ _ _ h => h) (fun wq => by first | (go_simp; done) | (go_simp; rfl)) ?_
        refine wpSeq_pure (v := _) rfl rfl rfl (by kernel_rfl) (fun _ _ _ h => h) (fun wq => by first | (go_simp; done) | (go_simp; rfl)) ?_
        refine wpSeq_load (v := _) rfl rfl (by kernel_rfl) (fun _ _ _ h => h) hS rfl (fun wq hq => by (try have hq1 := hq.1); (try have hq2 := hq.2.1); (try have hq3 := hq.2.2.1); (try have hq4 := hq.2.2.2.1); (try have hq5 := hq.2.2.2.2.1); (try have hq6 := hq.2.2.2.2.2.1); (try have hq7 := hq.2.2.2.2.2.2); (try have hr2 := hq.2); (try have hr3 := hq.2.2); (try have hr4 := hq.2.2.2); (try have hr5 := hq.2.2.2.2); first | (go_simp; done) | (go_simp; rfl)) ?_
        refine wpSeq_load (v := _) rfl rfl (by kernel_rfl) (fun _ _ _ h => h) hS rfl (fun wq hq => by (try have hq1 := hq.1); (try have hq2 := hq.2.1); (try have hq3 := hq.2.2.1); (try have hq4 := hq.2.2.2.1); (try have hq5 := hq.2.2.2.2.1); (try have hq6 := hq.2.2.2.2.2.1); (try have hq7 := hq.2.2.2.2.2.2); (try have hr2 := hq.2); (try have hr3 := hq.2.2); (try have hr4 := hq.2.2.2); (try have hr5 := hq.2.2.2.2); first | (go_simp; done) | (go_simp; rfl)) ?_
        refine wpSeq_pure (v := _) rfl rfl rfl (by kernel_rfl) (fun _ _ _ h => h) (fun wq => by first | (go_simp; done) | (go_simp; rfl)) ?_
        refine wpSeq_pure (v := _) rfl rfl rfl (by kernel_rfl) (fun _ _ _ h => h) (fun wq => by first | (go_simp; done) | (go_simp; rfl)) ?_
        refine wpSeq_pure (v := _) rfl rfl rfl (by kernel_rfl) (fun _ _ _ h => h) (fun wq => by first | (go_simp; done) | (go_simp; rfl)) ?_
        refine wpSeq_pure (v := _) rfl rfl rfl (by kernel_rfl) (fun _ _ _ h => h) (fun wq => by first | (go_simp; done) | (go_simp; rfl)) ?_
        refine wpSeq_load (v := _) rfl rfl (by kernel_rfl) (fun _ _ _ h => h) hS rfl (fun wq hq => by (try have hq1 := hq.1); (try have hq2 := hq.2.1); (try have hq3 := hq.2.2.1); (try have hq4 := hq.2.2.2.1); (try have hq5 := hq.2.2.2.2.1); (try have hq6 := hq.2.2.2.2.2.1); (try have hq7 := hq.2.2.2.2.2.2); (try have hr2 := hq.2); (try have hr3 := hq.2.2); (try have hr4 := hq.2.2.2); (try have hr5 := hq.2.2.2.2); first | (go_simp; done) | (go_simp; rfl)) ?_
        refine wpSeq_heavy rfl rfl (fun K hK => ?_); go_simp
        refine (coordinate_any _ _ _ _).mono ?_
        rintro e w5 ⟨rfl, rfl⟩
        rw [HD.out]
        dsimp only
        refine hK _ _ (fun _ => hS) ?_; clear hK K
        refine wpSeq_pure (v := _) rfl rfl rfl (by kernel_rfl) (fun _ _ _ h => h) (fun wq => by first | (go_simp; done) | (go_simp; rfl)) ?_
        refine wpSeq_load (v := _) rfl rfl (by kernel_rfl) (fun _ _ _ h => h) hS rfl (fun wq hq => by (try have hq1 := hq.1); (try have hq2 := hq.2.1); (try have hq3 := hq.2.2.1); (try have hq4 := hq.2.2.2.1); (try have hq5 := hq.2.2.2.2.1); (try have hq6 := hq.2.2.2.2.2.1); (try have hq7 := hq.2.2.2.2.2.2); (try have hr2 := hq.2); (try have hr3 := hq.2.2); (try have hr4 := hq.2.2.2); (try have hr5 := hq.2.2.2.2); first | (go_simp; done) | (go_simp; rfl)) ?_
        refine wpSeq_heavy rfl rfl (fun K hK => ?_); go_simp
        refine (put_any W.drew mb O L' _ HM2.out.drew j s.move _ hjl hmv).mono ?_
        intro e w9 hp
        have HP := Lib.hid (hp.from_ HT2.out.drew)
        obtain ⟨rfl, _⟩ := hp
        dsimp only
        refine hK _ _ (fun h => by cases h) ?_; clear hK K
        refine wpSeq_end ?_
        go_wp2
        go_end0
        rw [alignV_yes HLM.out HX.out HY.out HPT.out]
        exact HP.out
      · have HY := Lib.hid hy
        have hy' : has s y = false := by simpa using hy
        have HY' := Lib.hid hy'
        clear hy hy'
        go_enter Tryz.func96, Tryz.ntmps96
        go_wp2_with fail
        refine (take2_new w mb O L s H.out _ _ r HS.out _ _).mono ?_
        rintro e w' ⟨rfl, ht, hb1, hb2⟩; obtain ⟨L', hM⟩ := ht.ma; have HM := Lib.hid hM; have HT := Lib.hid ht; have hlt := ht.lt; have b1 := hb1.cell 0; have b1l := hb1.lt; have b1f := hb1.frozen 0; have b2 := hb2.cell 0; have b2l := hb2.lt; have b2f := hb2.frozen 0; simp only [List.getElem?_toArray, List.getElem?_cons_zero] at b1 b2; clear ht hM hb1 hb2
        go_wp2_with fail
        have c42 := HM.out.blk.cell 42
        rw [HM.out.c.c42] at c42
        dsimp only at c42
        have c43 := HM.out.blk.cell 43
        rw [HM.out.c.c43] at c43
        dsimp only at c43
        rw [HLM.out] at c42
        have hS : w'.drew.cell? ⟨mb, 42, none⟩ = some (.int .i64 s.move) ∧ w'.drew.cell? ⟨mb, 43, none⟩ = some (.int .i64 s.move) ∧ w'.drew.cell? ⟨w.heap.size, 0, none⟩ = some (.int .i64 i) ∧ w'.drew.cell? ⟨w.heap.size + 1, 0, none⟩ = some (.int .i64 y) := ⟨c42, c43, b1, b2⟩
        refine wp_region_seqT (fun i => !([12, 17] : List Nat).contains i) (fun i => ([3, 7, 11, 16] : List Nat).contains i) (fun i => ([12] : List Nat).contains i) [0, 1, 2, 3, 4, 5, 6, 7, 8, 9, 10, 11, 12, 13, 14, 15, 16, 17, 18] (fun w' : World => w'.cell? ⟨mb, 42, none⟩ = some (.int .i64 s.move) ∧ w'.cell? ⟨mb, 43, none⟩ = some (.int .i64 s.move) ∧ w'.cell? ⟨w.heap.size, 0, none⟩ = some (.int .i64 i) ∧ w'.cell? ⟨w.heap.size + 1, 0, none⟩ = some (.int .i64 y)) (by kernel_rfl) (by kernel_rfl) (by kernel_rfl) (by kernel_rfl) ?_
        refine wpSeq_pure (v := _) rfl rfl rfl (by kernel_rfl) (fun _ _ _ h => h) (fun wq => by first | (go_simp; done) | (go_simp; rfl)) ?_
        refine wpSeq_pure (v := _) rfl rfl rfl (by kernel_rfl) (fun _ _ _ h => h) (fun wq => by first | (go_simp; done) | (go_simp; rfl)) ?_
        refine wpSeq_pure (v := _) rfl rfl rfl (by kernel_rfl) (fun _ _ _ h => h) (fun wq => by first | (go_simp; done) | (go_simp; rfl)) ?_
        refine wpSeq_load (v := _) rfl rfl (by kernel_rfl) (fun _ _ _ h => h) hS rfl (fun wq hq => by (try have hq1 := hq.1); (try have hq2 := hq.2.1); (try have hq3 := hq.2.2.1); (try have hq4 := hq.2.2.2.1); (try have hq5 := hq.2.2.2.2.1); (try have hq6 := hq.2.2.2.2.2.1); (try have hq7 := hq.2.2.2.2.2.2); (try have hr2 := hq.2); (try have hr3 := hq.2.2); (try have hr4 := hq.2.2.2); (try have hr5 := hq.2.2.2.2); first | (go_simp; done) | (go_simp; rfl)) ?_
        refine wpSeq_pure (v := _) rfl rfl rfl (by kernel_rfl) (fun _ _ _ h => h) (fun wq => by first | (go_simp; done) | (go_simp; rfl)) ?_
        refine wpSeq_pure (v := _) rfl rfl rfl (by kernel_rfl) (fun _ _ _ h => h) (fun wq => by first | (go_simp; done) | (go_simp; rfl)) ?_
        refine wpSeq_pure (v := _) rfl rfl rfl (by kernel_rfl) (fun _ _ _ h => h) (fun wq => by first | (go_simp; done) | (go_simp; rfl)) ?_
        refine wpSeq_load (v := _) rfl rfl (by kernel_rfl) (fun _ _ _ h => h) hS rfl (fun wq hq => by (try have hq1 := hq.1); (try have hq2 := hq.2.1); (try have hq3 := hq.2.2.1); (try have hq4 := hq.2.2.2.1); (try have hq5 := hq.2.2.2.2.1); (try have hq6 := hq.2.2.2.2.2.1); (try have hq7 := hq.2.2.2.2.2.2); (try have hr2 := hq.2); (try have hr3 := hq.2.2); (try have hr4 := hq.2.2.2); (try have hr5 := hq.2.2.2.2); first | (go_simp; done) | (go_simp; rfl)) ?_
        refine wpSeq_pure (v := _) rfl rfl rfl (by kernel_rfl) (fun _ _ _ h => h) (fun wq => by first | (go_simp; done) | (go_simp; rfl)) ?_
        refine wpSeq_pure (v := _) rfl rfl rfl (by kernel_rfl) (fun _ _ _ h => h) (fun wq => by first | (go_simp; done) | (go_simp; rfl)) ?_
        refine wpSeq_pure (v := _) rfl rfl rfl (by kernel_rfl) (fun _ _ _ h => h) (fun wq => by first | (go_simp; done) | (go_simp; rfl)) ?_
        go_simp
        refine wpSeq_load (v := _) rfl rfl (by kernel_rfl) (fun _ _ _ h => h) hS rfl (fun wq hq => by (try have hq1 := hq.1); (try have hq2 := hq.2.1); (try have hq3 := hq.2.2.1); (try have hq4 := hq.2.2.2.1); (try have hq5 := hq.2.2.2.2.1); (try have hq6 := hq.2.2.2.2.2.1); (try have hq7 := hq.2.2.2.2.2.2); (try have hr2 := hq.2); (try have hr3 := hq.2.2); (try have hr4 := hq.2.2.2); (try have hr5 := hq.2.2.2.2); first | (go_simp; done) | (go_simp; rfl)) ?_
        refine wpSeq_heavy rfl rfl (fun K hK => ?_); go_simp
        refine (has_any w'.drew mb O L' _ HM.out.drew _).mono ?_
        rintro e w5 ⟨rfl, rfl⟩
        have hh : has { s with stack := r } ((i : Int)) = true := HX.out
        rw [hh]
        clear hh
        dsimp only
        refine hK _ _ (fun _ => hS) ?_; clear hK K
        refine wpSeq_pure (v := _) rfl rfl rfl (by kernel_rfl) (fun _ _ _ h => h) (fun wq => by first | (go_simp; done) | (go_simp; rfl)) ?_
        refine wpSeq_pure (v := _) rfl rfl rfl (by kernel_rfl) (fun _ _ _ h => h) (fun wq => by first | (go_simp; done) | (go_simp; rfl)) ?_
        refine wpSeq_pure (v := _) rfl rfl rfl (by kernel_rfl) (fun _ _ _ h => h) (fun wq => by first | (go_simp; done) | (go_simp; rfl)) ?_
        go_simp
        refine wpSeq_load (v := _) rfl rfl (by kernel_rfl) (fun _ _ _ h => h) hS rfl (fun wq hq => by (try have hq1 := hq.1); (try have hq2 := hq.2.1); (try have hq3 := hq.2.2.1); (try have hq4 := hq.2.2.2.1); (try have hq5 := hq.2.2.2.2.1); (try have hq6 := hq.2.2.2.2.2.1); (try have hq7 := hq.2.2.2.2.2.2); (try have hr2 := hq.2); (try have hr3 := hq.2.2); (try have hr4 := hq.2.2.2); (try have hr5 := hq.2.2.2.2); first | (go_simp; done) | (go_simp; rfl)) ?_
        refine wpSeq_heavy rfl rfl (fun K hK => ?_); go_simp
        refine (has_any w'.drew mb O L' _ HM.out.drew _).mono ?_
        rintro e w5 ⟨rfl, rfl⟩
        have hh : has { s with stack := r } (y) = false := HY'.out
        rw [hh]
        clear hh
        dsimp only
        refine hK _ _ (fun h => by cases h) ?_; clear hK K
        refine wpSeq_pure (v := _) rfl rfl rfl (by kernel_rfl) (fun _ _ _ h => h) (fun wq => by first | (go_simp; done) | (go_simp; rfl)) ?_
        refine wpSeq_end ?_
        have HM2 := Lib.hid HM.out.drew
        have HT2 := Lib.hid HT.out.fr.drew
        go_wp2
        go_end0
        rw [alignV_no (fun e => HY.out e.2.2)]
        exact .here HM2.out HT2.out
    · have HX := Lib.hid hx
      have hx' : has s x = false := by simpa using hx
      have HX' := Lib.hid hx'
      clear hx hx'
      go_enter Tryz.func96, Tryz.ntmps96
      go_wp2_with fail
      refine (take2_new w mb O L s H.out _ _ r HS.out _ _).mono ?_
      rintro e w' ⟨rfl, ht, hb1, hb2⟩; obtain ⟨L', hM⟩ := ht.ma; have HM := Lib.hid hM; have HT := Lib.hid ht; have hlt := ht.lt; have b1 := hb1.cell 0; have b1l := hb1.lt; have b1f := hb1.frozen 0; have b2 := hb2.cell 0; have b2l := hb2.lt; have b2f := hb2.frozen 0; simp only [List.getElem?_toArray, List.getElem?_cons_zero] at b1 b2; clear ht hM hb1 hb2
      go_wp2_with fail
      have c42 := HM.out.blk.cell 42
      rw [HM.out.c.c42] at c42
      dsimp only at c42
      have c43 := HM.out.blk.cell 43
      rw [HM.out.c.c43] at c43
      dsimp only at c43
      rw [HLM.out] at c42
      have hS : w'.drew.cell? ⟨mb, 42, none⟩ = some (.int .i64 s.move) ∧ w'.drew.cell? ⟨mb, 43, none⟩ = some (.int .i64 s.move) ∧ w'.drew.cell? ⟨w.heap.size, 0, none⟩ = some (.int .i64 x) ∧ w'.drew.cell? ⟨w.heap.size + 1, 0, none⟩ = some (.int .i64 y) := ⟨c42, c43, b1, b2⟩
      refine wp_region_seqT (fun i => !([12] : List Nat).contains i) (fun i => ([3, 7, 11] : List Nat).contains i) (fun i => ([] : List Nat).contains i) [0, 1, 2, 3, 4, 5, 6, 7, 8, 9, 10, 11, 12, 13, 14, 15, 16, 17, 18] (fun w' : World => w'.cell? ⟨mb, 42, none⟩ = some (.int .i64 s.move) ∧ w'.cell? ⟨mb, 43, none⟩ = some (.int .i64 s.move) ∧ w'.cell? ⟨w.heap.size, 0, none⟩ = some (.int .i64 x) ∧ w'.cell? ⟨w.heap.size + 1, 0, none⟩ = some (.int .i64 y)) (by kernel_rfl) (by kernel_rfl) (by kernel_rfl) (by kernel_rfl) ?_
      refine wpSeq_pure (v := _) rfl rfl rfl (by kernel_rfl) (fun _ _ _ h => h) (fun wq => by first | (go_simp; done) | (go_simp; rfl)) ?_
      refine wpSeq_pure (v := _) rfl rfl rfl (by kernel_rfl) (fun _ _ _ h => h) (fun wq => by first | (go_simp; done) | (go_simp; rfl)) ?_
      refine wpSeq_pure (v := _) rfl rfl rfl (by kernel_rfl) (fun _ _ _ h => h) (fun wq => by first | (go_simp; done) | (go_simp; rfl)) ?_
      refine wpSeq_load (v := _) rfl rfl (by kernel_rfl) (fun _ _ _ h => h) hS rfl (fun wq hq => by (try have hq1 := hq.1); (try have hq2 := hq.2.1); (try have hq3 := hq.2.2.1); (try have hq4 := hq.2.2.2.1); (try have hq5 := hq.2.2.2.2.1); (try have hq6 := hq.2.2.2.2.2.1); (try have hq7 := hq.2.2.2.2.2.2); (try have hr2 := hq.2); (try have hr3 := hq.2.2); (try have hr4 := hq.2.2.2); (try have hr5 := hq.2.2.2.2); first | (go_simp; done) | (go_simp; rfl)) ?_
      refine wpSeq_pure (v := _) rfl rfl rfl (by kernel_rfl) (fun _ _ _ h => h) (fun wq => by first | (go_simp; done) | (go_simp; rfl)) ?_
      refine wpSeq_pure (v := _) rfl rfl rfl (by kernel_rfl) (fun _ _ _ h => h) (fun wq => by first | (go_simp; done) | (go_simp; rfl)) ?_
      refine wpSeq_pure (v := _) rfl rfl rfl (by kernel_rfl) (fun _ _ _ h => h) (fun wq => by first | (go_simp; done) | (go_simp; rfl)) ?_
      refine wpSeq_load (v := _) rfl rfl (by kernel_rfl) (fun _ _ _ h => h) hS rfl (fun wq hq => by (try have hq1 := hq.1); (try have hq2 := hq.2.1); (try have hq3 := hq.2.2.1); (try have hq4 := hq.2.2.2.1); (try have hq5 := hq.2.2.2.2.1); (try have hq6 := hq.2.2.2.2.2.1); (try have hq7 := hq.2.2.2.2.2.2); (try have hr2 := hq.2); (try have hr3 := hq.2.2); (try have hr4 := hq.2.2.2); (try have hr5 := hq.2.2.2.2); first | (go_simp; done) | (go_simp; rfl)) ?_
      refine wpSeq_pure (v := _) rfl rfl rfl (by kernel_rfl) (fun _ _ _ h => h) (fun wq => by first | (go_simp; done) | (go_simp; rfl)) ?_
      refine wpSeq_pure (v := _) rfl rfl rfl (by kernel_rfl) (fun _ _ _ h => h) (fun wq => by first | (go_simp; done) | (go_simp; rfl)) ?_
      refine wpSeq_pure (v := _) rfl rfl rfl (by kernel_rfl) (fun _ _ _ h => h) (fun wq => by first | (go_simp; done) | (go_simp; rfl)) ?_
      go_simp
      refine wpSeq_load (v := _) rfl rfl (by kernel_rfl) (fun _ _ _ h => h) hS rfl (fun wq hq => by (try have hq1 := hq.1); (try have hq2 := hq.2.1); (try have hq3 := hq.2.2.1); (try have hq4 := hq.2.2.2.1); (try have hq5 := hq.2.2.2.2.1); (try have hq6 := hq.2.2.2.2.2.1); (try have hq7 := hq.2.2.2.2.2.2); (try have hr2 := hq.2); (try have hr3 := hq.2.2); (try have hr4 := hq.2.2.2); (try have hr5 := hq.2.2.2.2); first | (go_simp; done) | (go_simp; rfl)) ?_
      refine wpSeq_heavy rfl rfl (fun K hK => ?_); go_simp
      refine (has_any w'.drew mb O L' _ HM.out.drew _).mono ?_
      rintro e w5 ⟨rfl, rfl⟩
      have hh : has { s with stack := r } (x) = false := HX'.out
      rw [hh]
      clear hh
      dsimp only
      refine hK _ _ (fun h => by cases h) ?_; clear hK K
      refine wpSeq_pure (v := _) rfl rfl rfl (by kernel_rfl) (fun _ _ _ h => h) (fun wq => by first | (go_simp; done) | (go_simp; rfl)) ?_
      refine wpSeq_pure (v := _) rfl rfl rfl (by kernel_rfl) (fun _ _ _ h => h) (fun wq => by first | (go_simp; done) | (go_simp; rfl)) ?_
      go_simp
      refine wpSeq_skip rfl rfl rfl (by kernel_rfl) (fun _ _ _ h => h) ?_
      refine wpSeq_skip rfl rfl rfl (by kernel_rfl) (fun _ _ _ h => h) ?_
      refine wpSeq_skip rfl rfl rfl (by kernel_rfl) (fun _ _ _ h => h) ?_
      refine wpSeq_pure (v := _) rfl rfl rfl (by kernel_rfl) (fun _ _ _ h => h) (fun wq => by first | (go_simp; done) | (go_simp; rfl)) ?_
      refine wpSeq_end ?_
      have HM2 := Lib.hid HM.out.drew
      have HT2 := Lib.hid HT.out.fr.drew
      go_wp2
      go_end0
      rw [alignV_no (fun e => HX.out e.2.1)]
      exact .here HM2.out HT2.out
  · have HLM := Lib.hid hlm
    have hb : (s.look == s.move) = false := by simpa using hlm
    clear hlm
    go_enter Tryz.func96, Tryz.ntmps96
    go_wp2_with fail
    refine (take2_new w mb O L s H.out _ _ r HS.out _ _).mono ?_
    rintro e w' ⟨rfl, ht, hb1, hb2⟩; obtain ⟨L', hM⟩ := ht.ma; have HM := Lib.hid hM; have HT := Lib.hid ht; have hlt := ht.lt; have b1 := hb1.cell 0; have b1l := hb1.lt; have b1f := hb1.frozen 0; have b2 := hb2.cell 0; have b2l := hb2.lt; have b2f := hb2.frozen 0; simp only [List.getElem?_toArray, List.getElem?_cons_zero] at b1 b2; clear ht hM hb1 hb2
    go_wp2_with fail
    have c42 := HM.out.blk.cell 42
    rw [HM.out.c.c42] at c42
    dsimp only at c42
    have c43 := HM.out.blk.cell 43
    rw [HM.out.c.c43] at c43
    dsimp only at c43
    have hS : w'.drew.cell? ⟨mb, 42, none⟩ = some (.int .i64 s.look) ∧ w'.drew.cell? ⟨mb, 43, none⟩ = some (.int .i64 s.move) ∧ w'.drew.cell? ⟨w.heap.size, 0, none⟩ = some (.int .i64 x) ∧ w'.drew.cell? ⟨w.heap.size + 1, 0, none⟩ = some (.int .i64 y) := ⟨c42, c43, b1, b2⟩
    refine wp_region_seqT (fun i => !([] : List Nat).contains i) (fun i => ([3, 7] : List Nat).contains i) (fun i => ([] : List Nat).contains i) [0, 1, 2, 3, 4, 5, 6, 7, 8, 9, 10, 11, 12, 13, 14, 15, 16, 17, 18] (fun w' : World => w'.cell? ⟨mb, 42, none⟩ = some (.int .i64 s.look) ∧ w'.cell? ⟨mb, 43, none⟩ = some (.int .i64 s.move) ∧ w'.cell? ⟨w.heap.size, 0, none⟩ = some (.int .i64 x) ∧ w'.cell? ⟨w.heap.size + 1, 0, none⟩ = some (.int .i64 y)) (by kernel_rfl) (by kernel_rfl) (by kernel_rfl) (by kernel_rfl) ?_
    refine wpSeq_pure (v := _) rfl rfl rfl (by kernel_rfl) (fun _ _ _ h => h) (fun wq => by first | (go_simp; done) | (go_simp; rfl)) ?_
    refine wpSeq_pure (v := _) rfl rfl rfl (by kernel_rfl) (fun _ _ _ h => h) (fun wq => by first | (go_simp; done) | (go_simp; rfl)) ?_
    refine wpSeq_pure (v := _) rfl rfl rfl (by kernel_rfl) (fun _ _ _ h => h) (fun wq => by first | (go_simp; done) | (go_simp; rfl)) ?_
    refine wpSeq_load (v := _) rfl rfl (by kernel_rfl) (fun _ _ _ h => h) hS rfl (fun wq hq => by (try have hq1 := hq.1); (try have hq2 := hq.2.1); (try have hq3 := hq.2.2.1); (try have hq4 := hq.2.2.2.1); (try have hq5 := hq.2.2.2.2.1); (try have hq6 := hq.2.2.2.2.2.1); (try have hq7 := hq.2.2.2.2.2.2); (try have hr2 := hq.2); (try have hr3 := hq.2.2); (try have hr4 := hq.2.2.2); (try have hr5 := hq.2.2.2.2); first | (go_simp; done) | (go_simp; rfl)) ?_
    refine wpSeq_pure (v := _) rfl rfl rfl (by kernel_rfl) (fun _ _ _ h => h) (fun wq => by first | (go_simp; done) | (go_simp; rfl)) ?_
    refine wpSeq_pure (v := _) rfl rfl rfl (by kernel_rfl) (fun _ _ _ h => h) (fun wq => by first | (go_simp; done) | (go_simp; rfl)) ?_
    refine wpSeq_pure (v := _) rfl rfl rfl (by kernel_rfl) (fun _ _ _ h => h) (fun wq => by first | (go_simp; done) | (go_simp; rfl)) ?_
    refine wpSeq_load (v := _) rfl rfl (by kernel_rfl) (fun _ _ _ h => h) hS rfl (fun wq hq => by (try have hq1 := hq.1); (try have hq2 := hq.2.1); (try have hq3 := hq.2.2.1); (try have hq4 := hq.2.2.2.1); (try have hq5 := hq.2.2.2.2.1); (try have hq6 := hq.2.2.2.2.2.1); (try have hq7 := hq.2.2.2.2.2.2); (try have hr2 := hq.2); (try have hr3 := hq.2.2); (try have hr4 := hq.2.2.2); (try have hr5 := hq.2.2.2.2); first | (go_simp; done) | (go_simp; rfl)) ?_
    refine wpSeq_pure (v := _) rfl rfl rfl (by kernel_rfl) (fun _ _ _ h => h) (fun wq => by first | (go_simp; done) | (go_simp; rfl)) ?_
    refine wpSeq_pure (v := _) rfl rfl rfl (by kernel_rfl) (fun _ _ _ h => h) (fun wq => by first | (go_simp; done) | (go_simp; rfl)) ?_
    go_simp
    refine wpSeq_skip rfl rfl rfl (by kernel_rfl) (fun _ _ _ h => h) ?_
    refine wpSeq_skip rfl rfl rfl (by kernel_rfl) (fun _ _ _ h => h) ?_
    refine wpSeq_skip rfl rfl rfl (by kernel_rfl) (fun _ _ _ h => h) ?_
    refine wpSeq_pure (v := _) rfl rfl rfl (by kernel_rfl) (fun _ _ _ h => h) (fun wq => by first | (go_simp; done) | (go_simp; rfl)) ?_
    refine wpSeq_pure (v := _) rfl rfl rfl (by kernel_rfl) (fun _ _ _ h => h) (fun wq => by first | (go_simp; done) | (go_simp; rfl)) ?_
    go_simp
    refine wpSeq_skip rfl rfl rfl (by kernel_rfl) (fun _ _ _ h => h) ?_
    refine wpSeq_skip rfl rfl rfl (by kernel_rfl) (fun _ _ _ h => h) ?_
    refine wpSeq_skip rfl rfl rfl (by kernel_rfl) (fun _ _ _ h => h) ?_
    refine wpSeq_pure (v := _) rfl rfl rfl (by kernel_rfl) (fun _ _ _ h => h) (fun wq => by first | (go_simp; done) | (go_simp; rfl)) ?_
    refine wpSeq_end ?_
    have HM2 := Lib.hid HM.out.drew
    have HT2 := Lib.hid HT.out.fr.drew
    go_wp2
    go_end0
    rw [alignV_no (fun e => HLM.out e.1)]
    exact .here HM2.out HT2.out
theorem move_deed (w : World) (mb : Nat) (O : Nat → Prop) (L : Lay) (s : St) (h : MaL w mb O L s) (a x y : Int) (r : List Int) (hs : s.stack = y :: x :: r) :
    Calls Tryz.prog 91 #[.pointer (some ⟨mb, 0, none⟩), .int .i64 a] w (MPost w mb O (moveV s r x y)) := by
  have HC := Lib.hid (shove_any w mb O L s h x y r hs)
  clear h hs
  go_enter Tryz.func91, Tryz.ntmps91
  go_wp2_with fail
  refine HC.out.mono ?_
  intro e w9 hp; have HP := Lib.hid hp; obtain ⟨rfl, _⟩ := hp; go_wp2; go_end0; exact HP.out
theorem set_deed (w : World) (mb : Nat) (O : Nat → Prop) (L : Lay) (s : St) (h : MaL w mb O L s) (a x y : Int) (r : List Int) (hs : s.stack = y :: x :: r) :
    Calls Tryz.prog 93 #[.pointer (some ⟨mb, 0, none⟩), .int .i64 a] w (MPost w mb O (setV s r x y)) := by
  have HC := Lib.hid (set_any w mb O L s h x y r hs)
  clear h hs
  go_enter Tryz.func93, Tryz.ntmps93
  go_wp2_with fail
  refine HC.out.mono ?_
  intro e w9 hp; have HP := Lib.hid hp; obtain ⟨rfl, _⟩ := hp; go_wp2; go_end0; exact HP.out
theorem align_deed (w : World) (mb : Nat) (O : Nat → Prop) (L : Lay) (s : St) (h : MaL w mb O L s) (a x y : Int) (r : List Int) (hs : s.stack = y :: x :: r) :
    Calls Tryz.prog 95 #[.pointer (some ⟨mb, 0, none⟩), .int .i64 a] w (MPost w mb O (alignV s r x y)) := by
  have HC := Lib.hid (align_any w mb O L s h x y r hs)
  clear h hs
  go_enter Tryz.func95, Tryz.ntmps95
  go_wp2_with fail
  refine HC.out.mono ?_
  intro e w9 hp; have HP := Lib.hid hp; obtain ⟨rfl, _⟩ := hp; go_wp2; go_end0; exact HP.out
end Go.Proofs.YthdmdgmchkhngaaGreat

/- Deeds of the machine: Round, Proj, Free, Mode; Cvt, SetCvt, Load, Save: their contracts. -/
import Derived.Test.YthdmdgmchkhngaaMaG
namespace Go.Proofs.Ythdmdgmchkhngaa
open Go.RowKit Mc

theorem round_deed (w : World) (mb : Nat) (O : Nat → Prop) (L : Lay) (s : St) (h : MaL w mb O L s) (a x : Int) (r : List Int) (hs : s.stack = x :: r) :
    Calls Try.prog 53 #[.pointer (some ⟨mb, 0, none⟩), .int .i64 a] w (MPost w mb O (push (rounded s.mode x) { s with stack := r })) := by
  have H := Lib.hid h
  have HS := Lib.hid hs
  have hl := h.ok.slen
  rw [hs, List.length_cons] at hl
  clear h hs
  go_enter Try.func53, Try.ntmps53
  go_wp2_with fail
  refine (take1_new w mb O L s H.out x r HS.out _).mono ?_
  rintro e w' ⟨rfl, ht, hb1⟩; obtain ⟨L', hM⟩ := ht.ma; have HM := Lib.hid hM; have HT := Lib.hid ht; have hlt := ht.lt; have b1 := hb1.cell 0; have b1l := hb1.lt; have b1f := hb1.frozen 0; simp only [List.getElem?_toArray, List.getElem?_cons_zero] at b1; clear ht hM hb1
  go_wp2_with fail
  have c44 := HM.out.blk.cell 44
  rw [HM.out.c.c44] at c44
  dsimp only at c44
  have hS : w'.drew.cell? ⟨mb, 44, none⟩ = some (.int .i64 s.mode) ∧ w'.drew.cell? ⟨w.heap.size, 0, none⟩ = some (.int .i64 x) := ⟨c44, b1⟩
  have HMD := Lib.hid HM.out.drew
  have hS2 : (w'.drew.alloc (.cells #[.int .i64 (rounded s.mode x)] 3)).cell? ⟨mb, 44, none⟩ = some (.int .i64 s.mode) ∧ (w'.drew.alloc (.cells #[.int .i64 (rounded s.mode x)] 3)).cell? ⟨w.heap.size, 0, none⟩ = some (.int .i64 x) := ⟨by rw [World.cell?_alloc_lt _ _ _ (by simpa using HM.out.blk.lt)]; exact c44, by rw [World.cell?_alloc_lt _ _ _ (by simpa using b1l)]; exact b1⟩
  have _hmbl := HM.out.blk.lt
  refine wp_region_seq (fun i => !([6, 7, 8] : List Nat).contains i) (fun i => ([4, 5] : List Nat).contains i) (fun i => ([7, 8] : List Nat).contains i) [0, 1, 2, 3, 4, 5, 6, 7, 8] (fun w' : World => w'.cell? ⟨mb, 44, none⟩ = some (.int .i64 s.mode) ∧ w'.cell? ⟨w.heap.size, 0, none⟩ = some (.int .i64 x)) (by kernel_rfl) (by kernel_rfl) (by kernel_rfl) (by kernel_rfl) ?_
  refine wpSeq_pure (v := _) rfl rfl rfl (by kernel_rfl) (fun _ _ _ h => h) (fun wq => by first | (go_simp; done) | (go_simp; rfl)) ?_
  refine wpSeq_pure (v := _) rfl rfl rfl (by kernel_rfl) (fun _ _ _ h => h) (fun wq => by first | (go_simp; done) | (go_simp; rfl)) ?_
  refine wpSeq_pure (v := _) rfl rfl rfl (by kernel_rfl) (fun _ _ _ h => h) (fun wq => by first | (go_simp; done) | (go_simp; rfl)) ?_
  refine wpSeq_pure (v := _) rfl rfl rfl (by kernel_rfl) (fun _ _ _ h => h) (fun wq => by first | (go_simp; done) | (go_simp; rfl)) ?_
  refine wpSeq_load (v := _) rfl rfl (by kernel_rfl) (fun _ _ _ h => h) hS rfl (fun wq hq => by obtain ⟨hq1, hq2⟩ := hq; first | (go_simp; done) | (go_simp; rfl)) ?_
  refine wpSeq_load (v := _) rfl rfl (by kernel_rfl) (fun _ _ _ h => h) hS rfl (fun wq hq => by obtain ⟨hq1, hq2⟩ := hq; first | (go_simp; done) | (go_simp; rfl)) ?_
  refine wpSeq_heavy rfl rfl (fun K hK => ?_); go_simp
  refine (rounded_any _ _ _).mono ?_
  rintro e w5 ⟨rfl, rfl⟩
  dsimp only
  refine hK _ _ (fun h => by cases h) ?_; clear hK K
  refine wpSeq_heavy rfl rfl (fun K hK => ?_); go_simp
  refine hK _ _ (fun _ => hS2) ?_; clear hK K
  refine wpSeq_heavy rfl rfl (fun K hK => ?_); go_simp
  refine (leave1_new w'.drew mb O L' _ HMD.out _ (by simp only; omega)).mono ?_
  intro e w9 hp
  have HP := Lib.hid (hp.from_ HT.out.fr.drew)
  obtain ⟨rfl, ⟨L9, h9⟩, f9⟩ := hp
  have c9 := h9.blk.cell 44
  rw [h9.c.c44] at c9
  have hS9 : w9.cell? ⟨mb, 44, none⟩ = some (.int .i64 s.mode) ∧ w9.cell? ⟨w.heap.size, 0, none⟩ = some (.int .i64 x) := ⟨c9, (f9.cell (by simpa using b1l) (H.out.notO (Nat.le_refl _))).trans b1⟩
  clear h9 f9 c9
  dsimp only
  refine hK _ _ (fun _ => hS9) ?_; clear hK K
  refine wpSeq_end ?_
  go_wp2
  go_end0
  exact HP.out

section
variable {w : World} {mb : Nat} {O : Nat → Prop} {L : Lay} {s : St}
theorem Mc.Ok.cells_ (h : Ok s) {st : List Int} {lo mo md : Int} {sp pk : Nat} {ed : Bool} {er : Int} (h1 : ∀ x ∈ st, K32 x) (h2 : st.length = 32) (h3 : 0 ≤ lo ∧ lo ≤ 1) (h4 : 0 ≤ mo ∧ mo ≤ 1) (h5 : 0 ≤ md ∧ md ≤ 5) (h6 : pk ≤ 32) : Ok { s with store := st, look := lo, move := mo, mode := md, steps := sp, peak := pk, ended := ed, err := er } :=
  ⟨h.stack, h.slen, h.cvt, h1, h2, h.cur, h.org, h.orgl, h.touch, h.tl, h.size, h3, h4, h5, h6, h.frames, h.flen, h.funcs, h.fnl, h.cont, h.contl, h.curl, h.cvl, h.endl⟩
theorem MaL.set_ (h : MaL w mb O L s) {i : Nat} {u : Value} {st : List Int} {lo mo md : Int} {sp pk : Nat} {ed : Bool} {er : Int} (hc : MaC { L with cs := L.cs.setIfInBounds i u } { s with store := st, look := lo, move := mo, mode := md, steps := sp, peak := pk, ended := ed, err := er }) (hok : Ok { s with store := st, look := lo, move := mo, mode := md, steps := sp, peak := pk, ended := ed, err := er }) : MaL (w.setCell ⟨mb, i, none⟩ u) mb O { L with cs := L.cs.setIfInBounds i u } { s with store := st, look := lo, move := mo, mode := md, steps := sp, peak := pk, ended := ed, err := er } :=
  h.cells (h.blk.set_ i u) hc (fun _ _ hk _ => Below.heap_setCell _ _ _ _ hk) (fun _ h => h) (fun k hk => by have := h.olt k hk; simpa [World.setCell] using this) hok
theorem MaL.frSet (h : MaL w mb O L s) (i : Nat) (u : Value) : Fr O w (w.setCell ⟨mb, i, none⟩ u) := (Fr.refl O w).setCell (.inl h.mbO) _
end

theorem proj_deed (w : World) (mb : Nat) (O : Nat → Prop) (L : Lay) (s : St) (h : MaL w mb O L s) (a : Int) :
    Calls Try.prog 61 #[.pointer (some ⟨mb, 0, none⟩), .int .i64 a] w (MPost w mb O { s with look := a % 2 }) := by
  have hm := h.set_ (h.c.setLook (a % 2)) (h.ok.cells_ h.ok.store h.ok.stl (by omega) h.ok.move h.ok.mode h.ok.peak)
  have HP := Lib.hid (MPost.here hm (h.frSet _ _))
  have c := h.blk.cell 42
  rw [h.c.c42] at c
  have f := h.blk.frozen 42
  clear h hm
  go_enter Try.func61, Try.ntmps61
  go_wp2_with fail
  refine (rest_m _ 2 _ (by decide) (by decide)).mono ?_
  rintro e w1 ⟨rfl, rfl⟩
  go_wp2
  go_end0
  exact HP.out
theorem free_deed (w : World) (mb : Nat) (O : Nat → Prop) (L : Lay) (s : St) (h : MaL w mb O L s) (a : Int) :
    Calls Try.prog 62 #[.pointer (some ⟨mb, 0, none⟩), .int .i64 a] w (MPost w mb O { s with move := a % 2 }) := by
  have hm := h.set_ (h.c.setMove (a % 2)) (h.ok.cells_ h.ok.store h.ok.stl h.ok.look (by omega) h.ok.mode h.ok.peak)
  have HP := Lib.hid (MPost.here hm (h.frSet _ _))
  have c := h.blk.cell 43
  rw [h.c.c43] at c
  have f := h.blk.frozen 43
  clear h hm
  go_enter Try.func62, Try.ntmps62
  go_wp2_with fail
  refine (rest_m _ 2 _ (by decide) (by decide)).mono ?_
  rintro e w1 ⟨rfl, rfl⟩
  go_wp2
  go_end0
  exact HP.out
theorem mode_deed (w : World) (mb : Nat) (O : Nat → Prop) (L : Lay) (s : St) (h : MaL w mb O L s) (a : Int) :
    Calls Try.prog 63 #[.pointer (some ⟨mb, 0, none⟩), .int .i64 a] w (MPost w mb O { s with mode := a % 6 }) := by
  have hm := h.set_ (h.c.setMode (a % 6)) (h.ok.cells_ h.ok.store h.ok.stl h.ok.look h.ok.move (by omega) h.ok.peak)
  have HP := Lib.hid (MPost.here hm (h.frSet _ _))
  have c := h.blk.cell 44
  rw [h.c.c44] at c
  have f := h.blk.frozen 44
  clear h hm
  go_enter Try.func63, Try.ntmps63
  go_wp2_with fail
  refine (rest_m _ 6 _ (by decide) (by decide)).mono ?_
  rintro e w1 ⟨rfl, rfl⟩
  go_wp2
  go_end0
  exact HP.out

theorem at_no {l : List Int} {x : Int} (h : ¬ (0 ≤ x ∧ x < l.length)) : at_ l x = 0 := by unfold at_; rw [if_neg h]
theorem at_yes {l : List Int} {i : Nat} {v : Int} (h : l[i]? = some v) : at_ l i = v := by
  have := (List.getElem?_eq_some_iff.1 h).1
  unfold at_
  rw [if_pos (by omega), Int.toNat_natCast, List.getD_eq_getElem?_getD, h]
  rfl
theorem read_any (w : World) (mb : Nat) (O : Nat → Prop) (L : Lay) (s : St) (h : MaL w mb O L s) (x : Int) (r : List Int) (hs : s.stack = x :: r) (A : Option Addr) (l : List Int) (c g off : Nat) (hll : l.length ≤ 1000000)
    (hA : 0 < l.length → A = some ⟨g, off, none⟩) (hrow : ∀ w', Took w mb O s r 1 w' → ∀ (i : Nat) v, l[i]? = some v → w'.cell? ⟨g, off + i, none⟩ = some (.int .i64 v)) :
    Calls Try.prog 65 #[.pointer (some ⟨mb, 0, none⟩), .slice A l.length c] w (MPost w mb O (push (at_ l x) { s with stack := r })) := by
  have H := Lib.hid h
  have HS := Lib.hid hs
  have hl := h.ok.slen
  rw [hs, List.length_cons] at hl
  have HR := Lib.hid hrow
  clear h hs hrow
  by_cases hx : 0 ≤ x ∧ x < l.length
  · obtain ⟨i, rfl⟩ : ∃ i : Nat, x = i := ⟨x.toNat, by omega⟩
    have hil : i < l.length := by omega
    have HA := Lib.hid (hA (by omega))
    obtain ⟨v, hv⟩ : ∃ v, l[i]? = some v := ⟨_, List.getElem?_eq_getElem hil⟩
    have HV := Lib.hid hv
    have e := HA.out
    subst e
    clear hv hA hx HA
    go_enter Try.func65, Try.ntmps65
    go_wp2_with fail
    refine (take1_new w mb O L s H.out _ r HS.out _).mono ?_
    rintro e w' ⟨rfl, ht, hb1⟩; obtain ⟨L', hM⟩ := ht.ma; have HM := Lib.hid hM; have HT := Lib.hid ht; have hlt := ht.lt; have b1 := hb1.cell 0; have b1l := hb1.lt; have b1f := hb1.frozen 0; simp only [List.getElem?_toArray, List.getElem?_cons_zero] at b1; clear ht hM hb1
    have c0 := HR.out w' HT.out i v HV.out
    go_wp2_with fail
    refine (leave1_new w' mb O L' _ HM.out _ (by simp only; omega)).mono ?_
    intro e w9 hp; have HP := Lib.hid (hp.from_ HT.out.fr); obtain ⟨rfl, _⟩ := hp; go_wp2; go_end0
    rw [at_yes HV.out]
    exact HP.out
  · have HX := Lib.hid hx
    have h0 := at_no hx
    rw [h0]
    clear h0 hA
    by_cases h0 : 0 ≤ x
    · have h1 : ¬ x < l.length := fun e => hx ⟨h0, e⟩
      clear hx
      go_enter Try.func65, Try.ntmps65
      go_wp2_with fail
      refine (take1_new w mb O L s H.out x r HS.out _).mono ?_
      rintro e w' ⟨rfl, ht, hb1⟩; obtain ⟨L', hM⟩ := ht.ma; have HM := Lib.hid hM; have HT := Lib.hid ht; have hlt := ht.lt; have b1 := hb1.cell 0; have b1l := hb1.lt; have b1f := hb1.frozen 0; simp only [List.getElem?_toArray, List.getElem?_cons_zero] at b1; clear ht hM hb1
      go_wp2_with fail
      refine (leave1_new w' mb O L' _ HM.out _ (by simp only; omega)).mono ?_
      intro e w9 hp; have HP := Lib.hid (hp.from_ HT.out.fr); obtain ⟨rfl, _⟩ := hp; go_wp2; go_end0; exact HP.out
    · clear hx
      go_enter Try.func65, Try.ntmps65
      go_wp2_with fail
      refine (take1_new w mb O L s H.out x r HS.out _).mono ?_
      rintro e w' ⟨rfl, ht, hb1⟩; obtain ⟨L', hM⟩ := ht.ma; have HM := Lib.hid hM; have HT := Lib.hid ht; have hlt := ht.lt; have b1 := hb1.cell 0; have b1l := hb1.lt; have b1f := hb1.frozen 0; simp only [List.getElem?_toArray, List.getElem?_cons_zero] at b1; clear ht hM hb1
      go_wp2_with fail
      refine (leave1_new w' mb O L' _ HM.out _ (by simp only; omega)).mono ?_
      intro e w9 hp; have HP := Lib.hid (hp.from_ HT.out.fr); obtain ⟨rfl, _⟩ := hp; go_wp2; go_end0; exact HP.out
theorem put_no {l : List Int} {x v : Int} (h : ¬ (0 ≤ x ∧ x < l.length)) : put_ l x v = l := by unfold put_; rw [if_neg h]
theorem put_yes {l : List Int} {i : Nat} {v : Int} (h : i < l.length) : put_ l i v = l.set i v := by
  unfold put_
  rw [if_pos (by omega), Int.toNat_natCast]
theorem write_no (w : World) (mb : Nat) (O : Nat → Prop) (L : Lay) (s : St) (h : MaL w mb O L s) (x y : Int) (r : List Int) (hs : s.stack = y :: x :: r) (A : Option Addr) (n c : Nat) (_hll : n ≤ 1000000) (hx : ¬ (0 ≤ x ∧ x < n)) :
    Calls Try.prog 67 #[.pointer (some ⟨mb, 0, none⟩), .slice A n c] w (MPost w mb O { s with stack := r }) := by
  have H := Lib.hid h
  have HS := Lib.hid hs
  clear h hs
  by_cases h0 : 0 ≤ x
  · have h1 : ¬ x < n := fun e => hx ⟨h0, e⟩
    clear hx
    go_enter Try.func67, Try.ntmps67
    go_wp2_with fail
    refine (take2_new w mb O L s H.out x y r HS.out _ _).mono ?_
    rintro e w' ⟨rfl, ht, hb1, hb2⟩; obtain ⟨L', hM⟩ := ht.ma; have HM := Lib.hid hM; have HT := Lib.hid ht; have hlt := ht.lt; have b1 := hb1.cell 0; have b1l := hb1.lt; have b1f := hb1.frozen 0; have b2 := hb2.cell 0; have b2l := hb2.lt; have b2f := hb2.frozen 0; simp only [List.getElem?_toArray, List.getElem?_cons_zero] at b1 b2; clear ht hM hb1 hb2
    go_wp2
    go_end0
    exact .here HM.out HT.out.fr
  · clear hx
    go_enter Try.func67, Try.ntmps67
    go_wp2_with fail
    refine (take2_new w mb O L s H.out x y r HS.out _ _).mono ?_
    rintro e w' ⟨rfl, ht, hb1, hb2⟩; obtain ⟨L', hM⟩ := ht.ma; have HM := Lib.hid hM; have HT := Lib.hid ht; have hlt := ht.lt; have b1 := hb1.cell 0; have b1l := hb1.lt; have b1f := hb1.frozen 0; have b2 := hb2.cell 0; have b2l := hb2.lt; have b2f := hb2.frozen 0; simp only [List.getElem?_toArray, List.getElem?_cons_zero] at b1 b2; clear ht hM hb1 hb2
    go_wp2
    go_end0
    exact .here HM.out HT.out.fr
theorem write_yes (w : World) (mb : Nat) (O : Nat → Prop) (L : Lay) (s s' : St) (h : MaL w mb O L s) (i : Nat) (y : Int) (r : List Int) (hs : s.stack = y :: (i : Int) :: r) (n c g off : Nat) (_hll : n ≤ 1000000) (hi : i < n)
    (hrow : ∀ w', Took w mb O s r 2 w' → (∃ L'', MaL (w'.setCell ⟨g, off + i, none⟩ (.int .i64 y)) mb O L'' s' ∧ Fr O w' (w'.setCell ⟨g, off + i, none⟩ (.int .i64 y))) ∧ (∃ u, w'.cell? ⟨g, off + i, none⟩ = some u) ∧ w'.frozen? ⟨g, off + i, none⟩ = false) :
    Calls Try.prog 67 #[.pointer (some ⟨mb, 0, none⟩), .slice (some ⟨g, off, none⟩) n c] w (MPost w mb O s') := by
  have H := Lib.hid h
  have HS := Lib.hid hs
  have HR := Lib.hid hrow
  clear h hs hrow
  go_enter Try.func67, Try.ntmps67
  go_wp2_with fail
  refine (take2_new w mb O L s H.out i y r HS.out _ _).mono ?_
  rintro e w' ⟨rfl, ht, hb1, hb2⟩; obtain ⟨L', hM⟩ := ht.ma; have HM := Lib.hid hM; have HT := Lib.hid ht; have hlt := ht.lt; have b1 := hb1.cell 0; have b1l := hb1.lt; have b1f := hb1.frozen 0; have b2 := hb2.cell 0; have b2l := hb2.lt; have b2f := hb2.frozen 0; simp only [List.getElem?_toArray, List.getElem?_cons_zero] at b1 b2; clear ht hM hb1 hb2
  obtain ⟨⟨L'', h1⟩, ⟨u, h2⟩, h3⟩ := HR.out w' HT.out
  have H1 := Lib.hid h1
  clear h1
  go_wp2
  go_end0
  exact .here H1.out.1 (HT.out.fr.trans H1.out.2)
end Go.Proofs.Ythdmdgmchkhngaa

/- (*Machine).take and leave: their contracts. -/
import Derived.Test.YthdmdgmchkhngaaMaC
import Derived.LoopN
namespace Go.Proofs.Ythdmdgmchkhngaa
open Go.RowKit Mc

theorem ints_rev_get (m : List Int) (x : Int) : (ints (x :: m).reverse)[m.length]? = some (.int .i64 x) := by
  unfold ints
  rw [List.reverse_cons, List.getElem?_map, List.getElem?_append_right (by simp)]
  simp
theorem ints_rev_get2 (m : List Int) (x y : Int) : (ints (x :: y :: m).reverse)[m.length]? = some (.int .i64 y) := by
  unfold ints
  rw [List.reverse_cons, List.getElem?_map, List.getElem?_append_left (by simp), List.reverse_cons, List.getElem?_append_right (by simp)]
  simp
theorem ints_rev_take (m a : List Int) : (ints (a ++ m).reverse).take (m.length * 1) = ints m.reverse := by
  unfold ints
  rw [← List.map_take, List.reverse_append, Nat.mul_one]
  congr 1
  exact List.take_left' (by simp)

theorem Mc.Ok.stack_ {s : St} (h : Ok s) {l : List Int} (h1 : ∀ x ∈ l, K32 x) (h2 : l.length ≤ 32) : Ok { s with stack := l } :=
  ⟨h1, h2, h.cvt, h.store, h.stl, h.cur, h.org, h.orgl, h.touch, h.tl, h.size, h.look, h.move, h.mode, h.peak, h.frames, h.flen, h.funcs, h.fnl, h.cont, h.contl, h.curl, h.cvl, h.endl⟩

section
variable {w : World} {mb : Nat} {O : Nat → Prop} {L : Lay} {s : St}
/-- values are taken: what is left -/
theorem MaL.taken (h : MaL w mb O L s) {a r : List Int} (hs : s.stack = a ++ r) {A : Option Addr} {n c : Nat} (hv : L.sk = .slice A n c) {w1 : World} (hk : ∀ k, O k → w1.heap[k]? = w.heap[k]?) (hz : w1.heap.size = w.heap.size) :
    ∃ L', MaL (w1.setCell ⟨mb, 40, none⟩ (.slice A r.length c)) mb O L' { s with stack := r } := by
  have hn : n = (a ++ r).length := by
    obtain ⟨A', c', e, _⟩ := h.sk.form
    rw [hv] at e
    injection e with _ e
    rw [e, hs]
  have h1 : MaL w1 mb O L s := h.keep hk (fun _ h => h) (fun k hk' => by have := h.olt k hk'; omega)
  have hrow := h1.sk.take (m := r.length) (by rw [hs]; simp) (A := A) (c := c) (by rw [hv, hn, hs])
  rw [hs, ints_rev_take] at hrow
  have hkk : ∀ k, k ≠ mb → (w1.setCell ⟨mb, 40, none⟩ (.slice A r.length c)).heap[k]? = w1.heap[k]? := fun k hk => Below.heap_setCell _ _ _ _ hk
  refine ⟨_, h1.stack (u := .slice A r.length c) (l := r) (h1.blk.set_ 40 _) (h1.c.setSk _ _) (hrow.keep (fun g hg => hkk g (fun e => ?_)) (fun _ h => h)) ?_ (fun k _ hk _ => hkk k hk) (fun _ h => h) (fun k hk' => by have := h1.olt k hk'; simpa [World.setCell] using this) (h.ok.stack_ (fun x hx => h.ok.stack x (by rw [hs]; exact List.mem_append_right _ hx)) (by have := h.ok.slen; rw [hs, List.length_append] at this; omega))⟩
  · exact hrow.ne_blk h1.blk (by decide) hg e
  · intro g hg
    rw [hv]
    cases A with
    | none => simp [Value.ownBlock] at hg
    | some a => exact .inl hg
end

set_option maxHeartbeats 1000000 in
theorem take1_any (w : World) (mb : Nat) (O : Nat → Prop) (L : Lay) (s : St) (h : MaL w mb O L s) (x : Int) (r : List Int) (hs : s.stack = x :: r) (b1 sb : Nat) (u1 : Value) (h1 : Blk w b1 3 #[u1]) (hsb : Blk w sb 76 #[.pointer (some ⟨b1, 0, none⟩)]) (ho1 : ¬ O b1) :
    Calls Try.prog 36 #[.pointer (some ⟨mb, 0, none⟩), .slice (some ⟨sb, 0, none⟩) 1 1] w fun e w' => e = .returned (.tuple #[]) ∧ (∃ L', MaL w' mb O L' { s with stack := r }) ∧ Blk w' b1 3 #[.int .i64 x] ∧ Fr (fun k => O k ∨ k = b1) w w' ∧ ∃ v, w' = (w.setCell ⟨b1, 0, none⟩ (.int .i64 x)).setCell ⟨mb, 40, none⟩ v := by
  have hsk := h.sk
  rw [hs] at hsk
  obtain ⟨g, c, hv, hc1, hc2, hg, hgl, hcells, hfz⟩ := hsk.at_ (by simp)
  have d0 := hcells r.length (.int .i64 x) (ints_rev_get r x)
  have c40 := h.blk.cell 40
  rw [h.c.c40, hv] at c40
  have f40 := h.blk.frozen 40
  have lmb := h.blk.lt
  have x0 := hsb.cell 0
  have x1 := hsb.lt
  have y0 := h1.cell 0
  have y1 := h1.frozen 0
  have y2 := h1.lt
  simp only [List.getElem?_toArray, List.getElem?_cons_zero] at x0 y0
  have n1 : b1 ≠ mb := fun e => ho1 (e ▸ h.mbO)
  have n1' := n1.symm
  have n2 : b1 ≠ g := fun e => ho1 (e ▸ hg)
  have n2' := n2.symm
  have hlen := h.ok.slen
  rw [hs] at hlen
  simp only [List.length_cons] at hlen c40
  have hk : ∀ k, O k → (w.setCell ⟨b1, 0, none⟩ (.int .i64 x)).heap[k]? = w.heap[k]? := fun k hk => Below.heap_setCell _ _ _ _ (fun (e : k = b1) => ho1 (e ▸ hk))
  have hM := h.taken (a := [x]) (r := r) (by rw [hs]; rfl) hv hk (by simp [World.setCell])
  have hB : Blk ((w.setCell ⟨b1, 0, none⟩ (.int .i64 x)).setCell ⟨mb, 40, none⟩ (.slice (some ⟨g, 0, none⟩) r.length c)) b1 3 #[.int .i64 x] := (h1.set_ 0 _).far n1 _
  have hF : Fr (fun k => O k ∨ k = b1) w ((w.setCell ⟨b1, 0, none⟩ (.int .i64 x)).setCell ⟨mb, 40, none⟩ (.slice (some ⟨g, 0, none⟩) r.length c)) := ((Fr.refl _ _).setCell (.inl (.inr rfl)) _).setCell (.inl (.inl h.mbO)) _
  have HM := Lib.hid hM
  have HB := Lib.hid hB
  have HF := Lib.hid hF
  clear hM hB hF hk hcells hfz hsk h hsb h1 hs hv hc2
  generalize hm : r.length = m at *
  have hcm : m ≤ c := by simp at hc1; omega
  clear hc1 hm
  go_enter Try.func36, Try.ntmps36
  go_wp2
  refine wp_loop_rounds 2 ?_
  rw [rounds_succ]
  go_wp2
  rw [rounds_succ]
  go_wp2
  go_end0
  exact ⟨rfl, HM.out, HB.out, HF.out, _, rfl⟩

set_option maxHeartbeats 1000000 in
theorem take2_any (w : World) (mb : Nat) (O : Nat → Prop) (L : Lay) (s : St) (h : MaL w mb O L s) (x y : Int) (r : List Int) (hs : s.stack = x :: y :: r) (b1 b2 sb : Nat) (u1 u2 : Value) (h1 : Blk w b1 3 #[u1]) (h2 : Blk w b2 3 #[u2]) (h12 : b1 ≠ b2) (hsb : Blk w sb 76 #[.pointer (some ⟨b1, 0, none⟩), .pointer (some ⟨b2, 0, none⟩)]) (ho1 : ¬ O b1) (ho2 : ¬ O b2) :
    Calls Try.prog 36 #[.pointer (some ⟨mb, 0, none⟩), .slice (some ⟨sb, 0, none⟩) 2 2] w fun e w' => e = .returned (.tuple #[]) ∧ (∃ L', MaL w' mb O L' { s with stack := r }) ∧ Blk w' b1 3 #[.int .i64 y] ∧ Blk w' b2 3 #[.int .i64 x] ∧ Fr (fun k => O k ∨ k = b1 ∨ k = b2) w w' ∧ ∃ v, w' = ((w.setCell ⟨b1, 0, none⟩ (.int .i64 y)).setCell ⟨b2, 0, none⟩ (.int .i64 x)).setCell ⟨mb, 40, none⟩ v := by
  have hsk := h.sk
  rw [hs] at hsk
  obtain ⟨g, c, hv, hc1, hc2, hg, hgl, hcells, hfz⟩ := hsk.at_ (by simp)
  have d0 := hcells r.length (.int .i64 y) (ints_rev_get2 r x y)
  have d1 := hcells (r.length + 1) (.int .i64 x) (ints_rev_get (y :: r) x)
  have c40 := h.blk.cell 40
  rw [h.c.c40, hv] at c40
  have f40 := h.blk.frozen 40
  have lmb := h.blk.lt
  have x0 := hsb.cell 0
  have x01 := hsb.cell 1
  have x1 := hsb.lt
  have y0 := h1.cell 0
  have y1 := h1.frozen 0
  have y2 := h1.lt
  have z0 := h2.cell 0
  have z1 := h2.frozen 0
  have z2 := h2.lt
  simp only [List.getElem?_toArray, List.getElem?_cons_zero, List.getElem?_cons_succ] at x0 x01 y0 z0
  have n1 : b1 ≠ mb := fun e => ho1 (e ▸ h.mbO)
  have n1' := n1.symm
  have n2 : b1 ≠ g := fun e => ho1 (e ▸ hg)
  have n2' := n2.symm
  have n3 : b2 ≠ mb := fun e => ho2 (e ▸ h.mbO)
  have n3' := n3.symm
  have n4 : b2 ≠ g := fun e => ho2 (e ▸ hg)
  have n4' := n4.symm
  have n5 : sb ≠ b1 := hsb.ne_ h1 (by decide)
  have n6 : sb ≠ b2 := hsb.ne_ h2 (by decide)
  have n7 := h12.symm
  have hlen := h.ok.slen
  rw [hs] at hlen
  simp only [List.length_cons] at hlen c40
  have hk : ∀ k, O k → ((w.setCell ⟨b1, 0, none⟩ (.int .i64 y)).setCell ⟨b2, 0, none⟩ (.int .i64 x)).heap[k]? = w.heap[k]? := fun k hk => (Below.heap_setCell _ _ _ _ (fun (e : k = b2) => ho2 (e ▸ hk))).trans (Below.heap_setCell _ _ _ _ (fun (e : k = b1) => ho1 (e ▸ hk)))
  have hM := h.taken (a := [x, y]) (r := r) (by rw [hs]; rfl) hv hk (by simp [World.setCell])
  have hB : Blk (((w.setCell ⟨b1, 0, none⟩ (.int .i64 y)).setCell ⟨b2, 0, none⟩ (.int .i64 x)).setCell ⟨mb, 40, none⟩ (.slice (some ⟨g, 0, none⟩) r.length c)) b1 3 #[.int .i64 y] := ((h1.set_ 0 _).far h12 _).far n1 _
  have hB2 : Blk (((w.setCell ⟨b1, 0, none⟩ (.int .i64 y)).setCell ⟨b2, 0, none⟩ (.int .i64 x)).setCell ⟨mb, 40, none⟩ (.slice (some ⟨g, 0, none⟩) r.length c)) b2 3 #[.int .i64 x] := ((h2.far n7 _).set_ 0 _).far n3 _
  have hF : Fr (fun k => O k ∨ k = b1 ∨ k = b2) w (((w.setCell ⟨b1, 0, none⟩ (.int .i64 y)).setCell ⟨b2, 0, none⟩ (.int .i64 x)).setCell ⟨mb, 40, none⟩ (.slice (some ⟨g, 0, none⟩) r.length c)) := (((Fr.refl _ _).setCell (.inl (.inr (.inl rfl))) _).setCell (.inl (.inr (.inr rfl))) _).setCell (.inl (.inl h.mbO)) _
  have HM := Lib.hid hM
  have HB := Lib.hid hB
  have HB2 := Lib.hid hB2
  have HF := Lib.hid hF
  clear hM hB hB2 hF hk hcells hfz hsk h hsb h1 h2 hs hv hc2
  generalize hm : r.length = m at *
  have hcm : m ≤ c := by simp at hc1; omega
  clear hc1 hm
  go_enter Try.func36, Try.ntmps36
  go_wp2
  refine wp_loop_rounds 3 ?_
  rw [rounds_succ]
  go_wp2
  rw [rounds_succ]
  go_wp2
  rw [rounds_succ]
  go_wp2
  go_end0
  exact ⟨rfl, HM.out, HB.out, HB2.out, HF.out, _, rfl⟩
end Go.Proofs.Ythdmdgmchkhngaa

/- (*Machine).leave: its contract. -/
import Derived.Test.YthdmdgmchkhngaaMaD
import Derived.Deep.QuietTactic
import Derived.BigQuiet
namespace Go.Proofs.Ythdmdgmchkhngaa
open Go.RowKit Mc

theorem info_m {P : Program} {t : TypeId} {z : Value} {n b : Nat} (h : (P.info? t).map (fun i => (i.zero, i.size, i.bytes)) = some (some z, n, b)) : ∃ i, P.info? t = some i ∧ i.zero = some z ∧ i.size = n ∧ i.bytes = b := by
  cases hi : P.info? t with
  | none => rw [hi] at h; cases h
  | some i =>
    rw [hi] at h
    simp only [Option.map_some, Option.some.injEq, Prod.mk.injEq] at h
    exact ⟨i, rfl, h.1, h.2.1, h.2.2⟩
theorem info_int : (Try.prog.info? 3).map (fun i => (i.zero, i.size, i.bytes)) = some (some (.int .i64 0), 1, 8) := by kernel_rfl

/-- append onto a machine's row, in a region that draws its order -/
theorem step_row {P : Program} (w : World) {ops : Array Oper} {o : Oper} {a : Act} {K : Act → World → Prop} {Q : Exit → Act → World → Prop} {E : Prop} (hgd : o.guard = none) (s x : Operand) (t : TypeId)
    (ho : o.op = .call { callee := .builtin .append, args := #[s, x], argTypes := #[t, t] }) (e : TypeId) (i : TypeInfo) (z : Value) (size bytes : Nat) (ht : P.underlying t = some (.slice e)) (hi : P.info? e = some i) (hz : i.zero = some z)
    (hsize : i.size = size) (hby : i.bytes = bytes) (hzs : z.cells.size = size) (hsz : 0 < size)
    (O : Nat → Prop) (v : Value) (n : Nat) (xs : List Value) (hs : a.eval s = v) (hrow : Row w O e size v n xs)
    (B : Nat) (A : Option Addr) (m c : Nat) (news : List Value) (hx : a.eval x = .slice A m c) (hr : Reads w B size A m news) (h1 : ∀ u ∈ news, u.oneCell' = true)
    (h63 : n + m ≤ maxLen) (hbytes : (n + m) * bytes ≤ 140737488355328)
    (h : ∀ v' w', Row w' (ext O w w') e size v' (n + m) (xs ++ news) → w.grownBy w' v.ownBlock → (∀ g, v'.ownBlock = some g → v.ownBlock = some g ∨ w.heap.size ≤ g) → K (a.put o.dst v') w') :
    if Region.wanted o (yielded ops a.tmps) = true then Oper.wp P o a w K Q else E := by
  have hw : Region.wanted o (yielded ops a.tmps) = true := by simp [Region.wanted, hgd]
  rw [if_pos hw]
  exact wp_append_any w s x t ho 0 e i z size bytes ht hi hz hsize hby hzs hsz v n xs hs hrow.1 B A m c news hx hr h1 h63 hbytes (Nat.zero_le _)
    fun v' w' h3 h4 h5 => h v' w' ⟨h3, fun g hg => by
      rcases h5 with h5 | h5
      · exact .inl (hrow.2 g (h5 ▸ hg))
      · rw [h5] at hg; injection hg with hg; subst hg; exact .inr ⟨Nat.le_refl _, (h3.lt _ h5).2⟩⟩ h4 fun g hg => by
      rcases h5 with h5 | h5
      · exact .inl (h5 ▸ hg)
      · rw [h5] at hg; injection hg with hg; exact .inr (by omega)

theorem Reads.blk {w : World} {g : Nat} {t : TypeId} {cs : List Value} (h : Blk w g t cs.toArray) (size n : Nat) (hl : cs.length = n * size) : Reads w w.heap.size size (some ⟨g, 0, none⟩) n cs :=
  ⟨hl, fun _ => ⟨g, 0, rfl, h.lt, fun j u hu => by rw [Nat.zero_add, h.cell]; simpa using hu⟩⟩

/-- a value more on the stack, the row append's -/
theorem MaL.pushed {w w1 : World} {mb : Nat} {O : Nat → Prop} {L : Lay} {s : St} (h : MaL w mb O L s) {v : Value} {x : Int} (hx : K32 x) (hl : s.stack.length < 32)
    (hrow : Row w1 (ext O w w1) 3 1 v (s.stack.length + 1) (ints s.stack.reverse ++ [.int .i64 x])) (hg : w.grownBy w1 L.sk.ownBlock) (hnew : ∀ g, v.ownBlock = some g → L.sk.ownBlock = some g ∨ w.heap.size ≤ g) :
    (∃ cs, Blk w1 mb 62 cs ∧ cs.size = 50) ∧ (∃ L', MaL (w1.setCell ⟨mb, 40, none⟩ v) mb (ext O w w1) L' { s with stack := x :: s.stack }) ∧ Fr O w (w1.setCell ⟨mb, 40, none⟩ v) := by
  have hmb : Blk w1 mb 62 L.cs := h.blk.grown hg fun e => h.sk.ne_blk h.blk (by decide) e.symm rfl
  have hz := hg.size
  refine ⟨⟨_, hmb, h.c.sz⟩, ⟨_, h.stack (u := v) (l := x :: s.stack) (hmb.set_ 40 v) (h.c.setSk _ _) ?_ hnew ?_ (fun _ h => .inl h) ?_ (h.ok.stack_ ?_ ?_)⟩, ?_⟩
  · have := hrow.keep (w' := w1.setCell ⟨mb, 40, none⟩ v) (O' := ext O w w1) (fun g hgb => Below.heap_setCell _ _ _ _ (fun (e : g = mb) => hrow.ne_blk hmb (by decide) hgb e)) (fun _ h => h)
    simpa [ints] using this
  · intro k hk h1 h2
    rw [Below.heap_setCell _ _ _ _ h1]
    exact hg.block k (h.olt k hk) h2
  · intro k hk
    have := h.ext_lt hz k hk
    simpa [World.setCell] using this
  · intro y hy
    rcases List.mem_cons.1 hy with rfl | hy
    · exact hx
    · exact h.ok.stack y hy
  · simp only [List.length_cons]; omega
  · exact Fr.setCell (⟨hg.os, hg.tape, hg.output, hg.size, fun k hk hs => hg.block k hk (fun e => hs (h.sk.2 k e.symm))⟩) (.inl h.mbO) _

/-- leave's rounds -/
def LInv (w : World) (mb : Nat) (O : Nat → Prop) (s : St) (vb : Nat) (vs : List Int) (i : Value) (wx : World) : Prop :=
  ∃ (k : Nat) (L' : Lay), k ≤ vs.length ∧ i = .int .i64 k ∧ MaL wx mb (ext O w wx) L' { s with stack := ((vs.take k).map k32).reverse ++ s.stack } ∧ Blk wx vb 3 (ints vs).toArray ∧ Fr O w wx
theorem LInv.end_ {w : World} {mb : Nat} {O : Nat → Prop} {s : St} {vs : List Int} {wx : World} {L' : Lay} {k : Nat} (h1 : k ≤ vs.length) (h2 : ¬ (k : Int) < vs.length) (h : MaL wx mb (ext O w wx) L' { s with stack := ((vs.take k).map k32).reverse ++ s.stack }) (hf : Fr O w wx) : MPost w mb O { s with stack := (vs.map k32).reverse ++ s.stack } (.returned (.tuple #[])) wx := by
  rw [List.take_of_length_le (by omega)] at h
  exact ⟨rfl, ⟨_, h⟩, hf⟩

theorem LInv.next {w : World} {mb : Nat} {O : Nat → Prop} {s : St} {vb : Nat} {vs : List Int} {wr w6 : World} {L2 : Lay} {k : Nat} {x : Int} {o : Obj} {v : Value} (hx : vs[k]? = some x) (hf : Fr O w wr) (hvb : Blk wr vb 3 (ints vs).toArray) (hv : ¬ O vb)
    (h : MaL (w6.setCell ⟨mb, 40, none⟩ v) mb (ext (ext O w wr) (wr.drew.alloc o) w6) L2 { s with stack := k32 x :: (((vs.take k).map k32).reverse ++ s.stack) }) (hF : Fr (ext O w wr) (wr.drew.alloc o) (w6.setCell ⟨mb, 40, none⟩ v)) (hvw : vb < w.heap.size) :
    LInv w mb O s vb vs (.int .i64 ((k : Int) + 1)) (w6.setCell ⟨mb, 40, none⟩ v) := by
  have hlt : k < vs.length := (List.getElem?_eq_some_iff.1 hx).1
  have hz := hF.size
  have hz1 := hf.size
  simp [World.setCell] at hz
  have h1 : ((vs.take (k + 1)).map k32).reverse ++ s.stack = k32 x :: (((vs.take k).map k32).reverse ++ s.stack) := by
    rw [List.take_add_one, hx]; simp
  refine ⟨k + 1, L2, hlt, by simp, ?_, ?_, Fr.ext hf ?_⟩
  · rw [h1]
    refine h.mono (fun i hi => ?_) (fun i hi => ?_)
    · rcases hi with (hi | hi) | hi
      · exact .inl hi
      · exact .inr ⟨hi.1, by simp [World.setCell]; omega⟩
      · refine .inr ⟨by have := hi.1; simp at this; omega, by have := hi.2; simpa [World.setCell] using this⟩
    · rcases hi with hi | hi
      · exact h.olt i (.inl (.inl hi))
      · exact hi.2
  · have hb1 : Blk (wr.drew.alloc o) vb 3 (ints vs).toArray := hvb.drew.alloc o
    exact hF.blk hb1 (fun e => by rcases e with e | e; exact hv e; omega)
  · exact ((Fr.refl _ wr).drew.alloc o).trans hF

set_option maxHeartbeats 1000000 in
theorem leave_any (w : World) (mb : Nat) (O : Nat → Prop) (L : Lay) (s : St) (h : MaL w mb O L s) (vb : Nat) (vs : List Int) (hvb : Blk w vb 3 (ints vs).toArray) (hv : ¬ O vb) (hlen : s.stack.length + vs.length ≤ 32) :
    Calls Try.prog 34 #[.pointer (some ⟨mb, 0, none⟩), .slice (some ⟨vb, 0, none⟩) vs.length vs.length] w (MPost w mb O { s with stack := (vs.map k32).reverse ++ s.stack }) := by
  obtain ⟨i0, hi0, hi1, hi2, hi3⟩ := info_m info_int
  have H0 : Hid (LInv w mb O s vb vs (.int .i64 0) w) := Lib.hid ⟨0, L, Nat.zero_le _, rfl, by simpa using h.mono (fun _ h => .inl h) (h.ext_lt (Nat.le_refl _)), hvb, Fr.refl _ _⟩
  have hvbl := hvb.lt
  clear h hvb
  go_enter Try.func34, Try.ntmps34
  go_wp2
  go_loopw [8] (fun i wr => LInv w mb O s vb vs i wr) (fun i _ => vs.length - (intOf i).toNat)
  case atStart => exact H0.out
  case round =>
    clear H0
    obtain ⟨k, L', hk, rfl, hM, hvb, hfr⟩ := hrel
    by_cases hlt : (k : Int) < vs.length
    · obtain ⟨x, hxk⟩ : ∃ x, vs[k]? = some x := ⟨_, List.getElem?_eq_getElem (by omega)⟩
      have d0 := hvb.cell k
      simp only [ints, List.getElem?_toArray, List.getElem?_map, hxk, Option.map_some] at d0
      have d1 := hvb.lt
      have HM := Lib.hid hM
      have HV := Lib.hid hvb
      have HF := Lib.hid hfr
      have HX := Lib.hid hxk
      clear hM hvb hfr hxk
      go_wp2_with fail
      have hMd := HM.out.drew
      have hS : wr.drew.cell? ⟨mb, 40, none⟩ = some L'.sk := by rw [hMd.blk.cell, hMd.c.c40]
      have hMa := hMd.alloc (.cells #[.int .i64 (k32 x)] 3)
      have hS2 : (wr.drew.alloc (.cells #[.int .i64 (k32 x)] 3)).cell? ⟨mb, 40, none⟩ = some L'.sk := by rw [hMa.blk.cell, hMa.c.c40]
      have hsl : (((vs.take k).map k32).reverse ++ s.stack).length < 32 := by simp; omega
      have HMA := Lib.hid hMa
      have _hmbl := hMd.blk.lt
      clear hMd hMa
      refine wp_region_seq (fun i => !([6, 7, 8, 11] : List Nat).contains i) (fun i => ([4] : List Nat).contains i) (fun i => ([6, 7] : List Nat).contains i) [0, 1, 2, 3, 4, 5, 6, 7, 8, 9, 10, 11] (fun w' : World => w'.cell? ⟨mb, 40, none⟩ = some L'.sk) (by kernel_rfl) (by kernel_rfl) (by kernel_rfl) (by kernel_rfl) ?_
      refine wpSeq_pure (v := _) rfl rfl rfl (by kernel_rfl) (fun _ _ _ h => h) (fun wq => by first | (go_simp; done) | (go_simp; rfl)) ?_
      refine wpSeq_pure (v := _) rfl rfl rfl (by kernel_rfl) (fun _ _ _ h => h) (fun wq => by first | (go_simp; done) | (go_simp; rfl)) ?_
      refine wpSeq_pure (v := _) rfl rfl rfl (by kernel_rfl) (fun _ _ _ h => h) (fun wq => by first | (go_simp; done) | (go_simp; rfl)) ?_
      refine wpSeq_pure (v := _) rfl rfl rfl (by kernel_rfl) (fun _ _ _ h => h) (fun wq => by first | (go_simp; done) | (go_simp; rfl)) ?_
      refine wpSeq_load (v := _) rfl rfl (by kernel_rfl) (fun _ _ _ h => h) hS rfl (fun wq hq => by (try dsimp only at hq); first | (go_simp; done) | (go_simp; rfl)) ?_
      refine wpSeq_pure (v := _) rfl rfl rfl (by kernel_rfl) (fun _ _ _ h => h) (fun wq => by first | (go_simp; done) | (go_simp; rfl)) ?_
      refine wpSeq_heavy rfl rfl (fun K hK => ?_); go_simp
      refine (kept_any _ _).mono ?_
      rintro e w5 ⟨rfl, rfl⟩
      dsimp only
      refine hK _ _ (fun _ => hS) ?_; clear hK K
      refine wpSeq_heavy rfl rfl (fun K hK => ?_); go_simp
      refine hK _ _ (fun _ => hS2) ?_; clear hK K
      refine wpSeq_heavy rfl rfl (fun K hK => ?_)
      refine step_row _ rfl (.tmp 16) (.tmp 19) _ rfl 3 i0 _ 1 8 Try.underlying31 hi0 hi1 hi2 hi3 rfl (by decide) _ _ _ _ rfl HMA.out.sk _ _ 1 1 [.int .i64 (k32 x)] rfl (Reads.blk (cs := [.int .i64 (k32 x)]) (Blk.new _ _ _) 1 1 rfl) (by simp [Value.oneCell']) (by unfold maxLen; simp only; omega) (by simp only; omega) ?_
      intro v' w6 hrow hg hnew
      obtain ⟨Av, nv, cv, hve⟩ : ∃ A n c, v' = .slice A n c := by obtain ⟨A, c, e, _⟩ := hrow.form; exact ⟨A, _, c, e⟩
      obtain ⟨⟨cs, hcs, hcz⟩, ⟨L2, hM2⟩, hF2⟩ := HMA.out.pushed (k32_in x) hsl hrow hg hnew
      have hR : LInv w mb O s vb vs (.int .i64 ((k : Int) + 1)) (w6.setCell ⟨mb, 40, none⟩ v') := LInv.next HX.out HF.out HV.out hv hM2 hF2 hvbl
      have HR := Lib.hid hR
      obtain ⟨u40, hu40⟩ : ∃ u, cs[40]? = some u := ⟨_, Array.getElem?_eq_getElem (by omega)⟩
      have e0 := hcs.cell 40
      rw [hu40] at e0
      have e1 := hcs.frozen 40
      have e2 := hcs.lt
      clear hM2 hF2 hR hcs hrow hu40 hg hnew
      subst hve
      refine hK _ _ (fun h => by cases h) ?_; clear hK K
      refine wpSeq_pure (v := _) rfl rfl rfl (by kernel_rfl) (fun _ _ _ h => h) (fun wq => by first | (go_simp; done) | (go_simp; rfl)) ?_
      refine wpSeq_pure (v := _) rfl rfl rfl (by kernel_rfl) (fun _ _ _ h => h) (fun wq => by first | (go_simp; done) | (go_simp; rfl)) ?_
      refine wpSeq_heavy rfl rfl (fun K hK => ?_); go_simp
      refine hK _ _ (fun h => by cases h) ?_; clear hK K
      refine wpSeq_end ?_
      go_wp2
      go_roundw
      case rel => exact HR.out
      case measure => simp [intOf]; omega
    · go_wp2
      go_end0
      exact LInv.end_ hk (by omega) hM hfr
end Go.Proofs.Ythdmdgmchkhngaa

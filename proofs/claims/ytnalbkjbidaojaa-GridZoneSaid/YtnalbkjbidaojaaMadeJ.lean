/- fleuronref07's maker: lookups, their contract. -/
import Derived.Test.YtnalbkjbidaojaaMadeG
import Derived.Test.YtnalbkjbidaojaaMkA
namespace Go.Proofs.Ytnalbkjbidaojaa
open Go.RowKit

/-- a lookup: its kind, what it passes over, and its rules as a row of any kind -/
def lkR (N0 : Nat) : Repr N0 (Int × Bool × Value) where
  size := 3
  tys := []
  rel _ _ a cs := cs = [.int .i64 a.1, .bool a.2.1, a.2.2] ∧ I64 a.1 ∧ ∃ A n c, a.2.2 = .slice A n c
  len h := by obtain ⟨rfl, _⟩ := h; rfl
  keep h _ := h
  more h _ := h
  one h := by obtain ⟨rfl, _, A, n, c, e⟩ := h; rw [e]; simp [Value.oneCell']
theorem lookup_info : (Try.prog.info? 135).map (fun i => (i.zero, i.size, i.bytes)) = some (some (.agg #[.int .i64 0, .bool false, .slice none 0 0]), 3, 40) := by kernel_rfl
theorem rule_info : (Try.prog.info? 139).map (fun i => (i.zero, i.size, i.bytes)) = some (some (.agg #[.slice none 0 0, .slice none 0 0, .slice none 0 0, .slice none 0 0, .slice none 0 0, .int .i64 0]), 6, 128) := by kernel_rfl

/-- the lookups, and which may be called -/
structure LkA (N0 : Nat) (m : MkC) (w0 : World) (wx : World) (vl vc : Value) (l : List (Int × Bool × Value)) (cl : List Int) : Prop where
  lks : OwnAt (lkR N0) 135 w0.heap.size wx vl l
  calls : OwnAt (Repr.int (N0 := N0)) 3 w0.heap.size wx vc cl
  hmk : Mk wx {m with c5 := vl}
  fr : FrM m.M w0 wx
  hM : N0 ≤ m.M ∧ m.M < w0.heap.size
section
variable {N0 : Nat} {m : MkC} {w0 wx wy : World} {vl vc : Value} {l : List (Int × Bool × Value)} {cl : List Int}
theorem LkA.next (h : LkA N0 m w0 wx vl vc l cl) (hm : Mk wy {m with c5 := vl}) (hf : FrM m.M wx wy) : LkA N0 m w0 wy vl vc l cl := by
  obtain ⟨xM, hb⟩ := h.hmk.blk
  have hM := h.hM
  exact ⟨h.lks.fr hf hb (by simp [lkR]) hM.1, h.calls.fr hf hb (by simp [Repr.int]) hM.1, hm, h.fr.trans hf, hM⟩
theorem LkA.below (h : LkA N0 m w0 wx vl vc l cl) (hb : Below wx.heap.size wx wy) : LkA N0 m w0 wy vl vc l cl := by
  obtain ⟨at_, ha, hs, hBM, hbk, xs, hr, hx⟩ := h.hmk
  have hl := hbk.lt
  exact ⟨h.lks.below hb (Nat.le_refl _), h.calls.below hb (Nat.le_refl _), ⟨at_, ha, hs, hBM, hbk.below hb hl, xs, hr.below hb (by omega), hx⟩, h.fr.trans (Fr.of_below hb fun _ hk _ => hk), h.hM⟩
theorem LkA.alloc (h : LkA N0 m w0 wx vl vc l cl) (o : Obj) : LkA N0 m w0 (wx.alloc o) vl vc l cl := h.below ((Below.refl _ _).alloc (Nat.le_refl _) _)
theorem LkA.drew (h : LkA N0 m w0 wx vl vc l cl) : LkA N0 m w0 wx.drew vl vc l cl := h.below (Below.refl _ _).drew
/-- the lookups have grown -/
theorem LkA.pushLk (h : LkA N0 m w0 wx vl vc l cl) {A' : Option Addr} {n' c' : Nat} {l' : List (Int × Bool × Value)} (ho : OwnAt (lkR N0) 135 w0.heap.size wy (.slice A' n' c') l') (hg : wx.grownBy wy vl.ownBlock) :
    Mk wy {m with c5 := vl} ∧ LkA N0 m w0 (wy.setCell ⟨m.M, 5, none⟩ (.slice A' n' c')) (.slice A' n' c') vc l' cl := by
  have hM := h.hM
  have hrow := fun g e => (h.lks.block (g := g) e).1
  have hmk : Mk wy {m with c5 := vl} := h.hmk.grown h.lks hg (by decide) hM.2
  obtain ⟨xM, hb⟩ := hmk.blk
  have hc : OwnAt (Repr.int (N0 := N0)) 3 w0.heap.size wy vc cl := h.calls.grown hg fun g t' xs fz e hh => by
    obtain ⟨h1, _, ys, hy⟩ := h.lks.block e
    rw [hy] at hh
    injection hh with hh
    injection hh with _ ht
    subst ht
    exact ⟨by omega, by simp [Repr.int]⟩
  refine ⟨hmk, ho.setCell hb (by simp [lkR]) hM.1 _ _, hc.setCell hb (by simp [Repr.int]) hM.1 _ _, ?_, (h.fr.grownM hg fun g e => by have := hrow g e; omega).setCell (.inl rfl) _, hM⟩
  obtain ⟨at_, ha, hs, hBM, hbk, xs, hr, hx⟩ := hmk
  exact ⟨at_, ha, hs, hBM, by simpa using hbk.set_ 5 (.slice A' n' c'), xs, hr.setCell hBM _, hx⟩
/-- what may be called has grown -/
theorem LkA.pushCalls (h : LkA N0 m w0 wx vl vc l cl) {vc' : Value} {cl' : List Int} (ho : OwnAt (Repr.int (N0 := N0)) 3 w0.heap.size wy vc' cl') (hg : wx.grownBy wy vc.ownBlock) : LkA N0 m w0 wy vl vc' l cl' := by
  have hM := h.hM
  have hrow := fun g e => (h.calls.block (g := g) e).1
  have hc : OwnAt (lkR N0) 135 w0.heap.size wy vl l := h.lks.grown hg fun g t' xs fz e hh => by
    obtain ⟨h1, _, ys, hy⟩ := h.calls.block e
    rw [hy] at hh
    injection hh with hh
    injection hh with _ ht
    subst ht
    exact ⟨by omega, by simp [lkR]⟩
  exact ⟨hc, ho, h.hmk.grown h.calls hg (by decide) hM.2, h.fr.grownM hg fun g e => by have := hrow g e; omega, hM⟩
/-- a row of rules has grown, and it is written into lookup i -/
theorem LkA.pushRules (h : LkA N0 m w0 wx vl vc l cl) {vr : Value} {rl rl' : List RuleD} (hr : OwnAt (ruleR N0) 139 w0.heap.size wx vr rl) {A' : Option Addr} {n' c' : Nat} (ho : OwnAt (ruleR N0) 139 w0.heap.size wy (.slice A' n' c') rl') (hg : wx.grownBy wy vr.ownBlock) {i g n cap : Nat} {k : Int} {ig : Bool} {u : Value} (hi : l[i]? = some (k, ig, u)) (hv : vl = .slice (some ⟨g, 0, none⟩) n cap) :
    LkA N0 m w0 wy vl vc l cl ∧ LkA N0 m w0 (wy.setCell ⟨g, i * 3 + 2, none⟩ (.slice A' n' c')) vl vc (l.set i (k, ig, .slice A' n' c')) cl ∧ OwnAt (ruleR N0) 139 w0.heap.size (wy.setCell ⟨g, i * 3 + 2, none⟩ (.slice A' n' c')) (.slice A' n' c') rl' := by
  have hM := h.hM
  have hrow := fun g e => (hr.block (g := g) e).1
  have hrt : ∀ (g : Nat) (t' : TypeId) (xs : Array Value) (fz : Nat × Nat), vr.ownBlock = some g → wx.heap[g]? = some (.cells xs t' fz) → N0 ≤ g ∧ t' = 139 := fun g t' xs fz e hh => by
    obtain ⟨h1, _, ys, hy⟩ := hr.block e
    rw [hy] at hh
    injection hh with hh
    injection hh with _ ht
    subst ht
    exact ⟨by omega, rfl⟩
  have hc : OwnAt (lkR N0) 135 w0.heap.size wy vl l := h.lks.grown hg fun g t' xs fz e hh => by
    obtain ⟨h1, h2⟩ := hrt g t' xs fz e hh
    subst h2
    exact ⟨h1, by simp [lkR]⟩
  have hk : OwnAt (Repr.int (N0 := N0)) 3 w0.heap.size wy vc cl := h.calls.grown hg fun g t' xs fz e hh => by
    obtain ⟨h1, h2⟩ := hrt g t' xs fz e hh
    subst h2
    exact ⟨h1, by simp [Repr.int]⟩
  have hm := h.hmk.grown hr hg (by decide) hM.2
  have hf := h.fr.grownM hg fun g e => by have := hrow g e; omega
  have h1 : LkA N0 m w0 wy vl vc l cl := ⟨hc, hk, hm, hf, hM⟩
  obtain ⟨hge, xs, hb⟩ := hc.blk hv
  refine ⟨h1, ⟨?_, hk.setCell hb (by simp [Repr.int]) (by omega) _ _, hm.setCell (by simp; omega) _, hf.setCell (.inr hge) _, hM⟩, ho.setCell hb (by simp [ruleR, rowsIR, intsR, callR, Repr.map, Repr.row, Repr.pair, Repr.int]) (by omega) _ _⟩
  refine hc.upd (j := 2) hi (show 2 < 3 by decide) _ (by simp [lkR]) (by omega) ?_ hv
  rintro cs ⟨rfl, h1, h2⟩
  exact ⟨rfl, h1, _, _, _, rfl⟩
end
end Go.Proofs.Ytnalbkjbidaojaa
namespace Go.Proofs.Ytnalbkjbidaojaa
open Go.RowKit

/-- the lookups, and the rules of the one that is made -/
structure LkB (N0 : Nat) (m : MkC) (w0 : World) (wx : World) (vl vc : Value) (l : List (Int × Bool × Value)) (cl : List Int) (vr : Value) (rl : List RuleD) : Prop where
  a : LkA N0 m w0 wx vl vc l cl
  r : OwnAt (ruleR N0) 139 w0.heap.size wx vr rl
section
variable {N0 : Nat} {m : MkC} {w0 wx wy : World} {vl vc vr : Value} {l : List (Int × Bool × Value)} {cl : List Int} {rl : List RuleD}
theorem LkB.next (h : LkB N0 m w0 wx vl vc l cl vr rl) (hm : Mk wy {m with c5 := vl}) (hf : FrM m.M wx wy) : LkB N0 m w0 wy vl vc l cl vr rl := by
  obtain ⟨xM, hb⟩ := h.a.hmk.blk
  exact ⟨h.a.next hm hf, h.r.fr hf hb (by simp [ruleR, rowsIR, intsR, callR, Repr.map, Repr.row, Repr.pair, Repr.int]) h.a.hM.1⟩
theorem LkB.alloc (h : LkB N0 m w0 wx vl vc l cl vr rl) (o : Obj) : LkB N0 m w0 (wx.alloc o) vl vc l cl vr rl := ⟨h.a.alloc o, h.r.below ((Below.refl _ _).alloc (Nat.le_refl _) _) (Nat.le_refl _)⟩
theorem LkB.drew (h : LkB N0 m w0 wx vl vc l cl vr rl) : LkB N0 m w0 wx.drew vl vc l cl vr rl := ⟨h.a.drew, h.r.below (Below.refl _ _).drew (Nat.le_refl _)⟩
theorem LkA.cell5 (h : LkA N0 m w0 wx vl vc l cl) : wx.cell? ⟨m.M, 5, none⟩ = some vl := by
  have := h.hmk.cells.1 5 (by omega)
  simpa using this
theorem LkA.frozen (h : LkA N0 m w0 wx vl vc l cl) (i : Nat) : wx.frozen? ⟨m.M, i, none⟩ = false := h.hmk.cells.2 i
/-- the cells of lookup i -/
theorem LkA.elem (h : LkA N0 m w0 wx vl vc l cl) {i : Nat} {k : Int} {ig : Bool} {u : Value} (hi : l[i]? = some (k, ig, u)) {g n cap : Nat} (hv : vl = .slice (some ⟨g, 0, none⟩) n cap) :
    w0.heap.size ≤ g ∧ g < wx.heap.size ∧ I64 k ∧ wx.cell? ⟨g, i * 3, none⟩ = some (.int .i64 k) ∧ wx.cell? ⟨g, i * 3 + 2, none⟩ = some u ∧ ∀ j, wx.frozen? ⟨g, j, none⟩ = false := by
  obtain ⟨g', cap', xs, cs, e, hg, hl, hb, ⟨rfl, h1, h2⟩, hc, hf⟩ := h.lks.elem hi
  rw [hv] at e
  injection e with e
  injection e with e
  injection e with e
  subst e
  exact ⟨hg, hl, h1, by simpa [lkR] using hc 0 _ rfl, by simpa [lkR] using hc 2 _ rfl, hf⟩
end
theorem ruleR_forms {N0 : Nat} {w : World} {B : Nat} {r : RuleD} {vb vi va vo vc vx : Value} (h : (ruleR N0).rel w B r [vb, vi, va, vo, vc, vx]) :
    (∃ A n c, vb = .slice A n c) ∧ (∃ A n c, vi = .slice A n c) ∧ (∃ A n c, va = .slice A n c) ∧ (∃ A n c, vo = .slice A n c) ∧ ∃ A n c, vc = .slice A n c := by
  obtain ⟨_, _, e1, ⟨A1, c1, rfl, _⟩, _, _, rfl, ⟨A2, c2, rfl, _⟩, _, _, rfl, ⟨A3, c3, rfl, _⟩, _, _, rfl, ⟨A4, c4, rfl, _⟩, _, _, rfl, ⟨A5, c5, rfl, _⟩, rfl, _⟩ := h
  simp only [List.cons_append, List.nil_append, List.cons.injEq, and_true] at e1
  obtain ⟨rfl, rfl, rfl, rfl, rfl, rfl⟩ := e1
  exact ⟨⟨_, _, _, rfl⟩, ⟨_, _, _, rfl⟩, ⟨_, _, _, rfl⟩, ⟨_, _, _, rfl⟩, ⟨_, _, _, rfl⟩⟩
def Lk1 (N0 : Nat) (m : MkC) (w : World) (n : Int) (vc i : Value) (wr : World) : Prop :=
  ∃ (k : Nat) (vl : Value) (l : List (Int × Bool × Value)) (cl : List Int), k ≤ n.toNat ∧ i = .int .i64 k ∧ LkA N0 m w wr vl vc l cl ∧ l.length ≤ k ∧ k ≤ l.length ∧ cl.length ≤ k ∧ ∀ x ∈ l, x.2.2 = .slice none 0 0
def Lk2 (N0 : Nat) (m : MkC) (w : World) (n : Int) (vc : Value) (cl : List Int) (i : Value) (wr : World) : Prop :=
  ∃ (k : Nat) (vl : Value) (l : List (Int × Bool × Value)), k ≤ n.toNat ∧ i = .int .i64 k ∧ LkA N0 m w wr vl vc l cl ∧ l.length ≤ n.toNat ∧ n.toNat ≤ l.length ∧ ∀ j x, k ≤ j → l[j]? = some x → x.2.2 = .slice none 0 0
def Lk3 (N0 : Nat) (m : MkC) (w : World) (_n : Int) (vl vc : Value) (ln : Nat) (cl : List Int) (k : Nat) (kd K : Int) (i : Value) (wr : World) : Prop :=
  ∃ (r : Nat) (l : List (Int × Bool × Value)) (vr : Value) (rl : List RuleD) (ig : Bool), r ≤ (1 + K).toNat ∧ i = .int .i64 r ∧ LkB N0 m w wr vl vc l cl vr rl ∧ l.length = ln ∧ l[k]? = some (kd, ig, vr) ∧ rl.length ≤ r ∧ ∀ j x, k + 1 ≤ j → l[j]? = some x → x.2.2 = .slice none 0 0
def LksPost (N0 : Nat) (m : MkC) (w : World) (e : Ending) (w' : World) : Prop :=
  ∃ (u : Value) (A : Option Addr) (c : Nat) (l : List (Int × Bool × Value)), e = .returned u ∧ l.length ≤ 6 ∧ (Repr.row 135 (lkR N0)).rel w' w'.heap.size l [.slice A l.length c] ∧ Mk w' {m with c5 := .slice A l.length c} ∧ FrM m.M w w'

set_option maxHeartbeats 4000000 in
set_option maxRecDepth 100000 in
theorem lookups_any (N0 : Nat) (m : MkC) (w : World) (gA : Option Addr) (gn gc : Nat) (h : Mk w m) (hN : N0 ≤ m.M) (hc : m.c3 = .slice gA gn gc) (hg0 : 1 ≤ gn) (hg1 : gn ≤ 1000) (h5 : m.c5 = .slice none 0 0) :
    Calls Try.prog 40 #[.pointer (some ⟨m.M, 0, none⟩)] w (LksPost N0 m w) := by
  obtain ⟨i1, ji, jz0, jz1, jz2⟩ := info_parts lookup_info
  obtain ⟨i2, li, lz0, lz1, lz2⟩ := info_parts intM_info
  obtain ⟨i3, ki, kz0, kz1, kz2⟩ := info_parts rule_info
  have hMl := h.lt
  have HMK := Lib.hid h
  have HC := Lib.hid hc
  have hm5 : {m with c5 := Value.slice none 0 0} = m := by rw [← h5]
  have HM5 := Lib.hid hm5
  clear h hc h5 hm5
  go_enter Try.func40, Try.ntmps40
  go_wp2_with fail
  refine (mkNext_any _ m _ HMK.out (by omega) (by omega)).mono ?_
  rintro e w1 ⟨n, hn0, hn1, rfl, hmk1, hfr1, -⟩
  have h0 : Lk1 N0 m w n (.slice none 0 0) (.int .i64 0) w1 := ⟨0, _, [], [], by omega, rfl, ⟨OwnAt.nil _ _ _ _, OwnAt.nil _ _ _ _, by rw [HM5.out]; exact hmk1, hfr1, hN, hMl⟩, by simp, by simp, by simp, by simp⟩
  have H0 := Lib.hid h0
  clear h0 hmk1 hfr1 HMK
  go_wp2_with fail
  go_loopw [3, 4] (fun vc i wr => Lk1 N0 m w n vc i wr) (fun _ i _ => n.toNat - (intOf i).toNat)
  case atStart => exact H0.out
  case round =>
    clear H0
    obtain ⟨k, vl, l, cl, hk, rfl, hI, hla, hlb, hcl, hnil⟩ := hrel
    obtain ⟨Ac, cc, rfl, -⟩ := hI.calls.form
    obtain ⟨Al, lc, rfl, -⟩ := hI.lks.form
    have HI := Lib.hid hI
    have HN := Lib.hid hnil
    clear hI hnil
    by_cases hlt : (k : Int) < n
    · go_wp2_with fail
      refine (mkNext_any _ {m with c5 := .slice Al l.length lc} _ (HI.out.alloc _).hmk (by omega) (by omega)).mono ?_
      rintro e w2 ⟨r, hr0, hr1, rfl, hmk2, hfr2, -⟩
      have hI2 := (HI.out.alloc _).next hmk2 hfr2
      have hblk : Blk w2 wr.heap.size 3 #[.int .i64 1, .int .i64 2, .int .i64 3, .int .i64 4, .int .i64 4, .int .i64 5, .int .i64 6, .int .i64 7, .int .i64 8, .int .i64 1] := hfr2.blk (Blk.new _ _ _) (by have := HI.out.fr.size; show wr.heap.size ≠ m.M; omega)
      have _hlt2 := hblk.lt
      obtain ⟨rn, rfl⟩ := Int.eq_ofNat_of_zero_le hr0
      obtain ⟨kd, hkd0, hkd1, hkd⟩ : ∃ kd : Int, 1 ≤ kd ∧ kd ≤ 8 ∧ w2.cell? ⟨wr.heap.size, rn, none⟩ = some (.int .i64 kd) := by
        rw [hblk.cell]
        have : rn = 0 ∨ rn = 1 ∨ rn = 2 ∨ rn = 3 ∨ rn = 4 ∨ rn = 5 ∨ rn = 6 ∨ rn = 7 ∨ rn = 8 ∨ rn = 9 := by omega
        rcases this with rfl | rfl | rfl | rfl | rfl | rfl | rfl | rfl | rfl | rfl <;> exact ⟨_, by decide, by decide, rfl⟩
      have hId := hI2.drew
      have HI2 := Lib.hid hI2
      clear hI2 hblk hmk2 hfr2 HI
      go_wp2_with fail
      clear hkd
      have hS : w2.drew.cell? ⟨m.M, 5, none⟩ = some (.slice Al l.length lc) := hId.cell5
      refine wp_region_seq (fun i => !([8, 11, 12, 16] : List Nat).contains i) (fun i => ([5] : List Nat).contains i) (fun i => ([8, 11] : List Nat).contains i) [0, 1, 2, 3, 4, 5, 6, 7, 8, 9, 10, 11, 12, 13, 14, 15, 16] (fun w' => w'.cell? ⟨m.M, 5, none⟩ = some (.slice Al l.length lc)) (by kernel_rfl) (by kernel_rfl) (by kernel_rfl) (by kernel_rfl) ?_
      refine wpSeq_pure (v := _) rfl rfl rfl (by kernel_rfl) (fun _ _ _ h => h) (fun wq => by first | (go_simp; done) | (go_simp; rfl)) ?_
      refine wpSeq_pure (v := _) rfl rfl rfl (by kernel_rfl) (fun _ _ _ h => h) (fun wq => by first | (go_simp; done) | (go_simp; rfl)) ?_
      refine wpSeq_pure (v := _) rfl rfl rfl (by kernel_rfl) (fun _ _ _ h => h) (fun wq => by first | (go_simp; done) | (go_simp; rfl)) ?_
      refine wpSeq_pure (v := _) rfl rfl rfl (by kernel_rfl) (fun _ _ _ h => h) (fun wq => by first | (go_simp; done) | (go_simp; rfl)) ?_
      refine wpSeq_pure (v := _) rfl rfl rfl (by kernel_rfl) (fun _ _ _ h => h) (fun wq => by first | (go_simp; done) | (go_simp; rfl)) ?_
      refine wpSeq_load (v := _) rfl rfl (by kernel_rfl) (fun _ _ _ h => h) hS rfl (fun wq hq => by (try dsimp only at hq); first | (go_simp; done) | (go_simp; rfl)) ?_
      refine wpSeq_pure (v := _) rfl rfl rfl (by kernel_rfl) (fun _ _ _ h => h) (fun wq => by first | (go_simp; done) | (go_simp; rfl)) ?_
      refine wpSeq_pure (v := _) rfl rfl rfl (by kernel_rfl) (fun _ _ _ h => h) (fun wq => by first | (go_simp; done) | (go_simp; rfl)) ?_
      refine wpSeq_heavy rfl rfl (fun K hK => ?_); go_simp
      refine (mkNext_any _ {m with c5 := .slice Al l.length lc} _ hId.hmk (by omega) (by omega)).mono ?_
      rintro e w3 ⟨b, hb0, hb1, rfl, hmk3, hfr3, -⟩
      have hI3 := hId.next hmk3 hfr3
      dsimp only
      refine hK _ _ (fun _ => hI3.cell5) ?_; clear hK K
      refine wpSeq_pure (v := _) rfl rfl rfl (by kernel_rfl) (fun _ _ _ h => h) (fun wq => by first | (go_simp; done) | (go_simp; rfl)) ?_
      refine wpSeq_pure (v := _) rfl rfl rfl (by kernel_rfl) (fun _ _ _ h => h) (fun wq => by first | (go_simp; done) | (go_simp; rfl)) ?_
      refine wpSeq_heavy rfl rfl (fun K hK => ?_); go_simp
      have hI3a := hI3.alloc (.cells #[.int .i64 kd, .bool (b == 0), .slice none 0 0] 135)
      refine hK _ _ (fun _ => hI3a.cell5) ?_; clear hK K
      refine wpSeq_heavy rfl rfl (fun K hK => ?_)
      refine step_push _ rfl (.tmp 26) (.tmp 32) _ rfl (lkR N0) w.heap.size 135 i1 _ 40 Try.underlying36 ji jz0 jz1 jz2 rfl (show 0 < 3 by decide) (by simp [lkR]) (by omega) (.slice Al l.length lc) l rfl hI3a.lks w3.heap.size [_, _, _] (kd, (b == 0), .slice none 0 0) rfl (Blk.new _ _ _) ⟨rfl, (by unfold I64; simp only; omega), _, _, _, rfl⟩ (by unfold maxLen; omega) (by omega) (by have := hI3a.fr.size; omega) ?_
      intro A4 c4 w4 hown4 hg4
      obtain ⟨hmk4, hI4⟩ := hI3a.pushLk hown4 hg4
      have b0 := hmk4.cells.1 5 (by omega)
      have b1 := hmk4.cells.2 5
      have b2 := hmk4.lt
      simp only [Nat.reduceSub, List.getElem?_toArray, List.getElem?_cons_succ, List.getElem?_cons_zero] at b0 b2
      refine hK _ _ (fun h => by cases h) ?_; clear hK K
      refine wpSeq_pure (v := _) rfl rfl rfl (by kernel_rfl) (fun _ _ _ h => h) (fun wq => by first | (go_simp; done) | (go_simp; rfl)) ?_
      refine wpSeq_pure (v := _) rfl rfl rfl (by kernel_rfl) (fun _ _ _ h => h) (fun wq => by first | (go_simp; done) | (go_simp; rfl)) ?_
      refine wpSeq_pure (v := _) rfl rfl rfl (by kernel_rfl) (fun _ _ _ h => h) (fun wq => by first | (go_simp; done) | (go_simp; rfl)) ?_
      refine wpSeq_heavy rfl rfl (fun K hK => ?_); go_simp
      refine hK _ _ (fun h => by cases h) ?_; clear hK K
      refine wpSeq_end ?_
      have hnil : ∀ x ∈ l ++ [(kd, (b == 0), Value.slice none 0 0)], x.2.2 = .slice none 0 0 := by
        intro x hx
        rcases List.mem_append.1 hx with hx | hx
        · exact HN.out x hx
        · simp only [List.mem_singleton] at hx; subst hx; rfl
      have HN' := Lib.hid hnil
      obtain ⟨w5, hw5⟩ : ∃ w5, w5 = w4.setCell ⟨m.M, 5, none⟩ (.slice A4 (l.length + 1) c4) := ⟨_, rfl⟩
      rw [← hw5] at hI4 ⊢
      have HI5 := Lib.hid hI4
      have _hsz5 := hI4.fr.size
      clear hw5 hI4 hI3a hI3 hId hmk3 hfr3 hmk4 hown4 hg4 hnil HI2 HN b0 b1 b2 hS
      by_cases hk4 : kd ≤ 4
      · go_wp2_with (at_builtin; refine wpList_push _ rfl (.tmp 39) (.tmp 41) _ rfl (Repr.int (N0 := N0)) w.heap.size 3 i2 _ 8 Try.underlying30 li lz0 lz1 lz2 rfl (show 0 < 1 by decide) (by simp [Repr.int]) (by omega) (.slice Ac cl.length cc) cl rfl (HI5.out.alloc _).calls w5.heap.size [_] (k : Int) rfl (Blk.new _ _ _) ⟨rfl, (by unfold I64; omega)⟩ (by unfold maxLen; omega) (by omega) (by simp; omega) ?_; intro A6 c6 w6 hown6 hg6)
        have hI6 := (HI5.out.alloc _).pushCalls hown6 hg6
        refine ⟨⟨k + 1, _, _, _, by omega, by go_num, hI6, by simp; omega, by simp; omega, by simp; omega, HN'.out⟩, by simp [intOf]; omega⟩
      · go_wp2_with fail
        refine ⟨⟨k + 1, _, _, _, by omega, by go_num, HI5.out, by simp; omega, by simp; omega, by omega, HN'.out⟩, by simp [intOf]; omega⟩
    · have _hkn : n.toNat ≤ k := by omega
      have h0 : Lk2 N0 m w n (.slice Ac cl.length cc) cl (.int .i64 0) wr := ⟨0, _, l, by omega, rfl, HI.out, by omega, by omega, fun _ x _ hx => HN.out x (List.mem_of_getElem? hx)⟩
      have H0 := Lib.hid h0
      clear h0 HI HN
      go_wp2_with fail
      go_loopw [6] (fun i wr => Lk2 N0 m w n (.slice Ac cl.length cc) cl i wr) (fun i _ => n.toNat - (intOf i).toNat)
      case atStart => exact H0.out
      case round =>
        clear H0
        obtain ⟨k2, vl, l2, hk2, rfl, hI, hl2a, hl2b, hnil⟩ := hrel
        obtain ⟨Al2, lc2, rfl, -⟩ := hI.lks.form
        have HI := Lib.hid hI
        have HN := Lib.hid hnil
        clear hI hnil
        by_cases hlt2 : (k2 : Int) < n
        · obtain ⟨⟨kd, ig, u⟩, hx⟩ : ∃ x, l2[k2]? = some x := ⟨_, List.getElem?_eq_getElem (by omega)⟩
          have hu : u = .slice none 0 0 := HN.out k2 _ (Nat.le_refl _) hx
          subst hu
          have HX := Lib.hid hx
          clear hx
          obtain ⟨g, cap, _, _, hv, _⟩ := HI.out.lks.elem HX.out
          have hA : Al2 = some ⟨g, 0, none⟩ := by injection hv
          subst hA
          clear hv
          obtain ⟨q1, q2, q3, q4, q5, q6⟩ := HI.out.elem HX.out rfl
          have q0 := HI.out.cell5
          have _hkl : (k2 : Int) < (l2.length : Int) := by omega
          have q7 := HI.out.hmk.lt
          simp only at q7
          unfold I64 at q3
          by_cases h7 : 7 ≤ kd
          · go_wp2_with fail
            refine ⟨⟨k2 + 1, _, l2, by omega, by go_num, HI.out, hl2a, hl2b, fun j x _ hx => HN.out j x (by omega) hx⟩, by simp [intOf]; omega⟩
          · go_wp2_with fail
            refine (mkNext_any _ {m with c5 := .slice (some ⟨g, 0, none⟩) l2.length lc2} _ HI.out.hmk (by omega) (by omega)).mono ?_
            rintro e w2 ⟨K, hK0, hK1, rfl, hmk2, hfr2, -⟩
            have h0 : Lk3 N0 m w n (.slice (some ⟨g, 0, none⟩) l2.length lc2) (.slice Ac cl.length cc) l2.length cl k2 kd K (.int .i64 0) w2 := ⟨0, l2, .slice none 0 0, [], ig, by omega, rfl, ⟨HI.out.next hmk2 hfr2, OwnAt.nil _ _ _ _⟩, rfl, HX.out, by simp, fun j x _ hx => HN.out j x (by omega) hx⟩
            have H0 := Lib.hid h0
            clear h0 hmk2 hfr2 HI HX HN q0 q1 q2 q4 q5 q6 q7
            go_wp2_with fail
            go_loopw [8] (fun i wr => Lk3 N0 m w n (.slice (some ⟨g, 0, none⟩) l2.length lc2) (.slice Ac cl.length cc) l2.length cl k2 kd K i wr) (fun i _ => (1 + K).toNat - (intOf i).toNat)
            case atStart => exact H0.out
            case round =>
              clear H0
              obtain ⟨r, l3, vr, rl, ig3, hr, rfl, hI, hl3, hx, hrl, hnil⟩ := hrel
              obtain ⟨Ar, rc, rfl, -⟩ := hI.r.form
              have HI := Lib.hid hI
              have HX := Lib.hid hx
              have HN := Lib.hid hnil
              have HL3 := Lib.hid hl3
              clear hI hx hnil hl3
              by_cases hlt3 : (r : Int) < 1 + K
              · go_upto_block 5 with (fail)
                go_cut [] (fun wx => Lk3 N0 m w n (.slice (some ⟨g, 0, none⟩) l2.length lc2) (.slice Ac cl.length cc) l2.length cl k2 kd K (.int .i64 (r + 1 : Nat)) wx)
                case first =>
                  have hId := HI.out.drew
                  obtain ⟨q1, q2, -, q4, q5, q6⟩ := hId.a.elem HX.out rfl
                  have hS : (fun w' : World => w'.cell? ⟨m.M, 5, none⟩ = some (.slice (some ⟨g, 0, none⟩) l2.length lc2) ∧ w'.cell? ⟨g, k2 * 3, none⟩ = some (.int .i64 kd) ∧ w'.cell? ⟨g, k2 * 3 + 2, none⟩ = some (.slice Ar rl.length rc)) wr.drew := ⟨hId.a.cell5, q4, q5⟩
                  obtain ⟨cf, cc', ecl, c1, c2, hrowc⟩ := hId.a.calls.form
                  have _hMne : m.M ≠ g := by omega
                  go_wp2_with fail
                  refine wp_region_seq (fun i => !([26, 27, 28, 31] : List Nat).contains i) (fun i => ([4, 10, 14, 20, 24] : List Nat).contains i) (fun i => ([26, 27, 28] : List Nat).contains i) [0, 1, 2, 3, 4, 5, 6, 7, 8, 9, 10, 11, 12, 13, 14, 15, 16, 17, 18, 19, 20, 21, 22, 23, 24, 25, 26, 27, 28, 29, 30, 31] (fun w' : World => w'.cell? ⟨m.M, 5, none⟩ = some (.slice (some ⟨g, 0, none⟩) l2.length lc2) ∧ w'.cell? ⟨g, k2 * 3, none⟩ = some (.int .i64 kd) ∧ w'.cell? ⟨g, k2 * 3 + 2, none⟩ = some (.slice Ar rl.length rc)) (by kernel_rfl) (by kernel_rfl) (by kernel_rfl) (by kernel_rfl) ?_
                  refine wpSeq_pure (v := _) rfl rfl rfl (by kernel_rfl) (fun _ _ _ h => h) (fun wq => by first | (go_simp; done) | (go_simp; rfl)) ?_
                  refine wpSeq_pure (v := _) rfl rfl rfl (by kernel_rfl) (fun _ _ _ h => h) (fun wq => by first | (go_simp; done) | (go_simp; rfl)) ?_
                  refine wpSeq_pure (v := _) rfl rfl rfl (by kernel_rfl) (fun _ _ _ h => h) (fun wq => by first | (go_simp; done) | (go_simp; rfl)) ?_
                  refine wpSeq_pure (v := _) rfl rfl rfl (by kernel_rfl) (fun _ _ _ h => h) (fun wq => by first | (go_simp; done) | (go_simp; rfl)) ?_
                  refine wpSeq_load (v := _) rfl rfl (by kernel_rfl) (fun _ _ _ h => h) hS rfl (fun wq hq => by obtain ⟨hq1, hq2, hq3⟩ := hq; first | (go_simp; done) | (go_simp; rfl)) ?_
                  refine wpSeq_pure (v := _) rfl rfl rfl (by kernel_rfl) (fun _ _ _ h => h) (fun wq => by first | (go_simp; done) | (go_simp; rfl)) ?_
                  refine wpSeq_pure (v := _) rfl rfl rfl (by kernel_rfl) (fun _ _ _ h => h) (fun wq => by first | (go_simp; done) | (go_simp; rfl)) ?_
                  refine wpSeq_pure (v := _) rfl rfl rfl (by kernel_rfl) (fun _ _ _ h => h) (fun wq => by first | (go_simp; done) | (go_simp; rfl)) ?_
                  refine wpSeq_pure (v := _) rfl rfl rfl (by kernel_rfl) (fun _ _ _ h => h) (fun wq => by first | (go_simp; done) | (go_simp; rfl)) ?_
                  refine wpSeq_pure (v := _) rfl rfl rfl (by kernel_rfl) (fun _ _ _ h => h) (fun wq => by first | (go_simp; done) | (go_simp; rfl)) ?_
                  refine wpSeq_load (v := _) rfl rfl (by kernel_rfl) (fun _ _ _ h => h) hS rfl (fun wq hq => by obtain ⟨hq1, hq2, hq3⟩ := hq; first | (go_simp; done) | (go_simp; rfl)) ?_
                  refine wpSeq_pure (v := _) rfl rfl rfl (by kernel_rfl) (fun _ _ _ h => h) (fun wq => by first | (go_simp; done) | (go_simp; rfl)) ?_
                  refine wpSeq_pure (v := _) rfl rfl rfl (by kernel_rfl) (fun _ _ _ h => h) (fun wq => by first | (go_simp; done) | (go_simp; rfl)) ?_
                  refine wpSeq_pure (v := _) rfl rfl rfl (by kernel_rfl) (fun _ _ _ h => h) (fun wq => by first | (go_simp; done) | (go_simp; rfl)) ?_
                  refine wpSeq_load (v := _) rfl rfl (by kernel_rfl) (fun _ _ _ h => h) hS rfl (fun wq hq => by obtain ⟨hq1, hq2, hq3⟩ := hq; first | (go_simp; done) | (go_simp; rfl)) ?_
                  refine wpSeq_pure (v := _) rfl rfl rfl (by kernel_rfl) (fun _ _ _ h => h) (fun wq => by first | (go_simp; done) | (go_simp; rfl)) ?_
                  refine wpSeq_pure (v := _) rfl rfl rfl (by kernel_rfl) (fun _ _ _ h => h) (fun wq => by first | (go_simp; done) | (go_simp; rfl)) ?_
                  refine wpSeq_pure (v := _) rfl rfl rfl (by kernel_rfl) (fun _ _ _ h => h) (fun wq => by first | (go_simp; done) | (go_simp; rfl)) ?_
                  refine wpSeq_pure (v := _) rfl rfl rfl (by kernel_rfl) (fun _ _ _ h => h) (fun wq => by first | (go_simp; done) | (go_simp; rfl)) ?_
                  refine wpSeq_pure (v := _) rfl rfl rfl (by kernel_rfl) (fun _ _ _ h => h) (fun wq => by first | (go_simp; done) | (go_simp; rfl)) ?_
                  refine wpSeq_load (v := _) rfl rfl (by kernel_rfl) (fun _ _ _ h => h) hS rfl (fun wq hq => by obtain ⟨hq1, hq2, hq3⟩ := hq; first | (go_simp; done) | (go_simp; rfl)) ?_
                  refine wpSeq_pure (v := _) rfl rfl rfl (by kernel_rfl) (fun _ _ _ h => h) (fun wq => by first | (go_simp; done) | (go_simp; rfl)) ?_
                  refine wpSeq_pure (v := _) rfl rfl rfl (by kernel_rfl) (fun _ _ _ h => h) (fun wq => by first | (go_simp; done) | (go_simp; rfl)) ?_
                  refine wpSeq_pure (v := _) rfl rfl rfl (by kernel_rfl) (fun _ _ _ h => h) (fun wq => by first | (go_simp; done) | (go_simp; rfl)) ?_
                  refine wpSeq_load (v := _) rfl rfl (by kernel_rfl) (fun _ _ _ h => h) hS rfl (fun wq hq => by obtain ⟨hq1, hq2, hq3⟩ := hq; first | (go_simp; done) | (go_simp; rfl)) ?_
                  refine wpSeq_pure (v := _) rfl rfl rfl (by kernel_rfl) (fun _ _ _ h => h) (fun wq => by first | (go_simp; done) | (go_simp; rfl)) ?_
                  refine wpSeq_heavy rfl rfl (fun K hK => ?_); go_simp
                  refine (rule_any N0 {m with c5 := .slice (some ⟨g, 0, none⟩) l2.length lc2} _ kd Ac cc cl gA gn gc hId.a.hmk hN HC.out hg0 hg1 hrowc (by omega)).mono ?_
                  rintro e w4 ⟨rd, vb, vi, va, vo, vc, rfl, hrel4, hmk4, hfr4⟩
                  obtain ⟨⟨b1, b2, b3, rfl⟩, ⟨b4, b5, b6, rfl⟩, ⟨b7, b8, b9, rfl⟩, ⟨d1, d2, d3, rfl⟩, ⟨d4, d5, d6, rfl⟩⟩ := ruleR_forms hrel4
                  have hI4 := hId.next hmk4 hfr4
                  have hx4 := hI4.a.elem HX.out rfl
                  dsimp only
                  refine hK _ _ (fun _ => ⟨hI4.a.cell5, hx4.2.2.2.1, hx4.2.2.2.2.1⟩) ?_; clear hK K
                  refine wpSeq_heavy rfl rfl (fun K hK => ?_); go_simp
                  have hI5 := hI4.alloc (.cells #[.slice b1 b2 b3, .slice b4 b5 b6, .slice b7 b8 b9, .slice d1 d2 d3, .slice d4 d5 d6, .int .i64 rd.x] 139)
                  have hx5 := hI5.a.elem HX.out rfl
                  refine hK _ _ (fun _ => ⟨hI5.a.cell5, hx5.2.2.2.1, hx5.2.2.2.2.1⟩) ?_; clear hK K
                  refine wpSeq_heavy rfl rfl (fun K hK => ?_)
                  refine step_push _ rfl (.tmp 80) (.tmp 93) _ rfl (ruleR N0) w.heap.size 139 i3 _ 128 Try.underlying133 ki kz0 kz1 kz2 rfl (show 0 < 6 by decide) (ruleR_tys N0) (by omega) (.slice Ar rl.length rc) rl rfl hI5.r w4.heap.size [_, _, _, _, _, _] rd rfl (Blk.new _ _ _) ((ruleR N0).more ((ruleR N0).below hrel4 ((Below.refl _ _).alloc (Nat.le_refl _) _) (Nat.le_refl _)) (by simp)) (by unfold maxLen; omega) (by omega) (by have := hI5.a.fr.size; omega) ?_
                  intro A6 c6 w6 hown6 hg6
                  obtain ⟨hI6, hI7, hr7⟩ := hI5.a.pushRules hI5.r hown6 hg6 HX.out rfl
                  have hx6 := hI6.elem HX.out rfl
                  obtain ⟨z1, z2, -, z4, z5, z6⟩ := hx6
                  refine hK _ _ (fun _ => ⟨hI6.cell5, z4, z5⟩) ?_; clear hK K
                  refine wpSeq_pure (v := _) rfl rfl rfl (by kernel_rfl) (fun _ _ _ h => h) (fun wq => by first | (go_simp; done) | (go_simp; rfl)) ?_
                  refine wpSeq_pure (v := _) rfl rfl rfl (by kernel_rfl) (fun _ _ _ h => h) (fun wq => by first | (go_simp; done) | (go_simp; rfl)) ?_
                  refine wpSeq_heavy rfl rfl (fun K hK => ?_); go_simp
                  refine hK _ _ (fun h => by cases h) ?_; clear hK K
                  refine wpSeq_end ?_
                  go_wp2_with fail
                  go_meet
                  exact ⟨r + 1, l3.set k2 (kd, ig3, .slice A6 (rl.length + 1) c6), _, rl ++ [rd], ig3, by omega, rfl, ⟨hI7, hr7⟩, by simp [HL3.out], by rw [List.getElem?_set_self (by rw [HL3.out]; omega)], by simp; omega, fun j x hj hx => HN.out j x hj (by rw [List.getElem?_set_ne (by omega)] at hx; exact hx)⟩
                case rest =>
                  have HCUT := Lib.hid hcut
                  clear hcut HI HX HN HL3
                  go_wp2_with fail
                  go_roundw
                  case rel => have h := HCUT.out; rw [show ((r + 1 : Nat) : Int) = (r : Int) + 1 from by omega] at h; exact h
                  case measure => simp [intOf]; omega
              · have hll : l3.length = l2.length := HL3.out
                have hll1 : l3.length ≤ n.toNat := by omega
                have hll2 : n.toNat ≤ l3.length := by omega
                clear hll
                go_wp2_with fail
                refine ⟨⟨k2 + 1, _, l3, by omega, by go_num, HI.out.a, hll1, hll2, fun j x hj hx => HN.out j x hj hx⟩, by simp [intOf]; omega⟩
        · go_wp2
          refine bodyPost_end (v := .tuple #[]) (by simp [results, Try.results40, go_sem]) rfl ?_
          exact ⟨_, Al2, lc2, l2, rfl, by omega, HI.out.lks.rel, HI.out.hmk, HI.out.fr⟩
end Go.Proofs.Ytnalbkjbidaojaa

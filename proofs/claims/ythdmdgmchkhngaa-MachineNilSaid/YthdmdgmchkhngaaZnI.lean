/- A zone that is made by appends: its block, and its four rows. -/
import Derived.Test.YthdmdgmchkhngaaLwB
namespace Go.Proofs.Ythdmdgmchkhngaa
open Go.RowKit Mc

/-- append onto a row of the call's own, in a region that draws its order -/
theorem step_own {P : Program} (w : World) {ops : Array Oper} {o : Oper} {a : Act} {K : Act → World → Prop} {Q : Exit → Act → World → Prop} {E : Prop} (hgd : o.guard = none) (s x : Operand) (t : TypeId)
    (ho : o.op = .call { callee := .builtin .append, args := #[s, x], argTypes := #[t, t] }) (base : Nat) (e : TypeId) (i : TypeInfo) (z : Value) (size bytes : Nat) (ht : P.underlying t = some (.slice e)) (hi : P.info? e = some i) (hz : i.zero = some z)
    (hsize : i.size = size) (hby : i.bytes = bytes) (hzs : z.cells.size = size) (hsz : 0 < size)
    (v : Value) (n : Nat) (xs : List Value) (hs : a.eval s = v) (hrow : w.ownsRow base e size v n xs)
    (B : Nat) (A : Option Addr) (m c : Nat) (news : List Value) (hx : a.eval x = .slice A m c) (hr : Reads w B size A m news) (h1 : ∀ u ∈ news, u.oneCell' = true)
    (h63 : n + m ≤ maxLen) (hbytes : (n + m) * bytes ≤ 140737488355328) (hbase : base ≤ w.heap.size)
    (h : ∀ v' w', w'.ownsRow base e size v' (n + m) (xs ++ news) → w.grownBy w' v.ownBlock → (v'.ownBlock = v.ownBlock ∨ v'.ownBlock = some w.heap.size) → K (a.put o.dst v') w') :
    if Region.wanted o (yielded ops a.tmps) = true then Oper.wp P o a w K Q else E := by
  have hw : Region.wanted o (yielded ops a.tmps) = true := by simp [Region.wanted, hgd]
  rw [if_pos hw]
  exact wp_append_any w s x t ho base e i z size bytes ht hi hz hsize hby hzs hsz v n xs hs hrow B A m c news hx hr h1 h63 hbytes hbase h
theorem owns_block {w : World} {base size n g : Nat} {t : TypeId} {v : Value} {xs : List Value} (h : w.ownsRow base t size v n xs) (hg : v.ownBlock = some g) : base ≤ g ∧ g < w.heap.size ∧ ∃ cs, Blk w g t cs := by
  rcases h.2 with ⟨rfl, _⟩ | ⟨g', cap, cur, rfl, hb, hh, _⟩
  · simp [Value.ownBlock] at hg
  · simp only [Value.ownBlock, Option.some.injEq] at hg
    subst hg
    exact ⟨hb, (Array.getElem?_eq_some_iff.1 hh).1, cur, hh⟩
theorem owns_keep {w w' : World} {base size n : Nat} {t : TypeId} {v : Value} {xs : List Value} (h : w.ownsRow base t size v n xs) (k : ∀ g, v.ownBlock = some g → w'.heap[g]? = w.heap[g]?) : w'.ownsRow base t size v n xs := by
  refine ⟨h.1, ?_⟩
  rcases h.2 with h1 | ⟨g, cap, cur, hv, hb, hh, hr⟩
  · exact .inl h1
  · exact .inr ⟨g, cap, cur, hv, hb, (k g (by rw [hv]; rfl)).trans hh, hr⟩
/-- a row that another one's append leaves as it is -/
theorem owns_grownBy {w w' : World} {base size n : Nat} {t : TypeId} {v u : Value} {xs : List Value} (h : w.ownsRow base t size v n xs) (hg : w.grownBy w' u.ownBlock) (ha : Apart v u) : w'.ownsRow base t size v n xs :=
  owns_keep h fun g e => hg.block g (owns_block h e).2.1 (fun e2 => ha g e e2.symm)
theorem apart_types {w : World} {b1 b2 s1 s2 n1 n2 : Nat} {t1 t2 : TypeId} {v u : Value} {xs ys : List Value} (h : w.ownsRow b1 t1 s1 v n1 xs) (k : w.ownsRow b2 t2 s2 u n2 ys) (hne : t1 ≠ t2) : Apart v u := fun g h1 h2 => by
  obtain ⟨_, _, cs, hb⟩ := owns_block h h1
  obtain ⟨_, _, cs', hb'⟩ := owns_block k h2
  exact (hb.ne_ hb' hne) rfl
theorem apart_pushed {w : World} {v u v' : Value} {base size n : Nat} {t : TypeId} {xs : List Value} (hu : w.ownsRow base t size u n xs) (ha : Apart v u) (h5 : v'.ownBlock = v.ownBlock ∨ v'.ownBlock = some w.heap.size) : Apart v' u := fun g h1 h2 => by
  rcases h5 with h5 | h5
  · exact ha g (h5 ▸ h1) h2
  · rw [h5] at h1
    injection h1 with h1
    have := (owns_block hu h2).2.1
    omega
structure ZnI (w : World) (zb : Nat) (wr : World) (vo vu vt ve : Value) (z : Zn) : Prop where
  box : Blk wr zb 33 #[vo, vu, vt, ve]
  org : wr.ownsRow w.heap.size 29 2 vo z.org.length (pts z.org)
  cur : wr.ownsRow w.heap.size 29 2 vu z.cur.length (pts z.cur)
  touch : wr.ownsRow w.heap.size 3 1 vt z.touch.length (ints z.touch)
  ends : wr.ownsRow w.heap.size 3 1 ve z.ends.length (ints z.ends)
  ap1 : Apart vo vu
  ap2 : Apart vt ve
  fr : Fr (· = zb) w wr
  hzb : zb < w.heap.size
section
variable {w wr w1 : World} {zb : Nat} {vo vu vt ve : Value} {z : Zn}
theorem ZnI.go (h : ZnI w zb wr vo vu vt ve z) (hg : Grow wr w1) : ZnI w zb w1 vo vu vt ve z :=
  ⟨hg.blk h.box (fun x => x), owns_grow h.org hg, owns_grow h.cur hg, owns_grow h.touch hg, owns_grow h.ends hg, h.ap1, h.ap2, h.fr.trans (hg.mono fun _ _ x => x.elim), h.hzb⟩
theorem ZnI.alloc (h : ZnI w zb wr vo vu vt ve z) (o : Obj) : ZnI w zb (wr.alloc o) vo vu vt ve z := h.go ((Fr.refl _ _).alloc o)
theorem ZnI.drew (h : ZnI w zb wr vo vu vt ve z) : ZnI w zb wr.drew vo vu vt ve z := h.go ((Fr.refl _ _).drew)
theorem ZnI.drewN (h : ZnI w zb wr vo vu vt ve z) (n : Nat) : ZnI w zb (wr.drewN n) vo vu vt ve z := h.go ((Fr.refl _ _).drewN n)
/-- what is above the base is no box -/
theorem ZnI.fr_push (h : ZnI w zb wr vo vu vt ve z) {v : Value} (hv : ∀ g, v.ownBlock = some g → w.heap.size ≤ g) (hg : wr.grownBy w1 v.ownBlock) (i : Nat) (u : Value) : Fr (· = zb) w (w1.setCell ⟨zb, i, none⟩ u) :=
  Fr.setCell ⟨hg.os.trans h.fr.os, hg.tape.trans h.fr.tape, hg.output.trans h.fr.output, Nat.le_trans h.fr.size hg.size, fun k hk hs => (hg.block k (Nat.lt_of_lt_of_le hk h.fr.size) (fun e => by have := hv k e.symm; omega)).trans (h.fr.block k hk hs)⟩ (.inl rfl) _
theorem owns_box {base size n g0 : Nat} {t t0 : TypeId} {v : Value} {xs : List Value} {cs : Array Value} (h : w.ownsRow base t size v n xs) (hb : Blk w g0 t0 cs) (hne : t0 ≠ t) (i : Nat) (u : Value) : (w.setCell ⟨g0, i, none⟩ u).ownsRow base t size v n xs := owns_set h hb hne i u
theorem ZnI.push_org (h : ZnI w zb wr vo vu vt ve z) {v' : Value} {p : (Int × Int)} (hr : w1.ownsRow w.heap.size 29 2 v' (z.org.length + 1) (pts z.org ++ [.int .i64 p.1, .int .i64 p.2])) (hg : wr.grownBy w1 vo.ownBlock) (h5 : v'.ownBlock = vo.ownBlock ∨ v'.ownBlock = some wr.heap.size) :
    Blk w1 zb 33 #[vo, vu, vt, ve] ∧ ZnI w zb (w1.setCell ⟨zb, 0, none⟩ v') v' vu vt ve { z with org := z.org ++ [p] } := by
  have hb1 : Blk w1 zb 33 #[vo, vu, vt, ve] := h.box.grown hg fun e => by
    obtain ⟨_, _, cs, hb⟩ := owns_block h.org e.symm
    exact (h.box.ne_ hb (by decide)) rfl
  refine ⟨hb1, by have := hb1.set_ 0 v'; simpa using this, by have := owns_box hr hb1 (by decide) 0 v'; simpa [pts, List.flatMap_append] using this, owns_box (owns_grownBy h.cur hg (by exact h.ap1.symm)) hb1 (by decide) 0 v', owns_box (owns_grownBy h.touch hg (apart_types h.touch h.org (by decide))) hb1 (by decide) 0 v', owns_box (owns_grownBy h.ends hg (apart_types h.ends h.org (by decide))) hb1 (by decide) 0 v', apart_pushed h.cur h.ap1 h5, h.ap2, h.fr_push (fun g e => (owns_block h.org e).1) hg _ _, h.hzb⟩
theorem ZnI.push_cur (h : ZnI w zb wr vo vu vt ve z) {v' : Value} {p : (Int × Int)} (hr : w1.ownsRow w.heap.size 29 2 v' (z.cur.length + 1) (pts z.cur ++ [.int .i64 p.1, .int .i64 p.2])) (hg : wr.grownBy w1 vu.ownBlock) (h5 : v'.ownBlock = vu.ownBlock ∨ v'.ownBlock = some wr.heap.size) :
    Blk w1 zb 33 #[vo, vu, vt, ve] ∧ ZnI w zb (w1.setCell ⟨zb, 1, none⟩ v') vo v' vt ve { z with cur := z.cur ++ [p] } := by
  have hb1 : Blk w1 zb 33 #[vo, vu, vt, ve] := h.box.grown hg fun e => by
    obtain ⟨_, _, cs, hb⟩ := owns_block h.cur e.symm
    exact (h.box.ne_ hb (by decide)) rfl
  refine ⟨hb1, by have := hb1.set_ 1 v'; simpa using this, owns_box (owns_grownBy h.org hg (by exact h.ap1)) hb1 (by decide) 1 v', by have := owns_box hr hb1 (by decide) 1 v'; simpa [pts, List.flatMap_append] using this, owns_box (owns_grownBy h.touch hg (apart_types h.touch h.cur (by decide))) hb1 (by decide) 1 v', owns_box (owns_grownBy h.ends hg (apart_types h.ends h.cur (by decide))) hb1 (by decide) 1 v', (apart_pushed h.org h.ap1.symm h5).symm, h.ap2, h.fr_push (fun g e => (owns_block h.cur e).1) hg _ _, h.hzb⟩
theorem ZnI.push_touch (h : ZnI w zb wr vo vu vt ve z) {v' : Value} {p : Int} (hr : w1.ownsRow w.heap.size 3 1 v' (z.touch.length + 1) (ints z.touch ++ [.int .i64 p])) (hg : wr.grownBy w1 vt.ownBlock) (h5 : v'.ownBlock = vt.ownBlock ∨ v'.ownBlock = some wr.heap.size) :
    Blk w1 zb 33 #[vo, vu, vt, ve] ∧ ZnI w zb (w1.setCell ⟨zb, 2, none⟩ v') vo vu v' ve { z with touch := z.touch ++ [p] } := by
  have hb1 : Blk w1 zb 33 #[vo, vu, vt, ve] := h.box.grown hg fun e => by
    obtain ⟨_, _, cs, hb⟩ := owns_block h.touch e.symm
    exact (h.box.ne_ hb (by decide)) rfl
  refine ⟨hb1, by have := hb1.set_ 2 v'; simpa using this, owns_box (owns_grownBy h.org hg (apart_types h.org h.touch (by decide))) hb1 (by decide) 2 v', owns_box (owns_grownBy h.cur hg (apart_types h.cur h.touch (by decide))) hb1 (by decide) 2 v', by have := owns_box hr hb1 (by decide) 2 v'; simpa [ints, List.flatMap_append] using this, owns_box (owns_grownBy h.ends hg (by exact h.ap2.symm)) hb1 (by decide) 2 v', h.ap1, apart_pushed h.ends h.ap2 h5, h.fr_push (fun g e => (owns_block h.touch e).1) hg _ _, h.hzb⟩
theorem ZnI.push_ends (h : ZnI w zb wr vo vu vt ve z) {v' : Value} {p : Int} (hr : w1.ownsRow w.heap.size 3 1 v' (z.ends.length + 1) (ints z.ends ++ [.int .i64 p])) (hg : wr.grownBy w1 ve.ownBlock) (h5 : v'.ownBlock = ve.ownBlock ∨ v'.ownBlock = some wr.heap.size) :
    Blk w1 zb 33 #[vo, vu, vt, ve] ∧ ZnI w zb (w1.setCell ⟨zb, 3, none⟩ v') vo vu vt v' { z with ends := z.ends ++ [p] } := by
  have hb1 : Blk w1 zb 33 #[vo, vu, vt, ve] := h.box.grown hg fun e => by
    obtain ⟨_, _, cs, hb⟩ := owns_block h.ends e.symm
    exact (h.box.ne_ hb (by decide)) rfl
  refine ⟨hb1, by have := hb1.set_ 3 v'; simpa using this, owns_box (owns_grownBy h.org hg (apart_types h.org h.ends (by decide))) hb1 (by decide) 3 v', owns_box (owns_grownBy h.cur hg (apart_types h.cur h.ends (by decide))) hb1 (by decide) 3 v', owns_box (owns_grownBy h.touch hg (by exact h.ap2)) hb1 (by decide) 3 v', by have := owns_box hr hb1 (by decide) 3 v'; simpa [ints, List.flatMap_append] using this, h.ap1, (apart_pushed h.touch h.ap2.symm h5).symm, h.fr_push (fun g e => (owns_block h.ends e).1) hg _ _, h.hzb⟩
/-- the zone in the end -/
def ZnOwn (B : Nat) (W : World) (z : Zn) (og cu to en : Value) : Prop := W.ownsRow B 29 2 og z.org.length (pts z.org) ∧ W.ownsRow B 29 2 cu z.cur.length (pts z.cur) ∧ W.ownsRow B 3 1 to z.touch.length (ints z.touch) ∧ W.ownsRow B 3 1 en z.ends.length (ints z.ends)
def ZnPost (w : World) (z : Zn) (e : Ending) (w' : World) : Prop := ∃ og cu to en, e = .returned (.agg #[og, cu, to, en]) ∧ ZnOwn w.heap.size w' z og cu to en ∧ Grow w w'
end
end Go.Proofs.Ythdmdgmchkhngaa

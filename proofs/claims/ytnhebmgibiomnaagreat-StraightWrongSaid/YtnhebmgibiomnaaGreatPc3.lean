/- Parts of the proof, joined: ZBase McA. -/
import Derived.BigQuiet
import Derived.Conc.MuLone
import Derived.Deep.QuietTactic
import Derived.IntWalk
import Derived.Lib.SliceRun
import Derived.LoopN
import Derived.Test.YtnhebmgibiomnaaGreatProg
import Derived.Test.YtnhebmgibiomnaaGreatPc0
import Derived.Test.YtnhebmgibiomnaaGreatPc1
import Derived.Test.YtnhebmgibiomnaaGreatPc2
set_option linter.unusedVariables false
set_option linter.unusedSimpArgs false
namespace Go.Proofs.YtnhebmgibiomnaaGreat
open Go.RowKit
theorem k32_wrap (n : Int) : RowKit.wrap64 (RowKit.wrap32 n) = Mc.k32 n := by
  rw [IntWalk.wrap64_in _ (by unfold RowKit.wrap32; omega)]
  unfold RowKit.wrap32 Mc.k32
  rfl
theorem w64_wrap (n : Int) : RowKit.wrap64 n = Mc.w64 n := by
  unfold RowKit.wrap64 Mc.w64
  rfl
theorem ret_i64 {a b : Int} (h : a = b) : Ending.returned (.int .i64 a) = .returned (.int .i64 b) := by rw [h]
theorem tmod_emod (n d : Int) (hd : 0 < d) : n % d = if n.tmod d < 0 then n.tmod d + d else n.tmod d := by
  have h1 := Int.tmod_eq_emod (a := n) (b := d)
  have h2 := Int.emod_nonneg n (show d ≠ 0 by omega)
  have h3 := Int.emod_lt_of_pos n hd
  by_cases h : 0 ≤ n ∨ d ∣ n
  · rw [if_pos h] at h1
    rw [if_neg (by omega)]
    omega
  · rw [if_neg h, Int.natAbs_of_nonneg (by omega)] at h1
    have h4 : n % d ≠ 0 := fun e => h (.inr (Int.dvd_of_emod_eq_zero e))
    rw [if_pos (by omega)]
    omega
theorem fdiv_tdiv (a b : Int) (hb : b ≠ 0) : a.fdiv b = if a.tmod b ≠ 0 ∧ (decide (a < 0) ≠ decide (b < 0)) then a.tdiv b - 1 else a.tdiv b := by
  have h1 := Int.fdiv_eq_ediv (a := a) (b := b)
  have h2 := Int.tdiv_eq_ediv (a := a) (b := b)
  have h3 := Int.dvd_iff_tmod_eq_zero (a := b) (b := a)
  by_cases hd : b ∣ a
  · rw [if_pos (.inr hd)] at h1 h2
    rw [if_neg (fun h => h.1 (h3.1 hd))]
    omega
  · have h4 : a.tmod b ≠ 0 := fun e => hd (h3.2 e)
    have ha : a ≠ 0 := fun e => hd (by rw [e]; exact Int.dvd_zero _)
    rcases Int.lt_or_gt_of_ne hb with hb | hb
    · have hs : b.sign = -1 := Int.sign_eq_neg_one_of_neg hb
      rw [if_neg (by simp [hd]; omega)] at h1
      by_cases h0 : 0 ≤ a
      · rw [if_pos (.inl h0)] at h2
        rw [if_pos ⟨h4, by simp; omega⟩]
        omega
      · rw [if_neg (by simp [hd]; omega)] at h2
        rw [if_neg (by simp; omega)]
        omega
    · have hs : b.sign = 1 := Int.sign_eq_one_of_pos hb
      rw [if_pos (.inl (by omega))] at h1
      by_cases h0 : 0 ≤ a
      · rw [if_pos (.inl h0)] at h2
        rw [if_neg (by simp; omega)]
        omega
      · rw [if_neg (by simp [hd]; omega)] at h2
        rw [if_pos ⟨h4, by simp; omega⟩]
        omega
theorem w64_sub (a : Int) : RowKit.wrap64 (RowKit.wrap64 a - 1) = Mc.w64 (a - 1) := by
  unfold RowKit.wrap64 Mc.w64
  omega
namespace Mc
def K32 (n : Int) : Prop := -2147483648 ≤ n ∧ n ≤ 2147483647
theorem k32_in (n : Int) : K32 (k32 n) := by unfold K32 k32; omega
structure Ok (s : St) : Prop where
  stack : ∀ x ∈ s.stack, K32 x
  slen : s.stack.length ≤ 32
  cvt : ∀ x ∈ s.cvt, K32 x
  store : ∀ x ∈ s.store, K32 x
  stl : s.store.length = 32
  cur : ∀ p ∈ s.cur, K32 p.1 ∧ K32 p.2
  org : ∀ p ∈ s.org, K32 p.1 ∧ K32 p.2
  orgl : s.org.length = s.cur.length
  touch : ∀ t ∈ s.touch, 0 ≤ t ∧ t ≤ 3
  tl : s.touch.length = s.cur.length
  size : K32 s.size
  look : 0 ≤ s.look ∧ s.look ≤ 1
  move : 0 ≤ s.move ∧ s.move ≤ 1
  mode : 0 ≤ s.mode ∧ s.mode ≤ 5
  peak : s.peak ≤ 32
  frames : ∀ f ∈ s.frames, f.next ≤ f.code.length ∧ f.more ≤ 15 ∧ f.code.length ≤ 1000000
  flen : s.frames.length ≤ 21
  funcs : ∀ c ∈ s.funcs, c.length ≤ 1000000
  fnl : s.funcs.length ≤ 1000000
  cont : ∀ c ∈ s.cont, c.1 ≤ c.2 ∧ c.2 < s.cur.length
  contl : s.cont.length ≤ 1000000
  curl : s.cur.length ≤ 1000000
  cvl : s.cvt.length ≤ 1000000
  endl : s.ends.length ≤ 1000000
end Mc
open Mc
def ints (l : List Int) : List Value := l.map (Value.int .i64)
def pts (l : List (Int × Int)) : List Value := l.flatMap fun p => [.int .i64 p.1, .int .i64 p.2]
def cts (l : List (Nat × Nat)) : List Value := l.flatMap fun p => [.int .i64 p.1, .int .i64 p.2]
theorem ints_len (l : List Int) : (ints l).length = l.length := by simp [ints]
theorem pts_len (l : List (Int × Int)) : (pts l).length = l.length * 2 := by
  induction l with
  | nil => rfl
  | cons a r ih => simp only [pts, List.flatMap_cons, List.length_append, List.length_cons, List.length_nil] at *; omega
def Row (w : World) (O : Nat → Prop) (t : TypeId) (size : Nat) (v : Value) (n : Nat) (xs : List Value) : Prop :=
  w.ownsRow 0 t size v n xs ∧ ∀ g, v.ownBlock = some g → O g
def Apart (a b : Value) : Prop := ∀ g, a.ownBlock = some g → b.ownBlock ≠ some g
theorem Apart.symm {a b : Value} (h : Apart a b) : Apart b a := fun g h1 h2 => h g h2 h1
section
variable {w w' : World} {O O' : Nat → Prop} {t t' : TypeId} {size size' : Nat} {v v' : Value} {n n' : Nat} {xs xs' : List Value}
theorem Row.keep (h : Row w O t size v n xs) (hk : ∀ g, v.ownBlock = some g → w'.heap[g]? = w.heap[g]?) (hO : ∀ k, O k → O' k) : Row w' O' t size v n xs := by
  refine ⟨⟨h.1.1, ?_⟩, fun g hg => hO g (h.2 g hg)⟩
  rcases h.1.2 with h1 | ⟨g, cap, cur, hv, hg, hh, hr⟩
  · exact .inl h1
  · exact .inr ⟨g, cap, cur, hv, hg, (hk g (by rw [hv]; rfl)).trans hh, hr⟩
theorem Row.block (h : Row w O t size v n xs) {g : Nat} (hg : v.ownBlock = some g) : O g ∧ g < w.heap.size ∧ ∃ cs, Blk w g t cs := by
  refine ⟨h.2 g hg, (h.1.lt g hg).2, ?_⟩
  rcases h.1.2 with ⟨rfl, _⟩ | ⟨g', cap, cur, rfl, _, hh, _⟩
  · simp [Value.ownBlock] at hg
  · simp only [Value.ownBlock, Option.some.injEq] at hg
    subst hg
    exact ⟨cur, hh⟩
theorem Row.apart (h : Row w O t size v n xs) (h' : Row w O' t' size' v' n' xs') (hne : t ≠ t') : Apart v v' := by
  intro g h1 h2
  obtain ⟨_, _, cs, hb⟩ := h.block h1
  obtain ⟨_, _, cs', hb'⟩ := h'.block h2
  exact hb.ne_ hb' hne rfl
theorem Row.ne_blk (h : Row w O t size v n xs) {b : Nat} {cs : Array Value} (hb : Blk w b t' cs) (hne : t ≠ t') {g : Nat} (hg : v.ownBlock = some g) : g ≠ b := by
  obtain ⟨_, _, cs', hb'⟩ := h.block hg
  exact hb'.ne_ hb hne
theorem Row.form (h : Row w O t size v n xs) : ∃ A c, v = .slice A n c ∧ n ≤ c ∧ c ≤ maxLen := by
  rcases h.1.2 with ⟨rfl, rfl⟩ | ⟨g', cap, cur, rfl, _, hh, h1, h2, _⟩
  · exact ⟨none, 0, rfl, Nat.le_refl _, Nat.zero_le _⟩
  · exact ⟨_, cap, rfl, h1, h2⟩
theorem Row.at_ (h : Row w O t size v n xs) (hn : 0 < n) : ∃ g c, v = .slice (some ⟨g, 0, none⟩) n c ∧ n ≤ c ∧ c ≤ maxLen ∧ O g ∧ g < w.heap.size ∧ (∀ j u, xs[j]? = some u → w.cell? ⟨g, j, none⟩ = some u) ∧ ∀ j, w.frozen? ⟨g, j, none⟩ = false := by
  rcases h.1.2 with ⟨_, h0⟩ | ⟨g, cap, cur, rfl, _, hh, h1, h2, h3, h4⟩
  · omega
  · have hb : Blk w g t cur := hh
    refine ⟨g, cap, rfl, h1, h2, h.2 g rfl, hb.lt, fun j u hu => ?_, fun j => hb.frozen j⟩
    rw [hb.cell, ← h4] at *
    rw [List.getElem?_take] at hu
    split at hu
    · simpa using hu
    · cases hu
theorem Row.set_ (h : Row w O t size v n xs) {g : Nat} (hg : v.ownBlock = some g) {j : Nat} (_hj : j < xs.length) (u : Value) : Row (w.setCell ⟨g, j, none⟩ u) O t size v n (xs.set j u) := by
  refine ⟨⟨by rw [List.length_set]; exact h.1.1, ?_⟩, h.2⟩
  rcases h.1.2 with ⟨rfl, _⟩ | ⟨g', cap, cur, rfl, hg', hh, h1, h2, h3, h4⟩
  · simp [Value.ownBlock] at hg
  · simp only [Value.ownBlock, Option.some.injEq] at hg
    subst hg
    have hb : Blk w g' t cur := hh
    refine .inr ⟨g', cap, cur.setIfInBounds j u, rfl, hg', hb.set_ j u, h1, h2, by rw [Array.size_setIfInBounds]; exact h3, ?_⟩
    rw [Array.toList_setIfInBounds, List.take_set, h4]
end
theorem info_m {P : Program} {t : TypeId} {z : Value} {n b : Nat} (h : (P.info? t).map (fun i => (i.zero, i.size, i.bytes)) = some (some z, n, b)) : ∃ i, P.info? t = some i ∧ i.zero = some z ∧ i.size = n ∧ i.bytes = b := by
  cases hi : P.info? t with
  | none => rw [hi] at h; cases h
  | some i =>
    rw [hi] at h
    simp only [Option.map_some, Option.some.injEq, Prod.mk.injEq] at h
    exact ⟨i, rfl, h.1, h.2.1, h.2.2⟩
theorem info_int : (Tryz.prog.info? 3).map (fun i => (i.zero, i.size, i.bytes)) = some (some (.int .i64 0), 1, 8) := by kernel_rfl
theorem Reads.blk {w : World} {g : Nat} {t : TypeId} {cs : List Value} (h : Blk w g t cs.toArray) (size n : Nat) (hl : cs.length = n * size) : Reads w w.heap.size size (some ⟨g, 0, none⟩) n cs :=
  ⟨hl, fun _ => ⟨g, 0, rfl, h.lt, fun j u hu => by rw [Nat.zero_add, h.cell]; simpa using hu⟩⟩
abbrev Grow (w w' : World) : Prop := Fr (fun _ => False) w w'
theorem Grow.below {w w' : World} {B : Nat} (h : Grow w w') (hB : B ≤ w.heap.size) : Below B w w' := Fr.below h hB fun _ _ x => x
theorem owns_grow {w w' : World} {base size n : Nat} {t : TypeId} {v : Value} {xs : List Value} (h : w.ownsRow base t size v n xs) (hg : Grow w w') : w'.ownsRow base t size v n xs := by
  refine ⟨h.1, ?_⟩
  rcases h.2 with h1 | ⟨g, cap, cur, hv, hb, hh, hr⟩
  · exact .inl h1
  · exact .inr ⟨g, cap, cur, hv, hb, (hg.block g (Array.getElem?_eq_some_iff.1 hh).1 (fun x => x)).trans hh, hr⟩
theorem owns_mono {w : World} {base base' size n : Nat} {t : TypeId} {v : Value} {xs : List Value} (h : w.ownsRow base t size v n xs) (hb : base' ≤ base) : w.ownsRow base' t size v n xs := by
  refine ⟨h.1, ?_⟩
  rcases h.2 with h1 | ⟨g, cap, cur, hv, hle, hr⟩
  · exact .inl h1
  · exact .inr ⟨g, cap, cur, hv, by omega, hr⟩
theorem owns_nil (w : World) (base size : Nat) (t : TypeId) : w.ownsRow base t size (.slice none 0 0) 0 [] := ⟨by simp, .inl ⟨rfl, rfl⟩⟩
theorem owns_empty {w : World} {base size g : Nat} {t : TypeId} (hb : Blk w g t #[]) (hg : base ≤ g) : w.ownsRow base t size (.slice (some ⟨g, 0, none⟩) 0 0) 0 [] :=
  ⟨by simp, .inr ⟨g, 0, #[], rfl, hg, hb, Nat.le_refl _, by unfold maxLen; omega, by simp, by simp⟩⟩
def ClPost (w : World) (t : TypeId) (size n : Nat) (xs : List Value) (e : Ending) (w' : World) : Prop := ∃ v, e = .returned v ∧ w'.ownsRow w.heap.size t size v n xs ∧ Grow w w'
theorem grow_of_grown {w w1 w' : World} {r : Option Nat} (h1 : Grow w w1) (hg : w1.grownBy w' r) (h : ∀ g, r = some g → w.heap.size ≤ g) : Grow w w' :=
  ⟨hg.os.trans h1.os, hg.tape.trans h1.tape, hg.output.trans h1.output, Nat.le_trans h1.size hg.size, fun k hk hs => (hg.block k (Nat.lt_of_lt_of_le hk h1.size) (fun e => by have := h k e.symm; omega)).trans (h1.block k hk hs)⟩
theorem info_pt : (Tryz.prog.info? 76).map (fun i => (i.zero, i.size, i.bytes)) = some (some (.agg #[.int .i64 0, .int .i64 0]), 2, 16) := by kernel_rfl
theorem info_ins : (Tryz.prog.info? 96).map (fun i => (i.zero, i.size, i.bytes)) = some (some (.agg #[.int .i64 0, .int .i64 0]), 2, 16) := by kernel_rfl
theorem mem_set_k {l : List Int} {P : Int → Prop} (h : ∀ x ∈ l, P x) {i : Nat} {v : Int} (hv : P v) : ∀ x ∈ l.set i v, P x := fun x hx => by
  rcases List.mem_or_eq_of_mem_set hx with hx | rfl
  · exact h x hx
  · exact hv
theorem ints_set (l : List Int) (i : Nat) (v : Int) : ints (l.set i v) = (ints l).set i (.int .i64 v) := by simp [ints, List.map_set]
theorem ints_get {l : List Int} {i : Nat} {v : Int} (h : l[i]? = some v) : (ints l)[i]? = some (.int .i64 v) := by simp [ints, h]
theorem pts_get : ∀ {l : List (Int × Int)} {i : Nat} {v : Int × Int}, l[i]? = some v → (pts l)[2 * i]? = some (.int .i64 v.1) ∧ (pts l)[2 * i + 1]? = some (.int .i64 v.2)
  | a :: l, 0, v, h => by
    simp only [List.getElem?_cons_zero, Option.some.injEq] at h
    subst h
    exact ⟨rfl, rfl⟩
  | a :: l, i + 1, v, h => by
    have := pts_get (l := l) (i := i) (v := v) h
    rw [show 2 * (i + 1) = 2 * i + 2 by omega]
    exact this
  | [], i, v, h => by simp at h
theorem at_no {l : List Int} {x : Int} (h : ¬ (0 ≤ x ∧ x < l.length)) : at_ l x = 0 := by unfold at_; rw [if_neg h]
theorem at_yes {l : List Int} {i : Nat} {v : Int} (h : l[i]? = some v) : at_ l i = v := by
  have := (List.getElem?_eq_some_iff.1 h).1
  unfold at_
  rw [if_pos (by omega), Int.toNat_natCast, List.getD_eq_getElem?_getD, h]
  rfl
theorem put_no {l : List Int} {x v : Int} (h : ¬ (0 ≤ x ∧ x < l.length)) : put_ l x v = l := by unfold put_; rw [if_neg h]
theorem put_yes {l : List Int} {i : Nat} {v : Int} (h : i < l.length) : put_ l i v = l.set i v := by
  unfold put_
  rw [if_pos (by omega), Int.toNat_natCast]
theorem getD_of {α : Type} {l : List α} {i : Nat} {x d : α} (h : l[i]? = some x) : l.getD i d = x := by rw [List.getD_eq_getElem?_getD, h]; rfl
def mk {α : Type} (n i : Nat) (F : Nat → α) (z : α) : List α := (List.range n).map fun j => if j < i then F j else z
theorem mk_len {α : Type} (n i : Nat) (F : Nat → α) (z : α) : (mk n i F z).length = n := by simp [mk]
theorem mk_get {α : Type} {n i : Nat} {F : Nat → α} {z : α} {j : Nat} (h : j < n) : (mk n i F z)[j]? = some (if j < i then F j else z) := by
  unfold mk
  rw [List.getElem?_map, List.getElem?_range h]
  rfl
theorem mk_set {α : Type} {n i : Nat} {F : Nat → α} {z : α} (h : i < n) : (mk n i F z).set i (F i) = mk n (i + 1) F z := by
  refine List.ext_getElem? fun j => ?_
  rw [List.getElem?_set]
  rcases Nat.lt_or_ge j n with hj | hj
  · rw [mk_get hj, mk_get hj, mk_len]
    by_cases hij : i = j
    · subst hij; rw [if_pos rfl, if_pos h, if_pos (by omega)]
    · rw [if_neg hij]
      by_cases h2 : j < i
      · rw [if_pos h2, if_pos (by omega)]
      · rw [if_neg h2, if_neg (by omega)]
  · rw [if_neg (by omega), List.getElem?_eq_none (by rw [mk_len]; omega), List.getElem?_eq_none (by rw [mk_len]; omega)]
theorem mk_zero {α : Type} (n : Nat) (F : Nat → α) (z : α) : mk n 0 F z = List.replicate n z := by
  refine List.ext_getElem? fun j => ?_
  rcases Nat.lt_or_ge j n with hj | hj
  · rw [mk_get hj, if_neg (by omega), List.getElem?_replicate, if_pos hj]
  · rw [List.getElem?_eq_none (by rw [mk_len]; omega), List.getElem?_eq_none (by simpa using hj)]
theorem mk_full {α : Type} (n : Nat) (F : Nat → α) (z : α) : mk n n F z = (List.range n).map F := by
  unfold mk
  refine List.map_congr_left fun j hj => ?_
  rw [if_pos (List.mem_range.1 hj)]
theorem mk_keep {α : Type} {n i : Nat} {F : Nat → α} {z : α} (h : i < n → F i = z) : mk n i F z = mk n (i + 1) F z := by
  refine List.ext_getElem? fun j => ?_
  rcases Nat.lt_or_ge j n with hj | hj
  · rw [mk_get hj, mk_get hj]
    by_cases hij : j = i
    · subst hij; rw [if_neg (by omega), if_pos (by omega), h hj]
    · by_cases h2 : j < i
      · rw [if_pos h2, if_pos (by omega)]
      · rw [if_neg h2, if_neg (by omega)]
  · rw [List.getElem?_eq_none (by rw [mk_len]; omega), List.getElem?_eq_none (by rw [mk_len]; omega)]
def Mc.oF (z : Zn) (j : Nat) : Int × Int := k2 ((z.org[j]?).getD (z.cur.getD j (0, 0)))
def Mc.cF (z : Zn) (j : Nat) : Int × Int := k2 (z.cur.getD j (0, 0))
def Mc.tF (z : Zn) (j : Nat) : Int := (z.touch.getD j 0) % 4
theorem range_cF (z : Zn) : (List.range z.cur.length).map (cF z) = z.cur.map k2 := by
  refine List.ext_getElem? fun j => ?_
  rw [List.getElem?_map, List.getElem?_map]
  rcases Nat.lt_or_ge j z.cur.length with hj | hj
  · rw [List.getElem?_range hj, List.getElem?_eq_getElem hj]
    simp only [Option.map_some, cF, List.getD_eq_getElem?_getD, List.getElem?_eq_getElem hj, Option.getD_some]
  · rw [List.getElem?_eq_none (by simpa using hj), List.getElem?_eq_none hj]; rfl
structure ZnAt (W : World) (B : Nat) (z : Zn) (oA : Option Addr) (cA : Option Addr) (tA : Option Addr) (eA : Option Addr) : Prop where
  org : Reads W B 2 oA z.org.length (pts z.org)
  cur : Reads W B 2 cA z.cur.length (pts z.cur)
  touch : Reads W B 1 tA z.touch.length (ints z.touch)
  ends : Reads W B 1 eA z.ends.length (ints z.ends)
structure ZnOk (z : Zn) : Prop where
  org : z.org.length ≤ 1000000
  cur : z.cur.length ≤ 1000000
  touch : z.touch.length ≤ 1000000
  ends : z.ends.length ≤ 1000000
theorem ZnAt.keep {W W' : World} {B : Nat} {z : Zn} {oA cA tA eA : Option Addr} (h : ZnAt W B z oA cA tA eA) (hk : ∀ p : Addr, p.block < B → W'.cell? p = W.cell? p) : ZnAt W' B z oA cA tA eA :=
  ⟨h.org.keep hk, h.cur.keep hk, h.touch.keep hk, h.ends.keep hk⟩
theorem Reads.at_ {w : World} {B size : Nat} {A : Option Addr} {n : Nat} {xs : List Value} (h : Reads w B size A n xs) (hn : 0 < n) : ∃ b off, A = some ⟨b, off, none⟩ ∧ b < B ∧ ∀ j u, xs[j]? = some u → w.cell? ⟨b, off + j, none⟩ = some u := h.2 hn
theorem bits_and3 (n : Int) : bits .and .i64 n 3 = n % 4 := by
  have h : (BitVec.ofInt 64 3).toNat = 2 ^ 2 - 1 := by decide
  have key : (BitVec.ofInt 64 n &&& BitVec.ofInt 64 3).toNat = (n % ((2 ^ 64 : Nat) : Int)).toNat % 2 ^ 2 := by
    rw [BitVec.toNat_and, BitVec.toNat_ofInt, h, Nat.and_two_pow_sub_one_eq_mod]
  show IntKind.i64.wrap ((BitVec.ofInt 64 n &&& BitVec.ofInt 64 3).toNat : Nat) = n % 4
  rw [key, IntKind.wrap_i64]
  omega
theorem apart_nil {v : Value} : Apart (.slice none 0 0) v := fun g h => by simp [Value.ownBlock] at h
theorem ints_one (l : List Int) : ∀ u ∈ ints l, u.oneCell' = true := by
  intro u hu
  obtain ⟨x, _, rfl⟩ := List.mem_map.1 hu
  rfl
theorem pts_one (l : List (Int × Int)) : ∀ u ∈ pts l, u.oneCell' = true := by
  intro u hu
  obtain ⟨x, _, hx⟩ := List.mem_flatMap.1 hu
  simp only [List.mem_cons, List.not_mem_nil, or_false] at hx
  rcases hx with rfl | rfl <;> rfl
theorem owns_form {w : World} {base size n : Nat} {t : TypeId} {v : Value} {xs : List Value} (h : w.ownsRow base t size v n xs) : ∃ A c, v = .slice A n c ∧ n ≤ c ∧ c ≤ maxLen := by
  rcases h.2 with ⟨rfl, rfl⟩ | ⟨g, cap, cur, rfl, _, _, h1, h2, _⟩
  · exact ⟨none, 0, rfl, Nat.le_refl _, Nat.zero_le _⟩
  · exact ⟨_, cap, rfl, h1, h2⟩
theorem owns_set {W : World} {base size n : Nat} {t : TypeId} {v : Value} {xs : List Value} (h : W.ownsRow base t size v n xs) {b : Nat} {t0 : TypeId} {cs : Array Value} (hb : Blk W b t0 cs) (hne : t0 ≠ t) (i : Nat) (u : Value) : (W.setCell ⟨b, i, none⟩ u).ownsRow base t size v n xs := by
  refine ⟨h.1, ?_⟩
  rcases h.2 with h1 | ⟨g, cap, cur, hv, hle, hh, hr⟩
  · exact .inl h1
  · have hng : g ≠ b := fun e => hb.ne_ (show Blk W g t cur from hh) hne e.symm
    exact .inr ⟨g, cap, cur, hv, hle, (Below.heap_setCell _ _ _ _ hng).trans hh, hr⟩
theorem owns_at {W : World} {base size n : Nat} {t : TypeId} {v : Value} {xs : List Value} (h : W.ownsRow base t size v n xs) (hn : 0 < n) :
    ∃ g c, v = .slice (some ⟨g, 0, none⟩) n c ∧ n ≤ c ∧ base ≤ g ∧ g < W.heap.size ∧ ∀ j u, xs[j]? = some u → W.cell? ⟨g, j, none⟩ = some u := by
  rcases h.2 with ⟨_, h0⟩ | ⟨g, cap, cur, rfl, hg, hh, h1, h2, h3, h4⟩
  · omega
  · have hb : Blk W g t cur := hh
    refine ⟨g, cap, rfl, h1, hg, hb.lt, fun j u hu => ?_⟩
    rw [hb.cell]
    rw [← h4, List.getElem?_take] at hu
    split at hu
    · simpa using hu
    · cases hu
theorem step_own {P : Program} (w : World) {ops : Array Oper} {o : Oper} {a : Act} {K : Act → World → Prop} {Q : Exit → Act → World → Prop} {E : Prop} (hgd : o.guard = none) (s x : Operand) (t : TypeId)
    (ho : o.op = .call { callee := .builtin .append, args := #[s, x], argTypes := #[t, t] }) (base : Nat) (e : TypeId) (i : TypeInfo) (z : Value) (size bytes : Nat) (ht : P.underlying t = some (.slice e)) (hi : P.info? e = some i) (hz : i.zero = some z)
    (hsize : i.size = size) (hby : i.bytes = bytes) (hzs : z.cells.size = size) (hsz : 0 < size)
    (v : Value) (n : Nat) (xs : List Value) (hs : a.eval s = v) (hrow : w.ownsRow base e size v n xs)
    (B : Nat) (A : Option Addr) (m c : Nat) (news : List Value) (hx : a.eval x = .slice A m c) (hr : Reads w B size A m news) (h1 : ∀ u ∈ news, u.oneCell' = true)
    (h63 : n + m ≤ maxLen) (hbytes : (n + m) * bytes ≤ 140737488355328) (hbase : base ≤ w.heap.size)
    (h : ∀ v' w', w'.ownsRow base e size v' (n + m) (xs ++ news) → w.grownBy w' v.ownBlock → (v'.ownBlock = v.ownBlock ∨ v'.ownBlock = some w.heap.size) → K (a.put o.dst v') w') :
    if Region.wanted o (yielded ops a.tmps) = true then Oper.wp P o a w K Q else E := by
  have hw : Region.wanted o (yielded ops a.tmps) = true := by simp [Region.wanted, hgd]
  rw [if_pos hw]
  exact wp_append_any w s x t ho base e i z size bytes ht hi hz hsize hby hzs hsz v n xs hs hrow B A m c news hx hr h1 h63 hbytes hbase h
theorem owns_block {w : World} {base size n g : Nat} {t : TypeId} {v : Value} {xs : List Value} (h : w.ownsRow base t size v n xs) (hg : v.ownBlock = some g) : base ≤ g ∧ g < w.heap.size ∧ ∃ cs, Blk w g t cs := by
  rcases h.2 with ⟨rfl, _⟩ | ⟨g', cap, cur, rfl, hb, hh, _⟩
  · simp [Value.ownBlock] at hg
  · simp only [Value.ownBlock, Option.some.injEq] at hg
    subst hg
    exact ⟨hb, (Array.getElem?_eq_some_iff.1 hh).1, cur, hh⟩
theorem owns_keep {w w' : World} {base size n : Nat} {t : TypeId} {v : Value} {xs : List Value} (h : w.ownsRow base t size v n xs) (k : ∀ g, v.ownBlock = some g → w'.heap[g]? = w.heap[g]?) : w'.ownsRow base t size v n xs := by
  refine ⟨h.1, ?_⟩
  rcases h.2 with h1 | ⟨g, cap, cur, hv, hb, hh, hr⟩
  · exact .inl h1
  · exact .inr ⟨g, cap, cur, hv, hb, (k g (by rw [hv]; rfl)).trans hh, hr⟩
theorem owns_grownBy {w w' : World} {base size n : Nat} {t : TypeId} {v u : Value} {xs : List Value} (h : w.ownsRow base t size v n xs) (hg : w.grownBy w' u.ownBlock) (ha : Apart v u) : w'.ownsRow base t size v n xs :=
  owns_keep h fun g e => hg.block g (owns_block h e).2.1 (fun e2 => ha g e e2.symm)
theorem apart_types {w : World} {b1 b2 s1 s2 n1 n2 : Nat} {t1 t2 : TypeId} {v u : Value} {xs ys : List Value} (h : w.ownsRow b1 t1 s1 v n1 xs) (k : w.ownsRow b2 t2 s2 u n2 ys) (hne : t1 ≠ t2) : Apart v u := fun g h1 h2 => by
  obtain ⟨_, _, cs, hb⟩ := owns_block h h1
  obtain ⟨_, _, cs', hb'⟩ := owns_block k h2
  exact (hb.ne_ hb' hne) rfl
section
variable {w wr w1 : World} {zb : Nat} {vo vu vt ve : Value} {z : Zn}
end
theorem pts_at : ∀ (l : List (Int × Int)) (k : Nat) (x : Int × Int), l[k]? = some x → (pts l)[k * 2]? = some (.int .i64 x.1) ∧ (pts l)[k * 2 + 1]? = some (.int .i64 x.2)
  | [], k, x, h => by simp at h
  | y :: r, 0, x, h => by
    simp only [List.getElem?_cons_zero, Option.some.injEq] at h
    subst h
    exact ⟨rfl, rfl⟩
  | y :: r, k + 1, x, h => by
    have := pts_at r k x (by simpa using h)
    rw [Nat.add_mul]
    exact this
theorem pts_setp : ∀ {l : List (Int × Int)} {i : Nat} (_ : i < l.length) (p : Int × Int), pts (l.set i p) = ((pts l).set (i * 2) (.int .i64 p.1)).set (i * 2 + 1) (.int .i64 p.2)
  | a :: l, 0, h, p => by simp [pts]
  | a :: l, i + 1, h, p => by
    have ih := pts_setp (l := l) (i := i) (by simpa using h) p
    have : ((pts (a :: l)).set ((i + 1) * 2) (.int .i64 p.1)).set ((i + 1) * 2 + 1) (.int .i64 p.2) = .int .i64 a.1 :: .int .i64 a.2 :: ((pts l).set (i * 2) (.int .i64 p.1)).set (i * 2 + 1) (.int .i64 p.2) := by
      rw [show (i + 1) * 2 = i * 2 + 1 + 1 by omega]
      rfl
    rw [this, ← ih]
    rfl
  | [], i, h, p => by simp at h
end Go.Proofs.YtnhebmgibiomnaaGreat
namespace Go.Proofs.YtnhebmgibiomnaaGreat
open Go.RowKit
theorem kept_any (n : Int) (w : World) : Calls Tryz.prog 98 #[.int .i64 n] w fun e w' => e = .returned (.int .i64 (Mc.k32 n)) ∧ w = w' := by
  go_enter Tryz.func98, Tryz.ntmps98
  go_wp2
  go_ret
  exact ⟨ret_i64 (k32_wrap n), rfl⟩
theorem kept64_any (n : Int) (w : World) : Calls Tryz.prog 176 #[.int .i64 n] w fun e w' => e = .returned (.int .i64 (Mc.k32 n)) ∧ w = w' := by
  go_enter Tryz.func176, Tryz.ntmps176
  go_wp2
  go_ret
  exact ⟨ret_i64 (k32_wrap n), rfl⟩
theorem rest_m (n d : Int) (w : World) (hd : 0 < d) (hd2 : d ≤ 1000) : Calls Tryz.prog 195 #[.int .i64 n, .int .i64 d] w fun e w' => e = .returned (.int .i64 (n % d)) ∧ w = w' := by
  have hm := Lib.hid (tmod_emod n d hd)
  have h2 := Int.emod_nonneg n (show d ≠ 0 by omega)
  have h3 := Int.emod_lt_of_pos n hd
  go_enter Tryz.func195, Tryz.ntmps195
  go_wp2
  all_goals go_ret
  · have hm := hm.out
    rw [if_pos ‹_›] at hm
    exact ⟨ret_i64 (by rw [hm]; exact IntWalk.wrap64_in _ (by omega)), rfl⟩
  · have hm := hm.out
    rw [if_neg (by omega)] at hm
    exact ⟨ret_i64 hm.symm, rfl⟩
theorem divided_any (a b : Int) (w : World) : Calls Tryz.prog 178 #[.int .i64 a, .int .i64 b] w fun e w' => e = .returned (.int .i64 (Mc.w64 (Mc.divd a b))) ∧ w = w' := by
  by_cases hb : b = 0
  · subst hb
    go_enter Tryz.func178, Tryz.ntmps178
    go_wp2
    go_ret
    exact ⟨ret_i64 rfl, rfl⟩
  · have hdv : Mc.divd a b = a.fdiv b := by unfold Mc.divd; rw [if_neg hb]
    have HF := Lib.hid (fdiv_tdiv a b hb)
    have HD := Lib.hid hdv
    have h1 : (b == 0) = false := beq_eq_false_iff_ne.2 hb
    clear hdv
    by_cases hc : a.tmod b ≠ 0 ∧ (decide (a < 0) ≠ decide (b < 0))
    · have e1 : (a.tmod b != 0) = true := bne_iff_ne.2 hc.1
      have e2 : (decide (a < 0) == decide (b < 0)) = false := beq_eq_false_iff_ne.2 hc.2
      have HC := Lib.hid hc
      obtain ⟨hc1, _⟩ := hc
      go_enter Tryz.func178, Tryz.ntmps178
      go_wp2
      go_ret
      refine ⟨ret_i64 ?_, rfl⟩
      rw [HD.out, HF.out, if_pos HC.out]
      exact w64_sub _
    · have HC := Lib.hid hc
      clear hc
      by_cases hz : a.tmod b = 0
      · have e1 : (a.tmod b != 0) = false := by simp [hz]
        go_enter Tryz.func178, Tryz.ntmps178
        go_wp2
        go_ret
        refine ⟨ret_i64 ?_, rfl⟩
        rw [HD.out, HF.out, if_neg HC.out]
        exact w64_wrap _
      · have e1 : (a.tmod b != 0) = true := bne_iff_ne.2 hz
        have e2 : (decide (a < 0) == decide (b < 0)) = true := by
          rcases hd : (decide (a < 0) == decide (b < 0)) with _ | _
          · exact absurd ⟨hz, beq_eq_false_iff_ne.1 hd⟩ HC.out
          · rfl
        go_enter Tryz.func178, Tryz.ntmps178
        go_wp2
        go_ret
        refine ⟨ret_i64 ?_, rfl⟩
        rw [HD.out, HF.out, if_neg HC.out]
        exact w64_wrap _
theorem truth_any (b : Bool) (w : World) : Calls Tryz.prog 188 #[.bool b] w fun e w' => e = .returned (.int .i64 (Mc.truth b)) ∧ w = w' := by
  cases b
  all_goals
    go_enter Tryz.func188, Tryz.ntmps188
    go_wp2
    go_ret
    exact ⟨rfl, rfl⟩
end Go.Proofs.YtnhebmgibiomnaaGreat
namespace Go.Proofs.YtnhebmgibiomnaaGreat
open Go.RowKit
open Mc
def Codes (w : World) (O : Nat → Prop) : List Value → List (List (Int × Int)) → Prop
  | [], [] => True
  | v :: vs, c :: cs => Row w O 96 2 v c.length (pts c) ∧ Codes w O vs cs
  | _, _ => False
theorem Codes.len {w : World} {O : Nat → Prop} : ∀ {vs : List Value} {cs : List (List (Int × Int))}, Codes w O vs cs → vs.length = cs.length
  | [], [], _ => rfl
  | _ :: _, _ :: _, h => by simp [Codes.len h.2]
  | [], _ :: _, h => h.elim
  | _ :: _, [], h => h.elim
theorem Codes.keep {w w' : World} {O O' : Nat → Prop} (hk : ∀ g cs, O g → Blk w g 96 cs → w'.heap[g]? = w.heap[g]?) (hO : ∀ k, O k → O' k) : ∀ {vs : List Value} {cs : List (List (Int × Int))}, Codes w O vs cs → Codes w' O' vs cs
  | [], [], _ => trivial
  | _ :: _, _ :: _, h => ⟨h.1.keep (fun g hg => by obtain ⟨h1, _, cs, h2⟩ := h.1.block hg; exact hk g cs h1 h2) hO, Codes.keep hk hO h.2⟩
  | [], _ :: _, h => h.elim
  | _ :: _, [], h => h.elim
def frC : List Value → List Fm → List Value
  | v :: vs, f :: fs => frC vs fs ++ [v, .int .i64 f.next, .int .i64 f.more]
  | _, _ => []
def deedFn : Nat → Fn × Option (TypeId × Fn)
  | 1 => (.func 166, none)
  | 2 => (.func 168, none)
  | 3 => (.func 170, none)
  | 4 => (.func 171, none)
  | 5 => (.func 250, some (74, .func 173))
  | 6 => (.func 250, some (74, .func 174))
  | 7 => (.func 250, some (74, .func 175))
  | 8 => (.func 250, some (74, .func 177))
  | 9 => (.func 251, some (117, .func 180))
  | 10 => (.func 251, some (117, .func 181))
  | 11 => (.func 250, some (74, .func 182))
  | 12 => (.func 250, some (74, .func 183))
  | 13 => (.func 251, some (117, .func 184))
  | 14 => (.func 251, some (117, .func 185))
  | 15 => (.func 186, none)
  | 16 => (.func 250, some (74, .func 187))
  | 17 => (.func 250, some (74, .func 189))
  | 18 => (.func 250, some (74, .func 190))
  | 19 => (.func 251, some (117, .func 191))
  | 20 => (.func 250, some (74, .func 192))
  | 21 => (.func 250, some (74, .func 193))
  | 22 => (.func 194, none)
  | 23 => (.func 196, none)
  | 24 => (.func 197, none)
  | 25 => (.func 198, none)
  | 26 => (.func 200, none)
  | 27 => (.func 202, none)
  | 28 => (.func 203, none)
  | 29 => (.func 204, none)
  | 30 => (.func 206, none)
  | 31 => (.func 207, none)
  | 32 => (.func 209, none)
  | 33 => (.func 211, none)
  | 34 => (.func 213, none)
  | 35 => (.func 215, none)
  | 36 => (.func 217, none)
  | 37 => (.func 219, none)
  | 38 => (.func 221, none)
  | _ => (.func 223, none)
def deedV (bs : Nat → Nat) (i : Nat) : Value := .func (deedFn i).1 #[] (match (deedFn i).2 with | some _ => #[.pointer (some ⟨bs i, 0, none⟩)] | none => #[])
def deedEs (bs : Nat → Nat) (n : Nat) : List MapEntry := (List.range n).map fun i => ⟨.int .i64 ((i + 1 : Nat) : Int), deedV bs (i + 1), i⟩
def DeedBox (w : World) (O : Nat → Prop) (bs : Nat → Nat) (i : Nat) : Prop := match (deedFn i).2 with | some (t, f) => O (bs i) ∧ Blk w (bs i) t #[.func f #[] #[]] | none => True
def Deeds (w : World) (O : Nat → Prop) (db : Nat) : Prop := O db ∧ ∃ bs clock, w.heap[db]? = some (.map (deedEs bs 39).toArray clock) ∧ ∀ i, 1 ≤ i → i ≤ 39 → DeedBox w O bs i
theorem Deeds.keep {w w' : World} {O O' : Nat → Prop} {db : Nat} (h : Deeds w O db) (hm : w'.heap[db]? = w.heap[db]?) (hk : ∀ g t cs, O g → (t = 74 ∨ t = 117) → Blk w g t cs → w'.heap[g]? = w.heap[g]?) (hO : ∀ k, O k → O' k) : Deeds w' O' db := by
  obtain ⟨h0, bs, clock, h1, h2⟩ := h
  refine ⟨hO _ h0, bs, clock, hm.trans h1, fun i hi1 hi2 => ?_⟩
  have := h2 i hi1 hi2
  unfold DeedBox at this ⊢
  split at this
  · rename_i t f e
    refine ⟨hO _ this.1, (hk _ t _ this.1 ?_ this.2).trans this.2⟩
    unfold deedFn at e
    split at e <;> first | (cases e; done) | (cases e; first | exact .inl rfl | exact .inr rfl)
  · trivial
end Go.Proofs.YtnhebmgibiomnaaGreat
namespace Go.Proofs.YtnhebmgibiomnaaGreat
open Go.RowKit Mc
structure Lay where
  cs : Array Value
  fu : Value
  fus : List Value
  fr : Value
  frs : List Value
  og : Value
  cu : Value
  to : Value
  en : Value
  co : Value
  cv : Value
  sk : Value
  db : Nat
structure MaC (L : Lay) (s : St) : Prop where
  sz : L.cs.size = 50
  stl : s.store.length = 32
  st : ∀ (i : Nat) x, s.store[i]? = some x → L.cs[8 + i]? = some (.int .i64 x)
  c0 : L.cs[0]? = some L.fu
  c1 : L.cs[1]? = some L.fr
  c2 : L.cs[2]? = some L.og
  c3 : L.cs[3]? = some L.cu
  c4 : L.cs[4]? = some L.to
  c5 : L.cs[5]? = some L.en
  c6 : L.cs[6]? = some L.co
  c7 : L.cs[7]? = some L.cv
  c40 : L.cs[40]? = some L.sk
  c41 : L.cs[41]? = some (.int .i64 s.size)
  c42 : L.cs[42]? = some (.int .i64 s.look)
  c43 : L.cs[43]? = some (.int .i64 s.move)
  c44 : L.cs[44]? = some (.int .i64 s.mode)
  c45 : L.cs[45]? = some (.int .i64 s.steps)
  c46 : L.cs[46]? = some (.int .i64 s.peak)
  c47 : L.cs[47]? = some (.bool s.ended)
  c48 : L.cs[48]? = some (.int .i64 s.err)
  c49 : L.cs[49]? = some (.map (some L.db))
structure MaL (w : World) (mb : Nat) (O : Nat → Prop) (L : Lay) (s : St) : Prop where
  mbO : O mb
  olt : ∀ k, O k → k < w.heap.size
  blk : Blk w mb 212 L.cs
  c : MaC L s
  fu : Row w O 24 1 L.fu s.funcs.length L.fus
  fr : Row w O 205 3 L.fr s.frames.length (frC L.frs s.frames)
  og : Row w O 76 2 L.og s.org.length (pts s.org)
  cu : Row w O 76 2 L.cu s.cur.length (pts s.cur)
  to : Row w O 3 1 L.to s.touch.length (ints s.touch)
  en : Row w O 3 1 L.en s.ends.length (ints s.ends)
  co : Row w O 252 2 L.co s.cont.length (cts s.cont)
  cv : Row w O 3 1 L.cv s.cvt.length (ints s.cvt)
  sk : Row w O 3 1 L.sk s.stack.length (ints s.stack.reverse)
  fuc : Codes w O L.fus s.funcs
  frc : Codes w O L.frs (s.frames.map (·.code))
  ap_cu_og : Apart L.cu L.og
  ap_to_en : Apart L.to L.en
  ap_to_cv : Apart L.to L.cv
  ap_to_sk : Apart L.to L.sk
  ap_en_cv : Apart L.en L.cv
  ap_en_sk : Apart L.en L.sk
  ap_cv_sk : Apart L.cv L.sk
  dd : Deeds w O L.db
  ok : Ok s
section
variable {w w' : World} {O O' : Nat → Prop} {t : TypeId} {size : Nat} {v : Value} {n : Nat} {xs : List Value} {mb : Nat} {cs : Array Value} {r : Option Nat}
theorem Row.k (h : Row w O t size v n xs) (hmb : Blk w mb 212 cs) (ht : t ≠ 212) (hk : ∀ k, O k → k ≠ mb → some k ≠ r → w'.heap[k]? = w.heap[k]?) (hr : ∀ g, v.ownBlock = some g → r ≠ some g) (hO : ∀ k, O k → O' k) : Row w' O' t size v n xs :=
  h.keep (fun g hg => hk g (h.2 g hg) (h.ne_blk hmb ht hg) (fun e => hr g hg e.symm)) hO
theorem Codes.k {vs : List Value} {cl : List (List (Int × Int))} (h : Codes w O vs cl) (hmb : Blk w mb 212 cs) (hk : ∀ k, O k → k ≠ mb → some k ≠ r → w'.heap[k]? = w.heap[k]?) (hr : ∀ g cs, Blk w g 96 cs → r ≠ some g) (hO : ∀ k, O k → O' k) : Codes w' O' vs cl :=
  Codes.keep (fun g cs hg hb => hk g hg (hb.ne_ hmb (by decide)) (fun e => hr g cs hb e.symm)) hO h
theorem Deeds.k {db : Nat} (h : Deeds w O db) (hmb : Blk w mb 212 cs) (hk : ∀ k, O k → k ≠ mb → some k ≠ r → w'.heap[k]? = w.heap[k]?) {t0 : TypeId} (ht1 : t0 ≠ 74) (ht2 : t0 ≠ 117) (hr : ∀ g, r = some g → ∃ cs, Blk w g t0 cs) (hO : ∀ k, O k → O' k) : Deeds w' O' db := by
  refine h.keep ?_ (fun g t cs hg ht hb => hk g hg ?_ ?_) hO
  · obtain ⟨h0, bs, clock, h1, _⟩ := h
    refine hk db h0 ?_ ?_
    · rintro rfl; unfold Blk at hmb; rw [h1] at hmb; cases hmb
    · intro e
      obtain ⟨cs, hb⟩ := hr db e.symm
      unfold Blk at hb
      rw [h1] at hb
      cases hb
  · exact hb.ne_ hmb (by rcases ht with rfl | rfl <;> decide)
  · intro e
    obtain ⟨cs', hb'⟩ := hr g e.symm
    exact hb.ne_ hb' (by rcases ht with rfl | rfl <;> first | exact ht1.symm | exact ht2.symm) rfl
end
section
variable {w w' : World} {mb : Nat} {O O' : Nat → Prop} {L : Lay} {s : St}
theorem MaL.keep (h : MaL w mb O L s) (hk : ∀ k, O k → w'.heap[k]? = w.heap[k]?) (hO : ∀ k, O k → O' k) (hlt : ∀ k, O' k → k < w'.heap.size) : MaL w' mb O' L s :=
  ⟨hO _ h.mbO, hlt, (hk mb h.mbO).trans h.blk, h.c, h.fu.keep (fun g hg => hk g (h.fu.2 g hg)) hO, h.fr.keep (fun g hg => hk g (h.fr.2 g hg)) hO, h.og.keep (fun g hg => hk g (h.og.2 g hg)) hO, h.cu.keep (fun g hg => hk g (h.cu.2 g hg)) hO, h.to.keep (fun g hg => hk g (h.to.2 g hg)) hO, h.en.keep (fun g hg => hk g (h.en.2 g hg)) hO, h.co.keep (fun g hg => hk g (h.co.2 g hg)) hO, h.cv.keep (fun g hg => hk g (h.cv.2 g hg)) hO, h.sk.keep (fun g hg => hk g (h.sk.2 g hg)) hO, h.fuc.keep (fun g _ hg _ => hk g hg) hO, h.frc.keep (fun g _ hg _ => hk g hg) hO, h.ap_cu_og, h.ap_to_en, h.ap_to_cv, h.ap_to_sk, h.ap_en_cv, h.ap_en_sk, h.ap_cv_sk, h.dd.keep (hk _ h.dd.1) (fun g _ _ hg _ _ => hk g hg) hO, h.ok⟩
theorem MaL.mono (h : MaL w mb O L s) (hO : ∀ k, O k → O' k) (hlt : ∀ k, O' k → k < w.heap.size) : MaL w mb O' L s := h.keep (fun _ _ => rfl) hO hlt
theorem MaL.cur_ (h : MaL w mb O L s) {l : List (Int × Int)} (hl : l.length = s.cur.length) (hrow : Row w' O' 76 2 L.cu s.cur.length (pts l)) (hmb : w'.heap[mb]? = w.heap[mb]?) (hk : ∀ k, O k → k ≠ mb → some k ≠ L.cu.ownBlock → w'.heap[k]? = w.heap[k]?) (hO : ∀ k, O k → O' k) (hlt : ∀ k, O' k → k < w'.heap.size) (hok : Ok { s with cur := l }) : MaL w' mb O' L { s with cur := l } := by
  exact ⟨hO _ h.mbO, hlt, hmb.trans h.blk, ⟨h.c.sz, h.c.stl, h.c.st, h.c.c0, h.c.c1, h.c.c2, h.c.c3, h.c.c4, h.c.c5, h.c.c6, h.c.c7, h.c.c40, h.c.c41, h.c.c42, h.c.c43, h.c.c44, h.c.c45, h.c.c46, h.c.c47, h.c.c48, h.c.c49⟩, h.fu.k h.blk (by decide) hk (fun g hg => h.fu.apart h.cu (by decide) g hg) hO, h.fr.k h.blk (by decide) hk (fun g hg => h.fr.apart h.cu (by decide) g hg) hO, h.og.k h.blk (by decide) hk (fun g hg => h.ap_cu_og.symm g hg) hO, by rw [hl]; exact hrow, h.to.k h.blk (by decide) hk (fun g hg => h.to.apart h.cu (by decide) g hg) hO, h.en.k h.blk (by decide) hk (fun g hg => h.en.apart h.cu (by decide) g hg) hO, h.co.k h.blk (by decide) hk (fun g hg => h.co.apart h.cu (by decide) g hg) hO, h.cv.k h.blk (by decide) hk (fun g hg => h.cv.apart h.cu (by decide) g hg) hO, h.sk.k h.blk (by decide) hk (fun g hg => h.sk.apart h.cu (by decide) g hg) hO, h.fuc.k h.blk hk (fun g cs hb e => by obtain ⟨_, _, cs2, hb2⟩ := h.cu.block e; exact hb.ne_ hb2 (by decide) rfl) hO, h.frc.k h.blk hk (fun g cs hb e => by obtain ⟨_, _, cs2, hb2⟩ := h.cu.block e; exact hb.ne_ hb2 (by decide) rfl) hO, h.ap_cu_og, h.ap_to_en, h.ap_to_cv, h.ap_to_sk, h.ap_en_cv, h.ap_en_sk, h.ap_cv_sk, h.dd.k h.blk hk (t0 := 76) (by decide) (by decide) (fun g e => by obtain ⟨_, _, cs2, hb2⟩ := h.cu.block e; exact ⟨cs2, hb2⟩) hO, hok⟩
theorem MaL.touch_ (h : MaL w mb O L s) {l : List Int} (hl : l.length = s.touch.length) (hrow : Row w' O' 3 1 L.to s.touch.length (ints l)) (hmb : w'.heap[mb]? = w.heap[mb]?) (hk : ∀ k, O k → k ≠ mb → some k ≠ L.to.ownBlock → w'.heap[k]? = w.heap[k]?) (hO : ∀ k, O k → O' k) (hlt : ∀ k, O' k → k < w'.heap.size) (hok : Ok { s with touch := l }) : MaL w' mb O' L { s with touch := l } := by
  exact ⟨hO _ h.mbO, hlt, hmb.trans h.blk, ⟨h.c.sz, h.c.stl, h.c.st, h.c.c0, h.c.c1, h.c.c2, h.c.c3, h.c.c4, h.c.c5, h.c.c6, h.c.c7, h.c.c40, h.c.c41, h.c.c42, h.c.c43, h.c.c44, h.c.c45, h.c.c46, h.c.c47, h.c.c48, h.c.c49⟩, h.fu.k h.blk (by decide) hk (fun g hg => h.fu.apart h.to (by decide) g hg) hO, h.fr.k h.blk (by decide) hk (fun g hg => h.fr.apart h.to (by decide) g hg) hO, h.og.k h.blk (by decide) hk (fun g hg => h.og.apart h.to (by decide) g hg) hO, h.cu.k h.blk (by decide) hk (fun g hg => h.cu.apart h.to (by decide) g hg) hO, by rw [hl]; exact hrow, h.en.k h.blk (by decide) hk (fun g hg => h.ap_to_en.symm g hg) hO, h.co.k h.blk (by decide) hk (fun g hg => h.co.apart h.to (by decide) g hg) hO, h.cv.k h.blk (by decide) hk (fun g hg => h.ap_to_cv.symm g hg) hO, h.sk.k h.blk (by decide) hk (fun g hg => h.ap_to_sk.symm g hg) hO, h.fuc.k h.blk hk (fun g cs hb e => by obtain ⟨_, _, cs2, hb2⟩ := h.to.block e; exact hb.ne_ hb2 (by decide) rfl) hO, h.frc.k h.blk hk (fun g cs hb e => by obtain ⟨_, _, cs2, hb2⟩ := h.to.block e; exact hb.ne_ hb2 (by decide) rfl) hO, h.ap_cu_og, h.ap_to_en, h.ap_to_cv, h.ap_to_sk, h.ap_en_cv, h.ap_en_sk, h.ap_cv_sk, h.dd.k h.blk hk (t0 := 3) (by decide) (by decide) (fun g e => by obtain ⟨_, _, cs2, hb2⟩ := h.to.block e; exact ⟨cs2, hb2⟩) hO, hok⟩
theorem MaL.cvt_ (h : MaL w mb O L s) {l : List Int} (hl : l.length = s.cvt.length) (hrow : Row w' O' 3 1 L.cv s.cvt.length (ints l)) (hmb : w'.heap[mb]? = w.heap[mb]?) (hk : ∀ k, O k → k ≠ mb → some k ≠ L.cv.ownBlock → w'.heap[k]? = w.heap[k]?) (hO : ∀ k, O k → O' k) (hlt : ∀ k, O' k → k < w'.heap.size) (hok : Ok { s with cvt := l }) : MaL w' mb O' L { s with cvt := l } := by
  exact ⟨hO _ h.mbO, hlt, hmb.trans h.blk, ⟨h.c.sz, h.c.stl, h.c.st, h.c.c0, h.c.c1, h.c.c2, h.c.c3, h.c.c4, h.c.c5, h.c.c6, h.c.c7, h.c.c40, h.c.c41, h.c.c42, h.c.c43, h.c.c44, h.c.c45, h.c.c46, h.c.c47, h.c.c48, h.c.c49⟩, h.fu.k h.blk (by decide) hk (fun g hg => h.fu.apart h.cv (by decide) g hg) hO, h.fr.k h.blk (by decide) hk (fun g hg => h.fr.apart h.cv (by decide) g hg) hO, h.og.k h.blk (by decide) hk (fun g hg => h.og.apart h.cv (by decide) g hg) hO, h.cu.k h.blk (by decide) hk (fun g hg => h.cu.apart h.cv (by decide) g hg) hO, h.to.k h.blk (by decide) hk (fun g hg => h.ap_to_cv g hg) hO, h.en.k h.blk (by decide) hk (fun g hg => h.ap_en_cv g hg) hO, h.co.k h.blk (by decide) hk (fun g hg => h.co.apart h.cv (by decide) g hg) hO, by rw [hl]; exact hrow, h.sk.k h.blk (by decide) hk (fun g hg => h.ap_cv_sk.symm g hg) hO, h.fuc.k h.blk hk (fun g cs hb e => by obtain ⟨_, _, cs2, hb2⟩ := h.cv.block e; exact hb.ne_ hb2 (by decide) rfl) hO, h.frc.k h.blk hk (fun g cs hb e => by obtain ⟨_, _, cs2, hb2⟩ := h.cv.block e; exact hb.ne_ hb2 (by decide) rfl) hO, h.ap_cu_og, h.ap_to_en, h.ap_to_cv, h.ap_to_sk, h.ap_en_cv, h.ap_en_sk, h.ap_cv_sk, h.dd.k h.blk hk (t0 := 3) (by decide) (by decide) (fun g e => by obtain ⟨_, _, cs2, hb2⟩ := h.cv.block e; exact ⟨cs2, hb2⟩) hO, hok⟩
end
def ext (O : Nat → Prop) (w w' : World) (k : Nat) : Prop := O k ∨ (w.heap.size ≤ k ∧ k < w'.heap.size)
section
variable {w w' w'' : World} {mb : Nat} {O : Nat → Prop} {L : Lay} {s : St}
theorem MaL.ext_lt (h : MaL w mb O L s) (hz : w.heap.size ≤ w'.heap.size) : ∀ k, ext O w w' k → k < w'.heap.size := fun k hk => by
  rcases hk with hk | hk
  · have := h.olt k hk; omega
  · exact hk.2
def MPost (w : World) (mb : Nat) (O : Nat → Prop) (s : St) (e : Ending) (w' : World) : Prop := e = .returned (.tuple #[]) ∧ (∃ L, MaL w' mb (ext O w w') L s) ∧ Fr O w w'
theorem MaL.alloc (h : MaL w mb O L s) (o : Obj) : MaL (w.alloc o) mb O L s := h.keep (fun k hk => Below.heap_alloc _ _ _ (h.olt k hk)) (fun _ h => h) (fun k hk => by have := h.olt k hk; simp; omega)
theorem MaL.drew (h : MaL w mb O L s) : MaL w.drew mb O L s := h.keep (fun _ _ => rfl) (fun _ h => h) h.olt
end
end Go.Proofs.YtnhebmgibiomnaaGreat
namespace Go.Proofs.YtnhebmgibiomnaaGreat
open Go.RowKit Mc
section
variable {w : World} {mb : Nat} {O : Nat → Prop} {L : Lay} {s : St}
end
end Go.Proofs.YtnhebmgibiomnaaGreat

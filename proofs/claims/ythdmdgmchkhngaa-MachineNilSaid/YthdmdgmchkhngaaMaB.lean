/- Where a machine's data lie: its block, its rows, its map of deeds; and how that stays as memory changes elsewhere. Lemmas alone. -/
import Derived.Test.YthdmdgmchkhngaaMaA
namespace Go.Proofs.Ythdmdgmchkhngaa
open Go.RowKit

namespace Mc
def K32 (n : Int) : Prop := -2147483648 ≤ n ∧ n ≤ 2147483647
theorem k32_in (n : Int) : K32 (k32 n) := by unfold K32 k32; omega
theorem k32_of {n : Int} (h : K32 n) : k32 n = n := by unfold K32 at h; unfold k32; omega
/-- what always holds of a machine -/
structure Ok (s : St) : Prop where
  stack : ∀ x ∈ s.stack, K32 x
  slen : s.stack.length ≤ 32
  cvt : ∀ x ∈ s.cvt, K32 x
  store : ∀ x ∈ s.store, K32 x
  stl : s.store.length = 32
  cur : ∀ p ∈ s.cur, K32 p.1 ∧ K32 p.2
  org : ∀ p ∈ s.org, K32 p.1 ∧ K32 p.2
  orgl : s.org.length = s.cur.length
  touch : ∀ t ∈ s.touch, 0 ≤ t ∧ t ≤ 3
  tl : s.touch.length = s.cur.length
  size : K32 s.size
  look : 0 ≤ s.look ∧ s.look ≤ 1
  move : 0 ≤ s.move ∧ s.move ≤ 1
  mode : 0 ≤ s.mode ∧ s.mode ≤ 5
  peak : s.peak ≤ 32
  frames : ∀ f ∈ s.frames, f.next ≤ f.code.length ∧ f.more ≤ 15 ∧ f.code.length ≤ 1000000
  flen : s.frames.length ≤ 21
  funcs : ∀ c ∈ s.funcs, c.length ≤ 1000000
  fnl : s.funcs.length ≤ 1000000
  cont : ∀ c ∈ s.cont, c.1 ≤ c.2 ∧ c.2 < s.cur.length
  contl : s.cont.length ≤ 1000000
  curl : s.cur.length ≤ 1000000
  cvl : s.cvt.length ≤ 1000000
  endl : s.ends.length ≤ 1000000
end Mc
open Mc

def ints (l : List Int) : List Value := l.map (Value.int .i64)
def pts (l : List (Int × Int)) : List Value := l.flatMap fun p => [.int .i64 p.1, .int .i64 p.2]
def cts (l : List (Nat × Nat)) : List Value := l.flatMap fun p => [.int .i64 p.1, .int .i64 p.2]
theorem ints_len (l : List Int) : (ints l).length = l.length := by simp [ints]
theorem pts_len (l : List (Int × Int)) : (pts l).length = l.length * 2 := by
  induction l with
  | nil => rfl
  | cons a r ih => simp only [pts, List.flatMap_cons, List.length_append, List.length_cons, List.length_nil] at *; omega
theorem cts_len (l : List (Nat × Nat)) : (cts l).length = l.length * 2 := by
  induction l with
  | nil => rfl
  | cons a r ih => simp only [cts, List.flatMap_cons, List.length_append, List.length_cons, List.length_nil] at *; omega

/-- v is a row of the cells xs, at the start of a block of O -/
def Row (w : World) (O : Nat → Prop) (t : TypeId) (size : Nat) (v : Value) (n : Nat) (xs : List Value) : Prop :=
  w.ownsRow 0 t size v n xs ∧ ∀ g, v.ownBlock = some g → O g
/-- two rows lie in different blocks -/
def Apart (a b : Value) : Prop := ∀ g, a.ownBlock = some g → b.ownBlock ≠ some g
theorem Apart.symm {a b : Value} (h : Apart a b) : Apart b a := fun g h1 h2 => h g h2 h1

section
variable {w w' : World} {O O' : Nat → Prop} {t t' : TypeId} {size size' : Nat} {v v' : Value} {n n' : Nat} {xs xs' : List Value}
theorem Row.keep (h : Row w O t size v n xs) (hk : ∀ g, v.ownBlock = some g → w'.heap[g]? = w.heap[g]?) (hO : ∀ k, O k → O' k) : Row w' O' t size v n xs := by
  refine ⟨⟨h.1.1, ?_⟩, fun g hg => hO g (h.2 g hg)⟩
  rcases h.1.2 with h1 | ⟨g, cap, cur, hv, hg, hh, hr⟩
  · exact .inl h1
  · exact .inr ⟨g, cap, cur, hv, hg, (hk g (by rw [hv]; rfl)).trans hh, hr⟩
theorem Row.block (h : Row w O t size v n xs) {g : Nat} (hg : v.ownBlock = some g) : O g ∧ g < w.heap.size ∧ ∃ cs, Blk w g t cs := by
  refine ⟨h.2 g hg, (h.1.lt g hg).2, ?_⟩
  rcases h.1.2 with ⟨rfl, _⟩ | ⟨g', cap, cur, rfl, _, hh, _⟩
  · simp [Value.ownBlock] at hg
  · simp only [Value.ownBlock, Option.some.injEq] at hg
    subst hg
    exact ⟨cur, hh⟩
theorem Row.apart (h : Row w O t size v n xs) (h' : Row w O' t' size' v' n' xs') (hne : t ≠ t') : Apart v v' := by
  intro g h1 h2
  obtain ⟨_, _, cs, hb⟩ := h.block h1
  obtain ⟨_, _, cs', hb'⟩ := h'.block h2
  exact hb.ne_ hb' hne rfl
theorem Row.ne_blk (h : Row w O t size v n xs) {b : Nat} {cs : Array Value} (hb : Blk w b t' cs) (hne : t ≠ t') {g : Nat} (hg : v.ownBlock = some g) : g ≠ b := by
  obtain ⟨_, _, cs', hb'⟩ := h.block hg
  exact hb'.ne_ hb hne
theorem Row.form (h : Row w O t size v n xs) : ∃ A c, v = .slice A n c ∧ n ≤ c ∧ c ≤ maxLen := by
  rcases h.1.2 with ⟨rfl, rfl⟩ | ⟨g', cap, cur, rfl, _, hh, h1, h2, _⟩
  · exact ⟨none, 0, rfl, Nat.le_refl _, Nat.zero_le _⟩
  · exact ⟨_, cap, rfl, h1, h2⟩
/-- a row that is not empty: its block and its cells -/
theorem Row.at_ (h : Row w O t size v n xs) (hn : 0 < n) : ∃ g c, v = .slice (some ⟨g, 0, none⟩) n c ∧ n ≤ c ∧ c ≤ maxLen ∧ O g ∧ g < w.heap.size ∧ (∀ j u, xs[j]? = some u → w.cell? ⟨g, j, none⟩ = some u) ∧ ∀ j, w.frozen? ⟨g, j, none⟩ = false := by
  rcases h.1.2 with ⟨_, h0⟩ | ⟨g, cap, cur, rfl, _, hh, h1, h2, h3, h4⟩
  · omega
  · have hb : Blk w g t cur := hh
    refine ⟨g, cap, rfl, h1, h2, h.2 g rfl, hb.lt, fun j u hu => ?_, fun j => hb.frozen j⟩
    rw [hb.cell, ← h4] at *
    rw [List.getElem?_take] at hu
    split at hu
    · simpa using hu
    · cases hu
theorem Row.take (h : Row w O t size v n xs) {m : Nat} (hm : m ≤ n) {A : Option Addr} {c : Nat} (hv : v = .slice A n c) : Row w O t size (.slice A m c) m (xs.take (m * size)) := by
  subst hv
  refine ⟨⟨?_, ?_⟩, fun g hg => h.2 g (by cases A <;> exact hg)⟩
  · rw [List.length_take, h.1.1]
    exact Nat.min_eq_left (Nat.mul_le_mul_right _ hm)
  · rcases h.1.2 with ⟨h1, h0⟩ | ⟨g, cap, cur, h0, hg, hh, h1, h2, h3, h4⟩
    · injection h1 with h1 h2 h3
      subst h1 h3
      exact .inl ⟨by rw [show m = 0 by omega], by omega⟩
    · injection h0 with h5 h6 h7
      subst h5 h7
      refine .inr ⟨g, c, cur, rfl, hg, hh, by omega, h2, h3, ?_⟩
      rw [← h4, List.take_take, Nat.min_eq_left (Nat.mul_le_mul_right _ hm)]
/-- one cell of a row is written -/
theorem Row.set_ (h : Row w O t size v n xs) {g : Nat} (hg : v.ownBlock = some g) {j : Nat} (_hj : j < xs.length) (u : Value) : Row (w.setCell ⟨g, j, none⟩ u) O t size v n (xs.set j u) := by
  refine ⟨⟨by rw [List.length_set]; exact h.1.1, ?_⟩, h.2⟩
  rcases h.1.2 with ⟨rfl, _⟩ | ⟨g', cap, cur, rfl, hg', hh, h1, h2, h3, h4⟩
  · simp [Value.ownBlock] at hg
  · simp only [Value.ownBlock, Option.some.injEq] at hg
    subst hg
    have hb : Blk w g' t cur := hh
    refine .inr ⟨g', cap, cur.setIfInBounds j u, rfl, hg', hb.set_ j u, h1, h2, by rw [Array.size_setIfInBounds]; exact h3, ?_⟩
    rw [Array.toList_setIfInBounds, List.take_set, h4]
end

/-- codes lie in rows -/
def Codes (w : World) (O : Nat → Prop) : List Value → List (List (Int × Int)) → Prop
  | [], [] => True
  | v :: vs, c :: cs => Row w O 39 2 v c.length (pts c) ∧ Codes w O vs cs
  | _, _ => False
theorem Codes.len {w : World} {O : Nat → Prop} : ∀ {vs : List Value} {cs : List (List (Int × Int))}, Codes w O vs cs → vs.length = cs.length
  | [], [], _ => rfl
  | _ :: _, _ :: _, h => by simp [Codes.len h.2]
  | [], _ :: _, h => h.elim
  | _ :: _, [], h => h.elim
theorem Codes.get {w : World} {O : Nat → Prop} : ∀ {vs : List Value} {cs : List (List (Int × Int))}, Codes w O vs cs → ∀ {i : Nat} {c : List (Int × Int)}, cs[i]? = some c → ∃ v, vs[i]? = some v ∧ Row w O 39 2 v c.length (pts c)
  | v :: _, c :: _, h, 0, c', hc => by
    simp only [List.getElem?_cons_zero, Option.some.injEq] at hc
    subst hc
    exact ⟨v, rfl, h.1⟩
  | _ :: _, _ :: _, h, i + 1, c', hc => by
    simp only [List.getElem?_cons_succ] at hc ⊢
    exact Codes.get h.2 hc
  | [], [], _, _, _, hc => by simp at hc
  | [], _ :: _, h, _, _, _ => h.elim
  | _ :: _, [], h, _, _, _ => h.elim
theorem Codes.keep {w w' : World} {O O' : Nat → Prop} (hk : ∀ g cs, O g → Blk w g 39 cs → w'.heap[g]? = w.heap[g]?) (hO : ∀ k, O k → O' k) : ∀ {vs : List Value} {cs : List (List (Int × Int))}, Codes w O vs cs → Codes w' O' vs cs
  | [], [], _ => trivial
  | _ :: _, _ :: _, h => ⟨h.1.keep (fun g hg => by obtain ⟨h1, _, cs, h2⟩ := h.1.block hg; exact hk g cs h1 h2) hO, Codes.keep hk hO h.2⟩
  | [], _ :: _, h => h.elim
  | _ :: _, [], h => h.elim

/-- the frames' cells, the last one's last -/
def frC : List Value → List Fm → List Value
  | v :: vs, f :: fs => frC vs fs ++ [v, .int .i64 f.next, .int .i64 f.more]
  | _, _ => []
theorem frC_len : ∀ (vs : List Value) (fs : List Fm), vs.length = fs.length → (frC vs fs).length = fs.length * 3
  | [], [], _ => rfl
  | _ :: vs, _ :: fs, h => by simp only [frC, List.length_append, frC_len vs fs (by simpa using h), List.length_cons, List.length_nil]; omega
  | [], _ :: _, h => by simp at h
  | _ :: _, [], h => by simp at h

/-- which function a deed's number has; and which one it bears, if it is made of one -/
def deedFn : Nat → Fn × Option (TypeId × Fn)
  | 1 => (.func 33, none)
  | 2 => (.func 35, none)
  | 3 => (.func 37, none)
  | 4 => (.func 38, none)
  | 5 => (.func 91, some (23, .func 40))
  | 6 => (.func 91, some (23, .func 41))
  | 7 => (.func 91, some (23, .func 42))
  | 8 => (.func 91, some (23, .func 44))
  | 9 => (.func 92, some (50, .func 47))
  | 10 => (.func 92, some (50, .func 48))
  | 11 => (.func 91, some (23, .func 49))
  | 12 => (.func 91, some (23, .func 50))
  | 13 => (.func 92, some (50, .func 51))
  | 14 => (.func 92, some (50, .func 52))
  | 15 => (.func 53, none)
  | 16 => (.func 91, some (23, .func 54))
  | 17 => (.func 91, some (23, .func 56))
  | 18 => (.func 91, some (23, .func 57))
  | 19 => (.func 92, some (50, .func 58))
  | 20 => (.func 91, some (23, .func 59))
  | 21 => (.func 91, some (23, .func 60))
  | 22 => (.func 61, none)
  | 23 => (.func 62, none)
  | 24 => (.func 63, none)
  | 25 => (.func 64, none)
  | 26 => (.func 66, none)
  | 27 => (.func 68, none)
  | 28 => (.func 69, none)
  | 29 => (.func 70, none)
  | 30 => (.func 72, none)
  | 31 => (.func 73, none)
  | 32 => (.func 75, none)
  | 33 => (.func 77, none)
  | 34 => (.func 79, none)
  | 35 => (.func 81, none)
  | 36 => (.func 83, none)
  | 37 => (.func 85, none)
  | 38 => (.func 87, none)
  | _ => (.func 89, none)
/-- a deed's value: a function, or one with the box of the function that it bears -/
def deedV (bs : Nat → Nat) (i : Nat) : Value := .func (deedFn i).1 #[] (match (deedFn i).2 with | some _ => #[.pointer (some ⟨bs i, 0, none⟩)] | none => #[])
/-- the map's entries -/
def deedEs (bs : Nat → Nat) (n : Nat) : List MapEntry := (List.range n).map fun i => ⟨.int .i64 ((i + 1 : Nat) : Int), deedV bs (i + 1), i⟩
/-- a deed's box lies -/
def DeedBox (w : World) (O : Nat → Prop) (bs : Nat → Nat) (i : Nat) : Prop := match (deedFn i).2 with | some (t, f) => O (bs i) ∧ Blk w (bs i) t #[.func f #[] #[]] | none => True
def Deeds (w : World) (O : Nat → Prop) (db : Nat) : Prop := O db ∧ ∃ bs clock, w.heap[db]? = some (.map (deedEs bs 39).toArray clock) ∧ ∀ i, 1 ≤ i → i ≤ 39 → DeedBox w O bs i
theorem Deeds.keep {w w' : World} {O O' : Nat → Prop} {db : Nat} (h : Deeds w O db) (hm : w'.heap[db]? = w.heap[db]?) (hk : ∀ g t cs, O g → (t = 23 ∨ t = 50) → Blk w g t cs → w'.heap[g]? = w.heap[g]?) (hO : ∀ k, O k → O' k) : Deeds w' O' db := by
  obtain ⟨h0, bs, clock, h1, h2⟩ := h
  refine ⟨hO _ h0, bs, clock, hm.trans h1, fun i hi1 hi2 => ?_⟩
  have := h2 i hi1 hi2
  unfold DeedBox at this ⊢
  split at this
  · rename_i t f e
    refine ⟨hO _ this.1, (hk _ t _ this.1 ?_ this.2).trans this.2⟩
    unfold deedFn at e
    split at e <;> first | (cases e; done) | (cases e; first | exact .inl rfl | exact .inr rfl)
  · trivial
end Go.Proofs.Ythdmdgmchkhngaa

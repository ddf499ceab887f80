/- Package machine's leaf functions: kept, rest, divided, truth, touched, coordinate: their contracts. · Where a machine's data lie: its block, its rows, its map of deeds; and how that stays as memory changes elsewhere. Lemmas alone. · A machine as it lies: its cells, its rows, its map; and what stays of it as one of its rows, or its cells, are written. Lemmas alone. · (*Machine).take and leave: their contracts. -/
import Derived.Test.YthdmdgmchkhngaaGreatProg
import Derived.Test.YthdmdgmchkhngaaGreatMachSpec
import Derived.Test.YthdmdgmchkhngaaGreatMemo
import Derived.Test.YthdmdgmchkhngaaGreatSeqs
import Derived.IntWalk
import Derived.LoopN
namespace Go.Proofs.YthdmdgmchkhngaaGreat
open Go.RowKit

theorem k32_wrap (n : Int) : RowKit.wrap64 (RowKit.wrap32 n) = Mc.k32 n := by
  rw [IntWalk.wrap64_in _ (by unfold RowKit.wrap32; omega)]
  unfold RowKit.wrap32 Mc.k32
  rfl
theorem w64_wrap (n : Int) : RowKit.wrap64 n = Mc.w64 n := by
  unfold RowKit.wrap64 Mc.w64
  rfl
theorem ret_i64 {a b : Int} (h : a = b) : Ending.returned (.int .i64 a) = .returned (.int .i64 b) := by rw [h]

theorem kept_any (n : Int) (w : World) : Calls Tryz.prog 29 #[.int .i64 n] w fun e w' => e = .returned (.int .i64 (Mc.k32 n)) ∧ w = w' := by
  go_enter Tryz.func29, Tryz.ntmps29
  go_wp2
  go_ret
  exact ⟨ret_i64 (k32_wrap n), rfl⟩
theorem kept64_any (n : Int) (w : World) : Calls Tryz.prog 59 #[.int .i64 n] w fun e w' => e = .returned (.int .i64 (Mc.k32 n)) ∧ w = w' := by
  go_enter Tryz.func59, Tryz.ntmps59
  go_wp2
  go_ret
  exact ⟨ret_i64 (k32_wrap n), rfl⟩
theorem tmod_emod (n d : Int) (hd : 0 < d) : n % d = if n.tmod d < 0 then n.tmod d + d else n.tmod d := by
  have h1 := Int.tmod_eq_emod (a := n) (b := d)
  have h2 := Int.emod_nonneg n (show d ≠ 0 by omega)
  have h3 := Int.emod_lt_of_pos n hd
  by_cases h : 0 ≤ n ∨ d ∣ n
  · rw [if_pos h] at h1
    rw [if_neg (by omega)]
    omega
  · rw [if_neg h, Int.natAbs_of_nonneg (by omega)] at h1
    have h4 : n % d ≠ 0 := fun e => h (.inr (Int.dvd_of_emod_eq_zero e))
    rw [if_pos (by omega)]
    omega
theorem rest_m (n d : Int) (w : World) (hd : 0 < d) (hd2 : d ≤ 1000) : Calls Tryz.prog 79 #[.int .i64 n, .int .i64 d] w fun e w' => e = .returned (.int .i64 (n % d)) ∧ w = w' := by
  have hm := Lib.hid (tmod_emod n d hd)
  have h2 := Int.emod_nonneg n (show d ≠ 0 by omega)
  have h3 := Int.emod_lt_of_pos n hd
  go_enter Tryz.func79, Tryz.ntmps79
  go_wp2
  all_goals go_ret
  · have hm := hm.out
    rw [if_pos ‹_›] at hm
    exact ⟨ret_i64 (by rw [hm]; exact IntWalk.wrap64_in _ (by omega)), rfl⟩
  · have hm := hm.out
    rw [if_neg (by omega)] at hm
    exact ⟨ret_i64 hm.symm, rfl⟩
theorem fdiv_tdiv (a b : Int) (hb : b ≠ 0) : a.fdiv b = if a.tmod b ≠ 0 ∧ (decide (a < 0) ≠ decide (b < 0)) then a.tdiv b - 1 else a.tdiv b := by
  have h1 := Int.fdiv_eq_ediv (a := a) (b := b)
  have h2 := Int.tdiv_eq_ediv (a := a) (b := b)
  have h3 := Int.dvd_iff_tmod_eq_zero (a := b) (b := a)
  by_cases hd : b ∣ a
  · rw [if_pos (.inr hd)] at h1 h2
    rw [if_neg (fun h => h.1 (h3.1 hd))]
    omega
  · have h4 : a.tmod b ≠ 0 := fun e => hd (h3.2 e)
    have ha : a ≠ 0 := fun e => hd (by rw [e]; exact Int.dvd_zero _)
    rcases Int.lt_or_gt_of_ne hb with hb | hb
    · have hs : b.sign = -1 := Int.sign_eq_neg_one_of_neg hb
      rw [if_neg (by simp [hd]; omega)] at h1
      by_cases h0 : 0 ≤ a
      · rw [if_pos (.inl h0)] at h2
        rw [if_pos ⟨h4, by simp; omega⟩]
        omega
      · rw [if_neg (by simp [hd]; omega)] at h2
        rw [if_neg (by simp; omega)]
        omega
    · have hs : b.sign = 1 := Int.sign_eq_one_of_pos hb
      rw [if_pos (.inl (by omega))] at h1
      by_cases h0 : 0 ≤ a
      · rw [if_pos (.inl h0)] at h2
        rw [if_neg (by simp; omega)]
        omega
      · rw [if_neg (by simp [hd]; omega)] at h2
        rw [if_pos ⟨h4, by simp; omega⟩]
        omega
theorem w64_sub (a : Int) : RowKit.wrap64 (RowKit.wrap64 a - 1) = Mc.w64 (a - 1) := by
  unfold RowKit.wrap64 Mc.w64
  omega
theorem divided_any (a b : Int) (w : World) : Calls Tryz.prog 61 #[.int .i64 a, .int .i64 b] w fun e w' => e = .returned (.int .i64 (Mc.w64 (Mc.divd a b))) ∧ w = w' := by
  by_cases hb : b = 0
  · subst hb
    go_enter Tryz.func61, Tryz.ntmps61
    go_wp2
    go_ret
    exact ⟨ret_i64 rfl, rfl⟩
  · have hdv : Mc.divd a b = a.fdiv b := by unfold Mc.divd; rw [if_neg hb]
    have HF := Lib.hid (fdiv_tdiv a b hb)
    have HD := Lib.hid hdv
    have h1 : (b == 0) = false := beq_eq_false_iff_ne.2 hb
    clear hdv
    by_cases hc : a.tmod b ≠ 0 ∧ (decide (a < 0) ≠ decide (b < 0))
    · have e1 : (a.tmod b != 0) = true := bne_iff_ne.2 hc.1
      have e2 : (decide (a < 0) == decide (b < 0)) = false := beq_eq_false_iff_ne.2 hc.2
      have HC := Lib.hid hc
      obtain ⟨hc1, _⟩ := hc
      go_enter Tryz.func61, Tryz.ntmps61
      go_wp2
      go_ret
      refine ⟨ret_i64 ?_, rfl⟩
      rw [HD.out, HF.out, if_pos HC.out]
      exact w64_sub _
    · have HC := Lib.hid hc
      clear hc
      by_cases hz : a.tmod b = 0
      · have e1 : (a.tmod b != 0) = false := by simp [hz]
        go_enter Tryz.func61, Tryz.ntmps61
        go_wp2
        go_ret
        refine ⟨ret_i64 ?_, rfl⟩
        rw [HD.out, HF.out, if_neg HC.out]
        exact w64_wrap _
      · have e1 : (a.tmod b != 0) = true := bne_iff_ne.2 hz
        have e2 : (decide (a < 0) == decide (b < 0)) = true := by
          rcases hd : (decide (a < 0) == decide (b < 0)) with _ | _
          · exact absurd ⟨hz, beq_eq_false_iff_ne.1 hd⟩ HC.out
          · rfl
        go_enter Tryz.func61, Tryz.ntmps61
        go_wp2
        go_ret
        refine ⟨ret_i64 ?_, rfl⟩
        rw [HD.out, HF.out, if_neg HC.out]
        exact w64_wrap _
theorem truth_any (b : Bool) (w : World) : Calls Tryz.prog 72 #[.bool b] w fun e w' => e = .returned (.int .i64 (Mc.truth b)) ∧ w = w' := by
  cases b
  all_goals
    go_enter Tryz.func72, Tryz.ntmps72
    go_wp2
    go_ret
    exact ⟨rfl, rfl⟩
theorem touched_any (a : Int) (w : World) (h0 : 0 ≤ a) (h1 : a ≤ 1) : Calls Tryz.prog 127 #[.int .i64 a] w fun e w' => e = .returned (.int .i64 (a + 1)) ∧ w = w' := by
  have h : a = 0 ∨ a = 1 := by omega
  rcases h with rfl | rfl
  all_goals
    clear h0 h1
    go_enter Tryz.func127, Tryz.ntmps127
    go_wp2
    go_ret
    exact ⟨rfl, rfl⟩
theorem coordinate_any (b off : Nat) (a : Int) (w : World) : Calls Tryz.prog 125 #[.pointer (some ⟨b, off, none⟩), .int .i64 a] w fun e w' => e = .returned (.pointer (some ⟨b, off + (if a = 1 then 1 else 0), none⟩)) ∧ w = w' := by
  by_cases h : a = 1
  · go_enter Tryz.func125, Tryz.ntmps125
    go_wp2
    go_ret
    exact ⟨rfl, rfl⟩
  · go_enter Tryz.func125, Tryz.ntmps125
    go_wp2
    go_ret
    exact ⟨rfl, rfl⟩
end Go.Proofs.YthdmdgmchkhngaaGreat
namespace Go.Proofs.YthdmdgmchkhngaaGreat
open Go.RowKit

namespace Mc
def K32 (n : Int) : Prop := -2147483648 ≤ n ∧ n ≤ 2147483647
theorem k32_in (n : Int) : K32 (k32 n) := by unfold K32 k32; omega
theorem k32_of {n : Int} (h : K32 n) : k32 n = n := by unfold K32 at h; unfold k32; omega
/-- what always holds of a machine -/
structure Ok (s : St) : Prop where
  stack : ∀ x ∈ s.stack, K32 x
  slen : s.stack.length ≤ 32
  cvt : ∀ x ∈ s.cvt, K32 x
  store : ∀ x ∈ s.store, K32 x
  stl : s.store.length = 32
  cur : ∀ p ∈ s.cur, K32 p.1 ∧ K32 p.2
  org : ∀ p ∈ s.org, K32 p.1 ∧ K32 p.2
  orgl : s.org.length = s.cur.length
  touch : ∀ t ∈ s.touch, 0 ≤ t ∧ t ≤ 3
  tl : s.touch.length = s.cur.length
  size : K32 s.size
  look : 0 ≤ s.look ∧ s.look ≤ 1
  move : 0 ≤ s.move ∧ s.move ≤ 1
  mode : 0 ≤ s.mode ∧ s.mode ≤ 5
  peak : s.peak ≤ 32
  frames : ∀ f ∈ s.frames, f.next ≤ f.code.length ∧ f.more ≤ 15 ∧ f.code.length ≤ 1000000
  flen : s.frames.length ≤ 21
  funcs : ∀ c ∈ s.funcs, c.length ≤ 1000000
  fnl : s.funcs.length ≤ 1000000
  cont : ∀ c ∈ s.cont, c.1 ≤ c.2 ∧ c.2 < s.cur.length
  contl : s.cont.length ≤ 1000000
  curl : s.cur.length ≤ 1000000
  cvl : s.cvt.length ≤ 1000000
  endl : s.ends.length ≤ 1000000
end Mc
open Mc

def ints (l : List Int) : List Value := l.map (Value.int .i64)
def pts (l : List (Int × Int)) : List Value := l.flatMap fun p => [.int .i64 p.1, .int .i64 p.2]
def cts (l : List (Nat × Nat)) : List Value := l.flatMap fun p => [.int .i64 p.1, .int .i64 p.2]
theorem ints_len (l : List Int) : (ints l).length = l.length := by simp [ints]
theorem pts_len (l : List (Int × Int)) : (pts l).length = l.length * 2 := by
  induction l with
  | nil => rfl
  | cons a r ih => simp only [pts, List.flatMap_cons, List.length_append, List.length_cons, List.length_nil] at *; omega
theorem cts_len (l : List (Nat × Nat)) : (cts l).length = l.length * 2 := by
  induction l with
  | nil => rfl
  | cons a r ih => simp only [cts, List.flatMap_cons, List.length_append, List.length_cons, List.length_nil] at *; omega

/-- v is a row of the cells xs, at the start of a block of O -/
def Row (w : World) (O : Nat → Prop) (t : TypeId) (size : Nat) (v : Value) (n : Nat) (xs : List Value) : Prop :=
  w.ownsRow 0 t size v n xs ∧ ∀ g, v.ownBlock = some g → O g
/-- two rows lie in different blocks -/
def Apart (a b : Value) : Prop := ∀ g, a.ownBlock = some g → b.ownBlock ≠ some g
theorem Apart.symm {a b : Value} (h : Apart a b) : Apart b a := fun g h1 h2 => h g h2 h1

section
variable {w w' : World} {O O' : Nat → Prop} {t t' : TypeId} {size size' : Nat} {v v' : Value} {n n' : Nat} {xs xs' : List Value}
theorem Row.keep (h : Row w O t size v n xs) (hk : ∀ g, v.ownBlock = some g → w'.heap[g]? = w.heap[g]?) (hO : ∀ k, O k → O' k) : Row w' O' t size v n xs := by
  refine ⟨⟨h.1.1, ?_⟩, fun g hg => hO g (h.2 g hg)⟩
  rcases h.1.2 with h1 | ⟨g, cap, cur, hv, hg, hh, hr⟩
  · exact .inl h1
  · exact .inr ⟨g, cap, cur, hv, hg, (hk g (by rw [hv]; rfl)).trans hh, hr⟩
theorem Row.block (h : Row w O t size v n xs) {g : Nat} (hg : v.ownBlock = some g) : O g ∧ g < w.heap.size ∧ ∃ cs, Blk w g t cs := by
  refine ⟨h.2 g hg, (h.1.lt g hg).2, ?_⟩
  rcases h.1.2 with ⟨rfl, _⟩ | ⟨g', cap, cur, rfl, _, hh, _⟩
  · simp [Value.ownBlock] at hg
  · simp only [Value.ownBlock, Option.some.injEq] at hg
    subst hg
    exact ⟨cur, hh⟩
theorem Row.apart (h : Row w O t size v n xs) (h' : Row w O' t' size' v' n' xs') (hne : t ≠ t') : Apart v v' := by
  intro g h1 h2
  obtain ⟨_, _, cs, hb⟩ := h.block h1
  obtain ⟨_, _, cs', hb'⟩ := h'.block h2
  exact hb.ne_ hb' hne rfl
theorem Row.ne_blk (h : Row w O t size v n xs) {b : Nat} {cs : Array Value} (hb : Blk w b t' cs) (hne : t ≠ t') {g : Nat} (hg : v.ownBlock = some g) : g ≠ b := by
  obtain ⟨_, _, cs', hb'⟩ := h.block hg
  exact hb'.ne_ hb hne
theorem Row.form (h : Row w O t size v n xs) : ∃ A c, v = .slice A n c ∧ n ≤ c ∧ c ≤ maxLen := by
  rcases h.1.2 with ⟨rfl, rfl⟩ | ⟨g', cap, cur, rfl, _, hh, h1, h2, _⟩
  · exact ⟨none, 0, rfl, Nat.le_refl _, Nat.zero_le _⟩
  · exact ⟨_, cap, rfl, h1, h2⟩
/-- a row that is not empty: its block and its cells -/
theorem Row.at_ (h : Row w O t size v n xs) (hn : 0 < n) : ∃ g c, v = .slice (some ⟨g, 0, none⟩) n c ∧ n ≤ c ∧ c ≤ maxLen ∧ O g ∧ g < w.heap.size ∧ (∀ j u, xs[j]? = some u → w.cell? ⟨g, j, none⟩ = some u) ∧ ∀ j, w.frozen? ⟨g, j, none⟩ = false := by
  rcases h.1.2 with ⟨_, h0⟩ | ⟨g, cap, cur, rfl, _, hh, h1, h2, h3, h4⟩
  · omega
  · have hb : Blk w g t cur := hh
    refine ⟨g, cap, rfl, h1, h2, h.2 g rfl, hb.lt, fun j u hu => ?_, fun j => hb.frozen j⟩
    rw [hb.cell, ← h4] at *
    rw [List.getElem?_take] at hu
    split at hu
    · simpa using hu
    · cases hu
theorem Row.take (h : Row w O t size v n xs) {m : Nat} (hm : m ≤ n) {A : Option Addr} {c : Nat} (hv : v = .slice A n c) : Row w O t size (.slice A m c) m (xs.take (m * size)) := by
  subst hv
  refine ⟨⟨?_, ?_⟩, fun g hg => h.2 g (by cases A <;> exact hg)⟩
  · rw [List.length_take, h.1.1]
    exact Nat.min_eq_left (Nat.mul_le_mul_right _ hm)
  · rcases h.1.2 with ⟨h1, h0⟩ | ⟨g, cap, cur, h0, hg, hh, h1, h2, h3, h4⟩
    · injection h1 with h1 h2 h3
      subst h1 h3
      exact .inl ⟨by rw [show m = 0 by omega], by omega⟩
    · injection h0 with h5 h6 h7
      subst h5 h7
      refine .inr ⟨g, c, cur, rfl, hg, hh, by omega, h2, h3, ?_⟩
      rw [← h4, List.take_take, Nat.min_eq_left (Nat.mul_le_mul_right _ hm)]
/-- one cell of a row is written -/
theorem Row.set_ (h : Row w O t size v n xs) {g : Nat} (hg : v.ownBlock = some g) {j : Nat} (_hj : j < xs.length) (u : Value) : Row (w.setCell ⟨g, j, none⟩ u) O t size v n (xs.set j u) := by
  refine ⟨⟨by rw [List.length_set]; exact h.1.1, ?_⟩, h.2⟩
  rcases h.1.2 with ⟨rfl, _⟩ | ⟨g', cap, cur, rfl, hg', hh, h1, h2, h3, h4⟩
  · simp [Value.ownBlock] at hg
  · simp only [Value.ownBlock, Option.some.injEq] at hg
    subst hg
    have hb : Blk w g' t cur := hh
    refine .inr ⟨g', cap, cur.setIfInBounds j u, rfl, hg', hb.set_ j u, h1, h2, by rw [Array.size_setIfInBounds]; exact h3, ?_⟩
    rw [Array.toList_setIfInBounds, List.take_set, h4]
end

/-- codes lie in rows -/
def Codes (w : World) (O : Nat → Prop) : List Value → List (List (Int × Int)) → Prop
  | [], [] => True
  | v :: vs, c :: cs => Row w O 61 2 v c.length (pts c) ∧ Codes w O vs cs
  | _, _ => False
theorem Codes.len {w : World} {O : Nat → Prop} : ∀ {vs : List Value} {cs : List (List (Int × Int))}, Codes w O vs cs → vs.length = cs.length
  | [], [], _ => rfl
  | _ :: _, _ :: _, h => by simp [Codes.len h.2]
  | [], _ :: _, h => h.elim
  | _ :: _, [], h => h.elim
theorem Codes.get {w : World} {O : Nat → Prop} : ∀ {vs : List Value} {cs : List (List (Int × Int))}, Codes w O vs cs → ∀ {i : Nat} {c : List (Int × Int)}, cs[i]? = some c → ∃ v, vs[i]? = some v ∧ Row w O 61 2 v c.length (pts c)
  | v :: _, c :: _, h, 0, c', hc => by
    simp only [List.getElem?_cons_zero, Option.some.injEq] at hc
    subst hc
    exact ⟨v, rfl, h.1⟩
  | _ :: _, _ :: _, h, i + 1, c', hc => by
    simp only [List.getElem?_cons_succ] at hc ⊢
    exact Codes.get h.2 hc
  | [], [], _, _, _, hc => by simp at hc
  | [], _ :: _, h, _, _, _ => h.elim
  | _ :: _, [], h, _, _, _ => h.elim
theorem Codes.keep {w w' : World} {O O' : Nat → Prop} (hk : ∀ g cs, O g → Blk w g 61 cs → w'.heap[g]? = w.heap[g]?) (hO : ∀ k, O k → O' k) : ∀ {vs : List Value} {cs : List (List (Int × Int))}, Codes w O vs cs → Codes w' O' vs cs
  | [], [], _ => trivial
  | _ :: _, _ :: _, h => ⟨h.1.keep (fun g hg => by obtain ⟨h1, _, cs, h2⟩ := h.1.block hg; exact hk g cs h1 h2) hO, Codes.keep hk hO h.2⟩
  | [], _ :: _, h => h.elim
  | _ :: _, [], h => h.elim

/-- the frames' cells, the last one's last -/
def frC : List Value → List Fm → List Value
  | v :: vs, f :: fs => frC vs fs ++ [v, .int .i64 f.next, .int .i64 f.more]
  | _, _ => []
theorem frC_len : ∀ (vs : List Value) (fs : List Fm), vs.length = fs.length → (frC vs fs).length = fs.length * 3
  | [], [], _ => rfl
  | _ :: vs, _ :: fs, h => by simp only [frC, List.length_append, frC_len vs fs (by simpa using h), List.length_cons, List.length_nil]; omega
  | [], _ :: _, h => by simp at h
  | _ :: _, [], h => by simp at h

/-- which function a deed's number has; and which one it bears, if it is made of one -/
def deedFn : Nat → Fn × Option (TypeId × Fn)
  | 1 => (.func 49, none)
  | 2 => (.func 51, none)
  | 3 => (.func 53, none)
  | 4 => (.func 54, none)
  | 5 => (.func 122, some (35, .func 56))
  | 6 => (.func 122, some (35, .func 57))
  | 7 => (.func 122, some (35, .func 58))
  | 8 => (.func 122, some (35, .func 60))
  | 9 => (.func 123, some (82, .func 63))
  | 10 => (.func 123, some (82, .func 64))
  | 11 => (.func 122, some (35, .func 65))
  | 12 => (.func 122, some (35, .func 66))
  | 13 => (.func 123, some (82, .func 67))
  | 14 => (.func 123, some (82, .func 69))
  | 15 => (.func 70, none)
  | 16 => (.func 122, some (35, .func 71))
  | 17 => (.func 122, some (35, .func 73))
  | 18 => (.func 122, some (35, .func 74))
  | 19 => (.func 123, some (82, .func 75))
  | 20 => (.func 122, some (35, .func 76))
  | 21 => (.func 122, some (35, .func 77))
  | 22 => (.func 78, none)
  | 23 => (.func 80, none)
  | 24 => (.func 81, none)
  | 25 => (.func 82, none)
  | 26 => (.func 84, none)
  | 27 => (.func 86, none)
  | 28 => (.func 87, none)
  | 29 => (.func 88, none)
  | 30 => (.func 90, none)
  | 31 => (.func 91, none)
  | 32 => (.func 93, none)
  | 33 => (.func 95, none)
  | 34 => (.func 97, none)
  | 35 => (.func 99, none)
  | 36 => (.func 101, none)
  | 37 => (.func 103, none)
  | 38 => (.func 105, none)
  | _ => (.func 107, none)
/-- a deed's value: a function, or one with the box of the function that it bears -/
def deedV (bs : Nat → Nat) (i : Nat) : Value := .func (deedFn i).1 #[] (match (deedFn i).2 with | some _ => #[.pointer (some ⟨bs i, 0, none⟩)] | none => #[])
/-- the map's entries -/
def deedEs (bs : Nat → Nat) (n : Nat) : List MapEntry := (List.range n).map fun i => ⟨.int .i64 ((i + 1 : Nat) : Int), deedV bs (i + 1), i⟩
/-- a deed's box lies -/
def DeedBox (w : World) (O : Nat → Prop) (bs : Nat → Nat) (i : Nat) : Prop := match (deedFn i).2 with | some (t, f) => O (bs i) ∧ Blk w (bs i) t #[.func f #[] #[]] | none => True
def Deeds (w : World) (O : Nat → Prop) (db : Nat) : Prop := O db ∧ ∃ bs clock, w.heap[db]? = some (.map (deedEs bs 39).toArray clock) ∧ ∀ i, 1 ≤ i → i ≤ 39 → DeedBox w O bs i
theorem Deeds.keep {w w' : World} {O O' : Nat → Prop} {db : Nat} (h : Deeds w O db) (hm : w'.heap[db]? = w.heap[db]?) (hk : ∀ g t cs, O g → (t = 35 ∨ t = 82) → Blk w g t cs → w'.heap[g]? = w.heap[g]?) (hO : ∀ k, O k → O' k) : Deeds w' O' db := by
  obtain ⟨h0, bs, clock, h1, h2⟩ := h
  refine ⟨hO _ h0, bs, clock, hm.trans h1, fun i hi1 hi2 => ?_⟩
  have := h2 i hi1 hi2
  unfold DeedBox at this ⊢
  split at this
  · rename_i t f e
    refine ⟨hO _ this.1, (hk _ t _ this.1 ?_ this.2).trans this.2⟩
    unfold deedFn at e
    split at e <;> first | (cases e; done) | (cases e; first | exact .inl rfl | exact .inr rfl)
  · trivial
end Go.Proofs.YthdmdgmchkhngaaGreat
namespace Go.Proofs.YthdmdgmchkhngaaGreat
open Go.RowKit Mc

/-- where a machine's rows lie -/
structure Lay where
  cs : Array Value
  fu : Value
  fus : List Value
  fr : Value
  frs : List Value
  og : Value
  cu : Value
  to : Value
  en : Value
  co : Value
  cv : Value
  sk : Value
  db : Nat
/-- the machine's own cells -/
structure MaC (L : Lay) (s : St) : Prop where
  sz : L.cs.size = 50
  stl : s.store.length = 32
  st : ∀ (i : Nat) x, s.store[i]? = some x → L.cs[8 + i]? = some (.int .i64 x)
  c0 : L.cs[0]? = some L.fu
  c1 : L.cs[1]? = some L.fr
  c2 : L.cs[2]? = some L.og
  c3 : L.cs[3]? = some L.cu
  c4 : L.cs[4]? = some L.to
  c5 : L.cs[5]? = some L.en
  c6 : L.cs[6]? = some L.co
  c7 : L.cs[7]? = some L.cv
  c40 : L.cs[40]? = some L.sk
  c41 : L.cs[41]? = some (.int .i64 s.size)
  c42 : L.cs[42]? = some (.int .i64 s.look)
  c43 : L.cs[43]? = some (.int .i64 s.move)
  c44 : L.cs[44]? = some (.int .i64 s.mode)
  c45 : L.cs[45]? = some (.int .i64 s.steps)
  c46 : L.cs[46]? = some (.int .i64 s.peak)
  c47 : L.cs[47]? = some (.bool s.ended)
  c48 : L.cs[48]? = some (.int .i64 s.err)
  c49 : L.cs[49]? = some (.map (some L.db))
theorem MaC.setFr {L : Lay} {s : St} (h : MaC L s) (u : Value) (vs : List Value) (fs : List Fm) : MaC { L with cs := L.cs.setIfInBounds 1 u, fr := u, frs := vs } { s with frames := fs } := by
  have hz := h.sz
  have hl := h.stl
  refine ⟨by simp only [Array.size_setIfInBounds]; exact h.sz, h.stl, fun j x hx => ?_, ?_, ?_, ?_, ?_, ?_, ?_, ?_, ?_, ?_, ?_, ?_, ?_, ?_, ?_, ?_, ?_, ?_, ?_⟩
  · have : j < s.store.length := (List.getElem?_eq_some_iff.1 hx).1
    rw [Array.getElem?_setIfInBounds_ne (by omega)]
    exact h.st j x hx
  · rw [Array.getElem?_setIfInBounds_ne (by decide)]; exact h.c0
  · rw [Array.getElem?_setIfInBounds_self_of_lt (by omega)]
  · rw [Array.getElem?_setIfInBounds_ne (by decide)]; exact h.c2
  · rw [Array.getElem?_setIfInBounds_ne (by decide)]; exact h.c3
  · rw [Array.getElem?_setIfInBounds_ne (by decide)]; exact h.c4
  · rw [Array.getElem?_setIfInBounds_ne (by decide)]; exact h.c5
  · rw [Array.getElem?_setIfInBounds_ne (by decide)]; exact h.c6
  · rw [Array.getElem?_setIfInBounds_ne (by decide)]; exact h.c7
  · rw [Array.getElem?_setIfInBounds_ne (by decide)]; exact h.c40
  · rw [Array.getElem?_setIfInBounds_ne (by decide)]; exact h.c41
  · rw [Array.getElem?_setIfInBounds_ne (by decide)]; exact h.c42
  · rw [Array.getElem?_setIfInBounds_ne (by decide)]; exact h.c43
  · rw [Array.getElem?_setIfInBounds_ne (by decide)]; exact h.c44
  · rw [Array.getElem?_setIfInBounds_ne (by decide)]; exact h.c45
  · rw [Array.getElem?_setIfInBounds_ne (by decide)]; exact h.c46
  · rw [Array.getElem?_setIfInBounds_ne (by decide)]; exact h.c47
  · rw [Array.getElem?_setIfInBounds_ne (by decide)]; exact h.c48
  · rw [Array.getElem?_setIfInBounds_ne (by decide)]; exact h.c49
theorem MaC.setSk {L : Lay} {s : St} (h : MaC L s) (u : Value) (l : List Int) : MaC { L with cs := L.cs.setIfInBounds 40 u, sk := u } { s with stack := l } := by
  have hz := h.sz
  have hl := h.stl
  refine ⟨by simp only [Array.size_setIfInBounds]; exact h.sz, h.stl, fun j x hx => ?_, ?_, ?_, ?_, ?_, ?_, ?_, ?_, ?_, ?_, ?_, ?_, ?_, ?_, ?_, ?_, ?_, ?_, ?_⟩
  · have : j < s.store.length := (List.getElem?_eq_some_iff.1 hx).1
    rw [Array.getElem?_setIfInBounds_ne (by omega)]
    exact h.st j x hx
  · rw [Array.getElem?_setIfInBounds_ne (by decide)]; exact h.c0
  · rw [Array.getElem?_setIfInBounds_ne (by decide)]; exact h.c1
  · rw [Array.getElem?_setIfInBounds_ne (by decide)]; exact h.c2
  · rw [Array.getElem?_setIfInBounds_ne (by decide)]; exact h.c3
  · rw [Array.getElem?_setIfInBounds_ne (by decide)]; exact h.c4
  · rw [Array.getElem?_setIfInBounds_ne (by decide)]; exact h.c5
  · rw [Array.getElem?_setIfInBounds_ne (by decide)]; exact h.c6
  · rw [Array.getElem?_setIfInBounds_ne (by decide)]; exact h.c7
  · rw [Array.getElem?_setIfInBounds_self_of_lt (by omega)]
  · rw [Array.getElem?_setIfInBounds_ne (by decide)]; exact h.c41
  · rw [Array.getElem?_setIfInBounds_ne (by decide)]; exact h.c42
  · rw [Array.getElem?_setIfInBounds_ne (by decide)]; exact h.c43
  · rw [Array.getElem?_setIfInBounds_ne (by decide)]; exact h.c44
  · rw [Array.getElem?_setIfInBounds_ne (by decide)]; exact h.c45
  · rw [Array.getElem?_setIfInBounds_ne (by decide)]; exact h.c46
  · rw [Array.getElem?_setIfInBounds_ne (by decide)]; exact h.c47
  · rw [Array.getElem?_setIfInBounds_ne (by decide)]; exact h.c48
  · rw [Array.getElem?_setIfInBounds_ne (by decide)]; exact h.c49
theorem MaC.setLook {L : Lay} {s : St} (h : MaC L s) (n : Int) : MaC { L with cs := L.cs.setIfInBounds 42 (.int .i64 n) } { s with look := n } := by
  have hz := h.sz
  have hl := h.stl
  refine ⟨by simp only [Array.size_setIfInBounds]; exact h.sz, h.stl, fun j x hx => ?_, ?_, ?_, ?_, ?_, ?_, ?_, ?_, ?_, ?_, ?_, ?_, ?_, ?_, ?_, ?_, ?_, ?_, ?_⟩
  · have : j < s.store.length := (List.getElem?_eq_some_iff.1 hx).1
    rw [Array.getElem?_setIfInBounds_ne (by omega)]
    exact h.st j x hx
  · rw [Array.getElem?_setIfInBounds_ne (by decide)]; exact h.c0
  · rw [Array.getElem?_setIfInBounds_ne (by decide)]; exact h.c1
  · rw [Array.getElem?_setIfInBounds_ne (by decide)]; exact h.c2
  · rw [Array.getElem?_setIfInBounds_ne (by decide)]; exact h.c3
  · rw [Array.getElem?_setIfInBounds_ne (by decide)]; exact h.c4
  · rw [Array.getElem?_setIfInBounds_ne (by decide)]; exact h.c5
  · rw [Array.getElem?_setIfInBounds_ne (by decide)]; exact h.c6
  · rw [Array.getElem?_setIfInBounds_ne (by decide)]; exact h.c7
  · rw [Array.getElem?_setIfInBounds_ne (by decide)]; exact h.c40
  · rw [Array.getElem?_setIfInBounds_ne (by decide)]; exact h.c41
  · rw [Array.getElem?_setIfInBounds_self_of_lt (by omega)]
  · rw [Array.getElem?_setIfInBounds_ne (by decide)]; exact h.c43
  · rw [Array.getElem?_setIfInBounds_ne (by decide)]; exact h.c44
  · rw [Array.getElem?_setIfInBounds_ne (by decide)]; exact h.c45
  · rw [Array.getElem?_setIfInBounds_ne (by decide)]; exact h.c46
  · rw [Array.getElem?_setIfInBounds_ne (by decide)]; exact h.c47
  · rw [Array.getElem?_setIfInBounds_ne (by decide)]; exact h.c48
  · rw [Array.getElem?_setIfInBounds_ne (by decide)]; exact h.c49
theorem MaC.setMove {L : Lay} {s : St} (h : MaC L s) (n : Int) : MaC { L with cs := L.cs.setIfInBounds 43 (.int .i64 n) } { s with move := n } := by
  have hz := h.sz
  have hl := h.stl
  refine ⟨by simp only [Array.size_setIfInBounds]; exact h.sz, h.stl, fun j x hx => ?_, ?_, ?_, ?_, ?_, ?_, ?_, ?_, ?_, ?_, ?_, ?_, ?_, ?_, ?_, ?_, ?_, ?_, ?_⟩
  · have : j < s.store.length := (List.getElem?_eq_some_iff.1 hx).1
    rw [Array.getElem?_setIfInBounds_ne (by omega)]
    exact h.st j x hx
  · rw [Array.getElem?_setIfInBounds_ne (by decide)]; exact h.c0
  · rw [Array.getElem?_setIfInBounds_ne (by decide)]; exact h.c1
  · rw [Array.getElem?_setIfInBounds_ne (by decide)]; exact h.c2
  · rw [Array.getElem?_setIfInBounds_ne (by decide)]; exact h.c3
  · rw [Array.getElem?_setIfInBounds_ne (by decide)]; exact h.c4
  · rw [Array.getElem?_setIfInBounds_ne (by decide)]; exact h.c5
  · rw [Array.getElem?_setIfInBounds_ne (by decide)]; exact h.c6
  · rw [Array.getElem?_setIfInBounds_ne (by decide)]; exact h.c7
  · rw [Array.getElem?_setIfInBounds_ne (by decide)]; exact h.c40
  · rw [Array.getElem?_setIfInBounds_ne (by decide)]; exact h.c41
  · rw [Array.getElem?_setIfInBounds_ne (by decide)]; exact h.c42
  · rw [Array.getElem?_setIfInBounds_self_of_lt (by omega)]
  · rw [Array.getElem?_setIfInBounds_ne (by decide)]; exact h.c44
  · rw [Array.getElem?_setIfInBounds_ne (by decide)]; exact h.c45
  · rw [Array.getElem?_setIfInBounds_ne (by decide)]; exact h.c46
  · rw [Array.getElem?_setIfInBounds_ne (by decide)]; exact h.c47
  · rw [Array.getElem?_setIfInBounds_ne (by decide)]; exact h.c48
  · rw [Array.getElem?_setIfInBounds_ne (by decide)]; exact h.c49
theorem MaC.setMode {L : Lay} {s : St} (h : MaC L s) (n : Int) : MaC { L with cs := L.cs.setIfInBounds 44 (.int .i64 n) } { s with mode := n } := by
  have hz := h.sz
  have hl := h.stl
  refine ⟨by simp only [Array.size_setIfInBounds]; exact h.sz, h.stl, fun j x hx => ?_, ?_, ?_, ?_, ?_, ?_, ?_, ?_, ?_, ?_, ?_, ?_, ?_, ?_, ?_, ?_, ?_, ?_, ?_⟩
  · have : j < s.store.length := (List.getElem?_eq_some_iff.1 hx).1
    rw [Array.getElem?_setIfInBounds_ne (by omega)]
    exact h.st j x hx
  · rw [Array.getElem?_setIfInBounds_ne (by decide)]; exact h.c0
  · rw [Array.getElem?_setIfInBounds_ne (by decide)]; exact h.c1
  · rw [Array.getElem?_setIfInBounds_ne (by decide)]; exact h.c2
  · rw [Array.getElem?_setIfInBounds_ne (by decide)]; exact h.c3
  · rw [Array.getElem?_setIfInBounds_ne (by decide)]; exact h.c4
  · rw [Array.getElem?_setIfInBounds_ne (by decide)]; exact h.c5
  · rw [Array.getElem?_setIfInBounds_ne (by decide)]; exact h.c6
  · rw [Array.getElem?_setIfInBounds_ne (by decide)]; exact h.c7
  · rw [Array.getElem?_setIfInBounds_ne (by decide)]; exact h.c40
  · rw [Array.getElem?_setIfInBounds_ne (by decide)]; exact h.c41
  · rw [Array.getElem?_setIfInBounds_ne (by decide)]; exact h.c42
  · rw [Array.getElem?_setIfInBounds_ne (by decide)]; exact h.c43
  · rw [Array.getElem?_setIfInBounds_self_of_lt (by omega)]
  · rw [Array.getElem?_setIfInBounds_ne (by decide)]; exact h.c45
  · rw [Array.getElem?_setIfInBounds_ne (by decide)]; exact h.c46
  · rw [Array.getElem?_setIfInBounds_ne (by decide)]; exact h.c47
  · rw [Array.getElem?_setIfInBounds_ne (by decide)]; exact h.c48
  · rw [Array.getElem?_setIfInBounds_ne (by decide)]; exact h.c49
theorem MaC.setSteps {L : Lay} {s : St} (h : MaC L s) (n : Nat) : MaC { L with cs := L.cs.setIfInBounds 45 (.int .i64 n) } { s with steps := n } := by
  have hz := h.sz
  have hl := h.stl
  refine ⟨by simp only [Array.size_setIfInBounds]; exact h.sz, h.stl, fun j x hx => ?_, ?_, ?_, ?_, ?_, ?_, ?_, ?_, ?_, ?_, ?_, ?_, ?_, ?_, ?_, ?_, ?_, ?_, ?_⟩
  · have : j < s.store.length := (List.getElem?_eq_some_iff.1 hx).1
    rw [Array.getElem?_setIfInBounds_ne (by omega)]
    exact h.st j x hx
  · rw [Array.getElem?_setIfInBounds_ne (by decide)]; exact h.c0
  · rw [Array.getElem?_setIfInBounds_ne (by decide)]; exact h.c1
  · rw [Array.getElem?_setIfInBounds_ne (by decide)]; exact h.c2
  · rw [Array.getElem?_setIfInBounds_ne (by decide)]; exact h.c3
  · rw [Array.getElem?_setIfInBounds_ne (by decide)]; exact h.c4
  · rw [Array.getElem?_setIfInBounds_ne (by decide)]; exact h.c5
  · rw [Array.getElem?_setIfInBounds_ne (by decide)]; exact h.c6
  · rw [Array.getElem?_setIfInBounds_ne (by decide)]; exact h.c7
  · rw [Array.getElem?_setIfInBounds_ne (by decide)]; exact h.c40
  · rw [Array.getElem?_setIfInBounds_ne (by decide)]; exact h.c41
  · rw [Array.getElem?_setIfInBounds_ne (by decide)]; exact h.c42
  · rw [Array.getElem?_setIfInBounds_ne (by decide)]; exact h.c43
  · rw [Array.getElem?_setIfInBounds_ne (by decide)]; exact h.c44
  · rw [Array.getElem?_setIfInBounds_self_of_lt (by omega)]
  · rw [Array.getElem?_setIfInBounds_ne (by decide)]; exact h.c46
  · rw [Array.getElem?_setIfInBounds_ne (by decide)]; exact h.c47
  · rw [Array.getElem?_setIfInBounds_ne (by decide)]; exact h.c48
  · rw [Array.getElem?_setIfInBounds_ne (by decide)]; exact h.c49
theorem MaC.setPeak {L : Lay} {s : St} (h : MaC L s) (n : Nat) : MaC { L with cs := L.cs.setIfInBounds 46 (.int .i64 n) } { s with peak := n } := by
  have hz := h.sz
  have hl := h.stl
  refine ⟨by simp only [Array.size_setIfInBounds]; exact h.sz, h.stl, fun j x hx => ?_, ?_, ?_, ?_, ?_, ?_, ?_, ?_, ?_, ?_, ?_, ?_, ?_, ?_, ?_, ?_, ?_, ?_, ?_⟩
  · have : j < s.store.length := (List.getElem?_eq_some_iff.1 hx).1
    rw [Array.getElem?_setIfInBounds_ne (by omega)]
    exact h.st j x hx
  · rw [Array.getElem?_setIfInBounds_ne (by decide)]; exact h.c0
  · rw [Array.getElem?_setIfInBounds_ne (by decide)]; exact h.c1
  · rw [Array.getElem?_setIfInBounds_ne (by decide)]; exact h.c2
  · rw [Array.getElem?_setIfInBounds_ne (by decide)]; exact h.c3
  · rw [Array.getElem?_setIfInBounds_ne (by decide)]; exact h.c4
  · rw [Array.getElem?_setIfInBounds_ne (by decide)]; exact h.c5
  · rw [Array.getElem?_setIfInBounds_ne (by decide)]; exact h.c6
  · rw [Array.getElem?_setIfInBounds_ne (by decide)]; exact h.c7
  · rw [Array.getElem?_setIfInBounds_ne (by decide)]; exact h.c40
  · rw [Array.getElem?_setIfInBounds_ne (by decide)]; exact h.c41
  · rw [Array.getElem?_setIfInBounds_ne (by decide)]; exact h.c42
  · rw [Array.getElem?_setIfInBounds_ne (by decide)]; exact h.c43
  · rw [Array.getElem?_setIfInBounds_ne (by decide)]; exact h.c44
  · rw [Array.getElem?_setIfInBounds_ne (by decide)]; exact h.c45
  · rw [Array.getElem?_setIfInBounds_self_of_lt (by omega)]
  · rw [Array.getElem?_setIfInBounds_ne (by decide)]; exact h.c47
  · rw [Array.getElem?_setIfInBounds_ne (by decide)]; exact h.c48
  · rw [Array.getElem?_setIfInBounds_ne (by decide)]; exact h.c49
theorem MaC.setEnded {L : Lay} {s : St} (h : MaC L s) (b : Bool) : MaC { L with cs := L.cs.setIfInBounds 47 (.bool b) } { s with ended := b } := by
  have hz := h.sz
  have hl := h.stl
  refine ⟨by simp only [Array.size_setIfInBounds]; exact h.sz, h.stl, fun j x hx => ?_, ?_, ?_, ?_, ?_, ?_, ?_, ?_, ?_, ?_, ?_, ?_, ?_, ?_, ?_, ?_, ?_, ?_, ?_⟩
  · have : j < s.store.length := (List.getElem?_eq_some_iff.1 hx).1
    rw [Array.getElem?_setIfInBounds_ne (by omega)]
    exact h.st j x hx
  · rw [Array.getElem?_setIfInBounds_ne (by decide)]; exact h.c0
  · rw [Array.getElem?_setIfInBounds_ne (by decide)]; exact h.c1
  · rw [Array.getElem?_setIfInBounds_ne (by decide)]; exact h.c2
  · rw [Array.getElem?_setIfInBounds_ne (by decide)]; exact h.c3
  · rw [Array.getElem?_setIfInBounds_ne (by decide)]; exact h.c4
  · rw [Array.getElem?_setIfInBounds_ne (by decide)]; exact h.c5
  · rw [Array.getElem?_setIfInBounds_ne (by decide)]; exact h.c6
  · rw [Array.getElem?_setIfInBounds_ne (by decide)]; exact h.c7
  · rw [Array.getElem?_setIfInBounds_ne (by decide)]; exact h.c40
  · rw [Array.getElem?_setIfInBounds_ne (by decide)]; exact h.c41
  · rw [Array.getElem?_setIfInBounds_ne (by decide)]; exact h.c42
  · rw [Array.getElem?_setIfInBounds_ne (by decide)]; exact h.c43
  · rw [Array.getElem?_setIfInBounds_ne (by decide)]; exact h.c44
  · rw [Array.getElem?_setIfInBounds_ne (by decide)]; exact h.c45
  · rw [Array.getElem?_setIfInBounds_ne (by decide)]; exact h.c46
  · rw [Array.getElem?_setIfInBounds_self_of_lt (by omega)]
  · rw [Array.getElem?_setIfInBounds_ne (by decide)]; exact h.c48
  · rw [Array.getElem?_setIfInBounds_ne (by decide)]; exact h.c49
theorem MaC.setErr {L : Lay} {s : St} (h : MaC L s) (n : Int) : MaC { L with cs := L.cs.setIfInBounds 48 (.int .i64 n) } { s with err := n } := by
  have hz := h.sz
  have hl := h.stl
  refine ⟨by simp only [Array.size_setIfInBounds]; exact h.sz, h.stl, fun j x hx => ?_, ?_, ?_, ?_, ?_, ?_, ?_, ?_, ?_, ?_, ?_, ?_, ?_, ?_, ?_, ?_, ?_, ?_, ?_⟩
  · have : j < s.store.length := (List.getElem?_eq_some_iff.1 hx).1
    rw [Array.getElem?_setIfInBounds_ne (by omega)]
    exact h.st j x hx
  · rw [Array.getElem?_setIfInBounds_ne (by decide)]; exact h.c0
  · rw [Array.getElem?_setIfInBounds_ne (by decide)]; exact h.c1
  · rw [Array.getElem?_setIfInBounds_ne (by decide)]; exact h.c2
  · rw [Array.getElem?_setIfInBounds_ne (by decide)]; exact h.c3
  · rw [Array.getElem?_setIfInBounds_ne (by decide)]; exact h.c4
  · rw [Array.getElem?_setIfInBounds_ne (by decide)]; exact h.c5
  · rw [Array.getElem?_setIfInBounds_ne (by decide)]; exact h.c6
  · rw [Array.getElem?_setIfInBounds_ne (by decide)]; exact h.c7
  · rw [Array.getElem?_setIfInBounds_ne (by decide)]; exact h.c40
  · rw [Array.getElem?_setIfInBounds_ne (by decide)]; exact h.c41
  · rw [Array.getElem?_setIfInBounds_ne (by decide)]; exact h.c42
  · rw [Array.getElem?_setIfInBounds_ne (by decide)]; exact h.c43
  · rw [Array.getElem?_setIfInBounds_ne (by decide)]; exact h.c44
  · rw [Array.getElem?_setIfInBounds_ne (by decide)]; exact h.c45
  · rw [Array.getElem?_setIfInBounds_ne (by decide)]; exact h.c46
  · rw [Array.getElem?_setIfInBounds_ne (by decide)]; exact h.c47
  · rw [Array.getElem?_setIfInBounds_self_of_lt (by omega)]
  · rw [Array.getElem?_setIfInBounds_ne (by decide)]; exact h.c49
theorem MaC.setStore {L : Lay} {s : St} (h : MaC L s) (i : Nat) (n : Int) (hi : i < 32) : MaC { L with cs := L.cs.setIfInBounds (8 + i) (.int .i64 n) } { s with store := s.store.set i n } := by
  have hz := h.sz
  have hl := h.stl
  refine ⟨by simp only [Array.size_setIfInBounds]; exact h.sz, by simp only [List.length_set]; exact h.stl, fun j x hx => ?_, ?_, ?_, ?_, ?_, ?_, ?_, ?_, ?_, ?_, ?_, ?_, ?_, ?_, ?_, ?_, ?_, ?_, ?_⟩
  · simp only [List.getElem?_set] at hx
    rw [Array.getElem?_setIfInBounds]
    by_cases e : i = j
    · subst e
      rw [if_pos rfl, if_pos (by omega)] at hx
      injection hx with hx
      subst hx
      rw [if_pos rfl, if_pos (by omega)]
    · rw [if_neg e] at hx
      rw [if_neg (by omega)]
      exact h.st j x hx
  · rw [Array.getElem?_setIfInBounds_ne (by omega)]; exact h.c0
  · rw [Array.getElem?_setIfInBounds_ne (by omega)]; exact h.c1
  · rw [Array.getElem?_setIfInBounds_ne (by omega)]; exact h.c2
  · rw [Array.getElem?_setIfInBounds_ne (by omega)]; exact h.c3
  · rw [Array.getElem?_setIfInBounds_ne (by omega)]; exact h.c4
  · rw [Array.getElem?_setIfInBounds_ne (by omega)]; exact h.c5
  · rw [Array.getElem?_setIfInBounds_ne (by omega)]; exact h.c6
  · rw [Array.getElem?_setIfInBounds_ne (by omega)]; exact h.c7
  · rw [Array.getElem?_setIfInBounds_ne (by omega)]; exact h.c40
  · rw [Array.getElem?_setIfInBounds_ne (by omega)]; exact h.c41
  · rw [Array.getElem?_setIfInBounds_ne (by omega)]; exact h.c42
  · rw [Array.getElem?_setIfInBounds_ne (by omega)]; exact h.c43
  · rw [Array.getElem?_setIfInBounds_ne (by omega)]; exact h.c44
  · rw [Array.getElem?_setIfInBounds_ne (by omega)]; exact h.c45
  · rw [Array.getElem?_setIfInBounds_ne (by omega)]; exact h.c46
  · rw [Array.getElem?_setIfInBounds_ne (by omega)]; exact h.c47
  · rw [Array.getElem?_setIfInBounds_ne (by omega)]; exact h.c48
  · rw [Array.getElem?_setIfInBounds_ne (by omega)]; exact h.c49

/-- a machine in block mb, its memory in blocks of O -/
structure MaL (w : World) (mb : Nat) (O : Nat → Prop) (L : Lay) (s : St) : Prop where
  mbO : O mb
  olt : ∀ k, O k → k < w.heap.size
  blk : Blk w mb 88 L.cs
  c : MaC L s
  fu : Row w O 26 1 L.fu s.funcs.length L.fus
  fr : Row w O 80 3 L.fr s.frames.length (frC L.frs s.frames)
  og : Row w O 50 2 L.og s.org.length (pts s.org)
  cu : Row w O 50 2 L.cu s.cur.length (pts s.cur)
  to : Row w O 3 1 L.to s.touch.length (ints s.touch)
  en : Row w O 3 1 L.en s.ends.length (ints s.ends)
  co : Row w O 138 2 L.co s.cont.length (cts s.cont)
  cv : Row w O 3 1 L.cv s.cvt.length (ints s.cvt)
  sk : Row w O 3 1 L.sk s.stack.length (ints s.stack.reverse)
  fuc : Codes w O L.fus s.funcs
  frc : Codes w O L.frs (s.frames.map (·.code))
  ap_cu_og : Apart L.cu L.og
  ap_to_en : Apart L.to L.en
  ap_to_cv : Apart L.to L.cv
  ap_to_sk : Apart L.to L.sk
  ap_en_cv : Apart L.en L.cv
  ap_en_sk : Apart L.en L.sk
  ap_cv_sk : Apart L.cv L.sk
  dd : Deeds w O L.db
  ok : Ok s

section
variable {w w' : World} {O O' : Nat → Prop} {t : TypeId} {size : Nat} {v : Value} {n : Nat} {xs : List Value} {mb : Nat} {cs : Array Value} {r : Option Nat}
theorem Row.k (h : Row w O t size v n xs) (hmb : Blk w mb 88 cs) (ht : t ≠ 88) (hk : ∀ k, O k → k ≠ mb → some k ≠ r → w'.heap[k]? = w.heap[k]?) (hr : ∀ g, v.ownBlock = some g → r ≠ some g) (hO : ∀ k, O k → O' k) : Row w' O' t size v n xs :=
  h.keep (fun g hg => hk g (h.2 g hg) (h.ne_blk hmb ht hg) (fun e => hr g hg e.symm)) hO
theorem Codes.k {vs : List Value} {cl : List (List (Int × Int))} (h : Codes w O vs cl) (hmb : Blk w mb 88 cs) (hk : ∀ k, O k → k ≠ mb → some k ≠ r → w'.heap[k]? = w.heap[k]?) (hr : ∀ g cs, Blk w g 61 cs → r ≠ some g) (hO : ∀ k, O k → O' k) : Codes w' O' vs cl :=
  Codes.keep (fun g cs hg hb => hk g hg (hb.ne_ hmb (by decide)) (fun e => hr g cs hb e.symm)) hO h
theorem Deeds.k {db : Nat} (h : Deeds w O db) (hmb : Blk w mb 88 cs) (hk : ∀ k, O k → k ≠ mb → some k ≠ r → w'.heap[k]? = w.heap[k]?) {t0 : TypeId} (ht1 : t0 ≠ 35) (ht2 : t0 ≠ 82) (hr : ∀ g, r = some g → ∃ cs, Blk w g t0 cs) (hO : ∀ k, O k → O' k) : Deeds w' O' db := by
  refine h.keep ?_ (fun g t cs hg ht hb => hk g hg ?_ ?_) hO
  · obtain ⟨h0, bs, clock, h1, _⟩ := h
    refine hk db h0 ?_ ?_
    · rintro rfl; unfold Blk at hmb; rw [h1] at hmb; cases hmb
    · intro e
      obtain ⟨cs, hb⟩ := hr db e.symm
      unfold Blk at hb
      rw [h1] at hb
      cases hb
  · exact hb.ne_ hmb (by rcases ht with rfl | rfl <;> decide)
  · intro e
    obtain ⟨cs', hb'⟩ := hr g e.symm
    exact hb.ne_ hb' (by rcases ht with rfl | rfl <;> first | exact ht1.symm | exact ht2.symm) rfl
end

section
variable {w w' : World} {mb : Nat} {O O' : Nat → Prop} {L : Lay} {s : St}
theorem MaL.keep (h : MaL w mb O L s) (hk : ∀ k, O k → w'.heap[k]? = w.heap[k]?) (hO : ∀ k, O k → O' k) (hlt : ∀ k, O' k → k < w'.heap.size) : MaL w' mb O' L s :=
  ⟨hO _ h.mbO, hlt, (hk mb h.mbO).trans h.blk, h.c, h.fu.keep (fun g hg => hk g (h.fu.2 g hg)) hO, h.fr.keep (fun g hg => hk g (h.fr.2 g hg)) hO, h.og.keep (fun g hg => hk g (h.og.2 g hg)) hO, h.cu.keep (fun g hg => hk g (h.cu.2 g hg)) hO, h.to.keep (fun g hg => hk g (h.to.2 g hg)) hO, h.en.keep (fun g hg => hk g (h.en.2 g hg)) hO, h.co.keep (fun g hg => hk g (h.co.2 g hg)) hO, h.cv.keep (fun g hg => hk g (h.cv.2 g hg)) hO, h.sk.keep (fun g hg => hk g (h.sk.2 g hg)) hO, h.fuc.keep (fun g _ hg _ => hk g hg) hO, h.frc.keep (fun g _ hg _ => hk g hg) hO, h.ap_cu_og, h.ap_to_en, h.ap_to_cv, h.ap_to_sk, h.ap_en_cv, h.ap_en_sk, h.ap_cv_sk, h.dd.keep (hk _ h.dd.1) (fun g _ _ hg _ _ => hk g hg) hO, h.ok⟩
theorem MaL.mono (h : MaL w mb O L s) (hO : ∀ k, O k → O' k) (hlt : ∀ k, O' k → k < w.heap.size) : MaL w mb O' L s := h.keep (fun _ _ => rfl) hO hlt

/-- the machine's cells alone are written -/
theorem MaL.cells (h : MaL w mb O L s) {cs' : Array Value} {st' : List Int} {lo' mo' md' : Int} {sp' pk' : Nat} {ed' : Bool} {er' : Int} (hblk : Blk w' mb 88 cs') (hc : MaC { L with cs := cs' } { s with store := st', look := lo', move := mo', mode := md', steps := sp', peak := pk', ended := ed', err := er' }) (hk : ∀ k, O k → k ≠ mb → some k ≠ none → w'.heap[k]? = w.heap[k]?) (hO : ∀ k, O k → O' k) (hlt : ∀ k, O' k → k < w'.heap.size) (hok : Ok { s with store := st', look := lo', move := mo', mode := md', steps := sp', peak := pk', ended := ed', err := er' }) : MaL w' mb O' { L with cs := cs' } { s with store := st', look := lo', move := mo', mode := md', steps := sp', peak := pk', ended := ed', err := er' } := by
  exact ⟨hO _ h.mbO, hlt, hblk, hc, h.fu.k h.blk (by decide) hk (fun g hg e => by cases e) hO, h.fr.k h.blk (by decide) hk (fun g hg e => by cases e) hO, h.og.k h.blk (by decide) hk (fun g hg e => by cases e) hO, h.cu.k h.blk (by decide) hk (fun g hg e => by cases e) hO, h.to.k h.blk (by decide) hk (fun g hg e => by cases e) hO, h.en.k h.blk (by decide) hk (fun g hg e => by cases e) hO, h.co.k h.blk (by decide) hk (fun g hg e => by cases e) hO, h.cv.k h.blk (by decide) hk (fun g hg e => by cases e) hO, h.sk.k h.blk (by decide) hk (fun g hg e => by cases e) hO, h.fuc.k h.blk hk (fun g cs hb e => by cases e) hO, h.frc.k h.blk hk (fun g cs hb e => by cases e) hO, h.ap_cu_og, h.ap_to_en, h.ap_to_cv, h.ap_to_sk, h.ap_en_cv, h.ap_en_sk, h.ap_cv_sk, h.dd.k h.blk hk (t0 := 3) (by decide) (by decide) (fun g e => by cases e) hO, hok⟩
/-- the row sk is written, or put elsewhere -/
theorem MaL.stack (h : MaL w mb O L s) {u : Value} {cs' : Array Value} {l : List Int} (hblk : Blk w' mb 88 cs') (hc : MaC { L with cs := cs', sk := u } { s with stack := l }) (hrow : Row w' O' 3 1 u l.length (ints l.reverse)) (hnew : ∀ g, u.ownBlock = some g → L.sk.ownBlock = some g ∨ w.heap.size ≤ g) (hk : ∀ k, O k → k ≠ mb → some k ≠ L.sk.ownBlock → w'.heap[k]? = w.heap[k]?) (hO : ∀ k, O k → O' k) (hlt : ∀ k, O' k → k < w'.heap.size) (hok : Ok { s with stack := l }) : MaL w' mb O' { L with cs := cs', sk := u } { s with stack := l } := by
  exact ⟨hO _ h.mbO, hlt, hblk, hc, h.fu.k h.blk (by decide) hk (fun g hg => h.fu.apart h.sk (by decide) g hg) hO, h.fr.k h.blk (by decide) hk (fun g hg => h.fr.apart h.sk (by decide) g hg) hO, h.og.k h.blk (by decide) hk (fun g hg => h.og.apart h.sk (by decide) g hg) hO, h.cu.k h.blk (by decide) hk (fun g hg => h.cu.apart h.sk (by decide) g hg) hO, h.to.k h.blk (by decide) hk (fun g hg => h.ap_to_sk g hg) hO, h.en.k h.blk (by decide) hk (fun g hg => h.ap_en_sk g hg) hO, h.co.k h.blk (by decide) hk (fun g hg => h.co.apart h.sk (by decide) g hg) hO, h.cv.k h.blk (by decide) hk (fun g hg => h.ap_cv_sk g hg) hO, hrow, h.fuc.k h.blk hk (fun g cs hb e => by obtain ⟨_, _, cs2, hb2⟩ := h.sk.block e; exact hb.ne_ hb2 (by decide) rfl) hO, h.frc.k h.blk hk (fun g cs hb e => by obtain ⟨_, _, cs2, hb2⟩ := h.sk.block e; exact hb.ne_ hb2 (by decide) rfl) hO, h.ap_cu_og, h.ap_to_en, h.ap_to_cv, (Apart.symm ((fun g h1 h2 => by rcases hnew g h1 with h3 | h3; exact (h.ap_to_sk.symm) g h3 h2; have := (h.to.block h2).2.1; omega))), h.ap_en_cv, (Apart.symm ((fun g h1 h2 => by rcases hnew g h1 with h3 | h3; exact (h.ap_en_sk.symm) g h3 h2; have := (h.en.block h2).2.1; omega))), (Apart.symm ((fun g h1 h2 => by rcases hnew g h1 with h3 | h3; exact (h.ap_cv_sk.symm) g h3 h2; have := (h.cv.block h2).2.1; omega))), h.dd.k h.blk hk (t0 := 3) (by decide) (by decide) (fun g e => by obtain ⟨_, _, cs2, hb2⟩ := h.sk.block e; exact ⟨cs2, hb2⟩) hO, hok⟩
/-- the row fr is written, or put elsewhere -/
theorem MaL.frames_ (h : MaL w mb O L s) {u : Value} {cs' : Array Value} {vs : List Value} {fs : List Fm} (hcod : Codes w' O' vs (fs.map (·.code))) (hblk : Blk w' mb 88 cs') (hc : MaC { L with cs := cs', fr := u, frs := vs } { s with frames := fs }) (hrow : Row w' O' 80 3 u fs.length (frC vs fs)) (_hnew : ∀ g, u.ownBlock = some g → L.fr.ownBlock = some g ∨ w.heap.size ≤ g) (hk : ∀ k, O k → k ≠ mb → some k ≠ L.fr.ownBlock → w'.heap[k]? = w.heap[k]?) (hO : ∀ k, O k → O' k) (hlt : ∀ k, O' k → k < w'.heap.size) (hok : Ok { s with frames := fs }) : MaL w' mb O' { L with cs := cs', fr := u, frs := vs } { s with frames := fs } := by
  exact ⟨hO _ h.mbO, hlt, hblk, hc, h.fu.k h.blk (by decide) hk (fun g hg => h.fu.apart h.fr (by decide) g hg) hO, hrow, h.og.k h.blk (by decide) hk (fun g hg => h.og.apart h.fr (by decide) g hg) hO, h.cu.k h.blk (by decide) hk (fun g hg => h.cu.apart h.fr (by decide) g hg) hO, h.to.k h.blk (by decide) hk (fun g hg => h.to.apart h.fr (by decide) g hg) hO, h.en.k h.blk (by decide) hk (fun g hg => h.en.apart h.fr (by decide) g hg) hO, h.co.k h.blk (by decide) hk (fun g hg => h.co.apart h.fr (by decide) g hg) hO, h.cv.k h.blk (by decide) hk (fun g hg => h.cv.apart h.fr (by decide) g hg) hO, h.sk.k h.blk (by decide) hk (fun g hg => h.sk.apart h.fr (by decide) g hg) hO, h.fuc.k h.blk hk (fun g cs hb e => by obtain ⟨_, _, cs2, hb2⟩ := h.fr.block e; exact hb.ne_ hb2 (by decide) rfl) hO, hcod, h.ap_cu_og, h.ap_to_en, h.ap_to_cv, h.ap_to_sk, h.ap_en_cv, h.ap_en_sk, h.ap_cv_sk, h.dd.k h.blk hk (t0 := 80) (by decide) (by decide) (fun g e => by obtain ⟨_, _, cs2, hb2⟩ := h.fr.block e; exact ⟨cs2, hb2⟩) hO, hok⟩
theorem MaL.cur_ (h : MaL w mb O L s) {l : List (Int × Int)} (hl : l.length = s.cur.length) (hrow : Row w' O' 50 2 L.cu s.cur.length (pts l)) (hmb : w'.heap[mb]? = w.heap[mb]?) (hk : ∀ k, O k → k ≠ mb → some k ≠ L.cu.ownBlock → w'.heap[k]? = w.heap[k]?) (hO : ∀ k, O k → O' k) (hlt : ∀ k, O' k → k < w'.heap.size) (hok : Ok { s with cur := l }) : MaL w' mb O' L { s with cur := l } := by
  exact ⟨hO _ h.mbO, hlt, hmb.trans h.blk, ⟨h.c.sz, h.c.stl, h.c.st, h.c.c0, h.c.c1, h.c.c2, h.c.c3, h.c.c4, h.c.c5, h.c.c6, h.c.c7, h.c.c40, h.c.c41, h.c.c42, h.c.c43, h.c.c44, h.c.c45, h.c.c46, h.c.c47, h.c.c48, h.c.c49⟩, h.fu.k h.blk (by decide) hk (fun g hg => h.fu.apart h.cu (by decide) g hg) hO, h.fr.k h.blk (by decide) hk (fun g hg => h.fr.apart h.cu (by decide) g hg) hO, h.og.k h.blk (by decide) hk (fun g hg => h.ap_cu_og.symm g hg) hO, by rw [hl]; exact hrow, h.to.k h.blk (by decide) hk (fun g hg => h.to.apart h.cu (by decide) g hg) hO, h.en.k h.blk (by decide) hk (fun g hg => h.en.apart h.cu (by decide) g hg) hO, h.co.k h.blk (by decide) hk (fun g hg => h.co.apart h.cu (by decide) g hg) hO, h.cv.k h.blk (by decide) hk (fun g hg => h.cv.apart h.cu (by decide) g hg) hO, h.sk.k h.blk (by decide) hk (fun g hg => h.sk.apart h.cu (by decide) g hg) hO, h.fuc.k h.blk hk (fun g cs hb e => by obtain ⟨_, _, cs2, hb2⟩ := h.cu.block e; exact hb.ne_ hb2 (by decide) rfl) hO, h.frc.k h.blk hk (fun g cs hb e => by obtain ⟨_, _, cs2, hb2⟩ := h.cu.block e; exact hb.ne_ hb2 (by decide) rfl) hO, h.ap_cu_og, h.ap_to_en, h.ap_to_cv, h.ap_to_sk, h.ap_en_cv, h.ap_en_sk, h.ap_cv_sk, h.dd.k h.blk hk (t0 := 50) (by decide) (by decide) (fun g e => by obtain ⟨_, _, cs2, hb2⟩ := h.cu.block e; exact ⟨cs2, hb2⟩) hO, hok⟩
theorem MaL.touch_ (h : MaL w mb O L s) {l : List Int} (hl : l.length = s.touch.length) (hrow : Row w' O' 3 1 L.to s.touch.length (ints l)) (hmb : w'.heap[mb]? = w.heap[mb]?) (hk : ∀ k, O k → k ≠ mb → some k ≠ L.to.ownBlock → w'.heap[k]? = w.heap[k]?) (hO : ∀ k, O k → O' k) (hlt : ∀ k, O' k → k < w'.heap.size) (hok : Ok { s with touch := l }) : MaL w' mb O' L { s with touch := l } := by
  exact ⟨hO _ h.mbO, hlt, hmb.trans h.blk, ⟨h.c.sz, h.c.stl, h.c.st, h.c.c0, h.c.c1, h.c.c2, h.c.c3, h.c.c4, h.c.c5, h.c.c6, h.c.c7, h.c.c40, h.c.c41, h.c.c42, h.c.c43, h.c.c44, h.c.c45, h.c.c46, h.c.c47, h.c.c48, h.c.c49⟩, h.fu.k h.blk (by decide) hk (fun g hg => h.fu.apart h.to (by decide) g hg) hO, h.fr.k h.blk (by decide) hk (fun g hg => h.fr.apart h.to (by decide) g hg) hO, h.og.k h.blk (by decide) hk (fun g hg => h.og.apart h.to (by decide) g hg) hO, h.cu.k h.blk (by decide) hk (fun g hg => h.cu.apart h.to (by decide) g hg) hO, by rw [hl]; exact hrow, h.en.k h.blk (by decide) hk (fun g hg => h.ap_to_en.symm g hg) hO, h.co.k h.blk (by decide) hk (fun g hg => h.co.apart h.to (by decide) g hg) hO, h.cv.k h.blk (by decide) hk (fun g hg => h.ap_to_cv.symm g hg) hO, h.sk.k h.blk (by decide) hk (fun g hg => h.ap_to_sk.symm g hg) hO, h.fuc.k h.blk hk (fun g cs hb e => by obtain ⟨_, _, cs2, hb2⟩ := h.to.block e; exact hb.ne_ hb2 (by decide) rfl) hO, h.frc.k h.blk hk (fun g cs hb e => by obtain ⟨_, _, cs2, hb2⟩ := h.to.block e; exact hb.ne_ hb2 (by decide) rfl) hO, h.ap_cu_og, h.ap_to_en, h.ap_to_cv, h.ap_to_sk, h.ap_en_cv, h.ap_en_sk, h.ap_cv_sk, h.dd.k h.blk hk (t0 := 3) (by decide) (by decide) (fun g e => by obtain ⟨_, _, cs2, hb2⟩ := h.to.block e; exact ⟨cs2, hb2⟩) hO, hok⟩
theorem MaL.cvt_ (h : MaL w mb O L s) {l : List Int} (hl : l.length = s.cvt.length) (hrow : Row w' O' 3 1 L.cv s.cvt.length (ints l)) (hmb : w'.heap[mb]? = w.heap[mb]?) (hk : ∀ k, O k → k ≠ mb → some k ≠ L.cv.ownBlock → w'.heap[k]? = w.heap[k]?) (hO : ∀ k, O k → O' k) (hlt : ∀ k, O' k → k < w'.heap.size) (hok : Ok { s with cvt := l }) : MaL w' mb O' L { s with cvt := l } := by
  exact ⟨hO _ h.mbO, hlt, hmb.trans h.blk, ⟨h.c.sz, h.c.stl, h.c.st, h.c.c0, h.c.c1, h.c.c2, h.c.c3, h.c.c4, h.c.c5, h.c.c6, h.c.c7, h.c.c40, h.c.c41, h.c.c42, h.c.c43, h.c.c44, h.c.c45, h.c.c46, h.c.c47, h.c.c48, h.c.c49⟩, h.fu.k h.blk (by decide) hk (fun g hg => h.fu.apart h.cv (by decide) g hg) hO, h.fr.k h.blk (by decide) hk (fun g hg => h.fr.apart h.cv (by decide) g hg) hO, h.og.k h.blk (by decide) hk (fun g hg => h.og.apart h.cv (by decide) g hg) hO, h.cu.k h.blk (by decide) hk (fun g hg => h.cu.apart h.cv (by decide) g hg) hO, h.to.k h.blk (by decide) hk (fun g hg => h.ap_to_cv g hg) hO, h.en.k h.blk (by decide) hk (fun g hg => h.ap_en_cv g hg) hO, h.co.k h.blk (by decide) hk (fun g hg => h.co.apart h.cv (by decide) g hg) hO, by rw [hl]; exact hrow, h.sk.k h.blk (by decide) hk (fun g hg => h.ap_cv_sk.symm g hg) hO, h.fuc.k h.blk hk (fun g cs hb e => by obtain ⟨_, _, cs2, hb2⟩ := h.cv.block e; exact hb.ne_ hb2 (by decide) rfl) hO, h.frc.k h.blk hk (fun g cs hb e => by obtain ⟨_, _, cs2, hb2⟩ := h.cv.block e; exact hb.ne_ hb2 (by decide) rfl) hO, h.ap_cu_og, h.ap_to_en, h.ap_to_cv, h.ap_to_sk, h.ap_en_cv, h.ap_en_sk, h.ap_cv_sk, h.dd.k h.blk hk (t0 := 3) (by decide) (by decide) (fun g e => by obtain ⟨_, _, cs2, hb2⟩ := h.cv.block e; exact ⟨cs2, hb2⟩) hO, hok⟩
end

/-- the blocks of O, and those that are new -/
def ext (O : Nat → Prop) (w w' : World) (k : Nat) : Prop := O k ∨ (w.heap.size ≤ k ∧ k < w'.heap.size)
section
variable {w w' w'' : World} {mb : Nat} {O : Nat → Prop} {L : Lay} {s : St}
theorem MaL.ext_lt (h : MaL w mb O L s) (hz : w.heap.size ≤ w'.heap.size) : ∀ k, ext O w w' k → k < w'.heap.size := fun k hk => by
  rcases hk with hk | hk
  · have := h.olt k hk; omega
  · exact hk.2
theorem ext_trans (h1 : w.heap.size ≤ w'.heap.size) (h2 : w'.heap.size ≤ w''.heap.size) : ∀ k, ext (ext O w w') w' w'' k → ext O w w'' k := fun k hk => by
  rcases hk with (hk | hk) | hk
  · exact .inl hk
  · exact .inr ⟨hk.1, by omega⟩
  · exact .inr ⟨by omega, hk.2⟩
/-- what a deed leaves: the machine so, and nothing else turned -/
def MPost (w : World) (mb : Nat) (O : Nat → Prop) (s : St) (e : Ending) (w' : World) : Prop := e = .returned (.tuple #[]) ∧ (∃ L, MaL w' mb (ext O w w') L s) ∧ Fr O w w'
theorem Fr.ext (h : Fr O w w') (k : Fr (ext O w w') w' w'') : Fr O w w'' :=
  ⟨k.os.trans h.os, k.tape.trans h.tape, k.output.trans h.output, Nat.le_trans h.size k.size, fun i hi hs => (k.block i (Nat.lt_of_lt_of_le hi h.size) (fun a => by rcases a with a | a; exact hs a; omega)).trans (h.block i hi hs)⟩
theorem MaL.alloc (h : MaL w mb O L s) (o : Obj) : MaL (w.alloc o) mb O L s := h.keep (fun k hk => Below.heap_alloc _ _ _ (h.olt k hk)) (fun _ h => h) (fun k hk => by have := h.olt k hk; simp; omega)
theorem MaL.drew (h : MaL w mb O L s) : MaL w.drew mb O L s := h.keep (fun _ _ => rfl) (fun _ h => h) h.olt
theorem MaL.outer (h : MaL w mb O L s) {p : Addr} (hp : ¬ O p.block) (u : Value) : MaL (w.setCell p u) mb O L s :=
  h.keep (fun k hk => Below.heap_setCell _ _ _ _ (fun e => hp (e ▸ hk))) (fun _ h => h) (fun k hk => by have := h.olt k hk; simpa [World.setCell] using this)
theorem MaL.frame (h : MaL w mb O L s) {S : Nat → Prop} (hf : Fr S w w') (hS : ∀ k, O k → ¬ S k) : MaL w' mb O L s :=
  h.keep (fun k hk => hf.block k (h.olt k hk) (hS k hk)) (fun _ h => h) (fun k hk => by have := h.olt k hk; have := hf.size; omega)
end
end Go.Proofs.YthdmdgmchkhngaaGreat
namespace Go.Proofs.YthdmdgmchkhngaaGreat
open Go.RowKit Mc

theorem ints_rev_get (m : List Int) (x : Int) : (ints (x :: m).reverse)[m.length]? = some (.int .i64 x) := by
  unfold ints
  rw [List.reverse_cons, List.getElem?_map, List.getElem?_append_right (by simp)]
  simp
theorem ints_rev_get2 (m : List Int) (x y : Int) : (ints (x :: y :: m).reverse)[m.length]? = some (.int .i64 y) := by
  unfold ints
  rw [List.reverse_cons, List.getElem?_map, List.getElem?_append_left (by simp), List.reverse_cons, List.getElem?_append_right (by simp)]
  simp
theorem ints_rev_take (m a : List Int) : (ints (a ++ m).reverse).take (m.length * 1) = ints m.reverse := by
  unfold ints
  rw [← List.map_take, List.reverse_append, Nat.mul_one]
  congr 1
  exact List.take_left' (by simp)

theorem Mc.Ok.stack_ {s : St} (h : Ok s) {l : List Int} (h1 : ∀ x ∈ l, K32 x) (h2 : l.length ≤ 32) : Ok { s with stack := l } :=
  ⟨h1, h2, h.cvt, h.store, h.stl, h.cur, h.org, h.orgl, h.touch, h.tl, h.size, h.look, h.move, h.mode, h.peak, h.frames, h.flen, h.funcs, h.fnl, h.cont, h.contl, h.curl, h.cvl, h.endl⟩

section
variable {w : World} {mb : Nat} {O : Nat → Prop} {L : Lay} {s : St}
/-- values are taken: what is left -/
theorem MaL.taken (h : MaL w mb O L s) {a r : List Int} (hs : s.stack = a ++ r) {A : Option Addr} {n c : Nat} (hv : L.sk = .slice A n c) {w1 : World} (hk : ∀ k, O k → w1.heap[k]? = w.heap[k]?) (hz : w1.heap.size = w.heap.size) :
    ∃ L', MaL (w1.setCell ⟨mb, 40, none⟩ (.slice A r.length c)) mb O L' { s with stack := r } := by
  have hn : n = (a ++ r).length := by
    obtain ⟨A', c', e, _⟩ := h.sk.form
    rw [hv] at e
    injection e with _ e
    rw [e, hs]
  have h1 : MaL w1 mb O L s := h.keep hk (fun _ h => h) (fun k hk' => by have := h.olt k hk'; omega)
  have hrow := h1.sk.take (m := r.length) (by rw [hs]; simp) (A := A) (c := c) (by rw [hv, hn, hs])
  rw [hs, ints_rev_take] at hrow
  have hkk : ∀ k, k ≠ mb → (w1.setCell ⟨mb, 40, none⟩ (.slice A r.length c)).heap[k]? = w1.heap[k]? := fun k hk => Below.heap_setCell _ _ _ _ hk
  refine ⟨_, h1.stack (u := .slice A r.length c) (l := r) (h1.blk.set_ 40 _) (h1.c.setSk _ _) (hrow.keep (fun g hg => hkk g (fun e => ?_)) (fun _ h => h)) ?_ (fun k _ hk _ => hkk k hk) (fun _ h => h) (fun k hk' => by have := h1.olt k hk'; simpa [World.setCell] using this) (h.ok.stack_ (fun x hx => h.ok.stack x (by rw [hs]; exact List.mem_append_right _ hx)) (by have := h.ok.slen; rw [hs, List.length_append] at this; omega))⟩
  · exact hrow.ne_blk h1.blk (by decide) hg e
  · intro g hg
    rw [hv]
    cases A with
    | none => simp [Value.ownBlock] at hg
    | some a => exact .inl hg
end

set_option maxHeartbeats 1000000 in
theorem take1_any (w : World) (mb : Nat) (O : Nat → Prop) (L : Lay) (s : St) (h : MaL w mb O L s) (x : Int) (r : List Int) (hs : s.stack = x :: r) (b1 sb : Nat) (u1 : Value) (h1 : Blk w b1 3 #[u1]) (hsb : Blk w sb 127 #[.pointer (some ⟨b1, 0, none⟩)]) (ho1 : ¬ O b1) :
    Calls Tryz.prog 52 #[.pointer (some ⟨mb, 0, none⟩), .slice (some ⟨sb, 0, none⟩) 1 1] w fun e w' => e = .returned (.tuple #[]) ∧ (∃ L', MaL w' mb O L' { s with stack := r }) ∧ Blk w' b1 3 #[.int .i64 x] ∧ Fr (fun k => O k ∨ k = b1) w w' ∧ ∃ v, w' = (w.setCell ⟨b1, 0, none⟩ (.int .i64 x)).setCell ⟨mb, 40, none⟩ v := by
  have hsk := h.sk
  rw [hs] at hsk
  obtain ⟨g, c, hv, hc1, hc2, hg, hgl, hcells, hfz⟩ := hsk.at_ (by simp)
  have d0 := hcells r.length (.int .i64 x) (ints_rev_get r x)
  have c40 := h.blk.cell 40
  rw [h.c.c40, hv] at c40
  have f40 := h.blk.frozen 40
  have lmb := h.blk.lt
  have x0 := hsb.cell 0
  have x1 := hsb.lt
  have y0 := h1.cell 0
  have y1 := h1.frozen 0
  have y2 := h1.lt
  simp only [List.getElem?_toArray, List.getElem?_cons_zero] at x0 y0
  have n1 : b1 ≠ mb := fun e => ho1 (e ▸ h.mbO)
  have n1' := n1.symm
  have n2 : b1 ≠ g := fun e => ho1 (e ▸ hg)
  have n2' := n2.symm
  have hlen := h.ok.slen
  rw [hs] at hlen
  simp only [List.length_cons] at hlen c40
  have hk : ∀ k, O k → (w.setCell ⟨b1, 0, none⟩ (.int .i64 x)).heap[k]? = w.heap[k]? := fun k hk => Below.heap_setCell _ _ _ _ (fun (e : k = b1) => ho1 (e ▸ hk))
  have hM := h.taken (a := [x]) (r := r) (by rw [hs]; rfl) hv hk (by simp [World.setCell])
  have hB : Blk ((w.setCell ⟨b1, 0, none⟩ (.int .i64 x)).setCell ⟨mb, 40, none⟩ (.slice (some ⟨g, 0, none⟩) r.length c)) b1 3 #[.int .i64 x] := (h1.set_ 0 _).far n1 _
  have hF : Fr (fun k => O k ∨ k = b1) w ((w.setCell ⟨b1, 0, none⟩ (.int .i64 x)).setCell ⟨mb, 40, none⟩ (.slice (some ⟨g, 0, none⟩) r.length c)) := ((Fr.refl _ _).setCell (.inl (.inr rfl)) _).setCell (.inl (.inl h.mbO)) _
  have HM := Lib.hid hM
  have HB := Lib.hid hB
  have HF := Lib.hid hF
  clear hM hB hF hk hcells hfz hsk h hsb h1 hs hv hc2
  generalize hm : r.length = m at *
  have hcm : m ≤ c := by simp at hc1; omega
  clear hc1 hm
  go_enter Tryz.func52, Tryz.ntmps52
  go_wp2
  refine wp_loop_rounds 2 ?_
  rw [rounds_succ]
  go_wp2
  rw [rounds_succ]
  go_wp2
  go_end0
  exact ⟨rfl, HM.out, HB.out, HF.out, _, rfl⟩

set_option maxHeartbeats 1000000 in
theorem take2_any (w : World) (mb : Nat) (O : Nat → Prop) (L : Lay) (s : St) (h : MaL w mb O L s) (x y : Int) (r : List Int) (hs : s.stack = x :: y :: r) (b1 b2 sb : Nat) (u1 u2 : Value) (h1 : Blk w b1 3 #[u1]) (h2 : Blk w b2 3 #[u2]) (h12 : b1 ≠ b2) (hsb : Blk w sb 127 #[.pointer (some ⟨b1, 0, none⟩), .pointer (some ⟨b2, 0, none⟩)]) (ho1 : ¬ O b1) (ho2 : ¬ O b2) :
    Calls Tryz.prog 52 #[.pointer (some ⟨mb, 0, none⟩), .slice (some ⟨sb, 0, none⟩) 2 2] w fun e w' => e = .returned (.tuple #[]) ∧ (∃ L', MaL w' mb O L' { s with stack := r }) ∧ Blk w' b1 3 #[.int .i64 y] ∧ Blk w' b2 3 #[.int .i64 x] ∧ Fr (fun k => O k ∨ k = b1 ∨ k = b2) w w' ∧ ∃ v, w' = ((w.setCell ⟨b1, 0, none⟩ (.int .i64 y)).setCell ⟨b2, 0, none⟩ (.int .i64 x)).setCell ⟨mb, 40, none⟩ v := by
  have hsk := h.sk
  rw [hs] at hsk
  obtain ⟨g, c, hv, hc1, hc2, hg, hgl, hcells, hfz⟩ := hsk.at_ (by simp)
  have d0 := hcells r.length (.int .i64 y) (ints_rev_get2 r x y)
  have d1 := hcells (r.length + 1) (.int .i64 x) (ints_rev_get (y :: r) x)
  have c40 := h.blk.cell 40
  rw [h.c.c40, hv] at c40
  have f40 := h.blk.frozen 40
  have lmb := h.blk.lt
  have x0 := hsb.cell 0
  have x01 := hsb.cell 1
  have x1 := hsb.lt
  have y0 := h1.cell 0
  have y1 := h1.frozen 0
  have y2 := h1.lt
  have z0 := h2.cell 0
  have z1 := h2.frozen 0
  have z2 := h2.lt
  simp only [List.getElem?_toArray, List.getElem?_cons_zero, List.getElem?_cons_succ] at x0 x01 y0 z0
  have n1 : b1 ≠ mb := fun e => ho1 (e ▸ h.mbO)
  have n1' := n1.symm
  have n2 : b1 ≠ g := fun e => ho1 (e ▸ hg)
  have n2' := n2.symm
  have n3 : b2 ≠ mb := fun e => ho2 (e ▸ h.mbO)
  have n3' := n3.symm
  have n4 : b2 ≠ g := fun e => ho2 (e ▸ hg)
  have n4' := n4.symm
  have n5 : sb ≠ b1 := hsb.ne_ h1 (by decide)
  have n6 : sb ≠ b2 := hsb.ne_ h2 (by decide)
  have n7 := h12.symm
  have hlen := h.ok.slen
  rw [hs] at hlen
  simp only [List.length_cons] at hlen c40
  have hk : ∀ k, O k → ((w.setCell ⟨b1, 0, none⟩ (.int .i64 y)).setCell ⟨b2, 0, none⟩ (.int .i64 x)).heap[k]? = w.heap[k]? := fun k hk => (Below.heap_setCell _ _ _ _ (fun (e : k = b2) => ho2 (e ▸ hk))).trans (Below.heap_setCell _ _ _ _ (fun (e : k = b1) => ho1 (e ▸ hk)))
  have hM := h.taken (a := [x, y]) (r := r) (by rw [hs]; rfl) hv hk (by simp [World.setCell])
  have hB : Blk (((w.setCell ⟨b1, 0, none⟩ (.int .i64 y)).setCell ⟨b2, 0, none⟩ (.int .i64 x)).setCell ⟨mb, 40, none⟩ (.slice (some ⟨g, 0, none⟩) r.length c)) b1 3 #[.int .i64 y] := ((h1.set_ 0 _).far h12 _).far n1 _
  have hB2 : Blk (((w.setCell ⟨b1, 0, none⟩ (.int .i64 y)).setCell ⟨b2, 0, none⟩ (.int .i64 x)).setCell ⟨mb, 40, none⟩ (.slice (some ⟨g, 0, none⟩) r.length c)) b2 3 #[.int .i64 x] := ((h2.far n7 _).set_ 0 _).far n3 _
  have hF : Fr (fun k => O k ∨ k = b1 ∨ k = b2) w (((w.setCell ⟨b1, 0, none⟩ (.int .i64 y)).setCell ⟨b2, 0, none⟩ (.int .i64 x)).setCell ⟨mb, 40, none⟩ (.slice (some ⟨g, 0, none⟩) r.length c)) := (((Fr.refl _ _).setCell (.inl (.inr (.inl rfl))) _).setCell (.inl (.inr (.inr rfl))) _).setCell (.inl (.inl h.mbO)) _
  have HM := Lib.hid hM
  have HB := Lib.hid hB
  have HB2 := Lib.hid hB2
  have HF := Lib.hid hF
  clear hM hB hB2 hF hk hcells hfz hsk h hsb h1 h2 hs hv hc2
  generalize hm : r.length = m at *
  have hcm : m ≤ c := by simp at hc1; omega
  clear hc1 hm
  go_enter Tryz.func52, Tryz.ntmps52
  go_wp2
  refine wp_loop_rounds 3 ?_
  rw [rounds_succ]
  go_wp2
  rw [rounds_succ]
  go_wp2
  rw [rounds_succ]
  go_wp2
  go_end0
  exact ⟨rfl, HM.out, HB.out, HB2.out, HF.out, _, rfl⟩
end Go.Proofs.YthdmdgmchkhngaaGreat

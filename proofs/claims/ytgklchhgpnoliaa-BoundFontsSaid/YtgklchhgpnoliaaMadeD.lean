/- fleuronref07.piece. -/
import Derived.Test.YtgklchhgpnoliaaMadeC
import Derived.Test.YtgklchhgpnoliaaBoundP
namespace Go.Proofs.Ytgklchhgpnoliaa
open Go.RowKit

def PiecePost (N0 : Nat) (m : MkC) (w : World) (e : Ending) (w' : World) : Prop :=
  ∃ (l : List (Int × Int)) (A : Option Addr) (c : Nat) (lo : Int), e = .returned (.slice A l.length c) ∧ l.length ≤ c ∧ c ≤ maxLen ∧ RowAt (insR N0) 25 w' w'.heap.size A l ∧ l.length ≤ 9 ∧ Mk w' {m with c11 := .int .i64 lo} ∧ 0 ≤ lo ∧ lo ≤ 2 ∧ FrM m.M w w'
theorem insRow_new (N0 : Nat) (w : World) (l : List (Int × Int)) (hi : Ints l) : RowAt (insR N0) 25 (w.alloc (.cells (insCells l).toArray 25)) (w.alloc (.cells (insCells l).toArray 25)).heap.size (some ⟨w.heap.size, 0, none⟩) l := by
  have hb : Blk (w.alloc (.cells (insCells l).toArray 25)) w.heap.size 25 ((l.map fun x => [Value.int .i64 x.1, Value.int .i64 x.2]).flatten).toArray := by
    rw [← List.flatMap_def, ← insCells_flat]; exact Blk.new _ _ _
  refine RowAt.of_blk _ hb (by simp) ?_
  clear hb
  generalize (w.alloc (.cells (insCells l).toArray 25)) = W
  generalize W.heap.size = B
  induction l with
  | nil => trivial
  | cons x r ih => exact ⟨insR_mk _ _ _ _ _ (hi x List.mem_cons_self).1 (hi x List.mem_cons_self).2, ih fun y hy => hi y (List.mem_cons_of_mem _ hy)⟩
theorem Mk.setLoops {w : World} {m : MkC} (h : Mk w m) (lo : Int) : Mk (w.setCell ⟨m.M, 11, none⟩ (.int .i64 lo)) {m with c11 := .int .i64 lo} := by
  obtain ⟨at_, ha, hs, hBM, hb, xs, hr, hx⟩ := h
  exact ⟨at_, ha, hs, hBM, by simpa using hb.set_ 11 (.int .i64 lo), xs, hr.setCell hBM _, hx⟩
theorem piece_ret {N0 : Nat} {m0 m : MkC} {w w' : World} {lo : Int} (l : List (Int × Int)) (h : Mk w' m) (hf : FrM m0.M w w') (hc : m.c11 = .int .i64 lo) (hlo : 0 ≤ lo ∧ lo ≤ 2) (hi : Ints l) (hl : l.length ≤ 9) (hm : m = {m0 with c11 := m.c11} := by rfl) :
    PiecePost N0 m0 w (.returned (.slice (some ⟨w'.heap.size, 0, none⟩) l.length l.length)) (w'.alloc (.cells (insCells l).toArray 25)) := by
  refine ⟨l, _, _, lo, rfl, Nat.le_refl _, by unfold maxLen; omega, insRow_new N0 w' l hi, hl, ?_, hlo.1, hlo.2, hf.alloc _⟩
  rw [← hc, ← hm]
  exact h.alloc _

set_option maxHeartbeats 4000000 in
set_option maxRecDepth 100000 in
theorem piece_any (N0 : Nat) (m : MkC) (w : World) (n fu lo : Int) (h : Mk w m) (_hN : N0 ≤ m.M) (hn0 : 0 ≤ n) (hn1 : n ≤ 1000) (hf0 : 0 ≤ fu) (hf1 : fu ≤ 1000) (hc : m.c11 = .int .i64 lo) (hlo : 0 ≤ lo ∧ lo ≤ 2) :
    Calls Try.prog 48 #[.pointer (some ⟨m.M, 0, none⟩), .int .i64 n, .int .i64 fu] w (PiecePost N0 m w) := by
  have HMK := Lib.hid h
  have HC := Lib.hid hc
  clear h hc
  go_enter Try.func48, Try.ntmps48
  go_wp2_with fail
  refine (next_any _ m _ HMK.out (by omega) (by omega)).mono ?_
  rintro e w1 ⟨p, hp0, hp1, rfl, hmk1, hfr1, -⟩
  have HM1 := Lib.hid hmk1
  clear hmk1 HMK
  go_wp2_with fail
  refine (next_any _ m _ HM1.out (by omega) (by omega)).mono ?_
  rintro e w2 ⟨q, hq0, hq1, rfl, hmk2, hfr2, -⟩
  have HM2 := Lib.hid hmk2
  clear hmk2 HM1
  go_wp2_with fail
  refine (next_any _ m _ HM2.out (by omega) (by omega)).mono ?_
  rintro e w3 ⟨a, ha0, ha1, rfl, hmk3, hfr3, -⟩
  have HM3 := Lib.hid hmk3
  clear hmk3 HM2
  go_wp2_with fail
  refine (next_any _ m _ HM3.out (by omega) (by omega)).mono ?_
  rintro e w4 ⟨s, hs0, hs1, rfl, hmk4, hfr4, -⟩
  have hf4 : FrM m.M w w4 := ((hfr1.trans hfr2).trans hfr3).trans hfr4
  have hml := hmk4.lt
  have HM4 := Lib.hid hmk4
  clear hmk4 HM3 hfr1 hfr2 hfr3 hfr4
  have hs : s = 0 ∨ s = 1 ∨ s = 2 ∨ s = 3 ∨ s = 4 ∨ s = 5 ∨ s = 6 ∨ s = 7 ∨ s = 8 ∨ s = 9 ∨ s = 10 ∨ s = 11 := by omega
  rcases hs with rfl | rfl | rfl | rfl | rfl | rfl | rfl | rfl | rfl | rfl | rfl | rfl
  · go_wp2
    go_ret
    exact piece_ret [(22, a), (23, a)] HM4.out hf4 HC.out hlo (by intro x hx; simp only [List.mem_cons, List.not_mem_nil, or_false] at hx; rcases hx with rfl | rfl <;> exact ⟨by unfold I64; simp only; omega, by unfold I64; simp only; omega⟩) (by simp)
  · go_wp2_with fail
    refine (next_any _ m _ HM4.out (by omega) (by omega)).mono ?_
    rintro e w5 ⟨r, hr0, hr1, rfl, hmk5, hfr5, -⟩
    have HM5 := Lib.hid hmk5
    have hf5 : FrM m.M w w5 := hf4.trans hfr5
    clear hmk5
    go_wp2
    go_ret
    exact piece_ret [(24, r)] HM5.out hf5 HC.out hlo (by intro x hx; simp only [List.mem_cons, List.not_mem_nil, or_false] at hx; rcases hx with rfl <;> exact ⟨by unfold I64; simp only; omega, by unfold I64; simp only; omega⟩) (by simp)
  · go_wp2
    go_ret
    exact piece_ret [(1, p), (1, p), (29, 0), (15, 0), (32, 0)] HM4.out hf4 HC.out hlo (by intro x hx; simp only [List.mem_cons, List.not_mem_nil, or_false] at hx; rcases hx with rfl | rfl | rfl | rfl | rfl <;> exact ⟨by unfold I64; simp only; omega, by unfold I64; simp only; omega⟩) (by simp)
  · go_wp2
    go_ret
    exact piece_ret [(1, p), (1, p), (29, 0), (15, 0), (32, 0)] HM4.out hf4 HC.out hlo (by intro x hx; simp only [List.mem_cons, List.not_mem_nil, or_false] at hx; rcases hx with rfl | rfl | rfl | rfl | rfl <;> exact ⟨by unfold I64; simp only; omega, by unfold I64; simp only; omega⟩) (by simp)
  · go_wp2_with fail
    refine (next_any _ m _ HM4.out (by omega) (by omega)).mono ?_
    rintro e w5 ⟨r, hr0, hr1, rfl, hmk5, hfr5, -⟩
    have HM5 := Lib.hid hmk5
    have hf5 : FrM m.M w w5 := hf4.trans hfr5
    clear hmk5
    go_wp2
    go_ret
    exact piece_ret [(1, p), (1, r - 100), (31, 0)] HM5.out hf5 HC.out hlo (by intro x hx; simp only [List.mem_cons, List.not_mem_nil, or_false] at hx; rcases hx with rfl | rfl | rfl <;> exact ⟨by unfold I64; simp only; omega, by unfold I64; simp only; omega⟩) (by simp)
  · go_wp2
    go_ret
    exact piece_ret [(1, p), (1, q), (33, 0)] HM4.out hf4 HC.out hlo (by intro x hx; simp only [List.mem_cons, List.not_mem_nil, or_false] at hx; rcases hx with rfl | rfl | rfl <;> exact ⟨by unfold I64; simp only; omega, by unfold I64; simp only; omega⟩) (by simp)
  · go_wp2
    go_ret
    exact piece_ret [(34, a)] HM4.out hf4 HC.out hlo (by intro x hx; simp only [List.mem_cons, List.not_mem_nil, or_false] at hx; rcases hx with rfl <;> exact ⟨by unfold I64; simp only; omega, by unfold I64; simp only; omega⟩) (by simp)
  · go_wp2
    go_ret
    exact piece_ret [(1, a), (1, q), (25, 0), (1, 3), (5, 0), (26, 0)] HM4.out hf4 HC.out hlo (by intro x hx; simp only [List.mem_cons, List.not_mem_nil, or_false] at hx; rcases hx with rfl | rfl | rfl | rfl | rfl | rfl <;> exact ⟨by unfold I64; simp only; omega, by unfold I64; simp only; omega⟩) (by simp)
  · by_cases hfu : 0 < fu
    · go_wp2_with fail
      refine (next_any _ m _ HM4.out (by omega) (by omega)).mono ?_
      rintro e w5 ⟨r, hr0, hr1, rfl, hmk5, hfr5, -⟩
      have HM5 := Lib.hid hmk5
      have hf5 : FrM m.M w w5 := hf4.trans hfr5
      clear hmk5
      go_wp2
      go_ret
      exact piece_ret [(37, r)] HM5.out hf5 HC.out hlo (by intro x hx; simp only [List.mem_cons, List.not_mem_nil, or_false] at hx; rcases hx with rfl <;> exact ⟨by unfold I64; simp only; omega, by unfold I64; simp only; omega⟩) (by simp)
    · go_wp2
      go_ret
      exact piece_ret [(39, 0), (1, 16), (17, 0), (36, 2), (1, q), (2, 0)] HM4.out hf4 HC.out hlo (by intro x hx; simp only [List.mem_cons, List.not_mem_nil, or_false] at hx; rcases hx with rfl | rfl | rfl | rfl | rfl | rfl <;> exact ⟨by unfold I64; simp only; omega, by unfold I64; simp only; omega⟩) (by simp)
  · have hcl := HM4.out.cells.1 11 (by omega)
    have hcz := HM4.out.cells.2 11
    simp only [Nat.reduceSub, List.getElem?_toArray, List.getElem?_cons_succ, List.getElem?_cons_zero] at hcl
    rw [HC.out] at hcl
    by_cases hfu : 0 < fu
    · by_cases hl0 : 0 < lo
      · have hmk5 := HM4.out.setLoops (lo - 1)
        have hf5 : FrM m.M w (w4.setCell ⟨m.M, 11, none⟩ (.int .i64 (lo - 1))) := hf4.setCell (.inl rfl) _
        have HM5 := Lib.hid hmk5
        clear hmk5
        go_wp2_with fail
        generalize hW5 : w4.setCell _ _ = w5 at *
        refine (next_any _ {m with c11 := .int .i64 (lo - 1)} _ HM5.out (by omega) (by omega)).mono ?_
        rintro e w6 ⟨r, hr0, hr1, rfl, hmk6, hfr6, -⟩
        have HM6 := Lib.hid hmk6
        have hf6 : FrM m.M w w6 := hf5.trans hfr6
        clear hmk6 hW5 hcl hcz
        go_wp2_with fail
        refine (next_any _ {m with c11 := .int .i64 (lo - 1)} _ HM6.out (by omega) (by omega)).mono ?_
        rintro e w7 ⟨r', hr0', hr1', rfl, hmk7, hfr7, -⟩
        have HM7 := Lib.hid hmk7
        have hf7 : FrM m.M w w7 := hf6.trans hfr7
        clear hmk7
        go_wp2
        go_ret
        exact piece_ret (m0 := m) [(1, r), (38, r')] HM7.out hf7 rfl ⟨(by omega : 0 ≤ lo - 1), (by omega : lo - 1 ≤ 2)⟩ (by intro x hx; simp only [List.mem_cons, List.not_mem_nil, or_false] at hx; rcases hx with rfl | rfl <;> exact ⟨by unfold I64; simp only; omega, by unfold I64; simp only; omega⟩) (by simp)
      · go_wp2
        go_ret
        exact piece_ret [(39, 0), (1, 16), (17, 0), (36, 2), (1, q), (2, 0)] HM4.out hf4 HC.out hlo (by intro x hx; simp only [List.mem_cons, List.not_mem_nil, or_false] at hx; rcases hx with rfl | rfl | rfl | rfl | rfl | rfl <;> exact ⟨by unfold I64; simp only; omega, by unfold I64; simp only; omega⟩) (by simp)
    · go_wp2
      go_ret
      exact piece_ret [(39, 0), (1, 16), (17, 0), (36, 2), (1, q), (2, 0)] HM4.out hf4 HC.out hlo (by intro x hx; simp only [List.mem_cons, List.not_mem_nil, or_false] at hx; rcases hx with rfl | rfl | rfl | rfl | rfl | rfl <;> exact ⟨by unfold I64; simp only; omega, by unfold I64; simp only; omega⟩) (by simp)
  · go_wp2
    go_ret
    exact piece_ret [(1, p), (30, 0), (1, q), (29, 0), (16, 0), (36, 3), (1, q), (1, 64), (31, 0)] HM4.out hf4 HC.out hlo (by intro x hx; simp only [List.mem_cons, List.not_mem_nil, or_false] at hx; rcases hx with rfl | rfl | rfl | rfl | rfl | rfl | rfl | rfl | rfl <;> exact ⟨by unfold I64; simp only; omega, by unfold I64; simp only; omega⟩) (by simp)
  · go_wp2
    go_ret
    exact piece_ret [(39, 0), (1, 16), (17, 0), (36, 2), (1, q), (2, 0)] HM4.out hf4 HC.out hlo (by intro x hx; simp only [List.mem_cons, List.not_mem_nil, or_false] at hx; rcases hx with rfl | rfl | rfl | rfl | rfl | rfl <;> exact ⟨by unfold I64; simp only; omega, by unfold I64; simp only; omega⟩) (by simp)
end Go.Proofs.Ytgklchhgpnoliaa

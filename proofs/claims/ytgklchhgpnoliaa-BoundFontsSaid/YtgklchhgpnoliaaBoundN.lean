/- fleuronlaw19.shown is true. -/
import Derived.Test.YtgklchhgpnoliaaBoundM
namespace Go.Proofs.Ytgklchhgpnoliaa
open Go.RowKit

theorem code_one : Bd.code [(1, 1), (1, 2), (5, 0)] [] = (⟨0, 1, 2, 3⟩, 0, 0) := by decide +kernel
theorem code_two : Bd.code [(5, 0)] [] = (⟨2, -1, 0, 1⟩, 0, 0) := by decide +kernel
theorem code_three : Bd.code [(1, 1), (36, 1), (1, 5)] [] = (⟨0, 0, 0, 0⟩, 2, 51) := by decide +kernel
theorem prog_one : Bd.program [[(39, 0), (2, 0)]] [(1, 3), (38, 0)] = (⟨0, 0, 1, 34⟩, 0) := by decide +kernel

/-- a new block of elements, as a row that is read -/
theorem Reads.row_new (w : World) (e : TypeId) (size n : Nat) (cs : Array Value) (h : cs.size = n * size) : Reads (w.alloc (.cells cs e)) (w.heap.size + 1) size (some ⟨w.heap.size, 0, none⟩) n cs.toList :=
  ⟨by simpa using h, fun _ => ⟨_, _, rfl, by omega, fun j u hu => by rw [Nat.zero_add, World.cell?_alloc_new]; simpa using hu⟩⟩

theorem Reads.row_at {w : World} {g B n : Nat} (e : TypeId) (size : Nat) (cs : Array Value) (hg : g = w.heap.size) (hB : g < B) (h : cs.size = n * size) : Reads (w.alloc (.cells cs e)) B size (some ⟨g, 0, none⟩) n cs.toList := by
  subst hg; exact (Reads.row_new w e size n cs h).more hB

set_option maxHeartbeats 1000000 in
theorem shown_any (w : World) : Calls Try.prog 9 #[] w fun e w' => e = .returned (.bool true) ∧ Below w.heap.size w w' := by
  have H1 := Lib.hid code_one
  have H2 := Lib.hid code_two
  have H3 := Lib.hid code_three
  have H4 := Lib.hid prog_one
  go_enter Try.func9, Try.ntmps9
  go_wp2_with fail
  refine (code_any _ _ 3 3 0 0 (w.heap.size + 1) [(1, 1), (1, 2), (5, 0)] [] _ (by exact Reads.row_new _ _ 2 3 _ rfl) (by exact Reads.none_) (by simp) rfl rfl (by omega) (by omega)).mono ?_
  rintro e w1 ⟨rfl, hb1⟩
  rw [H1.out]
  simp only [costV]
  have g1 : Below w.heap.size w w1 := ((Below.refl _ _).alloc (Nat.le_refl _) _).trans (hb1.mono (by simp))
  clear hb1
  go_wp2_with fail
  refine (code_any _ _ 1 1 0 0 (w1.heap.size + 1 + 1) [(5, 0)] [] _ (by exact Reads.row_at _ 2 _ (by simp) (by omega) rfl) (by exact Reads.none_) (by simp) rfl rfl (by omega) (by omega)).mono ?_
  rintro e w2 ⟨rfl, hb2⟩
  rw [H2.out]
  simp only [costV]
  have a0 : ∀ o, w2.cell? ⟨w1.heap.size, o, none⟩ = #[.int .i64 0, .int .i64 1, .int .i64 2, .int .i64 3][o]? := fun o => by rw [hb2.cell (by simp; omega)]; simp [go_sem]
  have g2 : Below w1.heap.size w1 w2 := (((Below.refl _ _).alloc (Nat.le_refl _) _).alloc (by simp) _).trans (hb2.mono (by simp; omega))
  have z2 : w1.heap.size < w2.heap.size := by have := hb2.size; simp at this; omega
  clear hb2
  have A0 := Lib.hid a0
  clear a0
  go_wp2_with fail
  refine (code_any _ _ 3 3 0 0 (w2.heap.size + 1 + 1) [(1, 1), (36, 1), (1, 5)] [] _ (by exact Reads.row_at _ 2 _ (by simp) (by omega) rfl) (by exact Reads.none_) (by simp) rfl rfl (by omega) (by omega)).mono ?_
  rintro e w3 ⟨rfl, hb3⟩
  rw [H3.out]
  simp only [costV]
  have b0 : ∀ o, w3.cell? ⟨w2.heap.size, o, none⟩ = #[.int .i64 2, .int .i64 (-1), .int .i64 0, .int .i64 1][o]? := fun o => by rw [hb3.cell (by simp; omega)]; simp [go_sem]
  have g3 : Below w2.heap.size w2 w3 := (((Below.refl _ _).alloc (Nat.le_refl _) _).alloc (by simp) _).trans (hb3.mono (by simp; omega))
  have z3 : w2.heap.size < w3.heap.size := by have := hb3.size; simp at this; omega
  clear hb3
  have B0 := Lib.hid b0
  clear b0
  go_wp2_with fail
  have hP : RowsAt ((((w3.alloc (.cells #[.int .i64 0, .int .i64 0, .int .i64 0, .int .i64 0] 28)).alloc (.cells #[.int .i64 1, .int .i64 3, .int .i64 38, .int .i64 0] 25)).alloc
      (.cells #[.int .i64 39, .int .i64 0, .int .i64 2, .int .i64 0] 25)).alloc (.cells #[.slice (some ⟨w3.heap.size + 1 + 1, 0, none⟩) 2 2] 22)) (w3.heap.size + 4) (some ⟨w3.heap.size + 1 + 1 + 1, 0, none⟩) [[(39, 0), (2, 0)]] := by
    refine ⟨[.slice (some ⟨w3.heap.size + 1 + 1, 0, none⟩) 2 2], Reads.row_at _ 1 #[_] (by simp) (by omega) rfl, ?_⟩
    intro i l hi
    match i, hi with
    | 0, hi =>
      simp only [List.getElem?_cons_zero, Option.some.injEq] at hi
      subst hi
      exact ⟨_, rfl, _, _, rfl, Reads.alloc (by exact Reads.row_at (B := w3.heap.size + 3) _ 2 _ (by simp) (by omega) rfl) (by simp) _ |>.more (by omega)⟩
    | n + 1, hi => simp at hi
  refine (program_any _ _ 1 2 (w3.heap.size + 4) _ 0 [[(39, 0), (2, 0)]] [(1, 3), (38, 0)] _ ⟨_, _, _, rfl⟩ hP (by exact ((Reads.row_at (B := w3.heap.size + 2) _ 2 _ (by simp) (by omega) rfl).alloc (by simp) _ |>.alloc (by simp) _).more (by omega)) (by simp) (by intro l hl; simp at hl; subst hl; simp) (by simp)).mono ?_
  rintro e w4 ⟨rfl, hb4⟩
  clear hP
  rw [H4.out]
  simp only [costV]
  have g4 : Below w3.heap.size w3 w4 := (((((Below.refl _ _).alloc (Nat.le_refl _) _).alloc (by simp) _).alloc (by simp; omega) _).alloc (by simp; omega) _).trans (hb4.mono (by simp; omega))
  have z4 : w3.heap.size < w4.heap.size := by have := hb4.size; simp at this; omega
  clear hb4
  have a0 : ∀ o, w4.cell? ⟨w1.heap.size, o, none⟩ = #[.int .i64 0, .int .i64 1, .int .i64 2, .int .i64 3][o]? := fun o => by rw [g4.cell (by simp; omega), g3.cell (by simp; omega)]; exact A0.out o
  have b0 : ∀ o, w4.cell? ⟨w2.heap.size, o, none⟩ = #[.int .i64 2, .int .i64 (-1), .int .i64 0, .int .i64 1][o]? := fun o => by rw [g4.cell (by simp; omega)]; exact B0.out o
  have k1 := a0 0
  have k2 := a0 1
  have k3 := a0 2
  have k4 := a0 3
  have k5 := b0 0
  have k6 := b0 1
  have k7 := b0 2
  have k8 := b0 3
  have y1 : w1.heap.size < w4.heap.size := by omega
  have y2 : w2.heap.size < w4.heap.size := by omega
  simp only [List.getElem?_toArray, List.getElem?_cons_zero, List.getElem?_cons_succ] at k1 k2 k3 k4 k5 k6 k7 k8
  have hbig : Below w.heap.size w w4 := (g1.trans (g2.mono g1.size)).trans ((g3.mono (Nat.le_trans g1.size g2.size)).trans (g4.mono (Nat.le_trans g1.size (Nat.le_trans g2.size g3.size))))
  clear a0 b0 A0 B0 H1 H2 H3 H4
  go_wp2
  go_ret
  exact ⟨rfl, hbig.alloc hbig.size _⟩
end Go.Proofs.Ytgklchhgpnoliaa

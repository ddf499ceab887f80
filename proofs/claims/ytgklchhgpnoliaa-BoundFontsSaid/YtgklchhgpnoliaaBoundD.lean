/- Contracts of three closures of bound's reached. -/
import Derived.Test.YtgklchhgpnoliaaBoundC
namespace Go.Proofs.Ytgklchhgpnoliaa
open Go.RowKit

set_option maxHeartbeats 1000000 in
theorem re1 (X PB P B : Nat) (op a : Int) (Af : Option Addr) (m cf : Nat) (fs : List Bd.Cost) (c0 c2 c3 c4 : Value) (w : World) (hX : Blk w X 25 #[.int .i64 op, .int .i64 a]) (hPB : Blk w PB 78 #[.pointer (some ⟨P, 0, none⟩)])
    (hP : Blk w P 85 #[c0, .slice Af m cf, c2, c3, c4]) (hF : Reads w B 4 Af m (costCells fs)) (hm : m = fs.length) (ha : op = 38 → 0 ≤ a ∧ a < m) :
    Calls Try.prog 57 #[.pointer (some ⟨X, 0, none⟩), .pointer (some ⟨PB, 0, none⟩)] w fun e w' => e = .returned (.bool (!(decide (op = 38) && !((Bd.fn fs a).delta == 0)))) ∧ Below w.heap.size w w' := by
  have x0 : w.cell? ⟨X, 0, none⟩ = some (.int .i64 op) := by rw [hX.cell]; rfl
  have x1 : w.cell? ⟨X, 1, none⟩ = some (.int .i64 a) := by rw [hX.cell]; rfl
  have q0 : w.cell? ⟨PB, 0, none⟩ = some (.pointer (some ⟨P, 0, none⟩)) := by rw [hPB.cell]; rfl
  have p0 : w.cell? ⟨P, 1, none⟩ = some (.slice Af m cf) := by rw [hP.cell]; rfl
  clear hX hPB hP
  by_cases h38 : op = 38
  · subst h38
    obtain ⟨ha0, ha1⟩ := ha rfl
    obtain ⟨an, rfl⟩ := Int.eq_ofNat_of_zero_le ha0
    obtain ⟨cc, hcc⟩ : ∃ cc, fs[an]? = some cc := ⟨_, List.getElem?_eq_getElem (by omega)⟩
    have HF := Lib.hid (show Bd.fn fs (an : Int) = cc by unfold Bd.fn; rw [List.getD_eq_getElem?_getD]; simp [hcc])
    obtain ⟨b, off, rfl, hbB, hcells⟩ := hF.2 (by omega)
    obtain ⟨_, g1, _, _⟩ := costCells_at fs an cc hcc
    have d1 := hcells _ _ g1
    rw [← Nat.add_assoc] at d1
    have ham : an < m := by omega
    clear hcells g1 hcc hF hm ha
    go_enter Try.func57, Try.ntmps57
    go_wp2_with fail
    go_quiet (fail)
    go_wp2
    go_ret
    exact ⟨ret_bool (by rw [HF.out]; simp), below_drewN (Below.refl _ _) _⟩
  · have hb : (op != 38) = true := by simpa using h38
    have hb2 : (op == 38) = false := by simpa using h38
    clear ha hm hF
    go_enter Try.func57, Try.ntmps57
    go_wp2_with fail
    go_quiet (fail)
    go_wp2
    go_ret
    exact ⟨ret_bool (by simp [h38]), below_drewN (Below.refl _ _) _⟩

set_option maxHeartbeats 400000 in
theorem re2 (PB P : Nat) (c0 c1 c2 : Value) (need peak : Int) (w : World) (hPB : Blk w PB 78 #[.pointer (some ⟨P, 0, none⟩)])
    (hP : Blk w P 85 #[c0, c1, c2, .int .i64 need, .int .i64 peak]) :
    Calls Try.prog 58 #[.pointer (some ⟨PB, 0, none⟩)] w fun e w' => e = .returned (.bool (decide (need ≤ 32) && decide (peak ≤ 32))) ∧ Below w.heap.size w w' := by
  have q0 : w.cell? ⟨PB, 0, none⟩ = some (.pointer (some ⟨P, 0, none⟩)) := by rw [hPB.cell]; rfl
  have p3 : w.cell? ⟨P, 3, none⟩ = some (.int .i64 need) := by rw [hP.cell]; rfl
  have p4 : w.cell? ⟨P, 4, none⟩ = some (.int .i64 peak) := by rw [hP.cell]; rfl
  clear hPB hP
  go_enter Try.func58, Try.ntmps58
  go_wp2
  all_goals (go_ret; go_light; refine ⟨ret_bool ?_, Below.refl _ _⟩; (simp_all <;> omega))

set_option maxHeartbeats 400000 in
theorem re4 (E : Nat) (c0 c1 c2 : Value) (steps : Int) (w : World) (hE : Blk w E 112 #[c0, c1, c2, .int .i64 steps]) :
    Calls Try.prog 61 #[.pointer (some ⟨E, 0, none⟩)] w fun e w' => e = .returned (.bool (decide (steps ≤ 4096))) ∧ Below w.heap.size w w' := by
  have p3 : w.cell? ⟨E, 3, none⟩ = some (.int .i64 steps) := by rw [hE.cell]; rfl
  clear hE
  go_enter Try.func61, Try.ntmps61
  go_wp2
  go_ret
  exact ⟨rfl, Below.refl _ _⟩

set_option maxHeartbeats 400000 in
theorem ways_any (at_ op a : Int) (w : World) :
    Calls Try.prog 41 #[.int .i64 at_, .agg #[.int .i64 op, .int .i64 a]] w fun e w' => e = .returned (.func (.func 62) #[] #[.pointer (some ⟨w.heap.size + 1, 0, none⟩), .pointer (some ⟨w.heap.size, 0, none⟩)]) ∧ (w.alloc (.cells #[.int .i64 at_] 3)).alloc (.cells #[.int .i64 op, .int .i64 a] 25) = w' := by
  go_enter Try.func41, Try.ntmps41
  go_wp2
  go_ret
  exact ⟨rfl, rfl⟩

set_option maxHeartbeats 400000 in
theorem always_any (q : Option Addr) (at_ op a : Int) (w : World) :
    Calls Try.prog 38 #[.pointer q, .int .i64 at_, .agg #[.int .i64 op, .int .i64 a]] w fun e w' => e = .returned (.slice (some ⟨w.heap.size + 1 + 1 + 1, 0, none⟩) 3 3) ∧
      (((w.alloc (.cells #[.pointer q] 78)).alloc (.cells #[.int .i64 at_] 3)).alloc (.cells #[.int .i64 op, .int .i64 a] 25)).alloc (.cells #[.func (.func 51) #[] #[.pointer (some ⟨w.heap.size + 1 + 1, 0, none⟩)], .int .i64 50, .func (.func 52) #[] #[.pointer (some ⟨w.heap.size + 1 + 1, 0, none⟩), .pointer (some ⟨w.heap.size, 0, none⟩), .pointer (some ⟨w.heap.size + 1, 0, none⟩)], .int .i64 52, .func (.func 54) #[] #[.pointer (some ⟨w.heap.size + 1 + 1, 0, none⟩), .pointer (some ⟨w.heap.size, 0, none⟩)], .int .i64 54] 141) = w' := by
  go_enter Try.func38, Try.ntmps38
  go_wp2
  go_ret
  exact ⟨rfl, rfl⟩

set_option maxHeartbeats 400000 in
theorem reached_any (q : Option Addr) (at_ op a e0 e1 e2 e3 : Int) (w : World) :
    Calls Try.prog 40 #[.pointer q, .int .i64 at_, .agg #[.int .i64 op, .int .i64 a], .agg #[.int .i64 e0, .int .i64 e1, .int .i64 e2, .int .i64 e3]] w fun e w' => e = .returned (.slice (some ⟨w.heap.size + 1 + 1 + 1 + 1, 0, none⟩) 4 4) ∧
      ((((w.alloc (.cells #[.pointer q] 78)).alloc (.cells #[.int .i64 at_] 3)).alloc (.cells #[.int .i64 op, .int .i64 a] 25)).alloc (.cells #[.int .i64 e0, .int .i64 e1, .int .i64 e2, .int .i64 e3] 112)).alloc (.cells #[.func (.func 57) #[] #[.pointer (some ⟨w.heap.size + 1 + 1, 0, none⟩), .pointer (some ⟨w.heap.size, 0, none⟩)], .int .i64 51, .func (.func 58) #[] #[.pointer (some ⟨w.heap.size, 0, none⟩)], .int .i64 51,
        .func (.func 59) #[] #[.pointer (some ⟨w.heap.size, 0, none⟩), .pointer (some ⟨w.heap.size + 1, 0, none⟩), .pointer (some ⟨w.heap.size + 1 + 1, 0, none⟩), .pointer (some ⟨w.heap.size + 1 + 1 + 1, 0, none⟩)], .int .i64 51, .func (.func 61) #[] #[.pointer (some ⟨w.heap.size + 1 + 1 + 1, 0, none⟩)], .int .i64 53] 141) = w' := by
  go_enter Try.func40, Try.ntmps40
  go_wp2
  go_ret
  exact ⟨rfl, rfl⟩
end Go.Proofs.Ytgklchhgpnoliaa

/- MachineSums: what an instruction leaves of two numbers. -/
import Derived.Test.YthdmdgmchkhngaaLwB
namespace Go.Proofs.Ythdmdgmchkhngaa
open Go.RowKit Mc

def valRun (op a b : Int) : St := Mc.run 9 (begin_ ⟨[], [(1, a), (1, b), (op, 0)], [], 0⟩ ⟨[], [], [], []⟩)
theorem val5 (a b : Int) : (valRun 5 a b).stack = [k32 (k32 a + k32 b)] ∧ (valRun 5 a b).steps = 3 := ⟨by kernel_rfl, by kernel_rfl⟩
theorem val6 (a b : Int) : (valRun 6 a b).stack = [k32 (k32 a - k32 b)] ∧ (valRun 6 a b).steps = 3 := ⟨by kernel_rfl, by kernel_rfl⟩
theorem val7 (a b : Int) : (valRun 7 a b).stack = [k32 (k32 (k32 a * k32 b / 64))] ∧ (valRun 7 a b).steps = 3 := ⟨by kernel_rfl, by kernel_rfl⟩
theorem val8 (a b : Int) : (valRun 8 a b).stack = [k32 (k32 (divd (64 * k32 a) (k32 b)))] ∧ (valRun 8 a b).steps = 3 := ⟨by kernel_rfl, by kernel_rfl⟩
theorem val11 (a b : Int) : (valRun 11 a b).stack = [k32 (min (k32 a) (k32 b))] ∧ (valRun 11 a b).steps = 3 := ⟨by kernel_rfl, by kernel_rfl⟩
theorem val12 (a b : Int) : (valRun 12 a b).stack = [k32 (max (k32 a) (k32 b))] ∧ (valRun 12 a b).steps = 3 := ⟨by kernel_rfl, by kernel_rfl⟩
theorem val16 (a b : Int) : (valRun 16 a b).stack = [k32 (truth (decide (k32 a < k32 b)))] ∧ (valRun 16 a b).steps = 3 := ⟨by kernel_rfl, by kernel_rfl⟩
theorem val17 (a b : Int) : (valRun 17 a b).stack = [k32 (truth (decide (k32 a ≤ k32 b)))] ∧ (valRun 17 a b).steps = 3 := ⟨by kernel_rfl, by kernel_rfl⟩
theorem val18 (a b : Int) : (valRun 18 a b).stack = [k32 (truth (decide (k32 a = k32 b)))] ∧ (valRun 18 a b).steps = 3 := ⟨by kernel_rfl, by kernel_rfl⟩
theorem val20 (a b : Int) : (valRun 20 a b).stack = [k32 (truth (decide (k32 a ≠ 0 ∧ k32 b ≠ 0)))] ∧ (valRun 20 a b).steps = 3 := ⟨by kernel_rfl, by kernel_rfl⟩
theorem val21 (a b : Int) : (valRun 21 a b).stack = [k32 (truth (decide (k32 a ≠ 0 ∨ k32 b ≠ 0)))] ∧ (valRun 21 a b).steps = 3 := ⟨by kernel_rfl, by kernel_rfl⟩
theorem ZnAt.nil_ (W : World) : ZnAt W W.heap.size ⟨[], [], [], []⟩ none none none none := ⟨Reads.none_, Reads.none_, Reads.none_, Reads.none_⟩
set_option maxRecDepth 100000 in
theorem value_any (op a b v : Int) (w : World) (hv : (valRun op a b).stack = [v] ∧ (valRun op a b).steps = 3) :
    Calls Try.prog 11 #[.int .i64 op, .int .i64 a, .int .i64 b] w fun e w' => e = .returned (.int .i64 v) ∧ Below w.heap.size w w' := by
  have HV := Lib.hid hv
  clear hv
  have HZ1 : Hid (ZnOk ⟨[], [], [], []⟩) := Lib.hid ⟨by simp, by simp, by simp, by simp⟩
  have HP1 : Hid (PgOk ⟨[], [(1, a), (1, b), (op, 0)], [], 0⟩) := Lib.hid ⟨by simp, by simp, by simp, by simp⟩
  go_enter Try.func11, Try.ntmps11
  go_wp2_with fail
  refine (run_any _ ⟨[], [(1, a), (1, b), (op, 0)], [], 0⟩ ⟨[], [], [], []⟩ HP1.out HZ1.out none (some ⟨w.heap.size, 0, none⟩) none none none none none 0 3 0 0 0 0 0 (PgAt.main_ (Blk.new w 39 (pts [(1, a), (1, b), (op, 0)]).toArray)) (ZnAt.nil_ _) 9 (by omega)).mono ?_
  rintro e w1 ⟨og, cu, to, en, cv, st, sk, rfl, hra, hbl⟩
  obtain ⟨A1, c1, rfl, _⟩ := owns_form hra.og
  obtain ⟨A2, c2, rfl, _⟩ := owns_form hra.cu
  obtain ⟨A3, c3, rfl, _⟩ := owns_form hra.to
  obtain ⟨A4, c4, rfl, _⟩ := owns_form hra.en
  obtain ⟨A5, c5, rfl, _⟩ := owns_form hra.cv
  obtain ⟨A6, c6, rfl, _⟩ := owns_form hra.st
  have hsk := hra.sk
  rw [show Mc.run (9 : Int).toNat (begin_ ⟨[], [(1, a), (1, b), (op, 0)], [], 0⟩ ⟨[], [], [], []⟩) = valRun op a b from rfl] at hsk ⊢
  rw [HV.out.1] at hsk
  obtain ⟨g, c, rfl, _, hgb, hgl, hgc⟩ := owns_at hsk (by simp)
  have x0 := hgc 0 _ rfl
  rw [HV.out.2]
  have HW : Hid (Below w.heap.size w w1) := Lib.hid (((Below.refl _ _).alloc (Nat.le_refl _) _).trans (hbl.mono (by simp)))
  have hw := HW.out.size
  obtain ⟨hg1, -⟩ := lts hgl
  have hnn : g ≠ w1.heap.size := by omega
  clear hra hsk hgc hbl HV HZ1 HP1
  simp only [List.length_singleton]
  generalize valRun op a b = R at *
  go_wp2_with fail
  go_ret
  exact ⟨rfl, HW.out.alloc hw _⟩
end Go.Proofs.Ythdmdgmchkhngaa

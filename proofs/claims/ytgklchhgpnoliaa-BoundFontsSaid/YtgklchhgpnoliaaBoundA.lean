/- Contracts of the leaves of package bound: values, jumps, calls, mayBe. -/
import Derived.Test.YtgklchhgpnoliaaRows
import Derived.Test.YtgklchhgpnoliaaMem
import Derived.Test.YtgklchhgpnoliaaBoundSpec
import Derived.Deep.Light
namespace Go.Proofs.Ytgklchhgpnoliaa
open Go.RowKit

theorem ret_two {k k' : IntKind} {a b a' b' : Int} (h : a = b) (h' : a' = b') : Ending.returned (.tuple #[.int k a, .int k' a']) = .returned (.tuple #[.int k b, .int k' b']) := by rw [h, h']

set_option maxHeartbeats 1000000 in
theorem values_any (op : Int) (w : World) :
    Calls Try.prog 56 #[.int .i64 op] w fun e w' => e = .returned (.tuple #[.int .i64 (Bd.takes op), .int .i64 (Bd.leaves op)]) ∧ w = w' := by
  go_enter Try.func56, Try.ntmps56
  go_wp2
  all_goals (go_ret2; go_light; refine ⟨ret_two ?_ ?_, rfl⟩ <;> simp_all [Bd.takes, Bd.leaves])

set_option maxHeartbeats 400000 in
theorem jumps_any (op a : Int) (w : World) :
    Calls Try.prog 53 #[.agg #[.int .i64 op, .int .i64 a]] w fun e w' => e = .returned (.bool (Bd.jumps op)) ∧ w.alloc (.cells #[.int .i64 op, .int .i64 a] 25) = w' := by
  by_cases h : op = 35
  · subst h
    go_enter Try.func53, Try.ntmps53
    go_wp2
    go_ret
    exact ⟨rfl, rfl⟩
  · have hb : (op == 35) = false := by simpa using h
    have e : Bd.jumps op = (op == 36) := by unfold Bd.jumps; rw [hb]; rfl
    rw [e]
    go_enter Try.func53, Try.ntmps53
    go_wp2
    go_ret
    exact ⟨rfl, rfl⟩

set_option maxHeartbeats 400000 in
theorem calls_any (op a : Int) (w : World) :
    Calls Try.prog 55 #[.agg #[.int .i64 op, .int .i64 a]] w fun e w' => e = .returned (.bool (Bd.calls op)) ∧ w.alloc (.cells #[.int .i64 op, .int .i64 a] 25) = w' := by
  by_cases h : op = 37
  · subst h
    go_enter Try.func55, Try.ntmps55
    go_wp2
    go_ret
    exact ⟨rfl, rfl⟩
  · have hb : (op == 37) = false := by simpa using h
    have e : Bd.calls op = (op == 38) := by unfold Bd.calls; rw [hb]; rfl
    rw [e]
    go_enter Try.func55, Try.ntmps55
    go_wp2
    go_ret
    exact ⟨rfl, rfl⟩

set_option maxHeartbeats 1000000 in
theorem mayBe_any (c : Bd.Cost) (w : World) :
    Calls Try.prog 25 #[.agg #[.int .i64 c.need, .int .i64 c.delta, .int .i64 c.peak, .int .i64 c.steps]] w fun e w' => e = .returned (.bool (Bd.mayBe c)) ∧ Below w.heap.size w w' := by
  obtain ⟨n, d, p, s⟩ := c
  simp only
  go_enter Try.func25, Try.ntmps25
  go_wp2
  all_goals (go_ret; go_light; refine ⟨ret_bool ?_, ?_⟩; (simp_all [Bd.mayBe] <;> omega); exact (Below.refl _ _).alloc (Nat.le_refl _) _)
end Go.Proofs.Ytgklchhgpnoliaa

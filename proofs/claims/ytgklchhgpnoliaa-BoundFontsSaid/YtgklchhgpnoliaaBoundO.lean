/- fleuronref18.Takes, Leaves; BoundStraight's walk. -/
import Derived.Test.YtgklchhgpnoliaaBoundN
namespace Go.Proofs.Ytgklchhgpnoliaa
open Go.RowKit

set_option maxHeartbeats 1000000 in
theorem takes_any (op : Int) (w : World) :
    Calls Try.prog 10 #[.int .i64 op] w fun e w' => e = .returned (.int .i64 (Bd.takes op)) ∧ w = w' := by
  go_enter Try.func10, Try.ntmps10
  go_wp2
  all_goals (go_ret; go_light; refine ⟨ret_int ?_, rfl⟩; simp_all [Bd.takes])

set_option maxHeartbeats 1000000 in
theorem leaves_any (op : Int) (w : World) :
    Calls Try.prog 11 #[.int .i64 op] w fun e w' => e = .returned (.int .i64 (Bd.leaves op)) ∧ w = w' := by
  go_enter Try.func11, Try.ntmps11
  go_wp2
  all_goals (go_ret; go_light; refine ⟨ret_int ?_, rfl⟩; simp_all [Bd.leaves])
end Go.Proofs.Ytgklchhgpnoliaa

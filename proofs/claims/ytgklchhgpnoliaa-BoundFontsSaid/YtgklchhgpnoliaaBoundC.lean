/- Contracts of the closures of bound's always and reached (all but agrees). -/
import Derived.Test.YtgklchhgpnoliaaBoundB
import Derived.Deep.RegionHeld3
import Derived.Deep.RegionWith
namespace Go.Proofs.Ytgklchhgpnoliaa
open Go.RowKit

set_option maxHeartbeats 400000 in
theorem al1 (X : Nat) (op a : Int) (w : World) (hX : Blk w X 25 #[.int .i64 op, .int .i64 a]) :
    Calls Try.prog 51 #[.pointer (some ⟨X, 0, none⟩)] w fun e w' => e = .returned (.bool (decide (1 ≤ op ∧ op ≤ 39))) ∧ Below w.heap.size w w' := by
  have x0 : w.cell? ⟨X, 0, none⟩ = some (.int .i64 op) := by rw [hX.cell]; rfl
  clear hX
  go_enter Try.func51, Try.ntmps51
  go_wp2
  all_goals (go_ret; go_light; exact ⟨ret_bool (by simp <;> omega), Below.refl _ _⟩)

set_option maxHeartbeats 1000000 in
theorem al2 (X PB AT P : Nat) (op a at_ : Int) (A : Option Addr) (n c : Nat) (c1 c2 c3 c4 : Value) (w : World) (hX : Blk w X 25 #[.int .i64 op, .int .i64 a]) (hPB : Blk w PB 78 #[.pointer (some ⟨P, 0, none⟩)]) (hAT : Blk w AT 3 #[.int .i64 at_])
    (hP : Blk w P 85 #[.slice A n c, c1, c2, c3, c4]) (ha0 : 0 ≤ at_) (ha1 : at_ ≤ n) (hn : n ≤ 1000000000000000) :
    Calls Try.prog 52 #[.pointer (some ⟨X, 0, none⟩), .pointer (some ⟨PB, 0, none⟩), .pointer (some ⟨AT, 0, none⟩)] w fun e w' => e = .returned (.bool (!(Bd.jumps op && !(decide (0 ≤ a) && decide (a ≤ n - 1 - at_))))) ∧ Below w.heap.size w w' := by
  have x0 : w.cell? ⟨X, 0, none⟩ = some (.int .i64 op) := by rw [hX.cell]; rfl
  have x1 : w.cell? ⟨X, 1, none⟩ = some (.int .i64 a) := by rw [hX.cell]; rfl
  have q0 : w.cell? ⟨PB, 0, none⟩ = some (.pointer (some ⟨P, 0, none⟩)) := by rw [hPB.cell]; rfl
  have t0 : w.cell? ⟨AT, 0, none⟩ = some (.int .i64 at_) := by rw [hAT.cell]; rfl
  have p0 : w.cell? ⟨P, 0, none⟩ = some (.slice A n c) := by rw [hP.cell]; rfl
  have l1 := hX.lt
  have l2 := hPB.lt
  have l3 := hAT.lt
  have l4 := hP.lt
  clear hX hPB hAT hP
  cases hj : Bd.jumps op with
  | false =>
    have HJ := Lib.hid hj
    clear hj
    go_enter Try.func52, Try.ntmps52
    go_wp2_with fail
    refine wp_region_any (by kernel_rfl) ?_; change wpAny _ _ _ _ _ _ _ (World.drew _)
    refine wpAny_ready (rs := [0]) (by kernel_rfl) (by simp) ?_; refine AllReady.cons rfl (fun K hK => ?_) AllReady.nil; go_simp; refine hK _ _ ?_; clear hK K
    refine wpAny_ready (rs := [1]) (by kernel_rfl) (by simp) ?_; refine AllReady.cons rfl (fun K hK => ?_) AllReady.nil; go_simp
    refine (jumps_any op a _).mono ?_; rintro e w' ⟨rfl, rfl⟩; rw [HJ.out]
    dsimp only; refine hK _ _ ?_; clear hK K
    refine wpAny_take (i := 2) (v := .bool true) rfl (by kernel_rfl) (by kernel_rfl) (by kernel_rfl) (fun _ _ _ h => h) (Or.inl ⟨by kernel_rfl, fun w => by first | (go_simp; done) | rfl⟩) ?_
    refine wpAny_take (i := 3) (v := .bool true) rfl (by kernel_rfl) (by kernel_rfl) (by kernel_rfl) (fun _ _ _ h => h) (Or.inl ⟨by kernel_rfl, fun w => by first | (go_simp; done) | rfl⟩) ?_
    refine wpAny_take (i := 4) (v := undef) rfl (by kernel_rfl) (by kernel_rfl) (by kernel_rfl) (fun _ _ _ h => h) (Or.inr ⟨by kernel_rfl, rfl⟩) ?_
    refine wpAny_take (i := 5) (v := undef) rfl (by kernel_rfl) (by kernel_rfl) (by kernel_rfl) (fun _ _ _ h => h) (Or.inr ⟨by kernel_rfl, rfl⟩) ?_
    refine wpAny_take (i := 6) (v := undef) rfl (by kernel_rfl) (by kernel_rfl) (by kernel_rfl) (fun _ _ _ h => h) (Or.inr ⟨by kernel_rfl, rfl⟩) ?_
    refine wpAny_take (i := 7) (v := undef) rfl (by kernel_rfl) (by kernel_rfl) (by kernel_rfl) (fun _ _ _ h => h) (Or.inr ⟨by kernel_rfl, rfl⟩) ?_
    refine wpAny_take (i := 8) (v := undef) rfl (by kernel_rfl) (by kernel_rfl) (by kernel_rfl) (fun _ _ _ h => h) (Or.inr ⟨by kernel_rfl, rfl⟩) ?_
    refine wpAny_take (i := 9) (v := undef) rfl (by kernel_rfl) (by kernel_rfl) (by kernel_rfl) (fun _ _ _ h => h) (Or.inr ⟨by kernel_rfl, rfl⟩) ?_
    refine wpAny_take (i := 10) (v := undef) rfl (by kernel_rfl) (by kernel_rfl) (by kernel_rfl) (fun _ _ _ h => h) (Or.inr ⟨by kernel_rfl, rfl⟩) ?_
    refine wpAny_take (i := 11) (v := undef) rfl (by kernel_rfl) (by kernel_rfl) (by kernel_rfl) (fun _ _ _ h => h) (Or.inr ⟨by kernel_rfl, rfl⟩) ?_
    refine wpAny_take (i := 12) (v := undef) rfl (by kernel_rfl) (by kernel_rfl) (by kernel_rfl) (fun _ _ _ h => h) (Or.inr ⟨by kernel_rfl, rfl⟩) ?_
    refine wpAny_take (i := 13) (v := undef) rfl (by kernel_rfl) (by kernel_rfl) (by kernel_rfl) (fun _ _ _ h => h) (Or.inr ⟨by kernel_rfl, rfl⟩) ?_
    refine wpAny_take (i := 14) (v := undef) rfl (by kernel_rfl) (by kernel_rfl) (by kernel_rfl) (fun _ _ _ h => h) (Or.inr ⟨by kernel_rfl, rfl⟩) ?_
    refine wpAny_take (i := 15) (v := undef) rfl (by kernel_rfl) (by kernel_rfl) (by kernel_rfl) (fun _ _ _ h => h) (Or.inr ⟨by kernel_rfl, rfl⟩) ?_
    refine wpAny_take (i := 16) (v := undef) rfl (by kernel_rfl) (by kernel_rfl) (by kernel_rfl) (fun _ _ _ h => h) (Or.inr ⟨by kernel_rfl, rfl⟩) ?_
    refine wpAny_take (i := 17) (v := undef) rfl (by kernel_rfl) (by kernel_rfl) (by kernel_rfl) (fun _ _ _ h => h) (Or.inr ⟨by kernel_rfl, rfl⟩) ?_
    refine wpAny_take (i := 18) (v := undef) rfl (by kernel_rfl) (by kernel_rfl) (by kernel_rfl) (fun _ _ _ h => h) (Or.inr ⟨by kernel_rfl, rfl⟩) ?_
    refine wpAny_take (i := 19) (v := undef) rfl (by kernel_rfl) (by kernel_rfl) (by kernel_rfl) (fun _ _ _ h => h) (Or.inr ⟨by kernel_rfl, rfl⟩) ?_
    refine wpAny_take (i := 20) (v := .bool true) rfl (by kernel_rfl) (by kernel_rfl) (by kernel_rfl) (fun _ _ _ h => h) (Or.inl ⟨by kernel_rfl, fun w => by first | (go_simp; done) | rfl⟩) ?_
    refine wpAny_take (i := 21) (v := .bool true) rfl (by kernel_rfl) (by kernel_rfl) (by kernel_rfl) (fun _ _ _ h => h) (Or.inl ⟨by kernel_rfl, fun w => by first | (go_simp; done) | rfl⟩) ?_
    refine wpAny_done (by kernel_rfl) ?_ _
    go_wp2
    go_ret
    refine ⟨?_, ((Below.refl _ _).alloc (Nat.le_refl _) _).drew⟩
    kernel_rfl
  | true =>
    have HJ := Lib.hid hj
    clear hj
    by_cases h0 : 0 ≤ a
    · go_enter Try.func52, Try.ntmps52
      go_wp2_with fail
      go_region_held3 (fun w' => w'.cell? ⟨X, 0, none⟩ = some (.int .i64 op) ∧ w'.cell? ⟨X, 1, none⟩ = some (.int .i64 a) ∧ w'.cell? ⟨PB, 0, none⟩ = some (.pointer (some ⟨P, 0, none⟩)) ∧ w'.cell? ⟨AT, 0, none⟩ = some (.int .i64 at_) ∧ w'.cell? ⟨P, 0, none⟩ = some (.slice A n c)) (go_keep)
        (first | (go_at_call 53; refine (jumps_any op a _).mono ?_; rintro e w' ⟨rfl, rfl⟩; rw [HJ.out]))
      go_wp2
      go_ret
      exact ⟨ret_bool (by rw [IntWalk.i64_in ((n : Int) - 1) (by omega), IntWalk.i64_in _ (by omega)]; simp [h0]), ((Below.refl _ _).alloc (Nat.le_refl _) _).drew⟩
    · have hd0 : decide (0 ≤ a) = false := by simpa using h0
      go_enter Try.func52, Try.ntmps52
      go_wp2_with fail
      refine wp_region_any (by kernel_rfl) ?_; change wpAny _ _ _ _ _ _ _ (World.drew _)
      refine wpAny_ready (rs := [0]) (by kernel_rfl) (by simp) ?_; refine AllReady.cons rfl (fun K hK => ?_) AllReady.nil; go_simp; refine hK _ _ ?_; clear hK K
      refine wpAny_ready (rs := [1]) (by kernel_rfl) (by simp) ?_; refine AllReady.cons rfl (fun K hK => ?_) AllReady.nil; go_simp
      refine (jumps_any op a _).mono ?_; rintro e w' ⟨rfl, rfl⟩; rw [HJ.out]
      dsimp only; refine hK _ _ ?_; clear hK K
      refine wpAny_take (i := 2) (v := .bool false) rfl (by kernel_rfl) (by kernel_rfl) (by kernel_rfl) (fun _ _ _ h => h) (Or.inl ⟨by kernel_rfl, fun w => by first | (go_simp; done) | rfl⟩) ?_
      refine wpAny_take (i := 3) (v := .bool false) rfl (by kernel_rfl) (by kernel_rfl) (by kernel_rfl) (fun _ _ _ h => h) (Or.inl ⟨by kernel_rfl, fun w => by first | (go_simp; done) | rfl⟩) ?_
      refine wpAny_take (i := 4) (v := .pointer (some ⟨X, 1, none⟩)) rfl (by kernel_rfl) (by kernel_rfl) (by kernel_rfl) (fun _ _ _ h => h) (Or.inl ⟨by kernel_rfl, fun w => by first | (go_simp; done) | rfl⟩) ?_
      refine wpAny_ready (rs := [5]) (by kernel_rfl) (by simp) ?_; refine AllReady.cons rfl (fun K hK => ?_) AllReady.nil; go_simp; refine hK _ _ ?_; clear hK K
      refine wpAny_take (i := 6) (v := .bool false) rfl (by kernel_rfl) (by kernel_rfl) (by kernel_rfl) (fun _ _ _ h => h) (Or.inl ⟨by kernel_rfl, fun w => by first | (go_simp; done) | rfl⟩) ?_
      refine wpAny_take (i := 7) (v := .bool false) rfl (by kernel_rfl) (by kernel_rfl) (by kernel_rfl) (fun _ _ _ h => h) (Or.inl ⟨by kernel_rfl, fun w => by first | (go_simp; done) | rfl⟩) ?_
      refine wpAny_take (i := 8) (v := undef) rfl (by kernel_rfl) (by kernel_rfl) (by kernel_rfl) (fun _ _ _ h => h) (Or.inr ⟨by kernel_rfl, rfl⟩) ?_
      refine wpAny_take (i := 9) (v := undef) rfl (by kernel_rfl) (by kernel_rfl) (by kernel_rfl) (fun _ _ _ h => h) (Or.inr ⟨by kernel_rfl, rfl⟩) ?_
      refine wpAny_take (i := 10) (v := undef) rfl (by kernel_rfl) (by kernel_rfl) (by kernel_rfl) (fun _ _ _ h => h) (Or.inr ⟨by kernel_rfl, rfl⟩) ?_
      refine wpAny_take (i := 11) (v := undef) rfl (by kernel_rfl) (by kernel_rfl) (by kernel_rfl) (fun _ _ _ h => h) (Or.inr ⟨by kernel_rfl, rfl⟩) ?_
      refine wpAny_take (i := 12) (v := undef) rfl (by kernel_rfl) (by kernel_rfl) (by kernel_rfl) (fun _ _ _ h => h) (Or.inr ⟨by kernel_rfl, rfl⟩) ?_
      refine wpAny_take (i := 13) (v := undef) rfl (by kernel_rfl) (by kernel_rfl) (by kernel_rfl) (fun _ _ _ h => h) (Or.inr ⟨by kernel_rfl, rfl⟩) ?_
      refine wpAny_take (i := 14) (v := undef) rfl (by kernel_rfl) (by kernel_rfl) (by kernel_rfl) (fun _ _ _ h => h) (Or.inr ⟨by kernel_rfl, rfl⟩) ?_
      refine wpAny_take (i := 15) (v := undef) rfl (by kernel_rfl) (by kernel_rfl) (by kernel_rfl) (fun _ _ _ h => h) (Or.inr ⟨by kernel_rfl, rfl⟩) ?_
      refine wpAny_take (i := 16) (v := undef) rfl (by kernel_rfl) (by kernel_rfl) (by kernel_rfl) (fun _ _ _ h => h) (Or.inr ⟨by kernel_rfl, rfl⟩) ?_
      refine wpAny_take (i := 17) (v := undef) rfl (by kernel_rfl) (by kernel_rfl) (by kernel_rfl) (fun _ _ _ h => h) (Or.inr ⟨by kernel_rfl, rfl⟩) ?_
      refine wpAny_take (i := 18) (v := undef) rfl (by kernel_rfl) (by kernel_rfl) (by kernel_rfl) (fun _ _ _ h => h) (Or.inr ⟨by kernel_rfl, rfl⟩) ?_
      refine wpAny_take (i := 19) (v := .bool false) rfl (by kernel_rfl) (by kernel_rfl) (by kernel_rfl) (fun _ _ _ h => h) (Or.inl ⟨by kernel_rfl, fun w => by first | (go_simp; done) | rfl⟩) ?_
      refine wpAny_take (i := 20) (v := .bool false) rfl (by kernel_rfl) (by kernel_rfl) (by kernel_rfl) (fun _ _ _ h => h) (Or.inl ⟨by kernel_rfl, fun w => by first | (go_simp; done) | rfl⟩) ?_
      refine wpAny_take (i := 21) (v := .bool false) rfl (by kernel_rfl) (by kernel_rfl) (by kernel_rfl) (fun _ _ _ h => h) (Or.inl ⟨by kernel_rfl, fun w => by first | (go_simp; done) | rfl⟩) ?_
      refine wpAny_done (by kernel_rfl) ?_ _
      go_wp2
      go_ret
      refine ⟨?_, ((Below.refl _ _).alloc (Nat.le_refl _) _).drew⟩
      rw [hd0]
      kernel_rfl

set_option maxHeartbeats 1000000 in
theorem al3 (X PB P : Nat) (op a : Int) (A : Option Addr) (n c : Nat) (c0 c2 c3 c4 : Value) (w : World) (hX : Blk w X 25 #[.int .i64 op, .int .i64 a]) (hPB : Blk w PB 78 #[.pointer (some ⟨P, 0, none⟩)])
    (hP : Blk w P 85 #[c0, .slice A n c, c2, c3, c4]) :
    Calls Try.prog 54 #[.pointer (some ⟨X, 0, none⟩), .pointer (some ⟨PB, 0, none⟩)] w fun e w' => e = .returned (.bool (!(Bd.calls op && !(decide (0 ≤ a) && decide (a < n))))) ∧ Below w.heap.size w w' := by
  have x0 : w.cell? ⟨X, 0, none⟩ = some (.int .i64 op) := by rw [hX.cell]; rfl
  have x1 : w.cell? ⟨X, 1, none⟩ = some (.int .i64 a) := by rw [hX.cell]; rfl
  have q0 : w.cell? ⟨PB, 0, none⟩ = some (.pointer (some ⟨P, 0, none⟩)) := by rw [hPB.cell]; rfl
  have p0 : w.cell? ⟨P, 1, none⟩ = some (.slice A n c) := by rw [hP.cell]; rfl
  have l1 := hX.lt
  have l2 := hPB.lt
  have l4 := hP.lt
  clear hX hPB hP
  cases hj : Bd.calls op with
  | false =>
    have HJ := Lib.hid hj
    clear hj
    go_enter Try.func54, Try.ntmps54
    go_wp2_with fail
    refine wp_region_any (by kernel_rfl) ?_; change wpAny _ _ _ _ _ _ _ (World.drew _)
    refine wpAny_ready (rs := [0]) (by kernel_rfl) (by simp) ?_; refine AllReady.cons rfl (fun K hK => ?_) AllReady.nil; go_simp; refine hK _ _ ?_; clear hK K
    refine wpAny_ready (rs := [1]) (by kernel_rfl) (by simp) ?_; refine AllReady.cons rfl (fun K hK => ?_) AllReady.nil; go_simp
    refine (calls_any op a _).mono ?_; rintro e w' ⟨rfl, rfl⟩; rw [HJ.out]
    dsimp only; refine hK _ _ ?_; clear hK K
    refine wpAny_take (i := 2) (v := .bool true) rfl (by kernel_rfl) (by kernel_rfl) (by kernel_rfl) (fun _ _ _ h => h) (Or.inl ⟨by kernel_rfl, fun w => by first | (go_simp; done) | rfl⟩) ?_
    refine wpAny_take (i := 3) (v := .bool true) rfl (by kernel_rfl) (by kernel_rfl) (by kernel_rfl) (fun _ _ _ h => h) (Or.inl ⟨by kernel_rfl, fun w => by first | (go_simp; done) | rfl⟩) ?_
    refine wpAny_take (i := 4) (v := undef) rfl (by kernel_rfl) (by kernel_rfl) (by kernel_rfl) (fun _ _ _ h => h) (Or.inr ⟨by kernel_rfl, rfl⟩) ?_
    refine wpAny_take (i := 5) (v := undef) rfl (by kernel_rfl) (by kernel_rfl) (by kernel_rfl) (fun _ _ _ h => h) (Or.inr ⟨by kernel_rfl, rfl⟩) ?_
    refine wpAny_take (i := 6) (v := undef) rfl (by kernel_rfl) (by kernel_rfl) (by kernel_rfl) (fun _ _ _ h => h) (Or.inr ⟨by kernel_rfl, rfl⟩) ?_
    refine wpAny_take (i := 7) (v := undef) rfl (by kernel_rfl) (by kernel_rfl) (by kernel_rfl) (fun _ _ _ h => h) (Or.inr ⟨by kernel_rfl, rfl⟩) ?_
    refine wpAny_take (i := 8) (v := undef) rfl (by kernel_rfl) (by kernel_rfl) (by kernel_rfl) (fun _ _ _ h => h) (Or.inr ⟨by kernel_rfl, rfl⟩) ?_
    refine wpAny_take (i := 9) (v := undef) rfl (by kernel_rfl) (by kernel_rfl) (by kernel_rfl) (fun _ _ _ h => h) (Or.inr ⟨by kernel_rfl, rfl⟩) ?_
    refine wpAny_take (i := 10) (v := undef) rfl (by kernel_rfl) (by kernel_rfl) (by kernel_rfl) (fun _ _ _ h => h) (Or.inr ⟨by kernel_rfl, rfl⟩) ?_
    refine wpAny_take (i := 11) (v := undef) rfl (by kernel_rfl) (by kernel_rfl) (by kernel_rfl) (fun _ _ _ h => h) (Or.inr ⟨by kernel_rfl, rfl⟩) ?_
    refine wpAny_take (i := 12) (v := undef) rfl (by kernel_rfl) (by kernel_rfl) (by kernel_rfl) (fun _ _ _ h => h) (Or.inr ⟨by kernel_rfl, rfl⟩) ?_
    refine wpAny_take (i := 13) (v := undef) rfl (by kernel_rfl) (by kernel_rfl) (by kernel_rfl) (fun _ _ _ h => h) (Or.inr ⟨by kernel_rfl, rfl⟩) ?_
    refine wpAny_take (i := 14) (v := undef) rfl (by kernel_rfl) (by kernel_rfl) (by kernel_rfl) (fun _ _ _ h => h) (Or.inr ⟨by kernel_rfl, rfl⟩) ?_
    refine wpAny_take (i := 15) (v := undef) rfl (by kernel_rfl) (by kernel_rfl) (by kernel_rfl) (fun _ _ _ h => h) (Or.inr ⟨by kernel_rfl, rfl⟩) ?_
    refine wpAny_take (i := 16) (v := undef) rfl (by kernel_rfl) (by kernel_rfl) (by kernel_rfl) (fun _ _ _ h => h) (Or.inr ⟨by kernel_rfl, rfl⟩) ?_
    refine wpAny_take (i := 17) (v := .bool true) rfl (by kernel_rfl) (by kernel_rfl) (by kernel_rfl) (fun _ _ _ h => h) (Or.inl ⟨by kernel_rfl, fun w => by first | (go_simp; done) | rfl⟩) ?_
    refine wpAny_take (i := 18) (v := .bool true) rfl (by kernel_rfl) (by kernel_rfl) (by kernel_rfl) (fun _ _ _ h => h) (Or.inl ⟨by kernel_rfl, fun w => by first | (go_simp; done) | rfl⟩) ?_
    refine wpAny_done (by kernel_rfl) ?_ _
    go_wp2
    go_ret
    refine ⟨?_, ((Below.refl _ _).alloc (Nat.le_refl _) _).drew⟩
    kernel_rfl
  | true =>
    have HJ := Lib.hid hj
    clear hj
    by_cases h0 : 0 ≤ a
    · go_enter Try.func54, Try.ntmps54
      go_wp2_with fail
      go_region_held3 (fun w' => w'.cell? ⟨X, 0, none⟩ = some (.int .i64 op) ∧ w'.cell? ⟨X, 1, none⟩ = some (.int .i64 a) ∧ w'.cell? ⟨PB, 0, none⟩ = some (.pointer (some ⟨P, 0, none⟩)) ∧ w'.cell? ⟨P, 1, none⟩ = some (.slice A n c)) (go_keep)
        (first | (go_at_call 55; refine (calls_any op a _).mono ?_; rintro e w' ⟨rfl, rfl⟩; rw [HJ.out]))
      go_wp2
      go_ret
      exact ⟨ret_bool (by simp [h0]), ((Below.refl _ _).alloc (Nat.le_refl _) _).drew⟩
    · have hd0 : decide (0 ≤ a) = false := by simpa using h0
      go_enter Try.func54, Try.ntmps54
      go_wp2_with fail
      refine wp_region_any (by kernel_rfl) ?_; change wpAny _ _ _ _ _ _ _ (World.drew _)
      refine wpAny_ready (rs := [0]) (by kernel_rfl) (by simp) ?_; refine AllReady.cons rfl (fun K hK => ?_) AllReady.nil; go_simp; refine hK _ _ ?_; clear hK K
      refine wpAny_ready (rs := [1]) (by kernel_rfl) (by simp) ?_; refine AllReady.cons rfl (fun K hK => ?_) AllReady.nil; go_simp
      refine (calls_any op a _).mono ?_; rintro e w' ⟨rfl, rfl⟩; rw [HJ.out]
      dsimp only; refine hK _ _ ?_; clear hK K
      refine wpAny_take (i := 2) (v := .bool false) rfl (by kernel_rfl) (by kernel_rfl) (by kernel_rfl) (fun _ _ _ h => h) (Or.inl ⟨by kernel_rfl, fun w => by first | (go_simp; done) | rfl⟩) ?_
      refine wpAny_take (i := 3) (v := .bool false) rfl (by kernel_rfl) (by kernel_rfl) (by kernel_rfl) (fun _ _ _ h => h) (Or.inl ⟨by kernel_rfl, fun w => by first | (go_simp; done) | rfl⟩) ?_
      refine wpAny_take (i := 4) (v := .pointer (some ⟨X, 1, none⟩)) rfl (by kernel_rfl) (by kernel_rfl) (by kernel_rfl) (fun _ _ _ h => h) (Or.inl ⟨by kernel_rfl, fun w => by first | (go_simp; done) | rfl⟩) ?_
      refine wpAny_ready (rs := [5]) (by kernel_rfl) (by simp) ?_; refine AllReady.cons rfl (fun K hK => ?_) AllReady.nil; go_simp; refine hK _ _ ?_; clear hK K
      refine wpAny_take (i := 6) (v := .bool false) rfl (by kernel_rfl) (by kernel_rfl) (by kernel_rfl) (fun _ _ _ h => h) (Or.inl ⟨by kernel_rfl, fun w => by first | (go_simp; done) | rfl⟩) ?_
      refine wpAny_take (i := 7) (v := .bool false) rfl (by kernel_rfl) (by kernel_rfl) (by kernel_rfl) (fun _ _ _ h => h) (Or.inl ⟨by kernel_rfl, fun w => by first | (go_simp; done) | rfl⟩) ?_
      refine wpAny_take (i := 8) (v := undef) rfl (by kernel_rfl) (by kernel_rfl) (by kernel_rfl) (fun _ _ _ h => h) (Or.inr ⟨by kernel_rfl, rfl⟩) ?_
      refine wpAny_take (i := 9) (v := undef) rfl (by kernel_rfl) (by kernel_rfl) (by kernel_rfl) (fun _ _ _ h => h) (Or.inr ⟨by kernel_rfl, rfl⟩) ?_
      refine wpAny_take (i := 10) (v := undef) rfl (by kernel_rfl) (by kernel_rfl) (by kernel_rfl) (fun _ _ _ h => h) (Or.inr ⟨by kernel_rfl, rfl⟩) ?_
      refine wpAny_take (i := 11) (v := undef) rfl (by kernel_rfl) (by kernel_rfl) (by kernel_rfl) (fun _ _ _ h => h) (Or.inr ⟨by kernel_rfl, rfl⟩) ?_
      refine wpAny_take (i := 12) (v := undef) rfl (by kernel_rfl) (by kernel_rfl) (by kernel_rfl) (fun _ _ _ h => h) (Or.inr ⟨by kernel_rfl, rfl⟩) ?_
      refine wpAny_take (i := 13) (v := undef) rfl (by kernel_rfl) (by kernel_rfl) (by kernel_rfl) (fun _ _ _ h => h) (Or.inr ⟨by kernel_rfl, rfl⟩) ?_
      refine wpAny_take (i := 14) (v := undef) rfl (by kernel_rfl) (by kernel_rfl) (by kernel_rfl) (fun _ _ _ h => h) (Or.inr ⟨by kernel_rfl, rfl⟩) ?_
      refine wpAny_take (i := 15) (v := undef) rfl (by kernel_rfl) (by kernel_rfl) (by kernel_rfl) (fun _ _ _ h => h) (Or.inr ⟨by kernel_rfl, rfl⟩) ?_
      refine wpAny_take (i := 16) (v := .bool false) rfl (by kernel_rfl) (by kernel_rfl) (by kernel_rfl) (fun _ _ _ h => h) (Or.inl ⟨by kernel_rfl, fun w => by first | (go_simp; done) | rfl⟩) ?_
      refine wpAny_take (i := 17) (v := .bool false) rfl (by kernel_rfl) (by kernel_rfl) (by kernel_rfl) (fun _ _ _ h => h) (Or.inl ⟨by kernel_rfl, fun w => by first | (go_simp; done) | rfl⟩) ?_
      refine wpAny_take (i := 18) (v := .bool false) rfl (by kernel_rfl) (by kernel_rfl) (by kernel_rfl) (fun _ _ _ h => h) (Or.inl ⟨by kernel_rfl, fun w => by first | (go_simp; done) | rfl⟩) ?_
      refine wpAny_done (by kernel_rfl) ?_ _
      go_wp2
      go_ret
      refine ⟨?_, ((Below.refl _ _).alloc (Nat.le_refl _) _).drew⟩
      rw [hd0]
      kernel_rfl
end Go.Proofs.Ytgklchhgpnoliaa

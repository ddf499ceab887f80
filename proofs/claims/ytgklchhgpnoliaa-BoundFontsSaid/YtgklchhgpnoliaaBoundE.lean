/- The iterator of bound.ways: its contract as a sequence that may be left. -/
import Derived.RangeFuncNested
import Derived.RangeFuncBound
import Derived.RangeFuncCalls
import Derived.RangeFuncLeaves
import Derived.Shelf.Abstract
import Derived.Shelf.RegionOpen
import Derived.OwnWalkIn
import Derived.TacticsInMore
import Derived.LoopNIn
import Derived.LoopIn
import Derived.Test.YtgklchhgpnoliaaBoundD
namespace Go.Proofs.Ytgklchhgpnoliaa
open Go.RowKit Go.Shelf
attribute [local go_sem] Oper.semAt_some

/-- a place at which the instruction goes on -/
abbrev Way (at_ : Int) (x : Int × Int) := { t : Int // t ∈ Bd.ways at_ x }
/-- two blocks' cells are kept -/
def KpB (X AT : Nat) (W W' : World) : Prop := ∀ (b o : Nat) (v : Value), b = X ∨ b = AT → W.cell? ⟨b, o, none⟩ = some v → W'.cell? ⟨b, o, none⟩ = some v

def WayYield (n l X AT : Nat) (at_ : Int) (x : Int × Int) (J Jx : List (Way at_ x) → World → Prop) : Prop :=
  ∀ (pre : List (Way at_ x)) (t : Way at_ x) (W1 : World), J pre W1 → pre.length < 2 → YieldAt Fence.wide n Try.prog l #[.int .i64 t.1] W1 fun e W' =>
    (e = .returned (.bool true) ∧ J (pre ++ [t]) W' ∧ KpB X AT W1 W') ∨ (e = .returned (.bool false) ∧ Jx (pre ++ [t]) W')

theorem Abides.grow {β : Type} {B : Nat} {J : β → World → Prop} (h : AbidesFrom B J) {x : β} {W : World} (hj : J x W) (o : Obj) : J x (W.alloc o) :=
  h x W _ none hj (World.grownBy_alloc _ _ _) (fun r e => by cases e)

set_option maxRecDepth 100000 in
set_option maxHeartbeats 1000000 in
theorem ways_in (n l X AT : Nat) (at_ op a : Int) (J Jx : List (Way at_ (op, a)) → World → Prop) (hn : 1 ≤ n) {B : Nat} (hJ : AbidesFrom B J) (hJx : AbidesFrom B Jx)
    (hY : WayYield (n - 1) l X AT at_ (op, a) J Jx) (W : World) (hX0 : W.cell? ⟨X, 0, none⟩ = some (.int .i64 op)) (hX1 : W.cell? ⟨X, 1, none⟩ = some (.int .i64 a)) (hA : W.cell? ⟨AT, 0, none⟩ = some (.int .i64 at_)) (h0 : J [] W)
    (b0 : 0 ≤ at_) (b1 : at_ ≤ 1000000000000000) (b2 : Bd.jumps op = true → 0 ≤ a ∧ a ≤ 1000000000000000) :
    CallsIn Fence.wide n Try.prog 62 #[.func (.yield l) #[] #[], .pointer (some ⟨X, 0, none⟩), .pointer (some ⟨AT, 0, none⟩)] W fun e W' => (∃ v, e = .returned v) ∧
      ((∃ ys : List (Way at_ (op, a)), ys.map (·.1) = Bd.ways at_ (op, a) ∧ J ys W') ∨ (∃ pre : List (Way at_ (op, a)), True ∧ Jx pre W')) := by
  by_cases h35 : op = 35
  · subst h35
    obtain ⟨b3, b4⟩ := b2 (by decide)
    have hw : Bd.ways at_ (35, a) = [at_ + 1 + a] := rfl
    have ht : at_ + 1 + a ∈ Bd.ways at_ (35, a) := by rw [hw]; simp
    obtain ⟨fn, tmps, assign, body, hy, hR⟩ := hY [] ⟨at_ + 1 + a, ht⟩ (W.alloc (.cells #[.int .i64 35, .int .i64 a] 25)) (Abides.grow hJ h0 _) (by simp)
    have l1 := World.block_lt_of_cell? W _ hX0
    have l2 := World.block_lt_of_cell? W _ hA
    simp only at l1 l2 hy
    have HR := Lib.hid hR
    have HJ := Lib.hid hJ
    have HJx := Lib.hid hJx
    have HY := Lib.hid hY
    have HW := Lib.hid hw
    clear hR hJ hJx hY hw b2
    refine callsIn_of_wp Try.func62 rfl trivial ?_ rfl
    simp only [Try.ntmps62, List.size_toArray, List.length_cons, List.length_nil, Nat.reduceAdd, Nat.reduceSub, Array.replicate_succ, Array.replicate_zero, List.push_toArray, List.append_toArray, List.nil_append, List.cons_append]
    gi_wp2_with fail
    refine ⟨fun _ h => (by cases h), ?_⟩
    gi_wp2_with fail
    refine ⟨trivial, ?_⟩
    refine (callsIn_wide.2 (jumps_any 35 a _)).mono ?_
    rintro e w' ⟨rfl, rfl⟩
    rw [show Bd.jumps 35 = true from rfl]
    gi_wp2
    refine HR.out.mono ?_
    rintro e W3 (⟨rfl, hJ3, hk3⟩ | ⟨rfl, hJx3⟩)
    · gi_wp2
      go_end0
      exact ⟨⟨_, rfl⟩, .inl ⟨[⟨at_ + 1 + a, ht⟩], HW.out.symm, hJ3⟩⟩
    · gi_wp2
      go_end0
      exact ⟨⟨_, rfl⟩, .inr ⟨_, trivial, hJx3⟩⟩
  · have hne : (op != 35) = true := by simpa using h35
    have hne2 : (op == 35) = false := by simpa using h35
    have hw : Bd.ways at_ (op, a) = [at_ + 1] ++ (if Bd.jumps op = true then [at_ + 1 + a] else []) := by
      unfold Bd.ways; simp only; rw [if_neg h35]
    have ht : at_ + 1 ∈ Bd.ways at_ (op, a) := by rw [hw]; simp
    obtain ⟨fn, tmps, assign, body, hy, hR⟩ := hY [] ⟨at_ + 1, ht⟩ W h0 (by simp)
    have l1 := World.block_lt_of_cell? W _ hX0
    have l2 := World.block_lt_of_cell? W _ hA
    simp only at l1 l2 hy
    have HR := Lib.hid hR
    have HJ := Lib.hid hJ
    have HJx := Lib.hid hJx
    have HY := Lib.hid hY
    have HW := Lib.hid hw
    have HB := Lib.hid b2
    clear hR hJ hJx hY hw b2
    refine callsIn_of_wp Try.func62 rfl trivial ?_ rfl
    simp only [Try.ntmps62, List.size_toArray, List.length_cons, List.length_nil, Nat.reduceAdd, Nat.reduceSub, Array.replicate_succ, Array.replicate_zero, List.push_toArray, List.append_toArray, List.nil_append, List.cons_append]
    gi_wp2_with fail
    refine HR.out.mono ?_
    clear hy
    rintro e W3 (⟨rfl, hJ3, hk3⟩ | ⟨rfl, hJx3⟩)
    · have y0 := hk3 X 0 _ (.inl rfl) hX0
      have y1 := hk3 X 1 _ (.inl rfl) hX1
      have ya := hk3 AT 0 _ (.inr rfl) hA
      have m1 := World.block_lt_of_cell? W3 _ y0
      have m2 := World.block_lt_of_cell? W3 _ ya
      simp only at m1 m2
      have HJ3 := Lib.hid hJ3
      clear hX0 hX1 hA hk3 hJ3 HR
      gi_wp2_with fail
      refine ⟨trivial, ?_⟩
      refine (callsIn_wide.2 (jumps_any op a _)).mono ?_
      rintro e w' ⟨rfl, rfl⟩
      cases hj : Bd.jumps op with
      | false =>
        have hw2 := HW.out
        rw [hj] at hw2
        have HW2 := Lib.hid hw2
        clear hj hw2
        gi_wp2
        go_end0
        exact ⟨⟨_, rfl⟩, .inl ⟨[⟨at_ + 1, ht⟩], by have h := HW2.out.symm; simpa using h, Abides.grow HJ.out HJ3.out _⟩⟩
      | true =>
        obtain ⟨b3, b4⟩ := HB.out hj
        have hw2 := HW.out
        rw [hj] at hw2
        have ht2 : at_ + 1 + a ∈ Bd.ways at_ (op, a) := by rw [hw2]; simp
        obtain ⟨fn2, tmps2, assign2, body2, hy2, hR2⟩ := HY.out ([] ++ [⟨at_ + 1, ht⟩]) ⟨at_ + 1 + a, ht2⟩ (W3.alloc (.cells #[.int .i64 op, .int .i64 a] 25)) (Abides.grow HJ.out HJ3.out _) (by simp)
        simp only at hy2
        have HR2 := Lib.hid hR2
        have HW2 := Lib.hid hw2
        clear hj hw2 hR2
        gi_wp2
        refine HR2.out.mono ?_
        rintro e W4 (⟨rfl, hJ4, hk4⟩ | ⟨rfl, hJx4⟩)
        · gi_wp2
          go_end0
          exact ⟨⟨_, rfl⟩, .inl ⟨[⟨at_ + 1, ht⟩, ⟨at_ + 1 + a, ht2⟩], by have h := HW2.out.symm; simpa using h, hJ4⟩⟩
        · gi_wp2
          go_end0
          exact ⟨⟨_, rfl⟩, .inr ⟨_, trivial, hJx4⟩⟩
    · gi_wp2
      refine bodyPost_ret (results_none rfl _ _ _) rfl ?_
      exact ⟨⟨_, rfl⟩, .inr ⟨_, trivial, hJx3⟩⟩
end Go.Proofs.Ytgklchhgpnoliaa

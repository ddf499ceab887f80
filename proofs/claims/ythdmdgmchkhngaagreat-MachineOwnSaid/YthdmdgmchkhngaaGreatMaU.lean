/- The machine's values and wrong: their contracts. -/
import Derived.Test.YthdmdgmchkhngaaGreatMcD
import Derived.Deep.Light
import Derived.Deep.QuietTactic
import Derived.BigQuiet
namespace Go.Proofs.YthdmdgmchkhngaaGreat
open Go.RowKit Mc

def isOp (op : Int) : Bool := decide (1 ≤ op ∧ op ≤ 39)
theorem ret_three {k k' : IntKind} {a b a' b' : Int} {c d : Bool} (h : a = b) (h' : a' = b') (h'' : c = d) : Ending.returned (.tuple #[.int k a, .int k' a', .bool c]) = .returned (.tuple #[.int k b, .int k' b', .bool d]) := by rw [h, h', h'']
set_option maxHeartbeats 2000000 in
theorem mvalues_any (op : Int) (w : World) :
    Calls Tryz.prog 130 #[.int .i64 op] w fun e w' => e = .returned (.tuple #[.int .i64 (takes op : Nat), .int .i64 (leaves op : Nat), .bool (isOp op)]) ∧ w = w' := by
  go_enter Tryz.func130, Tryz.ntmps130
  go_wp2
  all_goals (go_ret3; go_light; refine ⟨ret_three ?_ ?_ ?_, rfl⟩ <;> first | (simp_all [takes, leaves, isOp]; done) | (simp_all [isOp]; omega))
theorem takes_le (op : Int) : takes op ≤ 2 := by unfold takes; (repeat' split) <;> omega
theorem leaves_le (op : Int) : leaves op ≤ 2 := by unfold leaves; (repeat' split) <;> omega
theorem wrong_op {s : St} {op a bh : Int} (h : ¬ (1 ≤ op ∧ op ≤ 39)) : wrong s op a bh = 50 := by unfold wrong; rw [if_pos (by omega)]
theorem wrong_st {s : St} {op a bh : Int} (h : 1 ≤ op ∧ op ≤ 39) (h1 : s.stack.length < takes op ∨ 32 + takes op < s.stack.length + leaves op) : wrong s op a bh = 51 := by unfold wrong; rw [if_neg (by omega), if_pos h1]
theorem wrong_ju {s : St} {op a bh : Int} (h : 1 ≤ op ∧ op ≤ 39) (h1 : ¬ (s.stack.length < takes op ∨ 32 + takes op < s.stack.length + leaves op)) (h2 : op = 35 ∨ op = 36) : wrong s op a bh = if a < 0 ∨ bh < a then 52 else 0 := by
  unfold wrong
  rw [if_neg (by omega), if_neg h1]
  by_cases h3 : a < 0 ∨ bh < a
  · rw [if_pos ⟨h2, h3⟩, if_pos h3]
  · rw [if_neg (fun e => h3 e.2), if_neg (by omega), if_neg h3]
theorem wrong_ca {s : St} {op a bh : Int} (h : 1 ≤ op ∧ op ≤ 39) (h1 : ¬ (s.stack.length < takes op ∨ 32 + takes op < s.stack.length + leaves op)) (h2 : op = 37 ∨ op = 38) : wrong s op a bh = if a < 0 ∨ (s.funcs.length : Int) ≤ a ∨ 20 < s.frames.length then 54 else 0 := by
  unfold wrong
  rw [if_neg (by omega), if_neg h1, if_neg (by omega)]
  by_cases h3 : a < 0 ∨ (s.funcs.length : Int) ≤ a ∨ 20 < s.frames.length
  · rw [if_pos ⟨h2, h3⟩, if_pos h3]
  · rw [if_neg (fun e => h3 e.2), if_neg h3]
theorem wrong_ok {s : St} {op a bh : Int} (h : 1 ≤ op ∧ op ≤ 39) (h1 : ¬ (s.stack.length < takes op ∨ 32 + takes op < s.stack.length + leaves op)) (h2 : ¬ (op = 35 ∨ op = 36)) (h3 : ¬ (op = 37 ∨ op = 38)) : wrong s op a bh = 0 := by
  unfold wrong
  rw [if_neg (by omega), if_neg h1, if_neg (fun e => h2 e.1), if_neg (fun e => h3 e.1)]
set_option maxRecDepth 100000 in
set_option maxHeartbeats 4000000 in
theorem wrong50 (w : World) (mb : Nat) (s : St) (op a bh : Int) (As Af Au : Option Addr) (cs cf cu : Nat) (lmb : mb < w.heap.size) (_c40 : w.cell? ⟨mb, 40, none⟩ = some (.slice As s.stack.length cs)) (_c1 : w.cell? ⟨mb, 1, none⟩ = some (.slice Af s.frames.length cf)) (_c0 : w.cell? ⟨mb, 0, none⟩ = some (.slice Au s.funcs.length cu)) (_hsl : s.stack.length ≤ 32) (_hfl : s.frames.length ≤ 21) (_hul : s.funcs.length ≤ 1000000) (ho : ¬ (1 ≤ op ∧ op ≤ 39)) :
    Calls Tryz.prog 108 #[.pointer (some ⟨mb, 0, none⟩), .agg #[.int .i64 op, .int .i64 a], .int .i64 bh] w fun e w' => e = .returned (.int .i64 50) ∧ Below w.heap.size w w' := by
  have lmb1 : mb < w.heap.size + 1 := by omega
  have ht := takes_le op
  have hl := leaves_le op
  generalize hT : takes op = T at *
  generalize hV : leaves op = V at *
  have HT := Lib.hid hT
  have HV := Lib.hid hV
  clear hT hV
  have HB := Lib.hid (show isOp op = false from decide_eq_false ho)
  clear ho
  go_enter Tryz.func108, Tryz.ntmps108
  go_wp2_with fail
  refine (mvalues_any _ _).mono ?_
  rintro e w1 ⟨rfl, rfl⟩
  rw [HT.out, HV.out, HB.out]
  go_wp2
  go_ret
  exact ⟨rfl, (Below.refl _ _).alloc (Nat.le_refl _) _⟩
set_option maxRecDepth 100000 in
set_option maxHeartbeats 4000000 in
theorem wrong51 (w : World) (mb : Nat) (s : St) (op a bh : Int) (As Af Au : Option Addr) (cs cf cu : Nat) (lmb : mb < w.heap.size) (c40 : w.cell? ⟨mb, 40, none⟩ = some (.slice As s.stack.length cs)) (_c1 : w.cell? ⟨mb, 1, none⟩ = some (.slice Af s.frames.length cf)) (_c0 : w.cell? ⟨mb, 0, none⟩ = some (.slice Au s.funcs.length cu)) (hsl : s.stack.length ≤ 32) (_hfl : s.frames.length ≤ 21) (_hul : s.funcs.length ≤ 1000000) (ho : 1 ≤ op ∧ op ≤ 39) (h1 : s.stack.length < takes op ∨ 32 + takes op < s.stack.length + leaves op) :
    Calls Tryz.prog 108 #[.pointer (some ⟨mb, 0, none⟩), .agg #[.int .i64 op, .int .i64 a], .int .i64 bh] w fun e w' => e = .returned (.int .i64 51) ∧ Below w.heap.size w w' := by
  have lmb1 : mb < w.heap.size + 1 := by omega
  have ht := takes_le op
  have hl := leaves_le op
  generalize hT : takes op = T at *
  generalize hV : leaves op = V at *
  have HT := Lib.hid hT
  have HV := Lib.hid hV
  clear hT hV
  have HB := Lib.hid (show isOp op = true from decide_eq_true ho)
  clear ho
  by_cases h2 : s.stack.length < T
  · clear h1
    go_enter Tryz.func108, Tryz.ntmps108
    go_wp2_with fail
    refine (mvalues_any _ _).mono ?_
    rintro e w1 ⟨rfl, rfl⟩
    rw [HT.out, HV.out, HB.out]
    go_wp2
    go_ret
    exact ⟨rfl, (Below.refl _ _).alloc (Nat.le_refl _) _⟩
  · have h3 : 32 + T < s.stack.length + V := by omega
    clear h1
    go_enter Tryz.func108, Tryz.ntmps108
    go_wp2_with fail
    refine (mvalues_any _ _).mono ?_
    rintro e w1 ⟨rfl, rfl⟩
    rw [HT.out, HV.out, HB.out]
    go_wp2
    go_ret
    exact ⟨rfl, (Below.refl _ _).alloc (Nat.le_refl _) _⟩
set_option maxRecDepth 100000 in
set_option maxHeartbeats 4000000 in
theorem wrong0 (w : World) (mb : Nat) (s : St) (op a bh : Int) (As Af Au : Option Addr) (cs cf cu : Nat) (lmb : mb < w.heap.size) (c40 : w.cell? ⟨mb, 40, none⟩ = some (.slice As s.stack.length cs)) (_c1 : w.cell? ⟨mb, 1, none⟩ = some (.slice Af s.frames.length cf)) (_c0 : w.cell? ⟨mb, 0, none⟩ = some (.slice Au s.funcs.length cu)) (_hsl : s.stack.length ≤ 32) (_hfl : s.frames.length ≤ 21) (_hul : s.funcs.length ≤ 1000000) (ho : 1 ≤ op ∧ op ≤ 39) (h11 : ¬ s.stack.length < takes op) (h12 : ¬ 32 + takes op < s.stack.length + leaves op) (h2 : ¬ (op = 35 ∨ op = 36)) (h3 : ¬ (op = 37 ∨ op = 38)) :
    Calls Tryz.prog 108 #[.pointer (some ⟨mb, 0, none⟩), .agg #[.int .i64 op, .int .i64 a], .int .i64 bh] w fun e w' => e = .returned (.int .i64 0) ∧ Below w.heap.size w w' := by
  have lmb1 : mb < w.heap.size + 1 := by omega
  have ht := takes_le op
  have hl := leaves_le op
  generalize hT : takes op = T at *
  generalize hV : leaves op = V at *
  have HT := Lib.hid hT
  have HV := Lib.hid hV
  clear hT hV
  have HB := Lib.hid (show isOp op = true from decide_eq_true ho)
  have b1 : (op == 35) = false := by simp; omega
  have b2 : (op == 36) = false := by simp; omega
  have b3 : (op == 37) = false := by simp; omega
  have b4 : (op == 38) = false := by simp; omega
  clear ho h2 h3
  go_enter Tryz.func108, Tryz.ntmps108
  go_wp2_with fail
  refine (mvalues_any _ _).mono ?_
  rintro e w1 ⟨rfl, rfl⟩
  rw [HT.out, HV.out, HB.out]
  go_wp2
  go_ret
  exact ⟨rfl, (Below.refl _ _).alloc (Nat.le_refl _) _⟩
set_option maxRecDepth 100000 in
set_option maxHeartbeats 4000000 in
theorem wrongJ (w : World) (mb : Nat) (s : St) (op a bh : Int) (As Af Au : Option Addr) (cs cf cu : Nat) (lmb : mb < w.heap.size) (c40 : w.cell? ⟨mb, 40, none⟩ = some (.slice As s.stack.length cs)) (_c1 : w.cell? ⟨mb, 1, none⟩ = some (.slice Af s.frames.length cf)) (_c0 : w.cell? ⟨mb, 0, none⟩ = some (.slice Au s.funcs.length cu)) (_hsl : s.stack.length ≤ 32) (_hfl : s.frames.length ≤ 21) (_hul : s.funcs.length ≤ 1000000) (h2 : op = 35 ∨ op = 36) (h11 : ¬ s.stack.length < takes op) (h12 : ¬ 32 + takes op < s.stack.length + leaves op) (h3 : a < 0 ∨ bh < a) :
    Calls Tryz.prog 108 #[.pointer (some ⟨mb, 0, none⟩), .agg #[.int .i64 op, .int .i64 a], .int .i64 bh] w fun e w' => e = .returned (.int .i64 52) ∧ Below w.heap.size w w' := by
  have lmb1 : mb < w.heap.size + 1 := by omega
  have ht := takes_le op
  have hl := leaves_le op
  generalize hT : takes op = T at *
  generalize hV : leaves op = V at *
  have HT := Lib.hid hT
  have HV := Lib.hid hV
  clear hT hV
  have HB : Hid (isOp op = true) := Lib.hid (by rcases h2 with rfl | rfl <;> rfl)
  rcases h2 with rfl | rfl
  all_goals
    by_cases h4 : a < 0
    · clear h3
      go_enter Tryz.func108, Tryz.ntmps108
      go_wp2_with fail
      refine (mvalues_any _ _).mono ?_
      rintro e w1 ⟨rfl, rfl⟩
      rw [HT.out, HV.out, HB.out]
      go_wp2
      go_ret
      exact ⟨rfl, (Below.refl _ _).alloc (Nat.le_refl _) _⟩
    · have h5 : bh < a := by omega
      clear h3
      go_enter Tryz.func108, Tryz.ntmps108
      go_wp2_with fail
      refine (mvalues_any _ _).mono ?_
      rintro e w1 ⟨rfl, rfl⟩
      rw [HT.out, HV.out, HB.out]
      go_wp2
      go_ret
      exact ⟨rfl, (Below.refl _ _).alloc (Nat.le_refl _) _⟩
set_option maxRecDepth 100000 in
set_option maxHeartbeats 4000000 in
theorem wrongJ0 (w : World) (mb : Nat) (s : St) (op a bh : Int) (As Af Au : Option Addr) (cs cf cu : Nat) (lmb : mb < w.heap.size) (c40 : w.cell? ⟨mb, 40, none⟩ = some (.slice As s.stack.length cs)) (_c1 : w.cell? ⟨mb, 1, none⟩ = some (.slice Af s.frames.length cf)) (_c0 : w.cell? ⟨mb, 0, none⟩ = some (.slice Au s.funcs.length cu)) (hsl : s.stack.length ≤ 32) (_hfl : s.frames.length ≤ 21) (_hul : s.funcs.length ≤ 1000000) (h2 : op = 35 ∨ op = 36) (h11 : ¬ s.stack.length < takes op) (h12 : ¬ 32 + takes op < s.stack.length + leaves op) (h4 : 0 ≤ a) (h5 : a ≤ bh) :
    Calls Tryz.prog 108 #[.pointer (some ⟨mb, 0, none⟩), .agg #[.int .i64 op, .int .i64 a], .int .i64 bh] w fun e w' => e = .returned (.int .i64 0) ∧ Below w.heap.size w w' := by
  have lmb1 : mb < w.heap.size + 1 := by omega
  have ht := takes_le op
  have hl := leaves_le op
  generalize hT : takes op = T at *
  generalize hV : leaves op = V at *
  have HT := Lib.hid hT
  have HV := Lib.hid hV
  clear hT hV
  have HB : Hid (isOp op = true) := Lib.hid (by rcases h2 with rfl | rfl <;> rfl)
  rcases h2 with rfl | rfl
  all_goals
    go_enter Tryz.func108, Tryz.ntmps108
    go_wp2_with fail
    refine (mvalues_any _ _).mono ?_
    rintro e w1 ⟨rfl, rfl⟩
    rw [HT.out, HV.out, HB.out]
    go_wp2
    go_ret
    exact ⟨rfl, (Below.refl _ _).alloc (Nat.le_refl _) _⟩
set_option maxRecDepth 100000 in
set_option maxHeartbeats 4000000 in
theorem wrongC1 (w : World) (mb : Nat) (s : St) (op a bh : Int) (As Af Au : Option Addr) (cs cf cu : Nat) (lmb : mb < w.heap.size) (c40 : w.cell? ⟨mb, 40, none⟩ = some (.slice As s.stack.length cs)) (_c1 : w.cell? ⟨mb, 1, none⟩ = some (.slice Af s.frames.length cf)) (_c0 : w.cell? ⟨mb, 0, none⟩ = some (.slice Au s.funcs.length cu)) (hsl : s.stack.length ≤ 32) (_hfl : s.frames.length ≤ 21) (_hul : s.funcs.length ≤ 1000000) (h3 : op = 37 ∨ op = 38) (h11 : ¬ s.stack.length < takes op) (h12 : ¬ 32 + takes op < s.stack.length + leaves op) (h4 : a < 0) :
    Calls Tryz.prog 108 #[.pointer (some ⟨mb, 0, none⟩), .agg #[.int .i64 op, .int .i64 a], .int .i64 bh] w fun e w' => e = .returned (.int .i64 54) ∧ Below w.heap.size w w' := by
  have lmb1 : mb < w.heap.size + 1 := by omega
  have ht := takes_le op
  have hl := leaves_le op
  generalize hT : takes op = T at *
  generalize hV : leaves op = V at *
  have HT := Lib.hid hT
  have HV := Lib.hid hV
  clear hT hV
  have HB : Hid (isOp op = true) := Lib.hid (by rcases h3 with rfl | rfl <;> rfl)
  rcases h3 with rfl | rfl
  · go_enter Tryz.func108, Tryz.ntmps108
    go_wp2_with fail
    refine (mvalues_any _ _).mono ?_
    rintro e w1 ⟨rfl, rfl⟩
    rw [HT.out, HV.out, HB.out]
    go_wp2_with fail
    go_quiet (fail)
    go_wp2
    go_ret
    exact ⟨rfl, below_drewN ((Below.refl _ _).alloc (Nat.le_refl _) _) _⟩
  · go_enter Tryz.func108, Tryz.ntmps108
    go_wp2_with fail
    refine (mvalues_any _ _).mono ?_
    rintro e w1 ⟨rfl, rfl⟩
    rw [HT.out, HV.out, HB.out]
    go_wp2_with fail
    go_quiet (fail)
    go_wp2
    go_ret
    exact ⟨rfl, below_drewN ((Below.refl _ _).alloc (Nat.le_refl _) _) _⟩
set_option maxRecDepth 100000 in
set_option maxHeartbeats 4000000 in
theorem wrongC2 (w : World) (mb : Nat) (s : St) (op a bh : Int) (As Af Au : Option Addr) (cs cf cu : Nat) (lmb : mb < w.heap.size) (c40 : w.cell? ⟨mb, 40, none⟩ = some (.slice As s.stack.length cs)) (_c1 : w.cell? ⟨mb, 1, none⟩ = some (.slice Af s.frames.length cf)) (c0 : w.cell? ⟨mb, 0, none⟩ = some (.slice Au s.funcs.length cu)) (hsl : s.stack.length ≤ 32) (_hfl : s.frames.length ≤ 21) (_hul : s.funcs.length ≤ 1000000) (h3 : op = 37 ∨ op = 38) (h11 : ¬ s.stack.length < takes op) (h12 : ¬ 32 + takes op < s.stack.length + leaves op) (h4 : 0 ≤ a) (h5 : (s.funcs.length : Int) ≤ a) :
    Calls Tryz.prog 108 #[.pointer (some ⟨mb, 0, none⟩), .agg #[.int .i64 op, .int .i64 a], .int .i64 bh] w fun e w' => e = .returned (.int .i64 54) ∧ Below w.heap.size w w' := by
  have lmb1 : mb < w.heap.size + 1 := by omega
  have ht := takes_le op
  have hl := leaves_le op
  generalize hT : takes op = T at *
  generalize hV : leaves op = V at *
  have HT := Lib.hid hT
  have HV := Lib.hid hV
  clear hT hV
  have HB : Hid (isOp op = true) := Lib.hid (by rcases h3 with rfl | rfl <;> rfl)
  rcases h3 with rfl | rfl
  · go_enter Tryz.func108, Tryz.ntmps108
    go_wp2_with fail
    refine (mvalues_any _ _).mono ?_
    rintro e w1 ⟨rfl, rfl⟩
    rw [HT.out, HV.out, HB.out]
    go_wp2_with fail
    go_quiet (fail)
    go_wp2
    go_ret
    exact ⟨rfl, below_drewN ((Below.refl _ _).alloc (Nat.le_refl _) _) _⟩
  · go_enter Tryz.func108, Tryz.ntmps108
    go_wp2_with fail
    refine (mvalues_any _ _).mono ?_
    rintro e w1 ⟨rfl, rfl⟩
    rw [HT.out, HV.out, HB.out]
    go_wp2_with fail
    go_quiet (fail)
    go_wp2
    go_ret
    exact ⟨rfl, below_drewN ((Below.refl _ _).alloc (Nat.le_refl _) _) _⟩
set_option maxRecDepth 100000 in
set_option maxHeartbeats 4000000 in
theorem wrongC3 (w : World) (mb : Nat) (s : St) (op a bh : Int) (As Af Au : Option Addr) (cs cf cu : Nat) (lmb : mb < w.heap.size) (c40 : w.cell? ⟨mb, 40, none⟩ = some (.slice As s.stack.length cs)) (c1 : w.cell? ⟨mb, 1, none⟩ = some (.slice Af s.frames.length cf)) (c0 : w.cell? ⟨mb, 0, none⟩ = some (.slice Au s.funcs.length cu)) (hsl : s.stack.length ≤ 32) (hfl : s.frames.length ≤ 21) (_hul : s.funcs.length ≤ 1000000) (h3 : op = 37 ∨ op = 38) (h11 : ¬ s.stack.length < takes op) (h12 : ¬ 32 + takes op < s.stack.length + leaves op) (h4 : 0 ≤ a) (h5 : a < s.funcs.length) (h6 : 20 < s.frames.length) :
    Calls Tryz.prog 108 #[.pointer (some ⟨mb, 0, none⟩), .agg #[.int .i64 op, .int .i64 a], .int .i64 bh] w fun e w' => e = .returned (.int .i64 54) ∧ Below w.heap.size w w' := by
  have lmb1 : mb < w.heap.size + 1 := by omega
  have ht := takes_le op
  have hl := leaves_le op
  generalize hT : takes op = T at *
  generalize hV : leaves op = V at *
  have HT := Lib.hid hT
  have HV := Lib.hid hV
  clear hT hV
  have HB : Hid (isOp op = true) := Lib.hid (by rcases h3 with rfl | rfl <;> rfl)
  rcases h3 with rfl | rfl
  · go_enter Tryz.func108, Tryz.ntmps108
    go_wp2_with fail
    refine (mvalues_any _ _).mono ?_
    rintro e w1 ⟨rfl, rfl⟩
    rw [HT.out, HV.out, HB.out]
    go_wp2_with fail
    go_quiet (fail)
    go_wp2
    go_ret
    exact ⟨rfl, below_drewN ((Below.refl _ _).alloc (Nat.le_refl _) _) _⟩
  · go_enter Tryz.func108, Tryz.ntmps108
    go_wp2_with fail
    refine (mvalues_any _ _).mono ?_
    rintro e w1 ⟨rfl, rfl⟩
    rw [HT.out, HV.out, HB.out]
    go_wp2_with fail
    go_quiet (fail)
    go_wp2
    go_ret
    exact ⟨rfl, below_drewN ((Below.refl _ _).alloc (Nat.le_refl _) _) _⟩
set_option maxRecDepth 100000 in
set_option maxHeartbeats 4000000 in
theorem wrongC0 (w : World) (mb : Nat) (s : St) (op a bh : Int) (As Af Au : Option Addr) (cs cf cu : Nat) (lmb : mb < w.heap.size) (c40 : w.cell? ⟨mb, 40, none⟩ = some (.slice As s.stack.length cs)) (c1 : w.cell? ⟨mb, 1, none⟩ = some (.slice Af s.frames.length cf)) (c0 : w.cell? ⟨mb, 0, none⟩ = some (.slice Au s.funcs.length cu)) (hsl : s.stack.length ≤ 32) (hfl : s.frames.length ≤ 21) (_hul : s.funcs.length ≤ 1000000) (h3 : op = 37 ∨ op = 38) (h11 : ¬ s.stack.length < takes op) (h12 : ¬ 32 + takes op < s.stack.length + leaves op) (h4 : 0 ≤ a) (h5 : a < s.funcs.length) (h6 : ¬ 20 < s.frames.length) :
    Calls Tryz.prog 108 #[.pointer (some ⟨mb, 0, none⟩), .agg #[.int .i64 op, .int .i64 a], .int .i64 bh] w fun e w' => e = .returned (.int .i64 0) ∧ Below w.heap.size w w' := by
  have lmb1 : mb < w.heap.size + 1 := by omega
  have ht := takes_le op
  have hl := leaves_le op
  generalize hT : takes op = T at *
  generalize hV : leaves op = V at *
  have HT := Lib.hid hT
  have HV := Lib.hid hV
  clear hT hV
  have HB : Hid (isOp op = true) := Lib.hid (by rcases h3 with rfl | rfl <;> rfl)
  rcases h3 with rfl | rfl
  · go_enter Tryz.func108, Tryz.ntmps108
    go_wp2_with fail
    refine (mvalues_any _ _).mono ?_
    rintro e w1 ⟨rfl, rfl⟩
    rw [HT.out, HV.out, HB.out]
    go_wp2_with fail
    go_quiet (fail)
    go_wp2
    go_ret
    exact ⟨rfl, below_drewN ((Below.refl _ _).alloc (Nat.le_refl _) _) _⟩
  · go_enter Tryz.func108, Tryz.ntmps108
    go_wp2_with fail
    refine (mvalues_any _ _).mono ?_
    rintro e w1 ⟨rfl, rfl⟩
    rw [HT.out, HV.out, HB.out]
    go_wp2_with fail
    go_quiet (fail)
    go_wp2
    go_ret
    exact ⟨rfl, below_drewN ((Below.refl _ _).alloc (Nat.le_refl _) _) _⟩
theorem wrong_any (w : World) (mb : Nat) (O : Nat → Prop) (L : Lay) (s : St) (h : MaL w mb O L s) (op a bh : Int) :
    Calls Tryz.prog 108 #[.pointer (some ⟨mb, 0, none⟩), .agg #[.int .i64 op, .int .i64 a], .int .i64 bh] w fun e w' => e = .returned (.int .i64 (wrong s op a bh)) ∧ Below w.heap.size w w' := by
  obtain ⟨As, cs, hvs, _, _⟩ := h.sk.form
  have c40 := h.blk.cell 40
  rw [h.c.c40, hvs] at c40
  obtain ⟨Af, cf, hvf, _, _⟩ := h.fr.form
  have c1 := h.blk.cell 1
  rw [h.c.c1, hvf] at c1
  obtain ⟨Au, cu, hvu, _, _⟩ := h.fu.form
  have c0 := h.blk.cell 0
  rw [h.c.c0, hvu] at c0
  have lmb := h.blk.lt
  have hsl := h.ok.slen
  have hfl := h.ok.flen
  have hul := h.ok.fnl
  by_cases ho : 1 ≤ op ∧ op ≤ 39
  · by_cases h1 : s.stack.length < takes op ∨ 32 + takes op < s.stack.length + leaves op
    · rw [wrong_st ho h1]
      exact wrong51 w mb s op a bh As Af Au cs cf cu lmb c40 c1 c0 hsl hfl hul ho h1
    · have h11 : ¬ s.stack.length < takes op := fun e => h1 (.inl e)
      have h12 : ¬ 32 + takes op < s.stack.length + leaves op := fun e => h1 (.inr e)
      by_cases h2 : op = 35 ∨ op = 36
      · rw [wrong_ju ho h1 h2]
        by_cases h3 : a < 0 ∨ bh < a
        · rw [if_pos h3]
          exact wrongJ w mb s op a bh As Af Au cs cf cu lmb c40 c1 c0 hsl hfl hul h2 h11 h12 h3
        · rw [if_neg h3]
          exact wrongJ0 w mb s op a bh As Af Au cs cf cu lmb c40 c1 c0 hsl hfl hul h2 h11 h12 (by omega) (by omega)
      · by_cases h3 : op = 37 ∨ op = 38
        · rw [wrong_ca ho h1 h3]
          by_cases h4 : a < 0
          · rw [if_pos (.inl h4)]
            exact wrongC1 w mb s op a bh As Af Au cs cf cu lmb c40 c1 c0 hsl hfl hul h3 h11 h12 h4
          · by_cases h5 : (s.funcs.length : Int) ≤ a
            · rw [if_pos (.inr (.inl h5))]
              exact wrongC2 w mb s op a bh As Af Au cs cf cu lmb c40 c1 c0 hsl hfl hul h3 h11 h12 (by omega) h5
            · by_cases h6 : 20 < s.frames.length
              · rw [if_pos (.inr (.inr h6))]
                exact wrongC3 w mb s op a bh As Af Au cs cf cu lmb c40 c1 c0 hsl hfl hul h3 h11 h12 (by omega) (by omega) h6
              · rw [if_neg (by omega)]
                exact wrongC0 w mb s op a bh As Af Au cs cf cu lmb c40 c1 c0 hsl hfl hul h3 h11 h12 (by omega) (by omega) h6
        · rw [wrong_ok ho h1 h2 h3]
          exact wrong0 w mb s op a bh As Af Au cs cf cu lmb c40 c1 c0 hsl hfl hul ho h11 h12 h2 h3
  · rw [wrong_op ho]
    exact wrong50 w mb s op a bh As Af Au cs cf cu lmb c40 c1 c0 hsl hfl hul ho
end Go.Proofs.YthdmdgmchkhngaaGreat

/- Parts of the proof, joined: McB SrL SrA SrB. -/
import Derived.BigQuiet
import Derived.Conc.MuLone
import Derived.Deep.Light
import Derived.Deep.QuietTactic
import Derived.Lib.SliceRun
import Derived.Test.YtnhebmgibiomnaaGreatPa0
import Derived.Test.YtnhebmgibiomnaaGreatPa3
import Derived.Test.YtnhebmgibiomnaaGreatPa4
set_option linter.unusedVariables false
set_option linter.unusedSimpArgs false
namespace Go.Proofs.YtnhebmgibiomnaaGreat
open Go.RowKit Mc
theorem MaL.pushed {w w1 : World} {mb : Nat} {O : Nat → Prop} {L : Lay} {s : St} (h : MaL w mb O L s) {v : Value} {x : Int} (hx : K32 x) (hl : s.stack.length < 32)
    (hrow : Row w1 (ext O w w1) 3 1 v (s.stack.length + 1) (ints s.stack.reverse ++ [.int .i64 x])) (hg : w.grownBy w1 L.sk.ownBlock) (hnew : ∀ g, v.ownBlock = some g → L.sk.ownBlock = some g ∨ w.heap.size ≤ g) :
    (∃ cs, Blk w1 mb 212 cs ∧ cs.size = 50) ∧ (∃ L', MaL (w1.setCell ⟨mb, 40, none⟩ v) mb (ext O w w1) L' { s with stack := x :: s.stack }) ∧ Fr O w (w1.setCell ⟨mb, 40, none⟩ v) := by
  have hmb : Blk w1 mb 212 L.cs := h.blk.grown hg fun e => h.sk.ne_blk h.blk (by decide) e.symm rfl
  have hz := hg.size
  refine ⟨⟨_, hmb, h.c.sz⟩, ⟨_, h.stack (u := v) (l := x :: s.stack) (hmb.set_ 40 v) (h.c.setSk _ _) ?_ hnew ?_ (fun _ h => .inl h) ?_ (h.ok.stack_ ?_ ?_)⟩, ?_⟩
  · have := hrow.keep (w' := w1.setCell ⟨mb, 40, none⟩ v) (O' := ext O w w1) (fun g hgb => Below.heap_setCell _ _ _ _ (fun (e : g = mb) => hrow.ne_blk hmb (by decide) hgb e)) (fun _ h => h)
    simpa [ints] using this
  · intro k hk h1 h2
    rw [Below.heap_setCell _ _ _ _ h1]
    exact hg.block k (h.olt k hk) h2
  · intro k hk
    have := h.ext_lt hz k hk
    simpa [World.setCell] using this
  · intro y hy
    rcases List.mem_cons.1 hy with rfl | hy
    · exact hx
    · exact h.ok.stack y hy
  · simp only [List.length_cons]; omega
  · exact Fr.setCell (⟨hg.os, hg.tape, hg.output, hg.size, fun k hk hs => hg.block k hk (fun e => hs (h.sk.2 k e.symm))⟩) (.inl h.mbO) _
def LInv (w : World) (mb : Nat) (O : Nat → Prop) (s : St) (vb : Nat) (vs : List Int) (i : Value) (wx : World) : Prop :=
  ∃ (k : Nat) (L' : Lay), k ≤ vs.length ∧ i = .int .i64 k ∧ MaL wx mb (ext O w wx) L' { s with stack := ((vs.take k).map k32).reverse ++ s.stack } ∧ Blk wx vb 3 (ints vs).toArray ∧ Fr O w wx
theorem LInv.next {w : World} {mb : Nat} {O : Nat → Prop} {s : St} {vb : Nat} {vs : List Int} {wr w6 : World} {L2 : Lay} {k : Nat} {x : Int} {o : Obj} {v : Value} (hx : vs[k]? = some x) (hf : Fr O w wr) (hvb : Blk wr vb 3 (ints vs).toArray) (hv : ¬ O vb)
    (h : MaL (w6.setCell ⟨mb, 40, none⟩ v) mb (ext (ext O w wr) (wr.drew.alloc o) w6) L2 { s with stack := k32 x :: (((vs.take k).map k32).reverse ++ s.stack) }) (hF : Fr (ext O w wr) (wr.drew.alloc o) (w6.setCell ⟨mb, 40, none⟩ v)) (hvw : vb < w.heap.size) :
    LInv w mb O s vb vs (.int .i64 ((k : Int) + 1)) (w6.setCell ⟨mb, 40, none⟩ v) := by
  have hlt : k < vs.length := (List.getElem?_eq_some_iff.1 hx).1
  have hz := hF.size
  have hz1 := hf.size
  simp [World.setCell] at hz
  have h1 : ((vs.take (k + 1)).map k32).reverse ++ s.stack = k32 x :: (((vs.take k).map k32).reverse ++ s.stack) := by
    rw [List.take_add_one, hx]; simp
  refine ⟨k + 1, L2, hlt, by simp, ?_, ?_, Fr.ext hf ?_⟩
  · rw [h1]
    refine h.mono (fun i hi => ?_) (fun i hi => ?_)
    · rcases hi with (hi | hi) | hi
      · exact .inl hi
      · exact .inr ⟨hi.1, by simp [World.setCell]; omega⟩
      · refine .inr ⟨by have := hi.1; simp at this; omega, by have := hi.2; simpa [World.setCell] using this⟩
    · rcases hi with hi | hi
      · exact h.olt i (.inl (.inl hi))
      · exact hi.2
  · have hb1 : Blk (wr.drew.alloc o) vb 3 (ints vs).toArray := hvb.drew.alloc o
    exact hF.blk hb1 (fun e => by rcases e with e | e; exact hv e; omega)
  · exact ((Fr.refl _ wr).drew.alloc o).trans hF
end Go.Proofs.YtnhebmgibiomnaaGreat
namespace Go.Proofs.YtnhebmgibiomnaaGreat
open Go.RowKit Mc
end Go.Proofs.YtnhebmgibiomnaaGreat
namespace Go.Proofs.YtnhebmgibiomnaaGreat
open Go.RowKit Mc
section
variable {w w1 w2 : World} {O S : Nat → Prop} {mb : Nat} {L : Lay} {s : St} {e : Ending}
theorem Fr.new (h : Fr O w w1) (k : Fr S w1 w2) (hS : ∀ i, i < w.heap.size → S i → O i) : Fr O w w2 :=
  ⟨k.os.trans h.os, k.tape.trans h.tape, k.output.trans h.output, Nat.le_trans h.size k.size, fun i hi hs => (k.block i (Nat.lt_of_lt_of_le hi h.size) (fun a => hs (hS i hi a))).trans (h.block i hi hs)⟩
theorem MPost.from_ (h : Fr O w w1) (k : MPost w1 mb O s e w2) : MPost w mb O s e w2 := by
  obtain ⟨he, ⟨L, hL⟩, hf⟩ := k
  have hz := h.size
  refine ⟨he, ⟨L, hL.mono (fun i hi => ?_) (fun i hi => ?_)⟩, h.trans hf⟩
  · rcases hi with hi | hi
    · exact .inl hi
    · exact .inr ⟨by omega, hi.2⟩
  · rcases hi with hi | hi
    · exact hL.olt i (.inl hi)
    · exact hi.2
theorem MPost.here (h : MaL w1 mb O L s) (hf : Fr O w w1) : MPost w mb O s (.returned (.tuple #[])) w1 :=
  ⟨rfl, ⟨L, h.mono (fun _ h => .inl h) (fun k hk => by rcases hk with hk | hk; exact h.olt k hk; exact hk.2)⟩, hf⟩
theorem MaL.notO (h : MaL w mb O L s) {k : Nat} (hk : w.heap.size ≤ k) : ¬ O k := fun e => by have := h.olt k e; omega
end
structure Took (w : World) (mb : Nat) (O : Nat → Prop) (s : St) (r : List Int) (n : Nat) (w' : World) : Prop where
  ma : ∃ L', MaL w' mb O L' { s with stack := r }
  fr : Fr O w w'
  lt : w.heap.size + n < w'.heap.size
  old : ∀ g t cs, t ≠ 212 → Blk w g t cs → Blk w' g t cs
  cell : ∀ i, i ≠ 40 → w'.cell? ⟨mb, i, none⟩ = w.cell? ⟨mb, i, none⟩
end Go.Proofs.YtnhebmgibiomnaaGreat
namespace Go.Proofs.YtnhebmgibiomnaaGreat
open Go.RowKit Mc
theorem rounded_any (mode n : Int) (w : World) : Calls Tryz.prog 117 #[.int .i64 mode, .int .i64 n] w fun e w' => e = .returned (.int .i64 (rounded mode n)) ∧ w = w' := by
  obtain ⟨k1, k2⟩ := k32_in n
  have m0 := Int.emod_nonneg mode (show (6 : Int) ≠ 0 by omega)
  have m1 := Int.emod_lt_of_pos mode (show (0 : Int) < 6 by omega)
  have hr : rounded mode n = k32 (if mode % 6 = 1 then (k32 n + 32) / 64 * 64 else if mode % 6 = 2 then k32 n / 64 * 64 + 32 else if mode % 6 = 3 then (k32 n + 16) / 32 * 32 else if mode % 6 = 4 then k32 n / 64 * 64 else if mode % 6 = 5 then (k32 n + 63) / 64 * 64 else k32 n) := rfl
  have HR := Lib.hid hr
  clear hr
  generalize hk : k32 n = k at *
  have HK := Lib.hid hk
  clear hk
  generalize hm : mode % 6 = m at *
  have HM := Lib.hid hm
  clear hm
  have h : m = 0 ∨ m = 1 ∨ m = 2 ∨ m = 3 ∨ m = 4 ∨ m = 5 := by omega
  rcases h with rfl | rfl | rfl | rfl | rfl | rfl
  all_goals
    clear m0 m1
    go_enter Tryz.func117, Tryz.ntmps117
    go_wp2_with fail
    refine (kept_any n _).mono ?_
    rintro e w1 ⟨rfl, rfl⟩
    rw [HK.out]
    go_wp2_with fail
    refine (rest_m mode 6 _ (by decide) (by decide)).mono ?_
    rintro e w1 ⟨rfl, rfl⟩
    rw [HM.out]
    go_wp2_with fail
    refine (kept_any _ _).mono ?_
    rintro e w1 ⟨rfl, rfl⟩
    go_wp2
    go_ret
    rw [HR.out]
    refine ⟨ret_i64 ?_, rfl⟩
    first | rfl | simp
theorem mul_in {x y : Int} (hx : -2147483648 ≤ x ∧ x ≤ 2147483647) (hy : -2147483648 ≤ y ∧ y ≤ 2147483647) : RowKit.wrap64 (x * y) = x * y := by
  refine IntWalk.wrap64_in _ ?_
  have h1 : x * y ≤ 4611686018427387904 := by
    rcases Int.le_total 0 x with h | h <;> rcases Int.le_total 0 y with h' | h'
    · have := Int.mul_le_mul (show x ≤ 2147483648 by omega) (show y ≤ 2147483648 by omega) h' (by omega); omega
    · have := Int.mul_nonpos_of_nonneg_of_nonpos h h'; omega
    · have := Int.mul_nonpos_of_nonpos_of_nonneg h h'; omega
    · have := Int.mul_le_mul (show -x ≤ 2147483648 by omega) (show -y ≤ 2147483648 by omega) (by omega) (by omega); rw [Int.neg_mul_neg] at this; omega
  have h2 : -4611686018427387904 ≤ x * y := by
    rcases Int.le_total 0 x with h | h <;> rcases Int.le_total 0 y with h' | h'
    · have := Int.mul_nonneg h h'; omega
    · have := Int.mul_le_mul (show x ≤ 2147483648 by omega) (show -y ≤ 2147483648 by omega) (by omega) (by omega); rw [Int.mul_neg] at this; omega
    · have := Int.mul_le_mul (show -x ≤ 2147483648 by omega) (show y ≤ 2147483648 by omega) (by omega) (by omega); rw [Int.neg_mul] at this; omega
    · have := Int.mul_nonneg_of_nonpos_of_nonpos h h'; omega
  omega
theorem divd_in {a b : Int} (h1 : -1000000000000 ≤ a) (h2 : a ≤ 1000000000000) : -1000000000000 ≤ divd a b ∧ divd a b ≤ 1000000000000 := by
  unfold divd
  split
  · omega
  · rename_i hb
    have key : ∀ a b : Int, -1000000000000 ≤ a → a ≤ 1000000000000 → 0 < b → -1000000000000 ≤ a / b ∧ a / b ≤ 1000000000000 := fun a b h1 h2 hb =>
      ⟨Int.le_ediv_of_mul_le hb (by omega), Int.ediv_le_of_le_mul hb (by omega)⟩
    rcases Int.lt_or_gt_of_ne hb with hb | hb
    · rw [← Int.neg_fdiv_neg, Int.fdiv_eq_ediv_of_nonneg _ (by omega)]
      exact key _ _ (by omega) (by omega) (by omega)
    · rw [Int.fdiv_eq_ediv_of_nonneg _ (by omega)]
      exact key _ _ h1 h2 hb
theorem w64_in {a : Int} (h1 : -9223372036854775808 ≤ a) (h2 : a ≤ 9223372036854775807) : w64 a = a := by unfold w64; omega
theorem d5 (x y : Int) (w : World) (hx : K32 x) (hy : K32 y) : Calls Tryz.prog 173 #[.int .i64 x, .int .i64 y] w fun e w' => e = .returned (.int .i64 (x + y)) ∧ w = w' := by
  unfold K32 at hx hy
  go_enter Tryz.func173, Tryz.ntmps173
  go_wp2
  go_ret
  exact ⟨rfl, rfl⟩
theorem d6 (x y : Int) (w : World) (hx : K32 x) (hy : K32 y) : Calls Tryz.prog 174 #[.int .i64 x, .int .i64 y] w fun e w' => e = .returned (.int .i64 (x - y)) ∧ w = w' := by
  unfold K32 at hx hy
  go_enter Tryz.func174, Tryz.ntmps174
  go_wp2
  go_ret
  exact ⟨rfl, rfl⟩
theorem d7 (x y : Int) (w : World) (hx : K32 x) (hy : K32 y) : Calls Tryz.prog 175 #[.int .i64 x, .int .i64 y] w fun e w' => e = .returned (.int .i64 (k32 (x * y / 64))) ∧ w = w' := by
  unfold K32 at hx hy
  have HM := Lib.hid (mul_in hx hy)
  go_enter Tryz.func175, Tryz.ntmps175
  go_wp2_with fail
  refine (kept64_any _ _).mono ?_
  rintro e w1 ⟨rfl, rfl⟩
  go_wp2
  go_ret
  exact ⟨ret_i64 (by rw [HM.out]), rfl⟩
theorem d8 (x y : Int) (w : World) (hx : K32 x) (_hy : K32 y) : Calls Tryz.prog 177 #[.int .i64 x, .int .i64 y] w fun e w' => e = .returned (.int .i64 (k32 (divd (64 * x) y))) ∧ w = w' := by
  unfold K32 at hx _hy
  go_enter Tryz.func177, Tryz.ntmps177
  go_wp2_with fail
  refine (divided_any _ _ _).mono ?_
  rintro e w1 ⟨rfl, rfl⟩
  go_wp2_with fail
  refine (kept64_any _ _).mono ?_
  rintro e w1 ⟨rfl, rfl⟩
  go_wp2
  go_ret
  have hd := divd_in (a := 64 * x) (b := y) (by omega) (by omega)
  exact ⟨ret_i64 (by rw [w64_in (by omega) (by omega)]), rfl⟩
theorem d9 (x : Int) (w : World) (hx : K32 x) : Calls Tryz.prog 180 #[.int .i64 x] w fun e w' => e = .returned (.int .i64 (-x)) ∧ w = w' := by
  unfold K32 at hx
  go_enter Tryz.func180, Tryz.ntmps180
  go_wp2
  go_ret
  exact ⟨rfl, rfl⟩
theorem d10 (x : Int) (w : World) (hx : K32 x) : Calls Tryz.prog 181 #[.int .i64 x] w fun e w' => e = .returned (.int .i64 (max x (-x))) ∧ w = w' := by
  unfold K32 at hx
  go_enter Tryz.func181, Tryz.ntmps181
  go_wp2
  all_goals
    go_ret
    exact ⟨ret_i64 (by omega), rfl⟩
theorem d11 (x y : Int) (w : World) (_hx : K32 x) (_hy : K32 y) : Calls Tryz.prog 182 #[.int .i64 x, .int .i64 y] w fun e w' => e = .returned (.int .i64 (min x y)) ∧ w = w' := by
  unfold K32 at _hx _hy
  go_enter Tryz.func182, Tryz.ntmps182
  go_wp2
  all_goals
    go_ret
    exact ⟨ret_i64 (by omega), rfl⟩
theorem d12 (x y : Int) (w : World) (_hx : K32 x) (_hy : K32 y) : Calls Tryz.prog 183 #[.int .i64 x, .int .i64 y] w fun e w' => e = .returned (.int .i64 (max x y)) ∧ w = w' := by
  unfold K32 at _hx _hy
  go_enter Tryz.func183, Tryz.ntmps183
  go_wp2
  all_goals
    go_ret
    exact ⟨ret_i64 (by omega), rfl⟩
theorem d13 (x : Int) (w : World) (_hx : K32 x) : Calls Tryz.prog 184 #[.int .i64 x] w fun e w' => e = .returned (.int .i64 (rounded 4 x)) ∧ w = w' := by
  unfold K32 at _hx
  go_enter Tryz.func184, Tryz.ntmps184
  go_wp2_with fail
  refine (rounded_any _ _ _).mono ?_
  rintro e w1 ⟨rfl, rfl⟩
  go_wp2
  go_ret
  exact ⟨rfl, rfl⟩
theorem d14 (x : Int) (w : World) (_hx : K32 x) : Calls Tryz.prog 185 #[.int .i64 x] w fun e w' => e = .returned (.int .i64 (rounded 5 x)) ∧ w = w' := by
  unfold K32 at _hx
  go_enter Tryz.func185, Tryz.ntmps185
  go_wp2_with fail
  refine (rounded_any _ _ _).mono ?_
  rintro e w1 ⟨rfl, rfl⟩
  go_wp2
  go_ret
  exact ⟨rfl, rfl⟩
theorem d16 (x y : Int) (w : World) (_hx : K32 x) (_hy : K32 y) : Calls Tryz.prog 187 #[.int .i64 x, .int .i64 y] w fun e w' => e = .returned (.int .i64 (truth (decide (x < y)))) ∧ w = w' := by
  unfold K32 at _hx _hy
  go_enter Tryz.func187, Tryz.ntmps187
  go_wp2_with fail
  refine (truth_any _ _).mono ?_
  rintro e w1 ⟨rfl, rfl⟩
  go_wp2
  go_ret
  exact ⟨ret_i64 (by first | rfl | (congr 1; simp)), rfl⟩
theorem d17 (x y : Int) (w : World) (_hx : K32 x) (_hy : K32 y) : Calls Tryz.prog 189 #[.int .i64 x, .int .i64 y] w fun e w' => e = .returned (.int .i64 (truth (decide (x ≤ y)))) ∧ w = w' := by
  unfold K32 at _hx _hy
  go_enter Tryz.func189, Tryz.ntmps189
  go_wp2_with fail
  refine (truth_any _ _).mono ?_
  rintro e w1 ⟨rfl, rfl⟩
  go_wp2
  go_ret
  exact ⟨ret_i64 (by first | rfl | (congr 1; simp)), rfl⟩
theorem d18 (x y : Int) (w : World) (_hx : K32 x) (_hy : K32 y) : Calls Tryz.prog 190 #[.int .i64 x, .int .i64 y] w fun e w' => e = .returned (.int .i64 (truth (decide (x = y)))) ∧ w = w' := by
  unfold K32 at _hx _hy
  go_enter Tryz.func190, Tryz.ntmps190
  go_wp2_with fail
  refine (truth_any _ _).mono ?_
  rintro e w1 ⟨rfl, rfl⟩
  go_wp2
  go_ret
  exact ⟨ret_i64 (by first | rfl | (congr 1; simp)), rfl⟩
theorem d19 (x : Int) (w : World) (_hx : K32 x) : Calls Tryz.prog 191 #[.int .i64 x] w fun e w' => e = .returned (.int .i64 (truth (decide (x = 0)))) ∧ w = w' := by
  unfold K32 at _hx
  go_enter Tryz.func191, Tryz.ntmps191
  go_wp2_with fail
  refine (truth_any _ _).mono ?_
  rintro e w1 ⟨rfl, rfl⟩
  go_wp2
  go_ret
  exact ⟨ret_i64 (by first | rfl | (congr 1; simp)), rfl⟩
theorem d20 (x y : Int) (w : World) (hx : K32 x) (hy : K32 y) : Calls Tryz.prog 192 #[.int .i64 x, .int .i64 y] w fun e w' => e = .returned (.int .i64 (truth (decide (x ≠ 0 ∧ y ≠ 0)))) ∧ w = w' := by
  unfold K32 at hx hy
  rcases Decidable.em (x = 0) with h | h <;> rcases Decidable.em (y = 0) with h' | h'
  all_goals
    have HV := Lib.hid (show truth (decide (x ≠ 0 ∧ y ≠ 0)) = truth (decide (x ≠ 0) && decide (y ≠ 0)) by simp)
    first | subst h | have b1 : (x != 0) = true := by simp [h]
    first | subst h' | have b2 : (y != 0) = true := by simp [h']
    go_enter Tryz.func192, Tryz.ntmps192
    go_wp2_with fail
    refine (truth_any _ _).mono ?_
    rintro e w1 ⟨rfl, rfl⟩
    go_wp2
    go_ret
    rw [HV.out]
    refine ⟨ret_i64 ?_, rfl⟩
    simp_all
theorem d21 (x y : Int) (w : World) (hx : K32 x) (hy : K32 y) : Calls Tryz.prog 193 #[.int .i64 x, .int .i64 y] w fun e w' => e = .returned (.int .i64 (truth (decide (x ≠ 0 ∨ y ≠ 0)))) ∧ w = w' := by
  unfold K32 at hx hy
  rcases Decidable.em (x = 0) with h | h <;> rcases Decidable.em (y = 0) with h' | h'
  all_goals
    have HV := Lib.hid (show truth (decide (x ≠ 0 ∨ y ≠ 0)) = truth (decide (x ≠ 0) || decide (y ≠ 0)) by simp)
    first | subst h | have b1 : (x != 0) = true := by simp [h]
    first | subst h' | have b2 : (y != 0) = true := by simp [h']
    go_enter Tryz.func193, Tryz.ntmps193
    go_wp2_with fail
    refine (truth_any _ _).mono ?_
    rintro e w1 ⟨rfl, rfl⟩
    go_wp2
    go_ret
    rw [HV.out]
    refine ⟨ret_i64 ?_, rfl⟩
    simp_all
end Go.Proofs.YtnhebmgibiomnaaGreat
namespace Go.Proofs.YtnhebmgibiomnaaGreat
open Go.RowKit Mc
section
variable {w : World} {mb : Nat} {O : Nat → Prop} {L : Lay} {s : St}
theorem MaL.set_ (h : MaL w mb O L s) {i : Nat} {u : Value} {st : List Int} {lo mo md : Int} {sp pk : Nat} {ed : Bool} {er : Int} (hc : MaC { L with cs := L.cs.setIfInBounds i u } { s with store := st, look := lo, move := mo, mode := md, steps := sp, peak := pk, ended := ed, err := er }) (hok : Ok { s with store := st, look := lo, move := mo, mode := md, steps := sp, peak := pk, ended := ed, err := er }) : MaL (w.setCell ⟨mb, i, none⟩ u) mb O { L with cs := L.cs.setIfInBounds i u } { s with store := st, look := lo, move := mo, mode := md, steps := sp, peak := pk, ended := ed, err := er } :=
  h.cells (h.blk.set_ i u) hc (fun _ _ hk _ => Below.heap_setCell _ _ _ _ hk) (fun _ h => h) (fun k hk => by have := h.olt k hk; simpa [World.setCell] using this) hok
end
end Go.Proofs.YtnhebmgibiomnaaGreat
namespace Go.Proofs.YtnhebmgibiomnaaGreat
open Go.RowKit Mc
section
variable {w w' : World} {mb : Nat} {O : Nat → Prop} {L : Lay} {s : St} {r : List Int} {n : Nat}
theorem Took.row (ht : Took w mb O s r n w') {t : TypeId} (hne : t ≠ 212) {size m : Nat} {v : Value} {xs : List Value} (hr : Row w O t size v m xs) : Row w' O t size v m xs :=
  hr.keep (fun g hg => by obtain ⟨_, _, cs, hb⟩ := hr.block hg; exact (ht.old g t cs hne hb).trans hb.symm) (fun _ h => h)
theorem Took.cv (ht : Took w mb O s r n w') (h : MaL w mb O L s) {L' : Lay} (h' : MaL w' mb O L' { s with stack := r }) : L'.cv = L.cv := by
  have := ht.cell 7 (by decide)
  rw [h'.blk.cell, h.blk.cell, h'.c.c7, h.c.c7] at this
  injection this
theorem Took.cu (ht : Took w mb O s r n w') (h : MaL w mb O L s) {L' : Lay} (h' : MaL w' mb O L' { s with stack := r }) : L'.cu = L.cu := by
  have := ht.cell 3 (by decide)
  rw [h'.blk.cell, h.blk.cell, h'.c.c3, h.c.c3] at this
  injection this
theorem Mc.Ok.cvt_ (h : Ok s) {l : List Int} (h1 : ∀ x ∈ l, K32 x) (h2 : l.length = s.cvt.length) : Ok { s with cvt := l } :=
  ⟨h.stack, h.slen, h1, h.store, h.stl, h.cur, h.org, h.orgl, h.touch, h.tl, h.size, h.look, h.move, h.mode, h.peak, h.frames, h.flen, h.funcs, h.fnl, h.cont, h.contl, h.curl, by rw [h2]; exact h.cvl, h.endl⟩
theorem MaL.setCv (h : MaL w mb O L s) {g m c : Nat} (hv : L.cv = .slice (some ⟨g, 0, none⟩) m c) {i : Nat} (hi : i < s.cvt.length) {v : Int} (hk : K32 v) : MaL (w.setCell ⟨g, i, none⟩ (.int .i64 v)) mb O L { s with cvt := s.cvt.set i v } := by
  have hob : L.cv.ownBlock = some g := by rw [hv]; rfl
  have hg : g ≠ mb := h.cv.ne_blk h.blk (by decide) hob
  refine h.cvt_ (by simp) ?_ (Below.heap_setCell _ _ _ _ hg.symm) (fun k _ _ hk => Below.heap_setCell _ _ _ _ (fun e => hk (by rw [hob, e]))) (fun _ h => h) (fun k hk => by have := h.olt k hk; simpa [World.setCell] using this) (h.ok.cvt_ (mem_set_k h.ok.cvt hk) (by simp))
  rw [ints_set]
  exact h.cv.set_ hob (by rw [ints_len]; exact hi) _
end
end Go.Proofs.YtnhebmgibiomnaaGreat
namespace Go.Proofs.YtnhebmgibiomnaaGreat
open Go.RowKit Mc
namespace Sr
structure Ok (s : St) : Prop where
  rl : s.regs.length = 64
  rk : ∀ x ∈ s.regs, K32 x
  m : Mc.Ok s.m
end Sr
structure SLay where
  og : Value
  cu : Value
  tq : Value
  en : Value
  co : Value
  cv : Value
  st : Value
def stTail (L : SLay) (s : Sr.St) : List Value := [L.og, L.cu, L.tq, L.en, L.co, L.cv, L.st, .int .i64 s.m.size, .int .i64 s.m.look, .int .i64 s.m.move, .int .i64 s.m.mode, .int .i64 (s.pc : Int), .int .i64 (s.steps : Int)]
def stCells (L : SLay) (s : Sr.St) : Array Value := (ints s.regs ++ stTail L s).toArray
theorem stc_reg {L : SLay} {s : Sr.St} (hl : s.regs.length = 64) {i : Nat} (hi : i < 64) : (stCells L s)[i]? = some (.int .i64 (s.regs.getD i 0)) := by
  unfold stCells
  rw [List.getElem?_toArray, List.getElem?_append_left (by rw [ints_len]; omega)]
  unfold ints
  rw [List.getElem?_map, List.getElem?_eq_getElem (by omega), List.getD_eq_getElem?_getD, List.getElem?_eq_getElem (by omega)]
  rfl
theorem stc_at {L : SLay} {s : Sr.St} (hl : s.regs.length = 64) (j : Nat) : (stCells L s)[64 + j]? = (stTail L s)[j]? := by
  unfold stCells
  rw [List.getElem?_toArray, List.getElem?_append_right (by rw [ints_len]; omega), ints_len, hl, Nat.add_sub_cancel_left]
theorem stc_setReg {L : SLay} {s : Sr.St} (hl : s.regs.length = 64) {i : Nat} (hi : i < 64) (v : Int) : (stCells L s).setIfInBounds i (.int .i64 v) = stCells L { s with regs := s.regs.set i v } := by
  unfold stCells
  rw [List.setIfInBounds_toArray, List.set_append_left _ _ (by rw [ints_len]; omega)]
  unfold ints
  rw [List.map_set]
  rfl
theorem stc_set {L L' : SLay} {s s' : Sr.St} (hl : s.regs.length = 64) (hr : s'.regs = s.regs) (j : Nat) (u : Value) (ht : (stTail L s).set j u = stTail L' s') : (stCells L s).setIfInBounds (64 + j) u = stCells L' s' := by
  unfold stCells
  rw [List.setIfInBounds_toArray, List.set_append_right _ _ (by rw [ints_len]; omega), ints_len, hl, Nat.add_sub_cancel_left, ht, hr]
def SrS (L : SLay) (sb : Nat) (k : Nat) : Prop := k = sb ∨ L.cu.ownBlock = some k ∨ L.tq.ownBlock = some k ∨ L.cv.ownBlock = some k ∨ L.st.ownBlock = some k
structure SrL (w : World) (sb : Nat) (L : SLay) (s : Sr.St) : Prop where
  blk : Blk w sb 104 (stCells L s)
  og : w.ownsRow 0 76 2 L.og s.m.org.length (pts s.m.org)
  cu : w.ownsRow 0 76 2 L.cu s.m.cur.length (pts s.m.cur)
  tq : w.ownsRow 0 3 1 L.tq s.m.touch.length (ints s.m.touch)
  en : w.ownsRow 0 3 1 L.en s.m.ends.length (ints s.m.ends)
  co : w.ownsRow 0 157 2 L.co s.m.cont.length (cts s.m.cont)
  cv : w.ownsRow 0 3 1 L.cv s.m.cvt.length (ints s.m.cvt)
  st : w.ownsRow 0 3 1 L.st s.m.store.length (ints s.m.store)
  ap_cu_og : Apart L.cu L.og
  ap_tq_en : Apart L.tq L.en
  ap_tq_cv : Apart L.tq L.cv
  ap_tq_st : Apart L.tq L.st
  ap_en_cv : Apart L.en L.cv
  ap_en_st : Apart L.en L.st
  ap_cv_st : Apart L.cv L.st
  ok : Sr.Ok s
section
variable {w w' : World} {sb : Nat} {L : SLay} {s : Sr.St}
theorem SrL.reg (h : SrL w sb L s) {i : Nat} (hi : i < 64) : w.cell? ⟨sb, i, none⟩ = some (.int .i64 (s.regs.getD i 0)) := (h.blk.cell i).trans (stc_reg h.ok.rl hi)
theorem SrL.c64 (h : SrL w sb L s) : w.cell? ⟨sb, 64, none⟩ = some L.og := (h.blk.cell 64).trans (stc_at h.ok.rl 0)
theorem SrL.c65 (h : SrL w sb L s) : w.cell? ⟨sb, 65, none⟩ = some L.cu := (h.blk.cell 65).trans (stc_at h.ok.rl 1)
theorem SrL.c66 (h : SrL w sb L s) : w.cell? ⟨sb, 66, none⟩ = some L.tq := (h.blk.cell 66).trans (stc_at h.ok.rl 2)
theorem SrL.c67 (h : SrL w sb L s) : w.cell? ⟨sb, 67, none⟩ = some L.en := (h.blk.cell 67).trans (stc_at h.ok.rl 3)
theorem SrL.c68 (h : SrL w sb L s) : w.cell? ⟨sb, 68, none⟩ = some L.co := (h.blk.cell 68).trans (stc_at h.ok.rl 4)
theorem SrL.c69 (h : SrL w sb L s) : w.cell? ⟨sb, 69, none⟩ = some L.cv := (h.blk.cell 69).trans (stc_at h.ok.rl 5)
theorem SrL.c70 (h : SrL w sb L s) : w.cell? ⟨sb, 70, none⟩ = some L.st := (h.blk.cell 70).trans (stc_at h.ok.rl 6)
theorem SrL.c71 (h : SrL w sb L s) : w.cell? ⟨sb, 71, none⟩ = some (.int .i64 s.m.size) := (h.blk.cell 71).trans (stc_at h.ok.rl 7)
theorem SrL.c72 (h : SrL w sb L s) : w.cell? ⟨sb, 72, none⟩ = some (.int .i64 s.m.look) := (h.blk.cell 72).trans (stc_at h.ok.rl 8)
theorem SrL.c73 (h : SrL w sb L s) : w.cell? ⟨sb, 73, none⟩ = some (.int .i64 s.m.move) := (h.blk.cell 73).trans (stc_at h.ok.rl 9)
theorem SrL.c74 (h : SrL w sb L s) : w.cell? ⟨sb, 74, none⟩ = some (.int .i64 s.m.mode) := (h.blk.cell 74).trans (stc_at h.ok.rl 10)
theorem SrL.c75 (h : SrL w sb L s) : w.cell? ⟨sb, 75, none⟩ = some (.int .i64 (s.pc : Int)) := (h.blk.cell 75).trans (stc_at h.ok.rl 11)
theorem SrL.c76 (h : SrL w sb L s) : w.cell? ⟨sb, 76, none⟩ = some (.int .i64 (s.steps : Int)) := (h.blk.cell 76).trans (stc_at h.ok.rl 12)
theorem SrL.keep (h : SrL w sb L s) (hk : ∀ k, (k = sb ∨ L.og.ownBlock = some k ∨ L.cu.ownBlock = some k ∨ L.tq.ownBlock = some k ∨ L.en.ownBlock = some k ∨ L.co.ownBlock = some k ∨ L.cv.ownBlock = some k ∨ L.st.ownBlock = some k) → w'.heap[k]? = w.heap[k]?) : SrL w' sb L s :=
  ⟨(hk sb (.inl rfl)).trans h.blk, owns_keep h.og (fun g e => hk g (by simp [e])), owns_keep h.cu (fun g e => hk g (by simp [e])), owns_keep h.tq (fun g e => hk g (by simp [e])), owns_keep h.en (fun g e => hk g (by simp [e])), owns_keep h.co (fun g e => hk g (by simp [e])), owns_keep h.cv (fun g e => hk g (by simp [e])), owns_keep h.st (fun g e => hk g (by simp [e])), h.ap_cu_og, h.ap_tq_en, h.ap_tq_cv, h.ap_tq_st, h.ap_en_cv, h.ap_en_st, h.ap_cv_st, h.ok⟩
theorem SrL.lt (h : SrL w sb L s) {k : Nat} (hk : k = sb ∨ L.og.ownBlock = some k ∨ L.cu.ownBlock = some k ∨ L.tq.ownBlock = some k ∨ L.en.ownBlock = some k ∨ L.co.ownBlock = some k ∨ L.cv.ownBlock = some k ∨ L.st.ownBlock = some k) : k < w.heap.size := by
  rcases hk with rfl | e | e | e | e | e | e | e
  · exact h.blk.lt
  · exact (owns_block h.og e).2.1
  · exact (owns_block h.cu e).2.1
  · exact (owns_block h.tq e).2.1
  · exact (owns_block h.en e).2.1
  · exact (owns_block h.co e).2.1
  · exact (owns_block h.cv e).2.1
  · exact (owns_block h.st e).2.1
theorem SrL.grow (h : SrL w sb L s) (hg : Grow w w') : SrL w' sb L s := h.keep fun k hk => hg.block k (h.lt hk) (fun x => x)
theorem SrL.own (h : SrL w sb L s) {i : Nat} {u : Value} {s' : Sr.St} (hc : (stCells L s).setIfInBounds i u = stCells L s') (ho : s'.m.org = s.m.org) (hcu : s'.m.cur = s.m.cur) (ht : s'.m.touch = s.m.touch) (he : s'.m.ends = s.m.ends) (hco : s'.m.cont = s.m.cont) (hcv : s'.m.cvt = s.m.cvt) (hst : s'.m.store = s.m.store) (hok : Sr.Ok s') : SrL (w.setCell ⟨sb, i, none⟩ u) sb L s' := by
  refine ⟨hc ▸ h.blk.set_ i u, ?_, ?_, ?_, ?_, ?_, ?_, ?_, h.ap_cu_og, h.ap_tq_en, h.ap_tq_cv, h.ap_tq_st, h.ap_en_cv, h.ap_en_st, h.ap_cv_st, hok⟩
  · rw [ho]; exact owns_set h.og h.blk (by decide) i u
  · rw [hcu]; exact owns_set h.cu h.blk (by decide) i u
  · rw [ht]; exact owns_set h.tq h.blk (by decide) i u
  · rw [he]; exact owns_set h.en h.blk (by decide) i u
  · rw [hco]; exact owns_set h.co h.blk (by decide) i u
  · rw [hcv]; exact owns_set h.cv h.blk (by decide) i u
  · rw [hst]; exact owns_set h.st h.blk (by decide) i u
theorem SrL.setReg (h : SrL w sb L s) {i : Nat} (hi : i < 64) {v : Int} (hv : K32 v) : SrL (w.setCell ⟨sb, i, none⟩ (.int .i64 v)) sb L { s with regs := s.regs.set i v } :=
  h.own (stc_setReg h.ok.rl hi v) rfl rfl rfl rfl rfl rfl rfl ⟨by simp [h.ok.rl], fun x hx => by rcases List.mem_or_eq_of_mem_set hx with hx | rfl; exact h.ok.rk x hx; exact hv, h.ok.m⟩
theorem SrL.setLook (h : SrL w sb L s) {v : Int} (hv : 0 ≤ v ∧ v ≤ 1) : SrL (w.setCell ⟨sb, 72, none⟩ (.int .i64 v)) sb L { s with m := { s.m with look := v } } :=
  h.own (stc_set (L := L) (L' := L) (s := s) (s' := { s with m := { s.m with look := v } }) h.ok.rl rfl 8 (.int .i64 v) rfl) rfl rfl rfl rfl rfl rfl rfl ⟨h.ok.rl, h.ok.rk, { h.ok.m with look := hv }⟩
theorem SrL.setMove (h : SrL w sb L s) {v : Int} (hv : 0 ≤ v ∧ v ≤ 1) : SrL (w.setCell ⟨sb, 73, none⟩ (.int .i64 v)) sb L { s with m := { s.m with move := v } } :=
  h.own (stc_set (L := L) (L' := L) (s := s) (s' := { s with m := { s.m with move := v } }) h.ok.rl rfl 9 (.int .i64 v) rfl) rfl rfl rfl rfl rfl rfl rfl ⟨h.ok.rl, h.ok.rk, { h.ok.m with move := hv }⟩
theorem SrL.setMode (h : SrL w sb L s) {v : Int} (hv : 0 ≤ v ∧ v ≤ 5) : SrL (w.setCell ⟨sb, 74, none⟩ (.int .i64 v)) sb L { s with m := { s.m with mode := v } } :=
  h.own (stc_set (L := L) (L' := L) (s := s) (s' := { s with m := { s.m with mode := v } }) h.ok.rl rfl 10 (.int .i64 v) rfl) rfl rfl rfl rfl rfl rfl rfl ⟨h.ok.rl, h.ok.rk, { h.ok.m with mode := hv }⟩
theorem SrL.setPc (h : SrL w sb L s) (v : Nat) : SrL (w.setCell ⟨sb, 75, none⟩ (.int .i64 (v : Int))) sb L { s with pc := v } :=
  h.own (stc_set (L := L) (L' := L) (s := s) (s' := { s with pc := v }) h.ok.rl rfl 11 (.int .i64 (v : Int)) rfl) rfl rfl rfl rfl rfl rfl rfl ⟨h.ok.rl, h.ok.rk, h.ok.m⟩
theorem SrL.setSteps (h : SrL w sb L s) (v : Nat) : SrL (w.setCell ⟨sb, 76, none⟩ (.int .i64 (v : Int))) sb L { s with steps := v } :=
  h.own (stc_set (L := L) (L' := L) (s := s) (s' := { s with steps := v }) h.ok.rl rfl 12 (.int .i64 (v : Int)) rfl) rfl rfl rfl rfl rfl rfl rfl ⟨h.ok.rl, h.ok.rk, h.ok.m⟩
theorem owns_setAt {base size n g : Nat} {t : TypeId} {v : Value} {xs : List Value} (h : w.ownsRow base t size v n xs) (hg : v.ownBlock = some g) {j : Nat} (hj : j < xs.length) (u : Value) : (w.setCell ⟨g, j, none⟩ u).ownsRow base t size v n (xs.set j u) := by
  rcases h.2 with ⟨rfl, _⟩ | ⟨g', cap, cur, rfl, hb, hh, h1, h2, h3, h4⟩
  · simp [Value.ownBlock] at hg
  · simp only [Value.ownBlock, Option.some.injEq] at hg
    subst hg
    have hk : Blk w g' t cur := hh
    refine ⟨by rw [List.length_set]; exact h.1, .inr ⟨g', cap, cur.setIfInBounds j u, rfl, hb, hk.set_ j u, h1, h2, by rw [Array.size_setIfInBounds]; exact h3, ?_⟩⟩
    rw [Array.toList_setIfInBounds, List.take_set, h4]
theorem owns_ne {base base' size size' n n' g : Nat} {t : TypeId} {v v' : Value} {xs xs' : List Value} (h : w.ownsRow base t size v n xs) (_h' : w.ownsRow base' t size' v' n' xs') (ha : Apart v v') (hg : v'.ownBlock = some g) (j : Nat) (u : Value) : (w.setCell ⟨g, j, none⟩ u).ownsRow base t size v n xs :=
  owns_keep h fun k e => Below.heap_setCell _ _ _ _ (fun e2 : k = g => ha k e (e2 ▸ hg))
theorem owns_other {base base' size size' n n' g : Nat} {t t' : TypeId} {v v' : Value} {xs xs' : List Value} (h : w.ownsRow base t size v n xs) (h' : w.ownsRow base' t' size' v' n' xs') (ht : t ≠ t') (hg : v'.ownBlock = some g) (j : Nat) (u : Value) : (w.setCell ⟨g, j, none⟩ u).ownsRow base t size v n xs :=
  owns_keep h fun k e => Below.heap_setCell _ _ _ _ (fun e2 : k = g => apart_types h h' ht k e (e2 ▸ hg))
theorem blk_other {base size n g : Nat} {t t' : TypeId} {v : Value} {xs : List Value} {cs : Array Value} (hb : Blk w sb t' cs) (h : w.ownsRow base t size v n xs) (ht : t' ≠ t) (hg : v.ownBlock = some g) (j : Nat) (u : Value) : Blk (w.setCell ⟨g, j, none⟩ u) sb t' cs := by
  obtain ⟨_, _, cs', hb'⟩ := owns_block h hg
  exact hb.far (p := ⟨g, j, none⟩) (hb.ne_ hb' ht) u
theorem SrL.setCv (h : SrL w sb L s) {g : Nat} (hg : L.cv.ownBlock = some g) {i : Nat} (hi : i < s.m.cvt.length) {v : Int} (hv : K32 v) : SrL (w.setCell ⟨g, i, none⟩ (.int .i64 v)) sb L { s with m := { s.m with cvt := s.m.cvt.set i v } } := by
  refine ⟨blk_other h.blk h.cv (by decide) hg _ _, owns_other h.og h.cv (by decide) hg _ _, owns_other h.cu h.cv (by decide) hg _ _, owns_ne h.tq h.cv h.ap_tq_cv hg _ _, owns_ne h.en h.cv h.ap_en_cv hg _ _, owns_other h.co h.cv (by decide) hg _ _, ?_, owns_ne h.st h.cv h.ap_cv_st.symm hg _ _, h.ap_cu_og, h.ap_tq_en, h.ap_tq_cv, h.ap_tq_st, h.ap_en_cv, h.ap_en_st, h.ap_cv_st, ⟨h.ok.rl, h.ok.rk, { h.ok.m with cvt := mem_set_k h.ok.m.cvt hv, cvl := by simpa using h.ok.m.cvl }⟩⟩
  have := owns_setAt h.cv hg (j := i) (by rw [ints_len]; exact hi) (.int .i64 v)
  rw [← ints_set] at this
  simpa using this
theorem SrL.setSt (h : SrL w sb L s) {g : Nat} (hg : L.st.ownBlock = some g) {i : Nat} (hi : i < s.m.store.length) {v : Int} (hv : K32 v) : SrL (w.setCell ⟨g, i, none⟩ (.int .i64 v)) sb L { s with m := { s.m with store := s.m.store.set i v } } := by
  refine ⟨blk_other h.blk h.st (by decide) hg _ _, owns_other h.og h.st (by decide) hg _ _, owns_other h.cu h.st (by decide) hg _ _, owns_ne h.tq h.st h.ap_tq_st hg _ _, owns_ne h.en h.st h.ap_en_st hg _ _, owns_other h.co h.st (by decide) hg _ _, owns_ne h.cv h.st h.ap_cv_st hg _ _, ?_, h.ap_cu_og, h.ap_tq_en, h.ap_tq_cv, h.ap_tq_st, h.ap_en_cv, h.ap_en_st, h.ap_cv_st, ⟨h.ok.rl, h.ok.rk, { h.ok.m with store := mem_set_k h.ok.m.store hv, stl := by simpa using h.ok.m.stl }⟩⟩
  have := owns_setAt h.st hg (j := i) (by rw [ints_len]; exact hi) (.int .i64 v)
  rw [← ints_set] at this
  simpa using this
theorem SrL.setTq (h : SrL w sb L s) {g : Nat} (hg : L.tq.ownBlock = some g) {i : Nat} (hi : i < s.m.touch.length) {v : Int} (hv : 0 ≤ v ∧ v ≤ 3) : SrL (w.setCell ⟨g, i, none⟩ (.int .i64 v)) sb L { s with m := { s.m with touch := s.m.touch.set i v } } := by
  refine ⟨blk_other h.blk h.tq (by decide) hg _ _, owns_other h.og h.tq (by decide) hg _ _, owns_other h.cu h.tq (by decide) hg _ _, ?_, owns_ne h.en h.tq h.ap_tq_en.symm hg _ _, owns_other h.co h.tq (by decide) hg _ _, owns_ne h.cv h.tq h.ap_tq_cv.symm hg _ _, owns_ne h.st h.tq h.ap_tq_st.symm hg _ _, h.ap_cu_og, h.ap_tq_en, h.ap_tq_cv, h.ap_tq_st, h.ap_en_cv, h.ap_en_st, h.ap_cv_st, ⟨h.ok.rl, h.ok.rk, { h.ok.m with touch := mem_set_k h.ok.m.touch hv, tl := by simpa using h.ok.m.tl }⟩⟩
  have := owns_setAt h.tq hg (j := i) (by rw [ints_len]; exact hi) (.int .i64 v)
  rw [← ints_set] at this
  simpa using this
theorem pts_put : ∀ {l : List (Int × Int)} {i : Nat} {x : Int × Int} (_ : l[i]? = some x) (axis v : Int), (pts l).set (i * 2 + (if axis = 1 then 1 else 0)) (.int .i64 v) = pts (l.set i (if axis = 1 then (x.1, v) else (v, x.2)))
  | a :: l, 0, x, h, axis, v => by
    simp only [List.getElem?_cons_zero, Option.some.injEq] at h
    subst h
    split <;> simp [pts]
  | a :: l, i + 1, x, h, axis, v => by
    have ih := pts_put (l := l) (i := i) (x := x) h axis v
    rw [show (i + 1) * 2 + (if axis = 1 then 1 else 0) = (i * 2 + (if axis = 1 then 1 else 0)) + 1 + 1 by omega]
    have : (pts (a :: l)).set (i * 2 + (if axis = 1 then 1 else 0) + 1 + 1) (.int .i64 v) = .int .i64 a.1 :: .int .i64 a.2 :: (pts l).set (i * 2 + (if axis = 1 then 1 else 0)) (.int .i64 v) := rfl
    rw [this, ih]
    rfl
  | [], i, x, h, _, _ => by simp at h
theorem SrL.setCu (h : SrL w sb L s) {g : Nat} (hg : L.cu.ownBlock = some g) {i : Nat} {x : Int × Int} (hx : s.m.cur[i]? = some x) (axis : Int) (v : Int) (hv : K32 v) (hxk : K32 x.1 ∧ K32 x.2) :
    SrL (w.setCell ⟨g, i * 2 + (if axis = 1 then 1 else 0), none⟩ (.int .i64 v)) sb L { s with m := { s.m with cur := s.m.cur.set i (if axis = 1 then (x.1, v) else (v, x.2)) } } := by
  have hi := (List.getElem?_eq_some_iff.1 hx).1
  refine ⟨blk_other h.blk h.cu (by decide) hg _ _, owns_ne h.og h.cu h.ap_cu_og.symm hg _ _, ?_, owns_other h.tq h.cu (by decide) hg _ _, owns_other h.en h.cu (by decide) hg _ _, owns_other h.co h.cu (by decide) hg _ _, owns_other h.cv h.cu (by decide) hg _ _, owns_other h.st h.cu (by decide) hg _ _, h.ap_cu_og, h.ap_tq_en, h.ap_tq_cv, h.ap_tq_st, h.ap_en_cv, h.ap_en_st, h.ap_cv_st, ⟨h.ok.rl, h.ok.rk, { h.ok.m with cur := fun p hp => ?_, orgl := by simpa using h.ok.m.orgl, tl := by simpa using h.ok.m.tl, cont := by simpa using h.ok.m.cont, curl := by simpa using h.ok.m.curl }⟩⟩
  · have hset := owns_setAt h.cu hg (j := i * 2 + (if axis = 1 then 1 else 0)) (by rw [pts_len]; split <;> omega) (.int .i64 v)
    have e := pts_put hx axis v
    rw [e] at hset
    simpa using hset
  · rcases List.mem_or_eq_of_mem_set hp with hp | rfl
    · exact h.ok.m.cur p hp
    · split
      · exact ⟨hxk.1, hv⟩
      · exact ⟨hv, hxk.2⟩
end
def SPost (w : World) (sb : Nat) (L : SLay) (s : Sr.St) (e : Ending) (w' : World) : Prop := e = .returned (.tuple #[]) ∧ SrL w' sb L s ∧ Fr (SrS L sb) w w'
end Go.Proofs.YtnhebmgibiomnaaGreat
namespace Go.Proofs.YtnhebmgibiomnaaGreat
open Go.RowKit Mc
theorem skept_any (n : Int) (w : World) : Calls Tryz.prog 72 #[.int .i64 n] w fun e w' => e = .returned (.int .i64 (k32 n)) ∧ w = w' := by
  go_enter Tryz.func72, Tryz.ntmps72
  go_wp2
  go_ret
  exact ⟨ret_i64 (k32_wrap n), rfl⟩
theorem srest_any (n d : Int) (w : World) (hd : 0 < d) (hd2 : d ≤ 1000) : Calls Tryz.prog 134 #[.int .i64 n, .int .i64 d] w fun e w' => e = .returned (.int .i64 (n % d)) ∧ w = w' := by
  have hm := Lib.hid (tmod_emod n d hd)
  have h2 := Int.emod_nonneg n (show d ≠ 0 by omega)
  have h3 := Int.emod_lt_of_pos n hd
  go_enter Tryz.func134, Tryz.ntmps134
  go_wp2
  all_goals go_ret
  · have hm := hm.out
    rw [if_pos ‹_›] at hm
    exact ⟨ret_i64 (by rw [hm]; exact IntWalk.wrap64_in _ (by omega)), rfl⟩
  · have hm := hm.out
    rw [if_neg (by omega)] at hm
    exact ⟨ret_i64 hm.symm, rfl⟩
theorem sdivided_any (a b : Int) (w : World) : Calls Tryz.prog 111 #[.int .i64 a, .int .i64 b] w fun e w' => e = .returned (.int .i64 (Mc.w64 (Mc.divd a b))) ∧ w = w' := by
  by_cases hb : b = 0
  · subst hb
    go_enter Tryz.func111, Tryz.ntmps111
    go_wp2
    go_ret
    exact ⟨ret_i64 rfl, rfl⟩
  · have hdv : Mc.divd a b = a.fdiv b := by unfold Mc.divd; rw [if_neg hb]
    have HF := Lib.hid (fdiv_tdiv a b hb)
    have HD := Lib.hid hdv
    have h1 : (b == 0) = false := beq_eq_false_iff_ne.2 hb
    clear hdv
    by_cases hc : a.tmod b ≠ 0 ∧ (decide (a < 0) ≠ decide (b < 0))
    · have e1 : (a.tmod b != 0) = true := bne_iff_ne.2 hc.1
      have e2 : (decide (a < 0) == decide (b < 0)) = false := beq_eq_false_iff_ne.2 hc.2
      have HC := Lib.hid hc
      obtain ⟨hc1, _⟩ := hc
      go_enter Tryz.func111, Tryz.ntmps111
      go_wp2
      go_ret
      refine ⟨ret_i64 ?_, rfl⟩
      rw [HD.out, HF.out, if_pos HC.out]
      exact w64_sub _
    · have HC := Lib.hid hc
      clear hc
      by_cases hz : a.tmod b = 0
      · have e1 : (a.tmod b != 0) = false := by simp [hz]
        go_enter Tryz.func111, Tryz.ntmps111
        go_wp2
        go_ret
        refine ⟨ret_i64 ?_, rfl⟩
        rw [HD.out, HF.out, if_neg HC.out]
        exact w64_wrap _
      · have e1 : (a.tmod b != 0) = true := bne_iff_ne.2 hz
        have e2 : (decide (a < 0) == decide (b < 0)) = true := by
          rcases hd : (decide (a < 0) == decide (b < 0)) with _ | _
          · exact absurd ⟨hz, beq_eq_false_iff_ne.1 hd⟩ HC.out
          · rfl
        go_enter Tryz.func111, Tryz.ntmps111
        go_wp2
        go_ret
        refine ⟨ret_i64 ?_, rfl⟩
        rw [HD.out, HF.out, if_neg HC.out]
        exact w64_wrap _
theorem struth_any (b : Bool) (w : World) : Calls Tryz.prog 121 #[.bool b] w fun e w' => e = .returned (.int .i64 (Mc.truth b)) ∧ w = w' := by
  cases b
  all_goals
    go_enter Tryz.func121, Tryz.ntmps121
    go_wp2
    go_ret
    exact ⟨rfl, rfl⟩
theorem scoord_any (b off : Nat) (a : Int) (w : World) (h0 : 0 ≤ a) (h1 : a ≤ 1) : Calls Tryz.prog 227 #[.pointer (some ⟨b, off, none⟩), .int .i64 a] w fun e w' => e = .returned (.pointer (some ⟨b, off + (if a = 1 then 1 else 0), none⟩)) ∧ w = w' := by
  have h : a = 0 ∨ a = 1 := by omega
  rcases h with rfl | rfl
  all_goals
    go_enter Tryz.func227, Tryz.ntmps227
    go_wp2
    go_ret
    exact ⟨rfl, rfl⟩
theorem leaps_any (op : Int) (w : World) : Calls Tryz.prog 49 #[.int .i64 op] w fun e w' => e = .returned (.bool (Sr.leaps op)) ∧ w = w' := by
  by_cases h35 : op = 35
  · subst h35
    go_enter Tryz.func49, Tryz.ntmps49
    go_wp2
    go_ret
    exact ⟨rfl, rfl⟩
  · by_cases h36 : op = 36
    · subst h36
      go_enter Tryz.func49, Tryz.ntmps49
      go_wp2
      go_ret
      exact ⟨rfl, rfl⟩
    · have b1 : (op == 35) = false := by simpa using h35
      have b2 : (op == 36) = false := by simpa using h36
      have e : Sr.leaps op = (op == 41) := by unfold Sr.leaps; by_cases h : op = 41 <;> simp [h35, h36, h]
      rw [e]
      clear e
      go_enter Tryz.func49, Tryz.ntmps49
      go_wp2
      go_ret
      exact ⟨rfl, rfl⟩
set_option maxHeartbeats 2000000 in
theorem uses_any (op : Int) (w : World) :
    Calls Tryz.prog 47 #[.int .i64 op] w fun e w' => e = .returned (.tuple #[.int .i64 (Sr.uses op).1, .bool (Sr.uses op).2]) ∧ w = w' := by
  go_enter Tryz.func47, Tryz.ntmps47
  go_wp2
  all_goals (go_ret2; go_light; refine ⟨?_, rfl⟩; simp_all [Sr.uses])
end Go.Proofs.YtnhebmgibiomnaaGreat
namespace Go.Proofs.YtnhebmgibiomnaaGreat
open Go.RowKit Mc
def regV (r : Sr.Reg) : Value := .agg #[.int .i64 r.op, .int .i64 r.d, .int .i64 r.a, .int .i64 r.b, .int .i64 r.n]
def regCells : List Sr.Reg → List Value
  | [] => []
  | x :: r => .int .i64 x.op :: .int .i64 x.d :: .int .i64 x.a :: .int .i64 x.b :: .int .i64 x.n :: regCells r
theorem regCells_len (l : List Sr.Reg) : (regCells l).length = l.length * 5 := by induction l with | nil => rfl | cons c r ih => simp [regCells, ih]; omega
theorem regCells_at (l : List Sr.Reg) : ∀ (i : Nat) (c : Sr.Reg), l[i]? = some c → (regCells l)[i * 5]? = some (.int .i64 c.op) ∧ (regCells l)[i * 5 + 1]? = some (.int .i64 c.d) ∧ (regCells l)[i * 5 + 2]? = some (.int .i64 c.a) ∧ (regCells l)[i * 5 + 3]? = some (.int .i64 c.b) ∧ (regCells l)[i * 5 + 4]? = some (.int .i64 c.n) := by
  induction l with
  | nil => intro i c h; simp at h
  | cons d r ih =>
    intro i c h
    cases i with
    | zero => simp at h; subst h; simp [regCells]
    | succ i =>
      have := ih i c (by simpa using h)
      rw [show (i + 1) * 5 = i * 5 + 5 by omega]
      simpa [regCells] using this
theorem regCells_app (a b : List Sr.Reg) : regCells (a ++ b) = regCells a ++ regCells b := by
  induction a with
  | nil => rfl
  | cons p r ih => simp [regCells, ih]
def thereTo (k : Nat) (d a b u : Int) : Prop :=
  (1 ≤ k → u % 2 = 0 ∨ Sr.rg d = true) ∧ (2 ≤ k → u / 2 % 2 = 0 ∨ Sr.rg a = true) ∧ (3 ≤ k → u / 4 % 2 = 0 ∨ Sr.rg b = true)
set_option maxRecDepth 50000 in
set_option maxHeartbeats 2000000 in
theorem there_any (r : Sr.Reg) (u : Int) (w : World) (h0 : 0 ≤ u) (h1 : u ≤ 7) :
    Calls Tryz.prog 48 #[regV r, .int .i64 u] w fun e w' => e = .returned (.bool (Sr.there r u)) ∧ Below w.heap.size w w' := by
  obtain ⟨op, d, a, b, n⟩ := r
  have h : u = 0 ∨ u = 1 ∨ u = 2 ∨ u = 3 ∨ u = 4 ∨ u = 5 ∨ u = 6 ∨ u = 7 := by omega
  have i0 : ∀ w : World, (Instr.index 170 (.agg #[.int .i64 d, .int .i64 a, .int .i64 b]) (.int .i64 0)).run Tryz.prog w = .ok (.int .i64 d) w := fun _ => by kernel_rfl
  have i1 : ∀ w : World, (Instr.index 170 (.agg #[.int .i64 d, .int .i64 a, .int .i64 b]) (.int .i64 1)).run Tryz.prog w = .ok (.int .i64 a) w := fun _ => by kernel_rfl
  have i2 : ∀ w : World, (Instr.index 170 (.agg #[.int .i64 d, .int .i64 a, .int .i64 b]) (.int .i64 2)).run Tryz.prog w = .ok (.int .i64 b) w := fun _ => by kernel_rfl
  unfold regV
  have b0 : bits BinOp.and IntKind.i64 u 1 = u % 2 := by rcases h with rfl | rfl | rfl | rfl | rfl | rfl | rfl | rfl <;> kernel_rfl
  have b1 : bits BinOp.and IntKind.i64 u 2 = u / 2 % 2 * 2 := by rcases h with rfl | rfl | rfl | rfl | rfl | rfl | rfl | rfl <;> kernel_rfl
  have b2 : bits BinOp.and IntKind.i64 u 4 = u / 4 % 2 * 4 := by rcases h with rfl | rfl | rfl | rfl | rfl | rfl | rfl | rfl <;> kernel_rfl
  generalize hu : u = u0 at *
  rcases h with rfl | rfl | rfl | rfl | rfl | rfl | rfl | rfl
  all_goals
    have HU := Lib.hid hu
    clear h0 h1 hu
    simp only [Int.reduceMod, Int.reduceDiv, Int.reduceMul] at b0 b1 b2
    go_enter Tryz.func48, Tryz.ntmps48
    go_wp2_with fail
    go_loopw [14] (fun i wr => ∃ k : Nat, k ≤ 3 ∧ i = .int .i64 k ∧ wr = w.alloc (.cells #[.int .i64 op, .int .i64 d, .int .i64 a, .int .i64 b, .int .i64 n] 50) ∧ thereTo k d a b u) (fun i _ => 3 - (intOf i).toNat)
    case atStart => exact ⟨0, by omega, rfl, rfl, ⟨fun h => absurd h (by decide), fun h => absurd h (by decide), fun h => absurd h (by decide)⟩⟩
    case round =>
      obtain ⟨k, hk, rfl, rfl, hok⟩ := hrel
      have HOK := Lib.hid hok
      clear hok
      rcases (show k = 0 ∨ k = 1 ∨ k = 2 ∨ k = 3 by omega) with rfl | rfl | rfl | rfl
      · rcases (show (0 ≤ d ∧ d < 64) ∨ d < 0 ∨ 64 ≤ d by omega) with ⟨r0, r1⟩ | r0 | r0
        all_goals
          go_wp2
          first
          | exact ⟨⟨1, by omega, rfl, trivial, ⟨fun _ => by rw [HU.out]; simp [Sr.rg] <;> omega, fun h => absurd h (by decide), fun h => absurd h (by decide)⟩⟩, by simp [intOf]⟩
          | (go_ret
             exact ⟨ret_bool (by simp [Sr.there, Sr.rg]; omega), (Below.refl _ _).alloc (Nat.le_refl _) _⟩)
      · rcases (show (0 ≤ a ∧ a < 64) ∨ a < 0 ∨ 64 ≤ a by omega) with ⟨r0, r1⟩ | r0 | r0
        all_goals
          go_wp2
          first
          | exact ⟨⟨2, by omega, rfl, trivial, ⟨fun _ => HOK.out.1 (by decide), fun _ => by rw [HU.out]; simp [Sr.rg] <;> omega, fun h => absurd h (by decide)⟩⟩, by simp [intOf]⟩
          | (go_ret
             exact ⟨ret_bool (by simp [Sr.there, Sr.rg]; omega), (Below.refl _ _).alloc (Nat.le_refl _) _⟩)
      · rcases (show (0 ≤ b ∧ b < 64) ∨ b < 0 ∨ 64 ≤ b by omega) with ⟨r0, r1⟩ | r0 | r0
        all_goals
          go_wp2
          first
          | exact ⟨⟨3, by omega, rfl, trivial, ⟨fun _ => HOK.out.1 (by decide), fun _ => HOK.out.2.1 (by decide), fun _ => by rw [HU.out]; simp [Sr.rg] <;> omega⟩⟩, by simp [intOf]⟩
          | (go_ret
             exact ⟨ret_bool (by simp [Sr.there, Sr.rg]; omega), (Below.refl _ _).alloc (Nat.le_refl _) _⟩)
      · go_wp2
        go_ret
        refine ⟨ret_bool ?_, (Below.refl _ _).alloc (Nat.le_refl _) _⟩
        obtain ⟨o1, o2, o3⟩ := HOK.out
        have o1 := o1 (by decide)
        have o2 := o2 (by decide)
        have o3 := o3 (by decide)
        rw [HU.out] at o1 o2 o3
        unfold Sr.there
        simp at o1 o2 o3 ⊢
        try simp [o1, o2, o3]
end Go.Proofs.YtnhebmgibiomnaaGreat

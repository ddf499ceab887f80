/- Parts of the proof, joined: ZClone McB. -/
import Derived.Test.YtnhebmgibiomnaaGreatPc3
set_option linter.unusedVariables false
set_option linter.unusedSimpArgs false
namespace Go.Proofs.YtnhebmgibiomnaaGreat
open Go.RowKit Mc
set_option maxRecDepth 100000 in
theorem clone_int (w : World) (A : Option Addr) (n c B : Nat) (xs : List Value) (hr : Reads w B 1 A n xs) (h1 : ∀ u ∈ xs, u.oneCell' = true) (hn : n ≤ 1000000000000) :
    Calls Tryz.prog 42 #[.slice A n c] w (ClPost w 3 1 n xs) := by
  obtain ⟨i0, hi0, hi1, hi2, hi3⟩ := info_m info_int
  have q0 : ∀ (w : World) (a : Option Addr) (n c n' c' : Nat), (binOp .eql 22 (.slice a n c) (.slice none n' c')).run Tryz.prog w = .ok (.bool a.isNone) w := fun w a n c n' c' => Lib.run_eql_slice_nil w _ _ a n c n' c' Tryz.underlying22
  have HR := Lib.hid hr
  have H1 := Lib.hid h1
  have HN := Lib.hid hn
  clear hr h1 hn
  rcases A with _ | ad
  · have hn0 : n = 0 := by
      rcases Nat.eq_zero_or_pos n with h | h
      · exact h
      · obtain ⟨b, off, e, _⟩ := HR.out.2 h; cases e
    subst hn0
    have hx : xs = [] := List.eq_nil_of_length_eq_zero (by simpa using HR.out.1)
    subst hx
    go_enter Tryz.func42, Tryz.ntmps42
    go_wp2
    go_ret
    exact ⟨_, rfl, owns_nil _ _ _ _, Fr.refl _ _⟩
  · have HR2 : Hid (∃ B, Reads (w.alloc (.cells #[] 3)) B 1 (some ad) n xs) := Lib.hid (by
      rcases Nat.eq_zero_or_pos n with h | h
      · subst h
        have hx : xs = [] := List.eq_nil_of_length_eq_zero (by simpa using HR.out.1)
        subst hx
        exact ⟨0, Reads.none_⟩
      · obtain ⟨b, off, e, hb, hc⟩ := HR.out.2 h
        have hb0 : b < w.heap.size := by
          have hl : 0 < xs.length := by rw [HR.out.1]; exact Nat.mul_pos h (by decide)
          have := hc 0 xs[0] (List.getElem?_eq_getElem hl)
          rcases Nat.lt_or_ge b w.heap.size with hlt | hge
          · exact hlt
          · rw [Nat.add_zero] at this
            simp [World.cell?, Array.getElem?_eq_none hge] at this
        exact ⟨B, HR.out.1, fun _ => ⟨b, off, e, hb, fun j u hu => (World.cell?_alloc_lt w _ _ hb0).trans (hc j u hu)⟩⟩)
    have hOE : (w.alloc (.cells #[] 3)).ownsRow w.heap.size 3 1 (.slice (some ⟨w.heap.size, 0, none⟩) 0 0) 0 [] := owns_empty (Blk.new _ _ _) (Nat.le_refl _)
    have HOE := Lib.hid hOE
    clear hOE
    obtain ⟨B2, hR2⟩ := HR2.out
    have HR3 := Lib.hid hR2
    clear hR2 HR2 HR
    go_enter Tryz.func42, Tryz.ntmps42
    go_wp2_with (at_builtin; refine wpList_append_any _ rfl (.tmp 5) (.tmp 6) _ rfl w.heap.size 3 i0 _ 1 8 Tryz.underlying22 hi0 hi1 hi2 hi3 rfl (show 0 < 1 by decide) (.slice (some ⟨w.heap.size, 0, none⟩) 0 0) 0 [] rfl HOE.out B2 _ n _ xs rfl HR3.out H1.out (by have := HN.out; unfold maxLen; omega) (by have := HN.out; omega) (by simp) ?_; intro v' w' ho hg _)
    go_ret
    refine ⟨_, rfl, by simpa using ho, grow_of_grown ((Fr.refl _ w).alloc _) hg (fun g e => ?_)⟩
    simp only [Value.ownBlock, Option.some.injEq] at e
    omega
set_option maxRecDepth 100000 in
theorem clone_pt (w : World) (A : Option Addr) (n c B : Nat) (xs : List Value) (hr : Reads w B 2 A n xs) (h1 : ∀ u ∈ xs, u.oneCell' = true) (hn : n ≤ 1000000000000) :
    Calls Tryz.prog 101 #[.slice A n c] w (ClPost w 76 2 n xs) := by
  obtain ⟨i0, hi0, hi1, hi2, hi3⟩ := info_m info_pt
  have q0 : ∀ (w : World) (a : Option Addr) (n c n' c' : Nat), (binOp .eql 28 (.slice a n c) (.slice none n' c')).run Tryz.prog w = .ok (.bool a.isNone) w := fun w a n c n' c' => Lib.run_eql_slice_nil w _ _ a n c n' c' Tryz.underlying28
  have HR := Lib.hid hr
  have H1 := Lib.hid h1
  have HN := Lib.hid hn
  clear hr h1 hn
  rcases A with _ | ad
  · have hn0 : n = 0 := by
      rcases Nat.eq_zero_or_pos n with h | h
      · exact h
      · obtain ⟨b, off, e, _⟩ := HR.out.2 h; cases e
    subst hn0
    have hx : xs = [] := List.eq_nil_of_length_eq_zero (by simpa using HR.out.1)
    subst hx
    go_enter Tryz.func101, Tryz.ntmps101
    go_wp2
    go_ret
    exact ⟨_, rfl, owns_nil _ _ _ _, Fr.refl _ _⟩
  · have HR2 : Hid (∃ B, Reads (w.alloc (.cells #[] 76)) B 2 (some ad) n xs) := Lib.hid (by
      rcases Nat.eq_zero_or_pos n with h | h
      · subst h
        have hx : xs = [] := List.eq_nil_of_length_eq_zero (by simpa using HR.out.1)
        subst hx
        exact ⟨0, Reads.none_⟩
      · obtain ⟨b, off, e, hb, hc⟩ := HR.out.2 h
        have hb0 : b < w.heap.size := by
          have hl : 0 < xs.length := by rw [HR.out.1]; exact Nat.mul_pos h (by decide)
          have := hc 0 xs[0] (List.getElem?_eq_getElem hl)
          rcases Nat.lt_or_ge b w.heap.size with hlt | hge
          · exact hlt
          · rw [Nat.add_zero] at this
            simp [World.cell?, Array.getElem?_eq_none hge] at this
        exact ⟨B, HR.out.1, fun _ => ⟨b, off, e, hb, fun j u hu => (World.cell?_alloc_lt w _ _ hb0).trans (hc j u hu)⟩⟩)
    have hOE : (w.alloc (.cells #[] 76)).ownsRow w.heap.size 76 2 (.slice (some ⟨w.heap.size, 0, none⟩) 0 0) 0 [] := owns_empty (Blk.new _ _ _) (Nat.le_refl _)
    have HOE := Lib.hid hOE
    clear hOE
    obtain ⟨B2, hR2⟩ := HR2.out
    have HR3 := Lib.hid hR2
    clear hR2 HR2 HR
    go_enter Tryz.func101, Tryz.ntmps101
    go_wp2_with (at_builtin; refine wpList_append_any _ rfl (.tmp 5) (.tmp 6) _ rfl w.heap.size 76 i0 _ 2 16 Tryz.underlying28 hi0 hi1 hi2 hi3 rfl (show 0 < 2 by decide) (.slice (some ⟨w.heap.size, 0, none⟩) 0 0) 0 [] rfl HOE.out B2 _ n _ xs rfl HR3.out H1.out (by have := HN.out; unfold maxLen; omega) (by have := HN.out; omega) (by simp) ?_; intro v' w' ho hg _)
    go_ret
    refine ⟨_, rfl, by simpa using ho, grow_of_grown ((Fr.refl _ w).alloc _) hg (fun g e => ?_)⟩
    simp only [Value.ownBlock, Option.some.injEq] at e
    omega
set_option maxRecDepth 100000 in
theorem clone_ins (w : World) (A : Option Addr) (n c B : Nat) (xs : List Value) (hr : Reads w B 2 A n xs) (h1 : ∀ u ∈ xs, u.oneCell' = true) (hn : n ≤ 1000000000000) :
    Calls Tryz.prog 97 #[.slice A n c] w (ClPost w 96 2 n xs) := by
  obtain ⟨i0, hi0, hi1, hi2, hi3⟩ := info_m info_ins
  have q0 : ∀ (w : World) (a : Option Addr) (n c n' c' : Nat), (binOp .eql 24 (.slice a n c) (.slice none n' c')).run Tryz.prog w = .ok (.bool a.isNone) w := fun w a n c n' c' => Lib.run_eql_slice_nil w _ _ a n c n' c' Tryz.underlying24
  have HR := Lib.hid hr
  have H1 := Lib.hid h1
  have HN := Lib.hid hn
  clear hr h1 hn
  rcases A with _ | ad
  · have hn0 : n = 0 := by
      rcases Nat.eq_zero_or_pos n with h | h
      · exact h
      · obtain ⟨b, off, e, _⟩ := HR.out.2 h; cases e
    subst hn0
    have hx : xs = [] := List.eq_nil_of_length_eq_zero (by simpa using HR.out.1)
    subst hx
    go_enter Tryz.func97, Tryz.ntmps97
    go_wp2
    go_ret
    exact ⟨_, rfl, owns_nil _ _ _ _, Fr.refl _ _⟩
  · have HR2 : Hid (∃ B, Reads (w.alloc (.cells #[] 96)) B 2 (some ad) n xs) := Lib.hid (by
      rcases Nat.eq_zero_or_pos n with h | h
      · subst h
        have hx : xs = [] := List.eq_nil_of_length_eq_zero (by simpa using HR.out.1)
        subst hx
        exact ⟨0, Reads.none_⟩
      · obtain ⟨b, off, e, hb, hc⟩ := HR.out.2 h
        have hb0 : b < w.heap.size := by
          have hl : 0 < xs.length := by rw [HR.out.1]; exact Nat.mul_pos h (by decide)
          have := hc 0 xs[0] (List.getElem?_eq_getElem hl)
          rcases Nat.lt_or_ge b w.heap.size with hlt | hge
          · exact hlt
          · rw [Nat.add_zero] at this
            simp [World.cell?, Array.getElem?_eq_none hge] at this
        exact ⟨B, HR.out.1, fun _ => ⟨b, off, e, hb, fun j u hu => (World.cell?_alloc_lt w _ _ hb0).trans (hc j u hu)⟩⟩)
    have hOE : (w.alloc (.cells #[] 96)).ownsRow w.heap.size 96 2 (.slice (some ⟨w.heap.size, 0, none⟩) 0 0) 0 [] := owns_empty (Blk.new _ _ _) (Nat.le_refl _)
    have HOE := Lib.hid hOE
    clear hOE
    obtain ⟨B2, hR2⟩ := HR2.out
    have HR3 := Lib.hid hR2
    clear hR2 HR2 HR
    go_enter Tryz.func97, Tryz.ntmps97
    go_wp2_with (at_builtin; refine wpList_append_any _ rfl (.tmp 5) (.tmp 6) _ rfl w.heap.size 96 i0 _ 2 16 Tryz.underlying24 hi0 hi1 hi2 hi3 rfl (show 0 < 2 by decide) (.slice (some ⟨w.heap.size, 0, none⟩) 0 0) 0 [] rfl HOE.out B2 _ n _ xs rfl HR3.out H1.out (by have := HN.out; unfold maxLen; omega) (by have := HN.out; omega) (by simp) ?_; intro v' w' ho hg _)
    go_ret
    refine ⟨_, rfl, by simpa using ho, grow_of_grown ((Fr.refl _ w).alloc _) hg (fun g e => ?_)⟩
    simp only [Value.ownBlock, Option.some.injEq] at e
    omega
theorem owns_made {W : World} {B size n : Nat} {t : TypeId} {xs : List Value} (hl : xs.length = n * size) (hB : B ≤ W.heap.size) (hn : n ≤ maxLen) : (W.alloc (.cells xs.toArray t)).ownsRow B t size (.slice (some ⟨W.heap.size, 0, none⟩) n n) n xs :=
  ⟨hl, .inr ⟨W.heap.size, n, xs.toArray, rfl, hB, Blk.new _ _ _, Nat.le_refl _, hn, by simpa using hl, by simp [← hl]⟩⟩
theorem apart_new {W : World} {B size n m : Nat} {t : TypeId} {v u : Value} {xs : List Value} (h : W.ownsRow B t size v n xs) (hu : u = .slice (some ⟨W.heap.size, 0, none⟩) m m) : Apart u v := by
  intro g h1 h2
  subst hu
  simp only [Value.ownBlock, Option.some.injEq] at h1
  have := (h.lt g h2).2
  omega
theorem apart_newer {W W' : World} {B size size' n m : Nat} {t t' : TypeId} {v u : Value} {xs ys : List Value} (h : W.ownsRow B t size v n xs) (hu : W'.ownsRow W.heap.size t' size' u m ys) : Apart u v := by
  intro g h1 h2
  have := (h.lt g h2).2
  have := (hu.lt g h1).1
  omega
theorem made_pts (n : Nat) : madeCells #[Value.int .i64 0, .int .i64 0] (n * 2) = (pts (List.replicate n (0, 0))).toArray := by
  unfold madeCells
  apply Array.toList_inj.1
  simp only [Array.toList_map, Array.toList_range]
  induction n with
  | zero => rfl
  | succ n ih =>
    have happ : pts (List.replicate n ((0 : Int), (0 : Int)) ++ [(0, 0)]) = pts (List.replicate n (0, 0)) ++ [.int .i64 0, .int .i64 0] := by simp [pts]
    rw [List.replicate_succ', happ, ← ih, show (n + 1) * 2 = n * 2 + 1 + 1 by omega, List.range_succ, List.range_succ]
    simp only [List.map_append, List.map_cons, List.map_nil, List.append_assoc, List.cons_append, List.nil_append]
    have e0 : n * 2 % 2 = 0 := by omega
    have e1 : (n * 2 + 1) % 2 = 1 := by omega
    simp [e0, e1]
theorem made_ints (n : Nat) : madeCells #[Value.int .i64 0] n = (ints (List.replicate n 0)).toArray := by
  unfold madeCells
  apply Array.toList_inj.1
  simp only [Array.toList_map, Array.toList_range, ints, List.map_replicate]
  rw [List.eq_replicate_iff]
  exact ⟨by simp, by intro b hb; simp at hb; obtain ⟨a, ha, rfl⟩ := hb; rw [show a % 1 = 0 by omega]; rfl⟩
theorem make_rowN {P : Program} (t e : TypeId) (i : TypeInfo) (z : Value) (ht : P.underlying t = some (.slice e)) (hi : P.info? e = some i) (hz : i.zero = some z)
    (n : Nat) (hbytes : i.bytes * n ≤ 281474976710656) (h63 : n ≤ 9223372036854775807) (w : World) :
    (Instr.makeSlice t (.int .i64 (n : Int)) (.int .i64 (n : Int))).run P w = .ok (.slice (some ⟨w.heap.size, 0, none⟩) n n) (w.alloc (.cells (madeCells z.cells (n * i.size)) e)) := by
  have hb : (i.bytes : Int) * (n : Int) ≤ 281474976710656 := by
    have h : ((i.bytes * n : Nat) : Int) ≤ 281474976710656 := by omega
    rwa [Int.natCast_mul] at h
  have hr := run_make (P := P) w t e i z ht hi hz .i64 .i64 n n (by omega) (by omega) hb (by omega)
  simp only [Int.toNat_natCast] at hr
  exact hr
theorem make_pts (n : Nat) (hn : n ≤ 1000000) (w : World) : (Instr.makeSlice 28 (.int .i64 (n : Int)) (.int .i64 (n : Int))).run Tryz.prog w = .ok (.slice (some ⟨w.heap.size, 0, none⟩) n n) (w.alloc (.cells (pts (List.replicate n (0, 0))).toArray 76)) := by
  obtain ⟨i, hi, hz0, hz1, hz2⟩ := info_m info_pt
  have := make_rowN (P := Tryz.prog) 28 76 i _ Tryz.underlying28 hi hz0 n (by rw [hz2]; omega) (by omega) w
  rw [hz1, show (Value.agg #[.int .i64 0, .int .i64 0]).cells = #[.int .i64 0, .int .i64 0] from rfl, made_pts] at this
  exact this
theorem make_ints (n : Nat) (hn : n ≤ 1000000) (w : World) : (Instr.makeSlice 22 (.int .i64 (n : Int)) (.int .i64 (n : Int))).run Tryz.prog w = .ok (.slice (some ⟨w.heap.size, 0, none⟩) n n) (w.alloc (.cells (ints (List.replicate n 0)).toArray 3)) := by
  obtain ⟨i, hi, hz0, hz1, hz2⟩ := info_m info_int
  have := make_rowN (P := Tryz.prog) 22 3 i _ Tryz.underlying22 hi hz0 n (by rw [hz2]; omega) (by omega) w
  rw [hz1, Nat.mul_one, show (Value.int .i64 0).cells = #[.int .i64 0] from rfl, made_ints] at this
  exact this
end Go.Proofs.YtnhebmgibiomnaaGreat
namespace Go.Proofs.YtnhebmgibiomnaaGreat
open Go.RowKit Mc
end Go.Proofs.YtnhebmgibiomnaaGreat
namespace Go.Proofs.YtnhebmgibiomnaaGreat
open Go.RowKit Mc
end Go.Proofs.YtnhebmgibiomnaaGreat
namespace Go.Proofs.YtnhebmgibiomnaaGreat
open Go.RowKit Mc
section
variable {w w1 w2 : World} {O S : Nat → Prop} {mb : Nat} {L : Lay} {s : St} {e : Ending}
theorem MaL.notO (h : MaL w mb O L s) {k : Nat} (hk : w.heap.size ≤ k) : ¬ O k := fun e => by have := h.olt k e; omega
end
end Go.Proofs.YtnhebmgibiomnaaGreat
namespace Go.Proofs.YtnhebmgibiomnaaGreat
open Go.RowKit Mc
theorem rounded_any (mode n : Int) (w : World) : Calls Tryz.prog 117 #[.int .i64 mode, .int .i64 n] w fun e w' => e = .returned (.int .i64 (rounded mode n)) ∧ w = w' := by
  obtain ⟨k1, k2⟩ := k32_in n
  have m0 := Int.emod_nonneg mode (show (6 : Int) ≠ 0 by omega)
  have m1 := Int.emod_lt_of_pos mode (show (0 : Int) < 6 by omega)
  have hr : rounded mode n = k32 (if mode % 6 = 1 then (k32 n + 32) / 64 * 64 else if mode % 6 = 2 then k32 n / 64 * 64 + 32 else if mode % 6 = 3 then (k32 n + 16) / 32 * 32 else if mode % 6 = 4 then k32 n / 64 * 64 else if mode % 6 = 5 then (k32 n + 63) / 64 * 64 else k32 n) := rfl
  have HR := Lib.hid hr
  clear hr
  generalize hk : k32 n = k at *
  have HK := Lib.hid hk
  clear hk
  generalize hm : mode % 6 = m at *
  have HM := Lib.hid hm
  clear hm
  have h : m = 0 ∨ m = 1 ∨ m = 2 ∨ m = 3 ∨ m = 4 ∨ m = 5 := by omega
  rcases h with rfl | rfl | rfl | rfl | rfl | rfl
  all_goals
    clear m0 m1
    go_enter Tryz.func117, Tryz.ntmps117
    go_wp2_with fail
    refine (kept_any n _).mono ?_
    rintro e w1 ⟨rfl, rfl⟩
    rw [HK.out]
    go_wp2_with fail
    refine (rest_m mode 6 _ (by decide) (by decide)).mono ?_
    rintro e w1 ⟨rfl, rfl⟩
    rw [HM.out]
    go_wp2_with fail
    refine (kept_any _ _).mono ?_
    rintro e w1 ⟨rfl, rfl⟩
    go_wp2
    go_ret
    rw [HR.out]
    refine ⟨ret_i64 ?_, rfl⟩
    first | rfl | simp
theorem mul_in {x y : Int} (hx : -2147483648 ≤ x ∧ x ≤ 2147483647) (hy : -2147483648 ≤ y ∧ y ≤ 2147483647) : RowKit.wrap64 (x * y) = x * y := by
  refine IntWalk.wrap64_in _ ?_
  have h1 : x * y ≤ 4611686018427387904 := by
    rcases Int.le_total 0 x with h | h <;> rcases Int.le_total 0 y with h' | h'
    · have := Int.mul_le_mul (show x ≤ 2147483648 by omega) (show y ≤ 2147483648 by omega) h' (by omega); omega
    · have := Int.mul_nonpos_of_nonneg_of_nonpos h h'; omega
    · have := Int.mul_nonpos_of_nonpos_of_nonneg h h'; omega
    · have := Int.mul_le_mul (show -x ≤ 2147483648 by omega) (show -y ≤ 2147483648 by omega) (by omega) (by omega); rw [Int.neg_mul_neg] at this; omega
  have h2 : -4611686018427387904 ≤ x * y := by
    rcases Int.le_total 0 x with h | h <;> rcases Int.le_total 0 y with h' | h'
    · have := Int.mul_nonneg h h'; omega
    · have := Int.mul_le_mul (show x ≤ 2147483648 by omega) (show -y ≤ 2147483648 by omega) (by omega) (by omega); rw [Int.mul_neg] at this; omega
    · have := Int.mul_le_mul (show -x ≤ 2147483648 by omega) (show y ≤ 2147483648 by omega) (by omega) (by omega); rw [Int.neg_mul] at this; omega
    · have := Int.mul_nonneg_of_nonpos_of_nonpos h h'; omega
  omega
theorem divd_in {a b : Int} (h1 : -1000000000000 ≤ a) (h2 : a ≤ 1000000000000) : -1000000000000 ≤ divd a b ∧ divd a b ≤ 1000000000000 := by
  unfold divd
  split
  · omega
  · rename_i hb
    have key : ∀ a b : Int, -1000000000000 ≤ a → a ≤ 1000000000000 → 0 < b → -1000000000000 ≤ a / b ∧ a / b ≤ 1000000000000 := fun a b h1 h2 hb =>
      ⟨Int.le_ediv_of_mul_le hb (by omega), Int.ediv_le_of_le_mul hb (by omega)⟩
    rcases Int.lt_or_gt_of_ne hb with hb | hb
    · rw [← Int.neg_fdiv_neg, Int.fdiv_eq_ediv_of_nonneg _ (by omega)]
      exact key _ _ (by omega) (by omega) (by omega)
    · rw [Int.fdiv_eq_ediv_of_nonneg _ (by omega)]
      exact key _ _ h1 h2 hb
theorem w64_in {a : Int} (h1 : -9223372036854775808 ≤ a) (h2 : a ≤ 9223372036854775807) : w64 a = a := by unfold w64; omega
theorem d5 (x y : Int) (w : World) (hx : K32 x) (hy : K32 y) : Calls Tryz.prog 173 #[.int .i64 x, .int .i64 y] w fun e w' => e = .returned (.int .i64 (x + y)) ∧ w = w' := by
  unfold K32 at hx hy
  go_enter Tryz.func173, Tryz.ntmps173
  go_wp2
  go_ret
  exact ⟨rfl, rfl⟩
theorem d6 (x y : Int) (w : World) (hx : K32 x) (hy : K32 y) : Calls Tryz.prog 174 #[.int .i64 x, .int .i64 y] w fun e w' => e = .returned (.int .i64 (x - y)) ∧ w = w' := by
  unfold K32 at hx hy
  go_enter Tryz.func174, Tryz.ntmps174
  go_wp2
  go_ret
  exact ⟨rfl, rfl⟩
theorem d7 (x y : Int) (w : World) (hx : K32 x) (hy : K32 y) : Calls Tryz.prog 175 #[.int .i64 x, .int .i64 y] w fun e w' => e = .returned (.int .i64 (k32 (x * y / 64))) ∧ w = w' := by
  unfold K32 at hx hy
  have HM := Lib.hid (mul_in hx hy)
  go_enter Tryz.func175, Tryz.ntmps175
  go_wp2_with fail
  refine (kept64_any _ _).mono ?_
  rintro e w1 ⟨rfl, rfl⟩
  go_wp2
  go_ret
  exact ⟨ret_i64 (by rw [HM.out]), rfl⟩
theorem d8 (x y : Int) (w : World) (hx : K32 x) (_hy : K32 y) : Calls Tryz.prog 177 #[.int .i64 x, .int .i64 y] w fun e w' => e = .returned (.int .i64 (k32 (divd (64 * x) y))) ∧ w = w' := by
  unfold K32 at hx _hy
  go_enter Tryz.func177, Tryz.ntmps177
  go_wp2_with fail
  refine (divided_any _ _ _).mono ?_
  rintro e w1 ⟨rfl, rfl⟩
  go_wp2_with fail
  refine (kept64_any _ _).mono ?_
  rintro e w1 ⟨rfl, rfl⟩
  go_wp2
  go_ret
  have hd := divd_in (a := 64 * x) (b := y) (by omega) (by omega)
  exact ⟨ret_i64 (by rw [w64_in (by omega) (by omega)]), rfl⟩
theorem d9 (x : Int) (w : World) (hx : K32 x) : Calls Tryz.prog 180 #[.int .i64 x] w fun e w' => e = .returned (.int .i64 (-x)) ∧ w = w' := by
  unfold K32 at hx
  go_enter Tryz.func180, Tryz.ntmps180
  go_wp2
  go_ret
  exact ⟨rfl, rfl⟩
theorem d10 (x : Int) (w : World) (hx : K32 x) : Calls Tryz.prog 181 #[.int .i64 x] w fun e w' => e = .returned (.int .i64 (max x (-x))) ∧ w = w' := by
  unfold K32 at hx
  go_enter Tryz.func181, Tryz.ntmps181
  go_wp2
  all_goals
    go_ret
    exact ⟨ret_i64 (by omega), rfl⟩
theorem d11 (x y : Int) (w : World) (_hx : K32 x) (_hy : K32 y) : Calls Tryz.prog 182 #[.int .i64 x, .int .i64 y] w fun e w' => e = .returned (.int .i64 (min x y)) ∧ w = w' := by
  unfold K32 at _hx _hy
  go_enter Tryz.func182, Tryz.ntmps182
  go_wp2
  all_goals
    go_ret
    exact ⟨ret_i64 (by omega), rfl⟩
theorem d12 (x y : Int) (w : World) (_hx : K32 x) (_hy : K32 y) : Calls Tryz.prog 183 #[.int .i64 x, .int .i64 y] w fun e w' => e = .returned (.int .i64 (max x y)) ∧ w = w' := by
  unfold K32 at _hx _hy
  go_enter Tryz.func183, Tryz.ntmps183
  go_wp2
  all_goals
    go_ret
    exact ⟨ret_i64 (by omega), rfl⟩
theorem d13 (x : Int) (w : World) (_hx : K32 x) : Calls Tryz.prog 184 #[.int .i64 x] w fun e w' => e = .returned (.int .i64 (rounded 4 x)) ∧ w = w' := by
  unfold K32 at _hx
  go_enter Tryz.func184, Tryz.ntmps184
  go_wp2_with fail
  refine (rounded_any _ _ _).mono ?_
  rintro e w1 ⟨rfl, rfl⟩
  go_wp2
  go_ret
  exact ⟨rfl, rfl⟩
theorem d14 (x : Int) (w : World) (_hx : K32 x) : Calls Tryz.prog 185 #[.int .i64 x] w fun e w' => e = .returned (.int .i64 (rounded 5 x)) ∧ w = w' := by
  unfold K32 at _hx
  go_enter Tryz.func185, Tryz.ntmps185
  go_wp2_with fail
  refine (rounded_any _ _ _).mono ?_
  rintro e w1 ⟨rfl, rfl⟩
  go_wp2
  go_ret
  exact ⟨rfl, rfl⟩
theorem d16 (x y : Int) (w : World) (_hx : K32 x) (_hy : K32 y) : Calls Tryz.prog 187 #[.int .i64 x, .int .i64 y] w fun e w' => e = .returned (.int .i64 (truth (decide (x < y)))) ∧ w = w' := by
  unfold K32 at _hx _hy
  go_enter Tryz.func187, Tryz.ntmps187
  go_wp2_with fail
  refine (truth_any _ _).mono ?_
  rintro e w1 ⟨rfl, rfl⟩
  go_wp2
  go_ret
  exact ⟨ret_i64 (by first | rfl | (congr 1; simp)), rfl⟩
theorem d17 (x y : Int) (w : World) (_hx : K32 x) (_hy : K32 y) : Calls Tryz.prog 189 #[.int .i64 x, .int .i64 y] w fun e w' => e = .returned (.int .i64 (truth (decide (x ≤ y)))) ∧ w = w' := by
  unfold K32 at _hx _hy
  go_enter Tryz.func189, Tryz.ntmps189
  go_wp2_with fail
  refine (truth_any _ _).mono ?_
  rintro e w1 ⟨rfl, rfl⟩
  go_wp2
  go_ret
  exact ⟨ret_i64 (by first | rfl | (congr 1; simp)), rfl⟩
theorem d18 (x y : Int) (w : World) (_hx : K32 x) (_hy : K32 y) : Calls Tryz.prog 190 #[.int .i64 x, .int .i64 y] w fun e w' => e = .returned (.int .i64 (truth (decide (x = y)))) ∧ w = w' := by
  unfold K32 at _hx _hy
  go_enter Tryz.func190, Tryz.ntmps190
  go_wp2_with fail
  refine (truth_any _ _).mono ?_
  rintro e w1 ⟨rfl, rfl⟩
  go_wp2
  go_ret
  exact ⟨ret_i64 (by first | rfl | (congr 1; simp)), rfl⟩
theorem d19 (x : Int) (w : World) (_hx : K32 x) : Calls Tryz.prog 191 #[.int .i64 x] w fun e w' => e = .returned (.int .i64 (truth (decide (x = 0)))) ∧ w = w' := by
  unfold K32 at _hx
  go_enter Tryz.func191, Tryz.ntmps191
  go_wp2_with fail
  refine (truth_any _ _).mono ?_
  rintro e w1 ⟨rfl, rfl⟩
  go_wp2
  go_ret
  exact ⟨ret_i64 (by first | rfl | (congr 1; simp)), rfl⟩
theorem d20 (x y : Int) (w : World) (hx : K32 x) (hy : K32 y) : Calls Tryz.prog 192 #[.int .i64 x, .int .i64 y] w fun e w' => e = .returned (.int .i64 (truth (decide (x ≠ 0 ∧ y ≠ 0)))) ∧ w = w' := by
  unfold K32 at hx hy
  rcases Decidable.em (x = 0) with h | h <;> rcases Decidable.em (y = 0) with h' | h'
  all_goals
    have HV := Lib.hid (show truth (decide (x ≠ 0 ∧ y ≠ 0)) = truth (decide (x ≠ 0) && decide (y ≠ 0)) by simp)
    first | subst h | have b1 : (x != 0) = true := by simp [h]
    first | subst h' | have b2 : (y != 0) = true := by simp [h']
    go_enter Tryz.func192, Tryz.ntmps192
    go_wp2_with fail
    refine (truth_any _ _).mono ?_
    rintro e w1 ⟨rfl, rfl⟩
    go_wp2
    go_ret
    rw [HV.out]
    refine ⟨ret_i64 ?_, rfl⟩
    simp_all
theorem d21 (x y : Int) (w : World) (hx : K32 x) (hy : K32 y) : Calls Tryz.prog 193 #[.int .i64 x, .int .i64 y] w fun e w' => e = .returned (.int .i64 (truth (decide (x ≠ 0 ∨ y ≠ 0)))) ∧ w = w' := by
  unfold K32 at hx hy
  rcases Decidable.em (x = 0) with h | h <;> rcases Decidable.em (y = 0) with h' | h'
  all_goals
    have HV := Lib.hid (show truth (decide (x ≠ 0 ∨ y ≠ 0)) = truth (decide (x ≠ 0) || decide (y ≠ 0)) by simp)
    first | subst h | have b1 : (x != 0) = true := by simp [h]
    first | subst h' | have b2 : (y != 0) = true := by simp [h']
    go_enter Tryz.func193, Tryz.ntmps193
    go_wp2_with fail
    refine (truth_any _ _).mono ?_
    rintro e w1 ⟨rfl, rfl⟩
    go_wp2
    go_ret
    rw [HV.out]
    refine ⟨ret_i64 ?_, rfl⟩
    simp_all
end Go.Proofs.YtnhebmgibiomnaaGreat
namespace Go.Proofs.YtnhebmgibiomnaaGreat
open Go.RowKit Mc
section
variable {w : World} {mb : Nat} {O : Nat → Prop} {L : Lay} {s : St}
end
end Go.Proofs.YtnhebmgibiomnaaGreat
namespace Go.Proofs.YtnhebmgibiomnaaGreat
open Go.RowKit Mc
section
variable {w w' : World} {mb : Nat} {O : Nat → Prop} {L : Lay} {s : St} {r : List Int} {n : Nat}
theorem Mc.Ok.cvt_ (h : Ok s) {l : List Int} (h1 : ∀ x ∈ l, K32 x) (h2 : l.length = s.cvt.length) : Ok { s with cvt := l } :=
  ⟨h.stack, h.slen, h1, h.store, h.stl, h.cur, h.org, h.orgl, h.touch, h.tl, h.size, h.look, h.move, h.mode, h.peak, h.frames, h.flen, h.funcs, h.fnl, h.cont, h.contl, h.curl, by rw [h2]; exact h.cvl, h.endl⟩
theorem MaL.setCv (h : MaL w mb O L s) {g m c : Nat} (hv : L.cv = .slice (some ⟨g, 0, none⟩) m c) {i : Nat} (hi : i < s.cvt.length) {v : Int} (hk : K32 v) : MaL (w.setCell ⟨g, i, none⟩ (.int .i64 v)) mb O L { s with cvt := s.cvt.set i v } := by
  have hob : L.cv.ownBlock = some g := by rw [hv]; rfl
  have hg : g ≠ mb := h.cv.ne_blk h.blk (by decide) hob
  refine h.cvt_ (by simp) ?_ (Below.heap_setCell _ _ _ _ hg.symm) (fun k _ _ hk => Below.heap_setCell _ _ _ _ (fun e => hk (by rw [hob, e]))) (fun _ h => h) (fun k hk => by have := h.olt k hk; simpa [World.setCell] using this) (h.ok.cvt_ (mem_set_k h.ok.cvt hk) (by simp))
  rw [ints_set]
  exact h.cv.set_ hob (by rw [ints_len]; exact hi) _
end
end Go.Proofs.YtnhebmgibiomnaaGreat

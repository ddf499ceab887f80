/- slices.Clone of ints, points and instructions: its contracts. -/
import Derived.Test.YtnalbkjbidaojaaZBase
namespace Go.Proofs.Ytnalbkjbidaojaa
open Go.RowKit Mc

set_option maxRecDepth 100000 in
theorem clone_int (w : World) (A : Option Addr) (n c B : Nat) (xs : List Value) (hr : Reads w B 1 A n xs) (h1 : ∀ u ∈ xs, u.oneCell' = true) (hn : n ≤ 1000000000000) :
    Calls Try.prog 22 #[.slice A n c] w (ClPost w 3 1 n xs) := by
  obtain ⟨i0, hi0, hi1, hi2, hi3⟩ := info_m info_int
  have q0 : ∀ (w : World) (a : Option Addr) (n c n' c' : Nat), (binOp .eql 30 (.slice a n c) (.slice none n' c')).run Try.prog w = .ok (.bool a.isNone) w := fun w a n c n' c' => Lib.run_eql_slice_nil w _ _ a n c n' c' Try.underlying30
  have HR := Lib.hid hr
  have H1 := Lib.hid h1
  have HN := Lib.hid hn
  clear hr h1 hn
  rcases A with _ | ad
  · have hn0 : n = 0 := by
      rcases Nat.eq_zero_or_pos n with h | h
      · exact h
      · obtain ⟨b, off, e, _⟩ := HR.out.2 h; cases e
    subst hn0
    have hx : xs = [] := List.eq_nil_of_length_eq_zero (by simpa using HR.out.1)
    subst hx
    go_enter Try.func22, Try.ntmps22
    go_wp2
    go_ret
    exact ⟨_, rfl, owns_nil _ _ _ _, Fr.refl _ _⟩
  · have HR2 : Hid (∃ B, Reads (w.alloc (.cells #[] 3)) B 1 (some ad) n xs) := Lib.hid (by
      rcases Nat.eq_zero_or_pos n with h | h
      · subst h
        have hx : xs = [] := List.eq_nil_of_length_eq_zero (by simpa using HR.out.1)
        subst hx
        exact ⟨0, Reads.none_⟩
      · obtain ⟨b, off, e, hb, hc⟩ := HR.out.2 h
        have hb0 : b < w.heap.size := by
          have hl : 0 < xs.length := by rw [HR.out.1]; exact Nat.mul_pos h (by decide)
          have := hc 0 xs[0] (List.getElem?_eq_getElem hl)
          rcases Nat.lt_or_ge b w.heap.size with hlt | hge
          · exact hlt
          · rw [Nat.add_zero] at this
            simp [World.cell?, Array.getElem?_eq_none hge] at this
        exact ⟨B, HR.out.1, fun _ => ⟨b, off, e, hb, fun j u hu => (World.cell?_alloc_lt w _ _ hb0).trans (hc j u hu)⟩⟩)
    have hOE : (w.alloc (.cells #[] 3)).ownsRow w.heap.size 3 1 (.slice (some ⟨w.heap.size, 0, none⟩) 0 0) 0 [] := owns_empty (Blk.new _ _ _) (Nat.le_refl _)
    have HOE := Lib.hid hOE
    clear hOE
    obtain ⟨B2, hR2⟩ := HR2.out
    have HR3 := Lib.hid hR2
    clear hR2 HR2 HR
    go_enter Try.func22, Try.ntmps22
    go_wp2_with (at_builtin; refine wpList_append_any _ rfl (.tmp 5) (.tmp 6) _ rfl w.heap.size 3 i0 _ 1 8 Try.underlying30 hi0 hi1 hi2 hi3 rfl (show 0 < 1 by decide) (.slice (some ⟨w.heap.size, 0, none⟩) 0 0) 0 [] rfl HOE.out B2 _ n _ xs rfl HR3.out H1.out (by have := HN.out; unfold maxLen; omega) (by have := HN.out; omega) (by simp) ?_; intro v' w' ho hg _)
    go_ret
    refine ⟨_, rfl, by simpa using ho, grow_of_grown ((Fr.refl _ w).alloc _) hg (fun g e => ?_)⟩
    simp only [Value.ownBlock, Option.some.injEq] at e
    omega
set_option maxRecDepth 100000 in
theorem clone_pt (w : World) (A : Option Addr) (n c B : Nat) (xs : List Value) (hr : Reads w B 2 A n xs) (h1 : ∀ u ∈ xs, u.oneCell' = true) (hn : n ≤ 1000000000000) :
    Calls Try.prog 21 #[.slice A n c] w (ClPost w 63 2 n xs) := by
  obtain ⟨i0, hi0, hi1, hi2, hi3⟩ := info_m info_pt
  have q0 : ∀ (w : World) (a : Option Addr) (n c n' c' : Nat), (binOp .eql 45 (.slice a n c) (.slice none n' c')).run Try.prog w = .ok (.bool a.isNone) w := fun w a n c n' c' => Lib.run_eql_slice_nil w _ _ a n c n' c' Try.underlying45
  have HR := Lib.hid hr
  have H1 := Lib.hid h1
  have HN := Lib.hid hn
  clear hr h1 hn
  rcases A with _ | ad
  · have hn0 : n = 0 := by
      rcases Nat.eq_zero_or_pos n with h | h
      · exact h
      · obtain ⟨b, off, e, _⟩ := HR.out.2 h; cases e
    subst hn0
    have hx : xs = [] := List.eq_nil_of_length_eq_zero (by simpa using HR.out.1)
    subst hx
    go_enter Try.func21, Try.ntmps21
    go_wp2
    go_ret
    exact ⟨_, rfl, owns_nil _ _ _ _, Fr.refl _ _⟩
  · have HR2 : Hid (∃ B, Reads (w.alloc (.cells #[] 63)) B 2 (some ad) n xs) := Lib.hid (by
      rcases Nat.eq_zero_or_pos n with h | h
      · subst h
        have hx : xs = [] := List.eq_nil_of_length_eq_zero (by simpa using HR.out.1)
        subst hx
        exact ⟨0, Reads.none_⟩
      · obtain ⟨b, off, e, hb, hc⟩ := HR.out.2 h
        have hb0 : b < w.heap.size := by
          have hl : 0 < xs.length := by rw [HR.out.1]; exact Nat.mul_pos h (by decide)
          have := hc 0 xs[0] (List.getElem?_eq_getElem hl)
          rcases Nat.lt_or_ge b w.heap.size with hlt | hge
          · exact hlt
          · rw [Nat.add_zero] at this
            simp [World.cell?, Array.getElem?_eq_none hge] at this
        exact ⟨B, HR.out.1, fun _ => ⟨b, off, e, hb, fun j u hu => (World.cell?_alloc_lt w _ _ hb0).trans (hc j u hu)⟩⟩)
    have hOE : (w.alloc (.cells #[] 63)).ownsRow w.heap.size 63 2 (.slice (some ⟨w.heap.size, 0, none⟩) 0 0) 0 [] := owns_empty (Blk.new _ _ _) (Nat.le_refl _)
    have HOE := Lib.hid hOE
    clear hOE
    obtain ⟨B2, hR2⟩ := HR2.out
    have HR3 := Lib.hid hR2
    clear hR2 HR2 HR
    go_enter Try.func21, Try.ntmps21
    go_wp2_with (at_builtin; refine wpList_append_any _ rfl (.tmp 5) (.tmp 6) _ rfl w.heap.size 63 i0 _ 2 16 Try.underlying45 hi0 hi1 hi2 hi3 rfl (show 0 < 2 by decide) (.slice (some ⟨w.heap.size, 0, none⟩) 0 0) 0 [] rfl HOE.out B2 _ n _ xs rfl HR3.out H1.out (by have := HN.out; unfold maxLen; omega) (by have := HN.out; omega) (by simp) ?_; intro v' w' ho hg _)
    go_ret
    refine ⟨_, rfl, by simpa using ho, grow_of_grown ((Fr.refl _ w).alloc _) hg (fun g e => ?_)⟩
    simp only [Value.ownBlock, Option.some.injEq] at e
    omega
set_option maxRecDepth 100000 in
theorem clone_ins (w : World) (A : Option Addr) (n c B : Nat) (xs : List Value) (hr : Reads w B 2 A n xs) (h1 : ∀ u ∈ xs, u.oneCell' = true) (hn : n ≤ 1000000000000) :
    Calls Try.prog 23 #[.slice A n c] w (ClPost w 68 2 n xs) := by
  obtain ⟨i0, hi0, hi1, hi2, hi3⟩ := info_m info_ins
  have q0 : ∀ (w : World) (a : Option Addr) (n c n' c' : Nat), (binOp .eql 49 (.slice a n c) (.slice none n' c')).run Try.prog w = .ok (.bool a.isNone) w := fun w a n c n' c' => Lib.run_eql_slice_nil w _ _ a n c n' c' Try.underlying49
  have HR := Lib.hid hr
  have H1 := Lib.hid h1
  have HN := Lib.hid hn
  clear hr h1 hn
  rcases A with _ | ad
  · have hn0 : n = 0 := by
      rcases Nat.eq_zero_or_pos n with h | h
      · exact h
      · obtain ⟨b, off, e, _⟩ := HR.out.2 h; cases e
    subst hn0
    have hx : xs = [] := List.eq_nil_of_length_eq_zero (by simpa using HR.out.1)
    subst hx
    go_enter Try.func23, Try.ntmps23
    go_wp2
    go_ret
    exact ⟨_, rfl, owns_nil _ _ _ _, Fr.refl _ _⟩
  · have HR2 : Hid (∃ B, Reads (w.alloc (.cells #[] 68)) B 2 (some ad) n xs) := Lib.hid (by
      rcases Nat.eq_zero_or_pos n with h | h
      · subst h
        have hx : xs = [] := List.eq_nil_of_length_eq_zero (by simpa using HR.out.1)
        subst hx
        exact ⟨0, Reads.none_⟩
      · obtain ⟨b, off, e, hb, hc⟩ := HR.out.2 h
        have hb0 : b < w.heap.size := by
          have hl : 0 < xs.length := by rw [HR.out.1]; exact Nat.mul_pos h (by decide)
          have := hc 0 xs[0] (List.getElem?_eq_getElem hl)
          rcases Nat.lt_or_ge b w.heap.size with hlt | hge
          · exact hlt
          · rw [Nat.add_zero] at this
            simp [World.cell?, Array.getElem?_eq_none hge] at this
        exact ⟨B, HR.out.1, fun _ => ⟨b, off, e, hb, fun j u hu => (World.cell?_alloc_lt w _ _ hb0).trans (hc j u hu)⟩⟩)
    have hOE : (w.alloc (.cells #[] 68)).ownsRow w.heap.size 68 2 (.slice (some ⟨w.heap.size, 0, none⟩) 0 0) 0 [] := owns_empty (Blk.new _ _ _) (Nat.le_refl _)
    have HOE := Lib.hid hOE
    clear hOE
    obtain ⟨B2, hR2⟩ := HR2.out
    have HR3 := Lib.hid hR2
    clear hR2 HR2 HR
    go_enter Try.func23, Try.ntmps23
    go_wp2_with (at_builtin; refine wpList_append_any _ rfl (.tmp 5) (.tmp 6) _ rfl w.heap.size 68 i0 _ 2 16 Try.underlying49 hi0 hi1 hi2 hi3 rfl (show 0 < 2 by decide) (.slice (some ⟨w.heap.size, 0, none⟩) 0 0) 0 [] rfl HOE.out B2 _ n _ xs rfl HR3.out H1.out (by have := HN.out; unfold maxLen; omega) (by have := HN.out; omega) (by simp) ?_; intro v' w' ho hg _)
    go_ret
    refine ⟨_, rfl, by simpa using ho, grow_of_grown ((Fr.refl _ w).alloc _) hg (fun g e => ?_)⟩
    simp only [Value.ownBlock, Option.some.injEq] at e
    omega
theorem owns_made {W : World} {B size n : Nat} {t : TypeId} {xs : List Value} (hl : xs.length = n * size) (hB : B ≤ W.heap.size) (hn : n ≤ maxLen) : (W.alloc (.cells xs.toArray t)).ownsRow B t size (.slice (some ⟨W.heap.size, 0, none⟩) n n) n xs :=
  ⟨hl, .inr ⟨W.heap.size, n, xs.toArray, rfl, hB, Blk.new _ _ _, Nat.le_refl _, hn, by simpa using hl, by simp [← hl]⟩⟩
theorem apart_new {W : World} {B size n m : Nat} {t : TypeId} {v u : Value} {xs : List Value} (h : W.ownsRow B t size v n xs) (hu : u = .slice (some ⟨W.heap.size, 0, none⟩) m m) : Apart u v := by
  intro g h1 h2
  subst hu
  simp only [Value.ownBlock, Option.some.injEq] at h1
  have := (h.lt g h2).2
  omega
theorem apart_newer {W W' : World} {B size size' n m : Nat} {t t' : TypeId} {v u : Value} {xs ys : List Value} (h : W.ownsRow B t size v n xs) (hu : W'.ownsRow W.heap.size t' size' u m ys) : Apart u v := by
  intro g h1 h2
  have := (h.lt g h2).2
  have := (hu.lt g h1).1
  omega
theorem made_pts (n : Nat) : madeCells #[Value.int .i64 0, .int .i64 0] (n * 2) = (pts (List.replicate n (0, 0))).toArray := by
  unfold madeCells
  apply Array.toList_inj.1
  simp only [Array.toList_map, Array.toList_range]
  induction n with
  | zero => rfl
  | succ n ih =>
    have happ : pts (List.replicate n ((0 : Int), (0 : Int)) ++ [(0, 0)]) = pts (List.replicate n (0, 0)) ++ [.int .i64 0, .int .i64 0] := by simp [pts]
    rw [List.replicate_succ', happ, ← ih, show (n + 1) * 2 = n * 2 + 1 + 1 by omega, List.range_succ, List.range_succ]
    simp only [List.map_append, List.map_cons, List.map_nil, List.append_assoc, List.cons_append, List.nil_append]
    have e0 : n * 2 % 2 = 0 := by omega
    have e1 : (n * 2 + 1) % 2 = 1 := by omega
    simp [e0, e1]
theorem made_ints (n : Nat) : madeCells #[Value.int .i64 0] n = (ints (List.replicate n 0)).toArray := by
  unfold madeCells
  apply Array.toList_inj.1
  simp only [Array.toList_map, Array.toList_range, ints, List.map_replicate]
  rw [List.eq_replicate_iff]
  exact ⟨by simp, by intro b hb; simp at hb; obtain ⟨a, ha, rfl⟩ := hb; rw [show a % 1 = 0 by omega]; rfl⟩
theorem make_rowN {P : Program} (t e : TypeId) (i : TypeInfo) (z : Value) (ht : P.underlying t = some (.slice e)) (hi : P.info? e = some i) (hz : i.zero = some z)
    (n : Nat) (hbytes : i.bytes * n ≤ 281474976710656) (h63 : n ≤ 9223372036854775807) (w : World) :
    (Instr.makeSlice t (.int .i64 (n : Int)) (.int .i64 (n : Int))).run P w = .ok (.slice (some ⟨w.heap.size, 0, none⟩) n n) (w.alloc (.cells (madeCells z.cells (n * i.size)) e)) := by
  have hb : (i.bytes : Int) * (n : Int) ≤ 281474976710656 := by
    have h : ((i.bytes * n : Nat) : Int) ≤ 281474976710656 := by omega
    rwa [Int.natCast_mul] at h
  have hr := run_make (P := P) w t e i z ht hi hz .i64 .i64 n n (by omega) (by omega) hb (by omega)
  simp only [Int.toNat_natCast] at hr
  exact hr
theorem make_pts (n : Nat) (hn : n ≤ 1000000) (w : World) : (Instr.makeSlice 45 (.int .i64 (n : Int)) (.int .i64 (n : Int))).run Try.prog w = .ok (.slice (some ⟨w.heap.size, 0, none⟩) n n) (w.alloc (.cells (pts (List.replicate n (0, 0))).toArray 63)) := by
  obtain ⟨i, hi, hz0, hz1, hz2⟩ := info_m info_pt
  have := make_rowN (P := Try.prog) 45 63 i _ Try.underlying45 hi hz0 n (by rw [hz2]; omega) (by omega) w
  rw [hz1, show (Value.agg #[.int .i64 0, .int .i64 0]).cells = #[.int .i64 0, .int .i64 0] from rfl, made_pts] at this
  exact this
theorem make_ints (n : Nat) (hn : n ≤ 1000000) (w : World) : (Instr.makeSlice 30 (.int .i64 (n : Int)) (.int .i64 (n : Int))).run Try.prog w = .ok (.slice (some ⟨w.heap.size, 0, none⟩) n n) (w.alloc (.cells (ints (List.replicate n 0)).toArray 3)) := by
  obtain ⟨i, hi, hz0, hz1, hz2⟩ := info_m info_int
  have := make_rowN (P := Try.prog) 30 3 i _ Try.underlying30 hi hz0 n (by rw [hz2]; omega) (by omega) w
  rw [hz1, Nat.mul_one, show (Value.int .i64 0).cells = #[.int .i64 0] from rfl, made_ints] at this
  exact this
theorem pts_setA {l : List (Int × Int)} {i : Nat} (h : i < l.length) (a b : Int) : ((pts l).toArray.setIfInBounds (i * 2) (.int .i64 a)).setIfInBounds (i * 2 + 1) (.int .i64 b) = (pts (l.set i (a, b))).toArray := by
  rw [pts_setp h]
  simp
theorem ints_setA (l : List Int) (i : Nat) (a : Int) : (ints l).toArray.setIfInBounds i (.int .i64 a) = (ints (l.set i a)).toArray := by
  rw [ints_set]
  simp
theorem ints_flatF (l : List Int) : l.flatMap (fun x => [Value.int .i64 x]) = ints l := by
  unfold ints
  induction l with
  | nil => rfl
  | cons a r ih => rw [List.flatMap_cons, ih]; rfl
end Go.Proofs.Ytnalbkjbidaojaa

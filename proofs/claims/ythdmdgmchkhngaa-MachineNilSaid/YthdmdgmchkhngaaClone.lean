/- slices.Clone, as the machine uses it: its contract. -/
import Derived.Test.YthdmdgmchkhngaaMaE
import Derived.Lib.SliceRun
namespace Go.Proofs.Ythdmdgmchkhngaa
open Go.RowKit Mc

abbrev Grow (w w' : World) : Prop := Fr (fun _ => False) w w'
theorem Grow.below {w w' : World} {B : Nat} (h : Grow w w') (hB : B ≤ w.heap.size) : Below B w w' := Fr.below h hB fun _ _ x => x
theorem owns_grow {w w' : World} {base size n : Nat} {t : TypeId} {v : Value} {xs : List Value} (h : w.ownsRow base t size v n xs) (hg : Grow w w') : w'.ownsRow base t size v n xs := by
  refine ⟨h.1, ?_⟩
  rcases h.2 with h1 | ⟨g, cap, cur, hv, hb, hh, hr⟩
  · exact .inl h1
  · exact .inr ⟨g, cap, cur, hv, hb, (hg.block g (Array.getElem?_eq_some_iff.1 hh).1 (fun x => x)).trans hh, hr⟩
theorem owns_mono {w : World} {base base' size n : Nat} {t : TypeId} {v : Value} {xs : List Value} (h : w.ownsRow base t size v n xs) (hb : base' ≤ base) : w.ownsRow base' t size v n xs := by
  refine ⟨h.1, ?_⟩
  rcases h.2 with h1 | ⟨g, cap, cur, hv, hle, hr⟩
  · exact .inl h1
  · exact .inr ⟨g, cap, cur, hv, by omega, hr⟩
theorem owns_nil (w : World) (base size : Nat) (t : TypeId) : w.ownsRow base t size (.slice none 0 0) 0 [] := ⟨by simp, .inl ⟨rfl, rfl⟩⟩
theorem owns_empty {w : World} {base size g : Nat} {t : TypeId} (hb : Blk w g t #[]) (hg : base ≤ g) : w.ownsRow base t size (.slice (some ⟨g, 0, none⟩) 0 0) 0 [] :=
  ⟨by simp, .inr ⟨g, 0, #[], rfl, hg, hb, Nat.le_refl _, by unfold maxLen; omega, by simp, by simp⟩⟩
/-- what a clone is -/
def ClPost (w : World) (t : TypeId) (size n : Nat) (xs : List Value) (e : Ending) (w' : World) : Prop := ∃ v, e = .returned v ∧ w'.ownsRow w.heap.size t size v n xs ∧ Grow w w'
theorem grow_of_grown {w w1 w' : World} {r : Option Nat} (h1 : Grow w w1) (hg : w1.grownBy w' r) (h : ∀ g, r = some g → w.heap.size ≤ g) : Grow w w' :=
  ⟨hg.os.trans h1.os, hg.tape.trans h1.tape, hg.output.trans h1.output, Nat.le_trans h1.size hg.size, fun k hk hs => (hg.block k (Nat.lt_of_lt_of_le hk h1.size) (fun e => by have := h k e.symm; omega)).trans (h1.block k hk hs)⟩
theorem info_pt : (Try.prog.info? 29).map (fun i => (i.zero, i.size, i.bytes)) = some (some (.agg #[.int .i64 0, .int .i64 0]), 2, 16) := by kernel_rfl
theorem info_ins : (Try.prog.info? 39).map (fun i => (i.zero, i.size, i.bytes)) = some (some (.agg #[.int .i64 0, .int .i64 0]), 2, 16) := by kernel_rfl

set_option maxRecDepth 100000 in
theorem clone_int (w : World) (A : Option Addr) (n c B : Nat) (xs : List Value) (hr : Reads w B 1 A n xs) (h1 : ∀ u ∈ xs, u.oneCell' = true) (hn : n ≤ 1000000000000) :
    Calls Try.prog 28 #[.slice A n c] w (ClPost w 3 1 n xs) := by
  obtain ⟨i0, hi0, hi1, hi2, hi3⟩ := info_m info_int
  have q0 : ∀ (w : World) (a : Option Addr) (n c n' c' : Nat), (binOp .eql 31 (.slice a n c) (.slice none n' c')).run Try.prog w = .ok (.bool a.isNone) w := fun w a n c n' c' => Lib.run_eql_slice_nil w _ _ a n c n' c' Try.underlying31
  have HR := Lib.hid hr
  have H1 := Lib.hid h1
  have HN := Lib.hid hn
  clear hr h1 hn
  rcases A with _ | ad
  · have hn0 : n = 0 := by
      rcases Nat.eq_zero_or_pos n with h | h
      · exact h
      · obtain ⟨b, off, e, _⟩ := HR.out.2 h; cases e
    subst hn0
    have hx : xs = [] := List.eq_nil_of_length_eq_zero (by simpa using HR.out.1)
    subst hx
    go_enter Try.func28, Try.ntmps28
    go_wp2
    go_ret
    exact ⟨_, rfl, owns_nil _ _ _ _, Fr.refl _ _⟩
  · have HR2 : Hid (∃ B, Reads (w.alloc (.cells #[] 3)) B 1 (some ad) n xs) := Lib.hid (by
      rcases Nat.eq_zero_or_pos n with h | h
      · subst h
        have hx : xs = [] := List.eq_nil_of_length_eq_zero (by simpa using HR.out.1)
        subst hx
        exact ⟨0, Reads.none_⟩
      · obtain ⟨b, off, e, hb, hc⟩ := HR.out.2 h
        have hb0 : b < w.heap.size := by
          have hl : 0 < xs.length := by rw [HR.out.1]; exact Nat.mul_pos h (by decide)
          have := hc 0 xs[0] (List.getElem?_eq_getElem hl)
          rcases Nat.lt_or_ge b w.heap.size with hlt | hge
          · exact hlt
          · rw [Nat.add_zero] at this
            simp [World.cell?, Array.getElem?_eq_none hge] at this
        exact ⟨B, HR.out.1, fun _ => ⟨b, off, e, hb, fun j u hu => (World.cell?_alloc_lt w _ _ hb0).trans (hc j u hu)⟩⟩)
    have hOE : (w.alloc (.cells #[] 3)).ownsRow w.heap.size 3 1 (.slice (some ⟨w.heap.size, 0, none⟩) 0 0) 0 [] := owns_empty (Blk.new _ _ _) (Nat.le_refl _)
    have HOE := Lib.hid hOE
    clear hOE
    obtain ⟨B2, hR2⟩ := HR2.out
    have HR3 := Lib.hid hR2
    clear hR2 HR2 HR
    go_enter Try.func28, Try.ntmps28
    go_wp2_with (at_builtin; refine wpList_append_any _ rfl (.tmp 5) (.tmp 6) _ rfl w.heap.size 3 i0 _ 1 8 Try.underlying31 hi0 hi1 hi2 hi3 rfl (show 0 < 1 by decide) (.slice (some ⟨w.heap.size, 0, none⟩) 0 0) 0 [] rfl HOE.out B2 _ n _ xs rfl HR3.out H1.out (by have := HN.out; unfold maxLen; omega) (by have := HN.out; omega) (by simp) ?_; intro v' w' ho hg _)
    go_ret
    refine ⟨_, rfl, by simpa using ho, grow_of_grown ((Fr.refl _ w).alloc _) hg (fun g e => ?_)⟩
    simp only [Value.ownBlock, Option.some.injEq] at e
    omega

set_option maxRecDepth 100000 in
theorem clone_pt (w : World) (A : Option Addr) (n c B : Nat) (xs : List Value) (hr : Reads w B 2 A n xs) (h1 : ∀ u ∈ xs, u.oneCell' = true) (hn : n ≤ 1000000000000) :
    Calls Try.prog 27 #[.slice A n c] w (ClPost w 29 2 n xs) := by
  obtain ⟨i0, hi0, hi1, hi2, hi3⟩ := info_m info_pt
  have q0 : ∀ (w : World) (a : Option Addr) (n c n' c' : Nat), (binOp .eql 30 (.slice a n c) (.slice none n' c')).run Try.prog w = .ok (.bool a.isNone) w := fun w a n c n' c' => Lib.run_eql_slice_nil w _ _ a n c n' c' Try.underlying30
  have HR := Lib.hid hr
  have H1 := Lib.hid h1
  have HN := Lib.hid hn
  clear hr h1 hn
  rcases A with _ | ad
  · have hn0 : n = 0 := by
      rcases Nat.eq_zero_or_pos n with h | h
      · exact h
      · obtain ⟨b, off, e, _⟩ := HR.out.2 h; cases e
    subst hn0
    have hx : xs = [] := List.eq_nil_of_length_eq_zero (by simpa using HR.out.1)
    subst hx
    go_enter Try.func27, Try.ntmps27
    go_wp2
    go_ret
    exact ⟨_, rfl, owns_nil _ _ _ _, Fr.refl _ _⟩
  · have HR2 : Hid (∃ B, Reads (w.alloc (.cells #[] 29)) B 2 (some ad) n xs) := Lib.hid (by
      rcases Nat.eq_zero_or_pos n with h | h
      · subst h
        have hx : xs = [] := List.eq_nil_of_length_eq_zero (by simpa using HR.out.1)
        subst hx
        exact ⟨0, Reads.none_⟩
      · obtain ⟨b, off, e, hb, hc⟩ := HR.out.2 h
        have hb0 : b < w.heap.size := by
          have hl : 0 < xs.length := by rw [HR.out.1]; exact Nat.mul_pos h (by decide)
          have := hc 0 xs[0] (List.getElem?_eq_getElem hl)
          rcases Nat.lt_or_ge b w.heap.size with hlt | hge
          · exact hlt
          · rw [Nat.add_zero] at this
            simp [World.cell?, Array.getElem?_eq_none hge] at this
        exact ⟨B, HR.out.1, fun _ => ⟨b, off, e, hb, fun j u hu => (World.cell?_alloc_lt w _ _ hb0).trans (hc j u hu)⟩⟩)
    have hOE : (w.alloc (.cells #[] 29)).ownsRow w.heap.size 29 2 (.slice (some ⟨w.heap.size, 0, none⟩) 0 0) 0 [] := owns_empty (Blk.new _ _ _) (Nat.le_refl _)
    have HOE := Lib.hid hOE
    clear hOE
    obtain ⟨B2, hR2⟩ := HR2.out
    have HR3 := Lib.hid hR2
    clear hR2 HR2 HR
    go_enter Try.func27, Try.ntmps27
    go_wp2_with (at_builtin; refine wpList_append_any _ rfl (.tmp 5) (.tmp 6) _ rfl w.heap.size 29 i0 _ 2 16 Try.underlying30 hi0 hi1 hi2 hi3 rfl (show 0 < 2 by decide) (.slice (some ⟨w.heap.size, 0, none⟩) 0 0) 0 [] rfl HOE.out B2 _ n _ xs rfl HR3.out H1.out (by have := HN.out; unfold maxLen; omega) (by have := HN.out; omega) (by simp) ?_; intro v' w' ho hg _)
    go_ret
    refine ⟨_, rfl, by simpa using ho, grow_of_grown ((Fr.refl _ w).alloc _) hg (fun g e => ?_)⟩
    simp only [Value.ownBlock, Option.some.injEq] at e
    omega

set_option maxRecDepth 100000 in
theorem clone_ins (w : World) (A : Option Addr) (n c B : Nat) (xs : List Value) (hr : Reads w B 2 A n xs) (h1 : ∀ u ∈ xs, u.oneCell' = true) (hn : n ≤ 1000000000000) :
    Calls Try.prog 29 #[.slice A n c] w (ClPost w 39 2 n xs) := by
  obtain ⟨i0, hi0, hi1, hi2, hi3⟩ := info_m info_ins
  have q0 : ∀ (w : World) (a : Option Addr) (n c n' c' : Nat), (binOp .eql 40 (.slice a n c) (.slice none n' c')).run Try.prog w = .ok (.bool a.isNone) w := fun w a n c n' c' => Lib.run_eql_slice_nil w _ _ a n c n' c' Try.underlying40
  have HR := Lib.hid hr
  have H1 := Lib.hid h1
  have HN := Lib.hid hn
  clear hr h1 hn
  rcases A with _ | ad
  · have hn0 : n = 0 := by
      rcases Nat.eq_zero_or_pos n with h | h
      · exact h
      · obtain ⟨b, off, e, _⟩ := HR.out.2 h; cases e
    subst hn0
    have hx : xs = [] := List.eq_nil_of_length_eq_zero (by simpa using HR.out.1)
    subst hx
    go_enter Try.func29, Try.ntmps29
    go_wp2
    go_ret
    exact ⟨_, rfl, owns_nil _ _ _ _, Fr.refl _ _⟩
  · have HR2 : Hid (∃ B, Reads (w.alloc (.cells #[] 39)) B 2 (some ad) n xs) := Lib.hid (by
      rcases Nat.eq_zero_or_pos n with h | h
      · subst h
        have hx : xs = [] := List.eq_nil_of_length_eq_zero (by simpa using HR.out.1)
        subst hx
        exact ⟨0, Reads.none_⟩
      · obtain ⟨b, off, e, hb, hc⟩ := HR.out.2 h
        have hb0 : b < w.heap.size := by
          have hl : 0 < xs.length := by rw [HR.out.1]; exact Nat.mul_pos h (by decide)
          have := hc 0 xs[0] (List.getElem?_eq_getElem hl)
          rcases Nat.lt_or_ge b w.heap.size with hlt | hge
          · exact hlt
          · rw [Nat.add_zero] at this
            simp [World.cell?, Array.getElem?_eq_none hge] at this
        exact ⟨B, HR.out.1, fun _ => ⟨b, off, e, hb, fun j u hu => (World.cell?_alloc_lt w _ _ hb0).trans (hc j u hu)⟩⟩)
    have hOE : (w.alloc (.cells #[] 39)).ownsRow w.heap.size 39 2 (.slice (some ⟨w.heap.size, 0, none⟩) 0 0) 0 [] := owns_empty (Blk.new _ _ _) (Nat.le_refl _)
    have HOE := Lib.hid hOE
    clear hOE
    obtain ⟨B2, hR2⟩ := HR2.out
    have HR3 := Lib.hid hR2
    clear hR2 HR2 HR
    go_enter Try.func29, Try.ntmps29
    go_wp2_with (at_builtin; refine wpList_append_any _ rfl (.tmp 5) (.tmp 6) _ rfl w.heap.size 39 i0 _ 2 16 Try.underlying40 hi0 hi1 hi2 hi3 rfl (show 0 < 2 by decide) (.slice (some ⟨w.heap.size, 0, none⟩) 0 0) 0 [] rfl HOE.out B2 _ n _ xs rfl HR3.out H1.out (by have := HN.out; unfold maxLen; omega) (by have := HN.out; omega) (by simp) ?_; intro v' w' ho hg _)
    go_ret
    refine ⟨_, rfl, by simpa using ho, grow_of_grown ((Fr.refl _ w).alloc _) hg (fun g e => ?_)⟩
    simp only [Value.ownBlock, Option.some.injEq] at e
    omega
end Go.Proofs.Ythdmdgmchkhngaa

/- fleuronref07's maker: hint, set, row. -/
import Derived.Test.YtgklchhgpnoliaaMadeD
namespace Go.Proofs.Ytgklchhgpnoliaa
open Go.RowKit

def HintPost (N0 : Nat) (m : MkC) (w : World) (b : Nat) (e : Ending) (w' : World) : Prop :=
  ∃ (l : List (Int × Int)) (A : Option Addr) (c : Nat) (lo : Int), e = .returned (.slice A l.length c) ∧ l.length ≤ c ∧ c ≤ maxLen ∧ RowAt (insR N0) 25 w' w'.heap.size A l ∧ l.length ≤ b ∧ Mk w' {m with c11 := .int .i64 lo} ∧ 0 ≤ lo ∧ lo ≤ 2 ∧ FrM m.M w w'
def HInv (N0 : Nat) (m : MkC) (w : World) (K : Nat) (v i : Value) (wr : World) : Prop :=
  ∃ (k : Nat) (l : List (Int × Int)) (A : Option Addr) (c : Nat) (lo : Int), k ≤ K ∧ i = .int .i64 k ∧ v = .slice A l.length c ∧ OwnAt (insR N0) 25 w.heap.size wr v l ∧ l.length ≤ 9 * k ∧ Mk wr {m with c11 := .int .i64 lo} ∧ 0 ≤ lo ∧ lo ≤ 2 ∧ FrM m.M w wr

theorem Mk.blk {w : World} {m : MkC} (h : Mk w m) : ∃ xs, Blk w m.M 90 xs := by obtain ⟨_, _, _, _, hb, _⟩ := h; exact ⟨_, hb⟩

set_option maxHeartbeats 2000000 in
theorem hint_any (N0 : Nat) (m : MkC) (w : World) (n fu most lo0 : Int) (h : Mk w m) (hN : N0 ≤ m.M) (hn0 : 0 ≤ n) (hn1 : n ≤ 1000) (hf0 : 0 ≤ fu) (hf1 : fu ≤ 1000) (ho0 : 1 ≤ most) (ho1 : most ≤ 100) (hc : m.c11 = .int .i64 lo0) (hlo : 0 ≤ lo0 ∧ lo0 ≤ 2) :
    Calls Try.prog 32 #[.pointer (some ⟨m.M, 0, none⟩), .int .i64 n, .int .i64 fu, .int .i64 most] w (HintPost N0 m w (9 * most.toNat)) := by
  obtain ⟨i0, hi, hz0, hz1, hz2⟩ := info_parts ins_info
  have hMl := h.lt
  have HMK := Lib.hid h
  have HC := Lib.hid hc
  clear h hc
  go_enter Try.func32, Try.ntmps32
  go_wp2_with fail
  refine (next_any _ m _ HMK.out (by omega) (by omega)).mono ?_
  rintro e w1 ⟨K, hK0, hK1, rfl, hmk1, hfr1, -⟩
  have h0 : HInv N0 m w K.toNat (.slice none 0 0) (.int .i64 0) w1 := ⟨0, [], none, 0, lo0, by omega, rfl, rfl, OwnAt.nil _ _ _ _, by simp, by rw [← HC.out]; exact hmk1, hlo.1, hlo.2, hfr1⟩
  have H0 := Lib.hid h0
  clear h0 hmk1 hfr1 HMK
  go_wp2_with fail
  go_loopw [9, 11] (fun v i wr => HInv N0 m w K.toNat v i wr) (fun _ i _ => K.toNat - (intOf i).toNat)
  case atStart => exact H0.out
  case round =>
    clear H0
    obtain ⟨k, l, A, c, lo, hk, rfl, rfl, hown, hl, hmk, hl0, hl1, hfr⟩ := hrel
    have hsz := hfr.size
    have HOWN := Lib.hid hown
    have HM := Lib.hid hmk
    clear hown hmk
    by_cases hlt : (k : Int) < K
    · go_wp2_with fail
      refine (piece_any N0 {m with c11 := .int .i64 lo} _ n fu lo HM.out hN hn0 hn1 hf0 hf1 rfl ⟨hl0, hl1⟩).mono ?_
      rintro e w2 ⟨l2, A2, c2, lo2, rfl, e1, e2, hrow, hl2, hmk2, g0, g1, hfr2⟩
      obtain ⟨xM, hbM⟩ := HM.out.blk
      have hown2 := HOWN.out.fr hfr2 hbM (by simp [insR, Repr.pair, Repr.int]) hN
      have hf2 : FrM m.M w w2 := hfr.trans hfr2
      have hsz2 := hf2.size
      have HOWN2 := Lib.hid hown2
      have HROW := Lib.hid hrow
      have HM2 := Lib.hid hmk2
      clear hown2 hrow hmk2 hbM HM HOWN
      go_wp2_with (at_builtin; refine wpList_pushAll _ rfl (.tmp 20) (.tmp 24) _ rfl (insR N0) w.heap.size 25 i0 _ 16 Try.underlying22 hi hz0 hz1 hz2 rfl (show 0 < 2 by decide) (by simp [insR, Repr.pair, Repr.int]) (by omega) (.slice A l.length c) l rfl HOWN2.out A2 l2.length c2 l2 rfl rfl _ HROW.out (by unfold maxLen; omega) (by omega) (by omega) ?_; intro A3 c3 w3 hown3 hg3)
      refine ⟨⟨k + 1, l ++ l2, A3, c3, lo2, by omega, by go_num, by simp, hown3, by simp; omega, ?_, g0, g1, ?_⟩, by simp [intOf]; omega⟩
      · exact HM2.out.grown HOWN2.out hg3 (by decide) hMl
      · exact hf2.grownM hg3 fun g e => (HOWN2.out.block e).1
    · obtain ⟨A', c', e', e1, e2, e3⟩ := HOWN.out.form
      injection e' with q1 q2 q3
      subst q1 q3
      clear q2
      go_wp2
      go_ret
      exact ⟨l, A, c, lo, rfl, e1, e2, e3, by omega, HM.out, hl0, hl1, hfr⟩

/-- what hands back a row, of at most b elements, out of the maker -/
def RowPost {N0 : Nat} {α : Type} (R : Repr N0 α) (t : TypeId) (m : MkC) (w : World) (b : Nat) (e : Ending) (w' : World) : Prop :=
  ∃ (l : List α) (A : Option Addr) (c : Nat), e = .returned (.slice A l.length c) ∧ l.length ≤ c ∧ c ≤ maxLen ∧ RowAt R t w' w'.heap.size A l ∧ l.length ≤ b ∧ Mk w' m ∧ FrM m.M w w'
def SInv (N0 : Nat) (m : MkC) (w : World) (gn : Nat) (v i : Value) (wr : World) : Prop :=
  ∃ (k : Nat) (l : List Int) (A : Option Addr) (c : Nat), k ≤ gn ∧ i = .int .i64 k ∧ v = .slice A l.length c ∧ OwnAt (Repr.int (N0 := N0)) 3 w.heap.size wr v l ∧ l.length ≤ 4 ∧ Mk wr m ∧ FrM m.M w wr

set_option maxHeartbeats 2000000 in
theorem set_any (N0 : Nat) (m : MkC) (w : World) (gA : Option Addr) (gn gc : Nat) (h : Mk w m) (hN : N0 ≤ m.M) (hc : m.c3 = .slice gA gn gc) (hg0 : 1 ≤ gn) (hg1 : gn ≤ 1000) :
    Calls Try.prog 63 #[.pointer (some ⟨m.M, 0, none⟩)] w (RowPost (Repr.int (N0 := N0)) 3 m w 4) := by
  obtain ⟨i1, ji, jz0, jz1, jz2⟩ := info_parts intM_info
  have hMl := h.lt
  have hcl := h.cells.1 3 (by omega)
  simp only [Nat.reduceSub, List.getElem?_toArray, List.getElem?_cons_succ, List.getElem?_cons_zero] at hcl
  rw [hc] at hcl
  have HMK := Lib.hid h
  clear h hc
  go_enter Try.func63, Try.ntmps63
  go_wp2_with fail
  refine (next_any _ m _ HMK.out (by omega) (by omega)).mono ?_
  rintro e w1 ⟨a, ha0, ha1, rfl, hmk1, hfr1, -⟩
  have hsz1 := hfr1.size
  obtain ⟨ak, rfl⟩ := Int.eq_ofNat_of_zero_le ha0
  have h0 : SInv N0 m w gn (.slice (some ⟨w1.heap.size, 0, none⟩) 1 1) (.int .i64 ((ak + 1 : Nat) : Int)) (w1.alloc (.cells #[.int .i64 ak] 3)) :=
    ⟨ak + 1, [(ak : Int)], _, _, by omega, rfl, rfl, OwnAt.one (cs := [_]) (Blk.new _ _ _) (by omega) ⟨rfl, by unfold I64; omega⟩, by simp, hmk1.alloc _, hfr1.alloc _⟩
  rw [show ((ak + 1 : Nat) : Int) = (ak : Int) + 1 by omega] at h0
  have H0 := Lib.hid h0
  clear h0 hmk1 hfr1 HMK hcl
  go_wp2_with fail
  go_loopw [5, 6] (fun v i wr => SInv N0 m w gn v i wr) (fun _ i _ => gn - (intOf i).toNat)
  case atStart => exact H0.out
  case round =>
    clear H0
    obtain ⟨k, l, A, c, hk, rfl, rfl, hown, hl, hmk, hfr⟩ := hrel
    have hsz := hfr.size
    have HOWN := Lib.hid hown
    have HM := Lib.hid hmk
    clear hown hmk
    by_cases hlt : (k : Int) < gn ∧ l.length < 4
    · obtain ⟨hlt1, hlt2⟩ := hlt
      have hli : (l.length : Int) < 4 := by omega
      go_wp2_with fail
      refine (next_any _ m _ HM.out (by omega) (by omega)).mono ?_
      rintro e w2 ⟨r, hr0, hr1, rfl, hmk2, hfr2, -⟩
      obtain ⟨xM, hbM⟩ := HM.out.blk
      have hown2 := HOWN.out.fr hfr2 hbM (by simp [Repr.int]) hN
      have hf2 : FrM m.M w w2 := hfr.trans hfr2
      have hsz2 := hf2.size
      have HOWN2 := Lib.hid hown2
      have HM2 := Lib.hid hmk2
      clear hown2 hmk2 hbM HM HOWN
      by_cases hr : r = 0
      · subst hr
        have HOWN3 := Lib.hid (HOWN2.out.below ((Below.refl _ _).alloc (Nat.le_refl _) (.cells #[.int .i64 (k : Int)] 3)) (Nat.le_refl _))
        go_wp2_with (at_builtin; refine wpList_push _ rfl (.tmp 33) (.tmp 35) _ rfl (Repr.int (N0 := N0)) w.heap.size 3 i1 _ 8 Try.underlying43 ji jz0 jz1 jz2 rfl (show 0 < 1 by decide) (by simp [Repr.int]) (by omega) (.slice A l.length c) l rfl HOWN3.out w2.heap.size [_] (k : Int) rfl (Blk.new _ _ _) ⟨rfl, (by unfold I64; omega)⟩ (by unfold maxLen; omega) (by omega) (by simp; omega) ?_; intro A3 c3 w3 hown3 hg3)
        refine ⟨⟨k + 1, l ++ [(k : Int)], A3, c3, by omega, by go_num, by simp, hown3, by simp; omega, ?_, ?_⟩, by simp [intOf]; omega⟩
        · exact (HM2.out.alloc _).grown HOWN3.out hg3 (by decide) hMl
        · exact (hf2.alloc _).grownM hg3 fun g e => (HOWN3.out.block e).1
      · have hrb : (r == 0) = false := by simpa using hr
        go_wp2_with fail
        refine ⟨⟨k + 1, l, A, c, by omega, by go_num, rfl, HOWN2.out, hl, HM2.out, hf2⟩, by simp [intOf]; omega⟩
    · obtain ⟨A', c', e', e1, e2, e3⟩ := HOWN.out.form
      injection e' with q1 q2 q3
      subst q1 q3
      clear q2
      by_cases hlt1 : (k : Int) < gn
      · have hli : ¬ (l.length : Int) < 4 := by omega
        go_wp2
        go_ret
        exact ⟨l, A, c, rfl, e1, e2, e3, by omega, HM.out, hfr⟩
      · go_wp2
        go_ret
        exact ⟨l, A, c, rfl, e1, e2, e3, by omega, HM.out, hfr⟩

def RInvM (N0 : Nat) (m : MkC) (w : World) (K : Nat) (v i : Value) (wr : World) : Prop :=
  ∃ (k : Nat) (l : List (List Int)) (A : Option Addr) (c : Nat), k ≤ K ∧ i = .int .i64 k ∧ v = .slice A l.length c ∧ OwnAt (intsR N0) 43 w.heap.size wr v l ∧ l.length ≤ k ∧ Mk wr m ∧ FrM m.M w wr
theorem introws_info : (Try.prog.info? 43).map (fun i => (i.zero, i.size, i.bytes)) = some (some (.slice none 0 0), 1, 24) := by kernel_rfl
set_option maxHeartbeats 2000000 in
theorem row_any (N0 : Nat) (m : MkC) (w : World) (most : Int) (gA : Option Addr) (gn gc : Nat) (h : Mk w m) (hN : N0 ≤ m.M) (hc : m.c3 = .slice gA gn gc) (hg0 : 1 ≤ gn) (hg1 : gn ≤ 1000) (ho0 : 0 ≤ most) (ho1 : most ≤ 100) :
    Calls Try.prog 64 #[.pointer (some ⟨m.M, 0, none⟩), .int .i64 most] w (RowPost (intsR N0) 43 m w most.toNat) := by
  obtain ⟨i1, ji, jz0, jz1, jz2⟩ := info_parts introws_info
  have hMl := h.lt
  have HMK := Lib.hid h
  have HC := Lib.hid hc
  clear h hc
  go_enter Try.func64, Try.ntmps64
  go_wp2_with fail
  refine (next_any _ m _ HMK.out (by omega) (by omega)).mono ?_
  rintro e w1 ⟨K, hK0, hK1, rfl, hmk1, hfr1, -⟩
  have h0 : RInvM N0 m w K.toNat (.slice none 0 0) (.int .i64 0) w1 := ⟨0, [], none, 0, by omega, rfl, rfl, OwnAt.nil _ _ _ _, by simp, hmk1, hfr1⟩
  have H0 := Lib.hid h0
  clear h0 hmk1 hfr1 HMK
  go_wp2_with fail
  go_loopw [5, 7] (fun v i wr => RInvM N0 m w K.toNat v i wr) (fun _ i _ => K.toNat - (intOf i).toNat)
  case atStart => exact H0.out
  case round =>
    clear H0
    obtain ⟨k, l, A, c, hk, rfl, rfl, hown, hl, hmk, hfr⟩ := hrel
    have hsz := hfr.size
    have HOWN := Lib.hid hown
    have HM := Lib.hid hmk
    clear hown hmk
    by_cases hlt : (k : Int) < K
    · go_wp2_with fail
      refine (set_any N0 m _ gA gn gc HM.out hN HC.out hg0 hg1).mono ?_
      rintro e w2 ⟨l2, A2, c2, rfl, e1, e2, hrow, hl2, hmk2, hfr2⟩
      obtain ⟨xM, hbM⟩ := HM.out.blk
      have hown2 := (HOWN.out.fr hfr2 hbM (by simp [intsR, Repr.row, Repr.int]) hN).below ((Below.refl _ _).alloc (Nat.le_refl _) (.cells #[.slice A2 l2.length c2] 43)) (Nat.le_refl _)
      have hf2 : FrM m.M w w2 := hfr.trans hfr2
      have hsz2 := hf2.size
      have hrel2 : (intsR N0).rel (w2.alloc (.cells #[.slice A2 l2.length c2] 43)) (w2.alloc (.cells #[.slice A2 l2.length c2] 43)).heap.size l2 [.slice A2 l2.length c2] := ⟨_, _, rfl, e1, e2, (hrow.below ((Below.refl _ _).alloc (Nat.le_refl _) _) (Nat.le_refl _)).more (by simp)⟩
      have HOWN2 := Lib.hid hown2
      have HREL := Lib.hid hrel2
      have HM2 := Lib.hid hmk2
      clear hown2 hrow hmk2 hbM HM HOWN hrel2
      generalize l2.length = n2 at *
      go_wp2_with (at_builtin; refine wpList_push _ rfl (.tmp 17) (.tmp 20) _ rfl (intsR N0) w.heap.size 43 i1 _ 24 Try.underlying135 ji jz0 jz1 jz2 rfl (show 0 < 1 by decide) (by simp [intsR, Repr.row, Repr.int]) (by omega) (.slice A l.length c) l rfl HOWN2.out w2.heap.size [_] l2 rfl (Blk.new _ _ _) HREL.out (by unfold maxLen; omega) (by omega) (by simp; omega) ?_; intro A3 c3 w3 hown3 hg3)
      refine ⟨⟨k + 1, l ++ [l2], A3, c3, by omega, by go_num, by simp, hown3, by simp; omega, ?_, ?_⟩, by simp [intOf]; omega⟩
      · exact (HM2.out.alloc _).grown HOWN2.out hg3 (by decide) hMl
      · exact (hf2.alloc _).grownM hg3 fun g e => (HOWN2.out.block e).1
    · obtain ⟨A', c', e', e1, e2, e3⟩ := HOWN.out.form
      injection e' with q1 q2 q3
      subst q1 q3
      clear q2
      go_wp2
      go_ret
      exact ⟨l, A, c, rfl, e1, e2, e3, by omega, HM.out, hfr⟩
end Go.Proofs.Ytgklchhgpnoliaa

/- fleuronlaw19.few, many: their contracts; BoundPrograms' walk. -/
import Derived.Test.YtgklchhgpnoliaaRefD
namespace Go.Proofs.Ytgklchhgpnoliaa
open Go.RowKit

theorem ints_take {l : List (Int × Int)} (h : Ints l) (n : Nat) : Ints (l.take n) := fun x hx => h x (List.mem_of_mem_take hx)
theorem insCells_take (l : List (Int × Int)) (n : Nat) : insCells (l.take n) = (insCells l).take (n * 2) := by
  induction l generalizing n with
  | nil => simp [insCells]
  | cons x r ih =>
    cases n with
    | zero => simp [insCells]
    | succ n => rw [List.take_succ_cons, insCells, ih, show (n + 1) * 2 = n * 2 + 1 + 1 by omega]; simp [insCells]
theorem Reads.take {w : World} {B size n : Nat} {A : Option Addr} {xs : List Value} (h : Reads w B size A n xs) {k : Nat} (hk : k ≤ n) : Reads w B size A k (xs.take (k * size)) := by
  refine ⟨by rw [List.length_take, h.1, Nat.min_eq_left (Nat.mul_le_mul_right _ hk)], fun h0 => ?_⟩
  obtain ⟨b, off, e, hb, hc⟩ := h.2 (by omega)
  refine ⟨b, off, e, hb, fun j u hu => hc j u ?_⟩
  rw [List.getElem?_take] at hu
  split at hu
  · exact hu
  · cases hu
theorem insCells_one (l : List (Int × Int)) : ∀ u ∈ insCells l, u.oneCell' = true := by
  induction l with
  | nil => simp [insCells]
  | cons x r ih => intro u hu; simp [insCells] at hu; rcases hu with rfl | rfl | hu; rfl; rfl; exact ih u hu
/-- what hands back a row -/
def RetRow {N0 : Nat} {α : Type} (R : Repr N0 α) (t : TypeId) (w : World) (l : List α) (e : Ending) (w' : World) : Prop :=
  ∃ A c, e = .returned (.slice A l.length c) ∧ l.length ≤ c ∧ c ≤ maxLen ∧ RowAt R t w' w'.heap.size A l ∧ Below w.heap.size w w'
theorem RetRow.of_own {N0 : Nat} {α : Type} {R : Repr N0 α} {t : TypeId} {base : Nat} {w w' : World} {v : Value} {l : List α} (h : OwnAt R t base w' v l) (hb : Below w.heap.size w w') : RetRow R t w l (.returned v) w' := by
  obtain ⟨A, c, rfl, h1, h2, h3⟩ := h.form
  exact ⟨A, c, rfl, h1, h2, h3, hb⟩
theorem own_ins {N0 : Nat} {w : World} {base : Nat} {v : Value} {l : List (Int × Int)} (hi : Ints l) (h : w.ownsRow base 25 2 v l.length (insCells l)) : OwnAt (insR N0) 25 base w v l :=
  OwnAt.of_own (fun x => [.int .i64 x.1, .int .i64 x.2]) (fun x hx => insR_mk _ _ _ _ _ (hi x hx).1 (hi x hx).2) (by rw [← insCells_flat]; exact h)

set_option maxHeartbeats 400000 in
theorem few_any (N0 : Nat) (A : Option Addr) (c : Nat) (l : List (Int × Int)) (w : World) (h1 : l.length ≤ c) (h2 : c ≤ maxLen) (hr : RowAt (insR N0) 25 w w.heap.size A l) :
    Calls Try.prog 15 #[.slice A l.length c] w (RetRow (insR N0) 25 w (l.take 60)) := by
  obtain ⟨i0, hi, hz0, hz1, hz2⟩ := info_parts ins_info
  have hin := codeR_ints hr
  have hrd := (codeR_reads hr).alloc (Nat.le_refl _) (.cells #[] 25)
  obtain ⟨m, hm⟩ : ∃ m, m = min l.length 60 := ⟨_, rfl⟩
  have hml : m ≤ l.length ∧ m ≤ 60 := by omega
  have hmi : (if (60 : Int) < (l.length : Int) then (60 : Int) else (l.length : Int)) = (m : Int) := by split <;> omega
  have htk : l.take 60 = l.take m := by rw [hm, List.take_eq_take_iff]; omega
  have hlt : (l.take m).length = m := by rw [List.length_take]; omega
  rw [htk]
  have hr2 := hrd.take hml.1
  rw [← insCells_take] at hr2
  have HR := Lib.hid hr2
  have HI := Lib.hid (ints_take hin m)
  have HLT := Lib.hid hlt
  have HO := Lib.hid (own_empty w 25 2 w.heap.size (Nat.le_refl _))
  unfold maxLen at h2
  have h2i : (c : Int) ≤ 9223372036854775807 := by omega
  clear hr hrd hm htk hin hr2 hlt h2
  generalize l.length = n at *
  generalize l.take m = l' at *
  go_enter Try.func15, Try.ntmps15
  go_wp2_with (at_builtin; refine wpList_append_any _ rfl (.tmp 3) (.tmp 8) _ rfl w.heap.size 25 i0 _ 2 16 Try.underlying22 hi hz0 hz1 hz2 rfl (by omega) (.slice (some ⟨w.heap.size, 0, none⟩) 0 0) 0 [] rfl HO.out w.heap.size A m c (insCells l') rfl HR.out (insCells_one l') (by unfold maxLen; omega) (by omega) (by simp) ?_; intro v' w2 hown hg hat)
  go_ret
  rw [Nat.zero_add, List.nil_append] at hown
  refine RetRow.of_own (own_ins HI.out (by rw [HLT.out]; exact hown)) ?_
  exact Below.grown ((Below.refl _ _).alloc (Nat.le_refl _) _) hg (by simp) (fun k hk => by simp [Value.ownBlock] at hk; omega)

def cutLl (ll : List (List (Int × Int))) : List (List (Int × Int)) := ll.map (List.take 60)
def MInv (N0 : Nat) (w : World) (ll : List (List (Int × Int))) (m : Nat) (v i : Value) (wr : World) : Prop :=
  ∃ (k : Nat) (A : Option Addr) (c : Nat), k ≤ m ∧ i = .int .i64 k ∧ v = .slice A k c ∧ OwnAt (codeR N0) 22 w.heap.size wr v (cutLl (ll.take k)) ∧ Below w.heap.size w wr

theorem cutLl_len (ll : List (List (Int × Int))) : (cutLl ll).length = ll.length := by simp [cutLl]

set_option maxHeartbeats 1000000 in
theorem many_any (N0 : Nat) (A : Option Addr) (c : Nat) (ll : List (List (Int × Int))) (w : World) (hN : N0 ≤ w.heap.size) (_h1 : ll.length ≤ c) (_h2 : c ≤ maxLen) (hr : RowAt (codeR N0) 22 w w.heap.size A ll) :
    Calls Try.prog 14 #[.slice A ll.length c] w (RetRow (codeR N0) 22 w (cutLl (ll.take 22))) := by
  obtain ⟨i1, ji, jz0, jz1, jz2⟩ := info_parts rows_info
  obtain ⟨m, hm⟩ : ∃ m, m = min ll.length 22 := ⟨_, rfl⟩
  have hml : m ≤ ll.length ∧ m ≤ 22 := by omega
  have htk : ll.take 22 = ll.take m := by rw [hm, List.take_eq_take_iff]; omega
  rw [htk]
  unfold maxLen at _h2
  obtain ⟨n, hn⟩ : ∃ n, n = ll.length := ⟨_, rfl⟩
  have hmx : m < 22 → n ≤ m := by omega
  rw [← hn] at _h1 hml ⊢
  have HN := Lib.hid hn
  have HR := Lib.hid hr
  clear hr hm htk hn
  go_enter Try.func14, Try.ntmps14
  go_wp2_with fail
  go_loopw [3, 4] (fun v i wr => MInv N0 w ll m v i wr) (fun _ i _ => m - (intOf i).toNat)
  case atStart => exact ⟨0, _, _, by omega, rfl, rfl, OwnAt.empty (codeR N0) (Blk.new _ _ _) (Nat.le_refl _), (Below.refl _ _).alloc (Nat.le_refl _) _⟩
  case round =>
    obtain ⟨k, A', c', hk, rfl, rfl, hown, hb⟩ := hrel
    have hsz := hb.size
    have HOWN := Lib.hid hown
    clear hown
    by_cases hlt : k < m
    · have hk1 : (k : Int) < (n : Int) := by omega
      have hk2 : (k : Int) < 22 := by omega
      obtain ⟨l, hl⟩ : ∃ l, ll[k]? = some l := ⟨_, List.getElem?_eq_getElem (by have := HN.out; omega)⟩
      have hRw := HR.out.below hb (Nat.le_refl _)
      obtain ⟨b, off, cs, rfl, hbB, ⟨Al, cl, rfl, hl1, hl2, hlr⟩, hcells⟩ := hRw.get hl
      have d0 := hcells 0 _ rfl
      simp only [codeR, Repr.row, Nat.mul_one, Nat.add_zero] at d0
      have htk : cutLl (ll.take (k + 1)) = cutLl (ll.take k) ++ [l.take 60] := by rw [List.take_add_one, hl]; simp [cutLl]
      have HTK := Lib.hid htk
      have HFEW := Lib.hid (few_any N0 Al cl l wr hl1 hl2 (hlr.more hsz))
      clear hcells hRw hlr hl htk
      go_wp2_with fail
      refine HFEW.out.mono ?_
      rintro e w1 ⟨A1, c1, rfl, g1, g2, hr1, hb1⟩
      have hz1 := hb1.size
      obtain ⟨W, hW⟩ : ∃ W, W = w1.alloc (.cells #[.slice A1 (l.take 60).length c1] 22) := ⟨_, rfl⟩
      have hWz : W.heap.size = w1.heap.size + 1 := by rw [hW]; simp
      have hWo : OwnAt (codeR N0) 22 w.heap.size W (.slice A' k c') (cutLl (ll.take k)) := by rw [hW]; exact (HOWN.out.below hb1 (Nat.le_refl _)).below ((Below.refl _ _).alloc (Nat.le_refl _) _) (Nat.le_refl _)
      have hWb : Blk W w1.heap.size 22 #[.slice A1 (l.take 60).length c1] := by rw [hW]; exact Blk.new _ _ _
      have hWr : (codeR N0).rel W W.heap.size (l.take 60) [.slice A1 (l.take 60).length c1] := ⟨_, _, rfl, g1, g2, by rw [hW]; exact (hr1.below ((Below.refl _ _).alloc (Nat.le_refl _) _) (Nat.le_refl _)).more (by simp)⟩
      have hWw : Below w.heap.size w W := by rw [hW]; exact (hb.trans (hb1.mono hsz)).alloc (by omega) _
      have hcl : (cutLl (ll.take k)).length = k := by rw [cutLl_len, List.length_take]; have := HN.out; omega
      have HW := Lib.hid hW
      have HWO := Lib.hid hWo
      have HWB := Lib.hid hWb
      have HWR := Lib.hid hWr
      have HCL := Lib.hid hcl
      clear hW hWo hWb hWr hcl d0 hr1 g1 g2 HFEW
      generalize (l.take 60).length = ln at *
      go_wp2_with (at_builtin; rw [← HW.out]; refine wpList_push _ rfl (.tmp 16) (.tmp 22) _ rfl (codeR N0) w.heap.size 22 i1 _ 24 Try.underlying34 ji jz0 jz1 jz2 rfl (show 0 < 1 by decide) (by simp [codeR, insR, Repr.row, Repr.pair, Repr.int]) hN (.slice A' k c') (cutLl (ll.take k)) rfl HWO.out w1.heap.size _ _ rfl HWB.out HWR.out (by rw [HCL.out]; simp [maxLen]; omega) (by rw [HCL.out]; omega) (by omega) ?_; intro A3 c3 w2 hown3 hg3; rw [HCL.out] at hown3 ⊢)
      exact ⟨⟨k + 1, A3, c3, by omega, by go_num, rfl, by rw [HTK.out]; exact hown3, below_own HWO.out hWw hg3 (by omega) (Nat.le_refl _)⟩, by simp [intOf]; omega⟩
    · obtain rfl : k = m := by omega
      by_cases hk2 : (k : Int) < (n : Int)
      · have hk3 : ¬ (k : Int) < 22 := by omega
        go_wp2
        go_ret
        exact RetRow.of_own HOWN.out hb
      · go_wp2
        go_ret
        exact RetRow.of_own HOWN.out hb
end Go.Proofs.Ytgklchhgpnoliaa

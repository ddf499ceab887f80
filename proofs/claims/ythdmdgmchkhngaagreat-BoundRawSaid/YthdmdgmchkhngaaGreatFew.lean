/- fleuronlaw19.few: its contract; cuts of code. -/
import Derived.Test.YthdmdgmchkhngaaGreatMkA
import Derived.Test.YthdmdgmchkhngaaGreatBdB
namespace Go.Proofs.YthdmdgmchkhngaaGreat
open Go.RowKit

theorem own_empty (w : World) (e : TypeId) (size base : Nat) (hb : base ≤ w.heap.size) : (w.alloc (.cells #[] e)).ownsRow base e size (.slice (some ⟨w.heap.size, 0, none⟩) 0 0) 0 [] :=
  ⟨by simp, .inr ⟨w.heap.size, 0, _, rfl, hb, heap_alloc_new w _, by simp, by simp, by simp, by simp⟩⟩

theorem rows_info : (Tryz.prog.info? 26).map (fun i => (i.zero, i.size, i.bytes)) = some (some (.slice none 0 0), 1, 24) := by kernel_rfl

theorem ints_take {l : List (Int × Int)} (h : Ints l) (n : Nat) : Ints (l.take n) := fun x hx => h x (List.mem_of_mem_take hx)
theorem insCells_take (l : List (Int × Int)) (n : Nat) : insCells (l.take n) = (insCells l).take (n * 2) := by
  induction l generalizing n with
  | nil => simp [insCells]
  | cons x r ih =>
    cases n with
    | zero => simp [insCells]
    | succ n => rw [List.take_succ_cons, insCells, ih, show (n + 1) * 2 = n * 2 + 1 + 1 by omega]; simp [insCells]
theorem Reads.take {w : World} {B size n : Nat} {A : Option Addr} {xs : List Value} (h : Reads w B size A n xs) {k : Nat} (hk : k ≤ n) : Reads w B size A k (xs.take (k * size)) := by
  refine ⟨by rw [List.length_take, h.1, Nat.min_eq_left (Nat.mul_le_mul_right _ hk)], fun h0 => ?_⟩
  obtain ⟨b, off, e, hb, hc⟩ := h.2 (by omega)
  refine ⟨b, off, e, hb, fun j u hu => hc j u ?_⟩
  rw [List.getElem?_take] at hu
  split at hu
  · exact hu
  · cases hu
theorem insCells_one (l : List (Int × Int)) : ∀ u ∈ insCells l, u.oneCell' = true := by
  induction l with
  | nil => simp [insCells]
  | cons x r ih => intro u hu; simp [insCells] at hu; rcases hu with rfl | rfl | hu; rfl; rfl; exact ih u hu
/-- what hands back a row -/
def RetRow {N0 : Nat} {α : Type} (R : Repr N0 α) (t : TypeId) (w : World) (l : List α) (e : Ending) (w' : World) : Prop :=
  ∃ A c, e = .returned (.slice A l.length c) ∧ l.length ≤ c ∧ c ≤ maxLen ∧ RowAt R t w' w'.heap.size A l ∧ Below w.heap.size w w'
theorem RetRow.of_own {N0 : Nat} {α : Type} {R : Repr N0 α} {t : TypeId} {base : Nat} {w w' : World} {v : Value} {l : List α} (h : OwnAt R t base w' v l) (hb : Below w.heap.size w w') : RetRow R t w l (.returned v) w' := by
  obtain ⟨A, c, rfl, h1, h2, h3⟩ := h.form
  exact ⟨A, c, rfl, h1, h2, h3, hb⟩
theorem own_ins {N0 : Nat} {w : World} {base : Nat} {v : Value} {l : List (Int × Int)} (hi : Ints l) (h : w.ownsRow base 61 2 v l.length (insCells l)) : OwnAt (insR N0) 61 base w v l :=
  OwnAt.of_own (fun x => [.int .i64 x.1, .int .i64 x.2]) (fun x hx => insR_mk _ _ _ _ _ (hi x hx).1 (hi x hx).2) (by rw [← insCells_flat]; exact h)

set_option maxHeartbeats 400000 in
theorem few_any (N0 : Nat) (A : Option Addr) (c : Nat) (l : List (Int × Int)) (w : World) (h1 : l.length ≤ c) (h2 : c ≤ maxLen) (hr : RowAt (insR N0) 61 w w.heap.size A l) :
    Calls Tryz.prog 24 #[.slice A l.length c] w (RetRow (insR N0) 61 w (l.take 60)) := by
  obtain ⟨i0, hi, hz0, hz1, hz2⟩ := info_parts ins_info
  have hin := codeR_ints hr
  have hrd := (codeR_reads hr).alloc (Nat.le_refl _) (.cells #[] 61)
  obtain ⟨m, hm⟩ : ∃ m, m = min l.length 60 := ⟨_, rfl⟩
  have hml : m ≤ l.length ∧ m ≤ 60 := by omega
  have hmi : (if (60 : Int) < (l.length : Int) then (60 : Int) else (l.length : Int)) = (m : Int) := by split <;> omega
  have htk : l.take 60 = l.take m := by rw [hm, List.take_eq_take_iff]; omega
  have hlt : (l.take m).length = m := by rw [List.length_take]; omega
  rw [htk]
  have hr2 := hrd.take hml.1
  rw [← insCells_take] at hr2
  have HR := Lib.hid hr2
  have HI := Lib.hid (ints_take hin m)
  have HLT := Lib.hid hlt
  have HO := Lib.hid (own_empty w 61 2 w.heap.size (Nat.le_refl _))
  unfold maxLen at h2
  have h2i : (c : Int) ≤ 9223372036854775807 := by omega
  clear hr hrd hm htk hin hr2 hlt h2
  generalize l.length = n at *
  generalize l.take m = l' at *
  go_enter Tryz.func24, Tryz.ntmps24
  go_wp2_with (at_builtin; refine wpList_append_any _ rfl (.tmp 3) (.tmp 8) _ rfl w.heap.size 61 i0 _ 2 16 Tryz.underlying26 hi hz0 hz1 hz2 rfl (by omega) (.slice (some ⟨w.heap.size, 0, none⟩) 0 0) 0 [] rfl HO.out w.heap.size A m c (insCells l') rfl HR.out (insCells_one l') (by unfold maxLen; omega) (by omega) (by simp) ?_; intro v' w2 hown hg hat)
  go_ret
  rw [Nat.zero_add, List.nil_append] at hown
  refine RetRow.of_own (own_ins HI.out (by rw [HLT.out]; exact hown)) ?_
  exact Below.grown ((Below.refl _ _).alloc (Nat.le_refl _) _) hg (by simp) (fun k hk => by simp [Value.ownBlock] at hk; omega)

end Go.Proofs.YthdmdgmchkhngaaGreat

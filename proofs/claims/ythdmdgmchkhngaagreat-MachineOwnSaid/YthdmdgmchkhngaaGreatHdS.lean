/- What a machine's deeds do to the heights and the frames. Plain functions alone, no program in sight. -/
import Derived.Test.YthdmdgmchkhngaaGreatMachSpec
namespace Go.Proofs.YthdmdgmchkhngaaGreat
namespace Hd
open Mc

/-! ### what a deed does to the heights -/
theorem settle_at {l : List (Int × Int)} {i m : Nat} {r : List Fm} (h : i < l.length) : settle (⟨l, i, m⟩ :: r) = ⟨l, i, m⟩ :: r := by rw [settle, if_pos h]
theorem settle_end {l : List (Int × Int)} {r : List Fm} : settle (⟨l, l.length, 0⟩ :: r) = settle r := by rw [settle, if_neg (by simp), if_neg (by simp)]
theorem settle_again {l : List (Int × Int)} {m : Nat} {r : List Fm} (h : 0 < l.length) : settle (⟨l, l.length, m + 1⟩ :: r) = settle (⟨l, 0, m⟩ :: r) := by
  rw [settle, if_neg (by simp), if_pos ⟨by simp, h⟩, settle_at h]
  rfl
theorem settle_empty {m : Nat} {r : List Fm} : settle (⟨[], 0, m⟩ :: r) = settle r := by rw [settle, if_neg (by simp), if_neg (by simp)]

theorem inter_keeps (s : St) (a : Int) : (inter s a).stack = s.stack ∧ (inter s a).frames = s.frames ∧ (inter s a).funcs = s.funcs ∧ (inter s a).ended = s.ended ∧ (inter s a).err = s.err ∧ (inter s a).steps = s.steps ∧ (inter s a).peak = s.peak := ⟨rfl, rfl, rfl, rfl, rfl, rfl, rfl⟩
/-- what all deeds leave as it is -/
def Same (s t : St) : Prop := t.funcs = s.funcs ∧ t.ended = s.ended ∧ t.err = s.err ∧ t.steps = s.steps ∧ t.peak = s.peak
theorem deed_same (op a : Int) (s : St) : Same s (deed op a s) := by
  unfold deed
  simp only
  split <;> (first | exact ⟨rfl, rfl, rfl, rfl, rfl⟩ | skip)
  all_goals (try unfold pass)
  all_goals (try unfold call)
  all_goals (repeat' split)
  all_goals exact ⟨rfl, rfl, rfl, rfl, rfl⟩
theorem deed_frames (op a : Int) (s : St) (h1 : 1 ≤ op) (h2 : op < 35 ∨ op = 39) : (deed op a s).frames = s.frames := by
  unfold deed
  simp only
  split <;> (first | rfl | skip)
  all_goals (try (exfalso; omega))
  all_goals (repeat' split)
  all_goals rfl
theorem if_stack {p : Prop} [Decidable p] {s t : St} : (if p then s else t).stack = if p then s.stack else t.stack := by split <;> rfl
theorem if_same {p : Prop} [Decidable p] {a b c : Nat} (h1 : a = c) (h2 : b = c) : (if p then a else b) = c := by split <;> assumption
theorem pass_stack (s : St) (a : Int) : (pass s a).stack = s.stack := by unfold pass; split <;> rfl
theorem call_stack (s : St) (a b : Int) : (call s a b).stack = s.stack := by unfold call; split <;> rfl
theorem stack1 (a : Int) (s : St) : (deed 1 a s).stack.length = s.stack.length - 0 + 1 := rfl
theorem stack2 (a : Int) (s : St) : (deed 2 a s).stack.length = s.stack.length - 1 + 0 := by show (s.stack.drop 1).length = _; exact List.length_drop
theorem stack3 (a : Int) (s : St) : (deed 3 a s).stack.length = s.stack.length - 1 + 2 := by show (s.stack.drop 1).length + 1 + 1 = _; rw [List.length_drop]
theorem stack4 (a : Int) (s : St) : (deed 4 a s).stack.length = s.stack.length - 2 + 2 := by show (s.stack.drop 2).length + 1 + 1 = _; rw [List.length_drop]
theorem stack5 (a : Int) (s : St) : (deed 5 a s).stack.length = s.stack.length - 2 + 1 := by show (s.stack.drop 2).length + 1 = _; rw [List.length_drop]
theorem stack6 (a : Int) (s : St) : (deed 6 a s).stack.length = s.stack.length - 2 + 1 := by show (s.stack.drop 2).length + 1 = _; rw [List.length_drop]
theorem stack7 (a : Int) (s : St) : (deed 7 a s).stack.length = s.stack.length - 2 + 1 := by show (s.stack.drop 2).length + 1 = _; rw [List.length_drop]
theorem stack8 (a : Int) (s : St) : (deed 8 a s).stack.length = s.stack.length - 2 + 1 := by show (s.stack.drop 2).length + 1 = _; rw [List.length_drop]
theorem stack9 (a : Int) (s : St) : (deed 9 a s).stack.length = s.stack.length - 1 + 1 := by show (s.stack.drop 1).length + 1 = _; rw [List.length_drop]
theorem stack10 (a : Int) (s : St) : (deed 10 a s).stack.length = s.stack.length - 1 + 1 := by show (s.stack.drop 1).length + 1 = _; rw [List.length_drop]
theorem stack11 (a : Int) (s : St) : (deed 11 a s).stack.length = s.stack.length - 2 + 1 := by show (s.stack.drop 2).length + 1 = _; rw [List.length_drop]
theorem stack12 (a : Int) (s : St) : (deed 12 a s).stack.length = s.stack.length - 2 + 1 := by show (s.stack.drop 2).length + 1 = _; rw [List.length_drop]
theorem stack13 (a : Int) (s : St) : (deed 13 a s).stack.length = s.stack.length - 1 + 1 := by show (s.stack.drop 1).length + 1 = _; rw [List.length_drop]
theorem stack14 (a : Int) (s : St) : (deed 14 a s).stack.length = s.stack.length - 1 + 1 := by show (s.stack.drop 1).length + 1 = _; rw [List.length_drop]
theorem stack15 (a : Int) (s : St) : (deed 15 a s).stack.length = s.stack.length - 1 + 1 := by show (s.stack.drop 1).length + 1 = _; rw [List.length_drop]
theorem stack16 (a : Int) (s : St) : (deed 16 a s).stack.length = s.stack.length - 2 + 1 := by show (s.stack.drop 2).length + 1 = _; rw [List.length_drop]
theorem stack17 (a : Int) (s : St) : (deed 17 a s).stack.length = s.stack.length - 2 + 1 := by show (s.stack.drop 2).length + 1 = _; rw [List.length_drop]
theorem stack18 (a : Int) (s : St) : (deed 18 a s).stack.length = s.stack.length - 2 + 1 := by show (s.stack.drop 2).length + 1 = _; rw [List.length_drop]
theorem stack19 (a : Int) (s : St) : (deed 19 a s).stack.length = s.stack.length - 1 + 1 := by show (s.stack.drop 1).length + 1 = _; rw [List.length_drop]
theorem stack20 (a : Int) (s : St) : (deed 20 a s).stack.length = s.stack.length - 2 + 1 := by show (s.stack.drop 2).length + 1 = _; rw [List.length_drop]
theorem stack21 (a : Int) (s : St) : (deed 21 a s).stack.length = s.stack.length - 2 + 1 := by show (s.stack.drop 2).length + 1 = _; rw [List.length_drop]
theorem stack22 (a : Int) (s : St) : (deed 22 a s).stack.length = s.stack.length - 0 + 0 := rfl
theorem stack23 (a : Int) (s : St) : (deed 23 a s).stack.length = s.stack.length - 0 + 0 := rfl
theorem stack24 (a : Int) (s : St) : (deed 24 a s).stack.length = s.stack.length - 0 + 0 := rfl
theorem stack25 (a : Int) (s : St) : (deed 25 a s).stack.length = s.stack.length - 1 + 1 := by show (s.stack.drop 1).length + 1 = _; rw [List.length_drop]
theorem stack26 (a : Int) (s : St) : (deed 26 a s).stack.length = s.stack.length - 2 + 0 := by show (s.stack.drop 2).length = _; exact List.length_drop
theorem stack27 (a : Int) (s : St) : (deed 27 a s).stack.length = s.stack.length - 1 + 1 := by show (s.stack.drop 1).length + 1 = _; rw [List.length_drop]
theorem stack28 (a : Int) (s : St) : (deed 28 a s).stack.length = s.stack.length - 2 + 0 := by show (s.stack.drop 2).length = _; exact List.length_drop
theorem stack29 (a : Int) (s : St) : (deed 29 a s).stack.length = s.stack.length - 1 + 1 := by show (s.stack.drop 1).length + 1 = _; rw [List.length_drop]
theorem stack30 (a : Int) (s : St) : (deed 30 a s).stack.length = s.stack.length - 1 + 1 := by show (s.stack.drop 1).length + 1 = _; rw [List.length_drop]
theorem stack31 (a : Int) (s : St) : (deed 31 a s).stack.length = s.stack.length - 2 + 0 := by
  show (ite _ _ _ : St).stack.length = _
  rw [if_stack]
  split
  · show (s.stack.drop 2).length = _; exact List.length_drop
  · show (s.stack.drop 2).length = _; exact List.length_drop
theorem stack32 (a : Int) (s : St) : (deed 32 a s).stack.length = s.stack.length - 2 + 0 := by
  show (ite _ _ _ : St).stack.length = _
  rw [if_stack]
  split
  · show (s.stack.drop 2).length = _; exact List.length_drop
  · show (s.stack.drop 2).length = _; exact List.length_drop
theorem stack33 (a : Int) (s : St) : (deed 33 a s).stack.length = s.stack.length - 2 + 0 := by
  show (ite _ _ _ : St).stack.length = _
  rw [if_stack]
  split
  · show (s.stack.drop 2).length = _; exact List.length_drop
  · show (s.stack.drop 2).length = _; exact List.length_drop
theorem stack34 (a : Int) (s : St) : (deed 34 a s).stack.length = s.stack.length - 0 + 0 := rfl
theorem stack35 (a : Int) (s : St) : (deed 35 a s).stack.length = s.stack.length - 0 + 0 := by show (pass s a).stack.length = _; rw [pass_stack]; rfl
theorem stack36 (a : Int) (s : St) : (deed 36 a s).stack.length = s.stack.length - 1 + 0 := by
  show (ite _ _ _ : St).stack.length = _
  rw [if_stack]
  split
  · rw [pass_stack]; show (s.stack.drop 1).length = _; exact List.length_drop
  · show (s.stack.drop 1).length = _; exact List.length_drop
theorem stack37 (a : Int) (s : St) : (deed 37 a s).stack.length = s.stack.length - 0 + 0 := by show (call s a 1).stack.length = _; rw [call_stack]; rfl
theorem stack38 (a : Int) (s : St) : (deed 38 a s).stack.length = s.stack.length - 1 + 0 := by show (call { s with stack := s.stack.drop 1 } a _).stack.length = _; rw [call_stack]; show (s.stack.drop 1).length = _; exact List.length_drop
theorem stack39 (a : Int) (s : St) : (deed 39 a s).stack.length = s.stack.length - 0 + 1 := rfl
theorem deed_stack (op a : Int) (s : St) (h1 : 1 ≤ op) (h2 : op ≤ 39) : (deed op a s).stack.length = s.stack.length - takes op + leaves op := by
  have hc : op = 1 ∨ op = 2 ∨ op = 3 ∨ op = 4 ∨ op = 5 ∨ op = 6 ∨ op = 7 ∨ op = 8 ∨ op = 9 ∨ op = 10 ∨ op = 11 ∨ op = 12 ∨ op = 13 ∨ op = 14 ∨ op = 15 ∨ op = 16 ∨ op = 17 ∨ op = 18 ∨ op = 19 ∨ op = 20 ∨ op = 21 ∨ op = 22 ∨ op = 23 ∨ op = 24 ∨ op = 25 ∨ op = 26 ∨ op = 27 ∨ op = 28 ∨ op = 29 ∨ op = 30 ∨ op = 31 ∨ op = 32 ∨ op = 33 ∨ op = 34 ∨ op = 35 ∨ op = 36 ∨ op = 37 ∨ op = 38 ∨ op = 39 := by omega
  rcases hc with rfl | rfl | rfl | rfl | rfl | rfl | rfl | rfl | rfl | rfl | rfl | rfl | rfl | rfl | rfl | rfl | rfl | rfl | rfl | rfl | rfl | rfl | rfl | rfl | rfl | rfl | rfl | rfl | rfl | rfl | rfl | rfl | rfl | rfl | rfl | rfl | rfl | rfl | rfl
  · exact stack1 a s
  · exact stack2 a s
  · exact stack3 a s
  · exact stack4 a s
  · exact stack5 a s
  · exact stack6 a s
  · exact stack7 a s
  · exact stack8 a s
  · exact stack9 a s
  · exact stack10 a s
  · exact stack11 a s
  · exact stack12 a s
  · exact stack13 a s
  · exact stack14 a s
  · exact stack15 a s
  · exact stack16 a s
  · exact stack17 a s
  · exact stack18 a s
  · exact stack19 a s
  · exact stack20 a s
  · exact stack21 a s
  · exact stack22 a s
  · exact stack23 a s
  · exact stack24 a s
  · exact stack25 a s
  · exact stack26 a s
  · exact stack27 a s
  · exact stack28 a s
  · exact stack29 a s
  · exact stack30 a s
  · exact stack31 a s
  · exact stack32 a s
  · exact stack33 a s
  · exact stack34 a s
  · exact stack35 a s
  · exact stack36 a s
  · exact stack37 a s
  · exact stack38 a s
  · exact stack39 a s
end Hd
end Go.Proofs.YthdmdgmchkhngaaGreat

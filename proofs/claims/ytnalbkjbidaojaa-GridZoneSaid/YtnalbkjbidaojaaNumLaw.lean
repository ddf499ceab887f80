/- Numbers as digits to base 65536, the lowest first. No program in sight. -/
namespace Go.Proofs.Ytnalbkjbidaojaa
namespace Nm

def val : List Int → Int
  | [] => 0
  | x :: r => x + 65536 * val r
def Dig (l : List Int) : Prop := ∀ x ∈ l, 0 ≤ x ∧ x < 65536
def pw (k : Nat) : Int := 65536 ^ k
theorem pw_zero : pw 0 = 1 := rfl
theorem pw_succ (k : Nat) : pw (k + 1) = 65536 * pw k := by unfold pw; rw [Int.pow_succ, Int.mul_comm]
theorem pw_pos (k : Nat) : 0 < pw k := Int.pow_pos (by decide)
theorem pw_le {a b : Nat} (h : a ≤ b) : pw a ≤ pw b := by
  induction b with
  | zero => have : a = 0 := by omega
            subst this; exact Int.le_refl _
  | succ b ih =>
    by_cases e : a = b + 1
    · subst e; exact Int.le_refl _
    · have := ih (by omega)
      rw [pw_succ]
      have := pw_pos b
      omega
theorem Dig.tail {x : Int} {l : List Int} (h : Dig (x :: l)) : Dig l := fun y hy => h y (List.mem_cons_of_mem _ hy)
theorem Dig.take {l : List Int} (h : Dig l) (k : Nat) : Dig (l.take k) := fun y hy => h y (List.mem_of_mem_take hy)
theorem Dig.append {l m : List Int} (h : Dig l) (k : Dig m) : Dig (l ++ m) := fun y hy => (List.mem_append.1 hy).elim (h y) (k y)
theorem Dig.one {x : Int} (h0 : 0 ≤ x) (h1 : x < 65536) : Dig [x] := fun y hy => by simp only [List.mem_singleton] at hy; subst hy; exact ⟨h0, h1⟩
theorem Dig.nil : Dig [] := fun y hy => by simp at hy
theorem Dig.at {l : List Int} (h : Dig l) (k : Nat) : 0 ≤ l.getD k 0 ∧ l.getD k 0 < 65536 := by
  rw [List.getD_eq_getElem?_getD]
  cases e : l[k]? with
  | none => simp
  | some x => exact h x (List.mem_of_getElem? e)
theorem val_nonneg : ∀ {l : List Int}, Dig l → 0 ≤ val l
  | [], _ => Int.le_refl _
  | x :: r, h => by
    have := val_nonneg h.tail
    have := h x List.mem_cons_self
    rw [val]; omega
theorem val_lt : ∀ {l : List Int}, Dig l → val l < pw l.length
  | [], _ => by rw [val, List.length_nil, pw_zero]; decide
  | x :: r, h => by
    have := val_lt h.tail
    have := h x List.mem_cons_self
    rw [val, List.length_cons, pw_succ]; omega
theorem val_append : ∀ (l m : List Int), val (l ++ m) = val l + pw l.length * val m
  | [], m => by rw [List.nil_append, val, List.length_nil, pw_zero]; omega
  | x :: r, m => by
    rw [List.cons_append, val, val, val_append r m, List.length_cons, pw_succ, Int.mul_add, ← Int.mul_assoc]
    omega
theorem val_snoc (l : List Int) (x : Int) : val (l ++ [x]) = val l + pw l.length * x := by
  rw [val_append]
  show _ + pw l.length * (x + 65536 * 0) = _
  rw [show x + 65536 * 0 = x by omega]
theorem take_succ_val (l : List Int) (k : Nat) : val (l.take (k + 1)) = val (l.take k) + pw k * l.getD k 0 := by
  rw [List.take_add_one, List.getD_eq_getElem?_getD]
  cases e : l[k]? with
  | none => simp
  | some x =>
    have hk : k < l.length := (List.getElem?_eq_some_iff.1 e).1
    simp only [Option.toList, Option.getD_some]
    rw [val_snoc, List.length_take, Nat.min_eq_left (by omega)]
theorem take_all (l : List Int) {k : Nat} (h : l.length ≤ k) : l.take k = l := List.take_of_length_le h
/-- two numbers that are alike from a place on are as their digits there -/
theorem cmp_take {a b : List Int} (ha : Dig a) (hb : Dig b) (k : Nat) (h : a.getD k 0 < b.getD k 0) : val (a.take (k + 1)) < val (b.take (k + 1)) := by
  rw [take_succ_val, take_succ_val]
  have h1 := val_lt (ha.take k)
  have h2 := val_nonneg (hb.take k)
  have h3 : pw (a.take k).length ≤ pw k := pw_le (List.length_take_le _ _)
  have h4 : pw k * (a.getD k 0 + 1) ≤ pw k * b.getD k 0 := Int.mul_le_mul_of_nonneg_left (by omega) (Int.le_of_lt (pw_pos k))
  rw [Int.mul_add, Int.mul_one] at h4
  omega
/-- a number, with a sign -/
def sv (b : Bool) (d : List Int) : Int := if b then -(val d) else val d
structure Ok (b : Bool) (d : List Int) : Prop where
  dig : Dig d
  top : ∀ k x, d.length = k + 1 → d[k]? = some x → x ≠ 0
  neg : b = true → d ≠ []
theorem Ok.ge {b : Bool} {d : List Int} (h : Ok b d) (k : Nat) (hk : d.length = k + 1) : pw k ≤ val d := by
  obtain ⟨x, hx⟩ : ∃ x, d[k]? = some x := ⟨_, List.getElem?_eq_getElem (by omega)⟩
  have h1 := h.top k x hk hx
  have h2 := h.dig x (List.mem_of_getElem? hx)
  have h3 := take_succ_val d k
  rw [take_all d (by omega), List.getD_eq_getElem?_getD, hx, Option.getD_some] at h3
  have h4 := val_nonneg (h.dig.take k)
  have h5 : pw k * 1 ≤ pw k * x := Int.mul_le_mul_of_nonneg_left (by omega) (Int.le_of_lt (pw_pos k))
  omega
theorem Ok.len {b : Bool} {d : List Int} (h : Ok b d) {k : Nat} (hv : val d < pw k) : d.length ≤ k := by
  apply Nat.le_of_not_lt
  intro hh
  obtain ⟨n, hn⟩ : ∃ n, d.length = n + 1 := ⟨d.length - 1, by omega⟩
  have h1 := h.ge n hn
  have h2 := pw_le (show k ≤ n by omega)
  omega
theorem Ok.pos {b : Bool} {d : List Int} (h : Ok b d) (hd : d ≠ []) : 0 < val d := by
  obtain ⟨n, hn⟩ : ∃ n, d.length = n + 1 := ⟨d.length - 1, by have : d.length ≠ 0 := fun e => hd (List.length_eq_zero_iff.1 e); omega⟩
  have h1 := h.ge n hn
  have h2 := pw_pos n
  omega
theorem Ok.zero {b : Bool} {d : List Int} (h : Ok b d) : d = [] ↔ val d = 0 := by
  constructor
  · intro e; subst e; rfl
  · intro e
    apply Classical.byContradiction
    intro hd
    have := h.pos hd
    omega
theorem Ok.sign {b : Bool} {d : List Int} (h : Ok b d) : b = decide (sv b d < 0) := by
  unfold sv
  cases b with
  | true =>
    have := h.pos (h.neg rfl)
    simp only [if_true]
    exact (decide_eq_true (by omega)).symm
  | false =>
    have := val_nonneg h.dig
    simp only [Bool.false_eq_true, if_false]
    exact (decide_eq_false (by omega)).symm
theorem Ok.abs {b : Bool} {d : List Int} (h : Ok b d) : val d = ((sv b d).natAbs : Int) := by
  have := val_nonneg h.dig
  unfold sv
  split <;> omega
end Nm
end Go.Proofs.Ytnalbkjbidaojaa

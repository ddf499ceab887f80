/- What package bound computes, as plain functions on numbers and lists. No program in sight. · Funcs and Program of package bound, as plain functions. -/
namespace Go.Proofs.YthdmdgmchkhngaaGreat
namespace Bd

structure Cost where
  need : Int
  delta : Int
  peak : Int
  steps : Int
deriving DecidableEq

structure Place where
  known : Bool
  high : Int
  steps : Int
deriving DecidableEq

structure Eff where
  need : Int
  peak : Int
  high : Int
  steps : Int

/-- how many values an instruction takes -/
def takes (op : Int) : Int :=
  if op = 2 ∨ op = 36 ∨ op = 38 then 1 else if op = 3 then 1 else if op = 4 then 2
  else if op = 9 ∨ op = 10 ∨ op = 13 ∨ op = 14 ∨ op = 15 ∨ op = 19 ∨ op = 25 ∨ op = 27 ∨ op = 29 ∨ op = 30 then 1
  else if op = 5 ∨ op = 6 ∨ op = 7 ∨ op = 8 ∨ op = 11 ∨ op = 12 ∨ op = 16 ∨ op = 17 ∨ op = 18 ∨ op = 20 ∨ op = 21 then 2
  else if op = 26 ∨ op = 28 ∨ op = 31 ∨ op = 32 ∨ op = 33 then 2 else 0
/-- how many it leaves -/
def leaves (op : Int) : Int :=
  if op = 1 ∨ op = 39 then 1 else if op = 3 then 2 else if op = 4 then 2
  else if op = 9 ∨ op = 10 ∨ op = 13 ∨ op = 14 ∨ op = 15 ∨ op = 19 ∨ op = 25 ∨ op = 27 ∨ op = 29 ∨ op = 30 then 1
  else if op = 5 ∨ op = 6 ∨ op = 7 ∨ op = 8 ∨ op = 11 ∨ op = 12 ∨ op = 16 ∨ op = 17 ∨ op = 18 ∨ op = 20 ∨ op = 21 then 1 else 0

theorem takes_bd (op : Int) : 0 ≤ takes op ∧ takes op ≤ 2 := by unfold takes; repeat' split <;> omega
theorem leaves_bd (op : Int) : 0 ≤ leaves op ∧ leaves op ≤ 2 := by unfold leaves; repeat' split <;> omega

def jumps (op : Int) : Bool := op == 35 || op == 36
def calls (op : Int) : Bool := op == 37 || op == 38

def mayBe (c : Cost) : Bool := decide (0 ≤ c.need) && decide (c.need ≤ 32) && decide (0 ≤ c.peak) && decide (c.peak ≤ 32) && decide (-32 ≤ c.delta) && decide (c.delta ≤ 32) && decide (0 ≤ c.steps) && decide (c.steps ≤ 4096)

def always (n nf at_ : Int) (x : Int × Int) : Int :=
  if ¬ (1 ≤ x.1 ∧ x.1 ≤ 39) then 50
  else if jumps x.1 = true ∧ ¬ (0 ≤ x.2 ∧ x.2 ≤ n - 1 - at_) then 52
  else if calls x.1 = true ∧ ¬ (0 ≤ x.2 ∧ x.2 < nf) then 54 else 0

def fn (fs : List Cost) (a : Int) : Cost := fs.getD a.toNat ⟨0, 0, 0, 0⟩

def effect (fs : List Cost) (here : Place) (x : Int × Int) : Eff :=
  let need := takes x.1 - here.high
  let high := here.high - takes x.1 + leaves x.1
  let steps := here.steps + 1
  if calls x.1 = true then
    let c := fn fs x.2
    ⟨max need (c.need - high), max (max high (high + c.peak)) (high + c.delta), high + c.delta, steps + (if x.1 = 38 then 16 else 1) * c.steps⟩
  else ⟨need, high, high, steps⟩

structure St where
  pl : List Place
  need : Int
  peak : Int

def pat (pl : List Place) (i : Int) : Place := pl.getD i.toNat ⟨false, 0, 0⟩
/-- the places at which an instruction goes on -/
def ways (at_ : Int) (x : Int × Int) : List Int := (if x.1 = 35 then [] else [at_ + 1]) ++ (if jumps x.1 = true then [at_ + 1 + x.2] else [])
def agree1 (pl : List Place) (high : Int) (t : Int) : Bool := !((pat pl t).known && ((pat pl t).high != high))
def agrees (pl : List Place) (at_ : Int) (x : Int × Int) (high : Int) : Bool := (ways at_ x).all (agree1 pl high)

def reached (fs : List Cost) (pl : List Place) (need peak at_ : Int) (x : Int × Int) (e : Eff) : Int :=
  if x.1 = 38 ∧ (fn fs x.2).delta ≠ 0 then 51
  else if ¬ (need ≤ 32 ∧ peak ≤ 32) then 51
  else if agrees pl at_ x e.high = false then 51
  else if ¬ e.steps ≤ 4096 then 53 else 0

def mark (e : Eff) (pl : List Place) (t : Int) : List Place := pl.set t.toNat ⟨true, e.high, max (pat pl t).steps e.steps⟩

/-- one instruction is looked at: the error, and what is known then -/
def look (n : Int) (fs : List Cost) (s : St) (at_ : Int) (x : Int × Int) : Int × St :=
  if always n fs.length at_ x ≠ 0 then (always n fs.length at_ x, s)
  else if (pat s.pl at_).known = false then (0, s)
  else
    let e := effect fs (pat s.pl at_) x
    let need := max s.need e.need
    let peak := max s.peak e.peak
    if reached fs s.pl need peak at_ x e ≠ 0 then (reached fs s.pl need peak at_ x e, ⟨s.pl, need, peak⟩)
    else (0, ⟨(ways at_ x).foldl (mark e) s.pl, need, peak⟩)

def rest (n : Int) (fs : List Cost) : List (Int × Int) → Int → St → Cost × Int × Int
  | [], at_, s => (⟨s.need, (pat s.pl at_).high, s.peak, (pat s.pl at_).steps⟩, 0, 0)
  | x :: r, at_, s => if (look n fs s at_ x).1 ≠ 0 then (⟨0, 0, 0, 0⟩, at_, (look n fs s at_ x).1) else rest n fs r (at_ + 1) (look n fs s at_ x).2

def start (n : Nat) : St := ⟨⟨true, 0, 0⟩ :: List.replicate n ⟨false, 0, 0⟩, 0, 0⟩

def code (l : List (Int × Int)) (fs : List Cost) : Cost × Int × Int :=
  if fs.all mayBe = true then rest l.length fs l 0 (start l.length) else (⟨0, 0, 0, 0⟩, 0, 1)

/-- bounds that hold of what is known, all along -/
def okP (p : Place) : Prop := -64 ≤ p.high ∧ p.high ≤ 32 ∧ 0 ≤ p.steps ∧ p.steps ≤ 4096
structure Ok (n : Nat) (s : St) : Prop where
  len : s.pl.length = n + 1
  pl : ∀ p ∈ s.pl, okP p
  need : 0 ≤ s.need ∧ s.need ≤ 32
  peak : 0 ≤ s.peak ∧ s.peak ≤ 32

theorem mayBe_bd {c : Cost} (h : mayBe c = true) : 0 ≤ c.need ∧ c.need ≤ 32 ∧ 0 ≤ c.peak ∧ c.peak ≤ 32 ∧ -32 ≤ c.delta ∧ c.delta ≤ 32 ∧ 0 ≤ c.steps ∧ c.steps ≤ 4096 := by
  simp [mayBe] at h; omega
theorem fn_bd {fs : List Cost} (h : fs.all mayBe = true) (a : Int) : 0 ≤ (fn fs a).need ∧ (fn fs a).need ≤ 32 ∧ 0 ≤ (fn fs a).peak ∧ (fn fs a).peak ≤ 32 ∧ -32 ≤ (fn fs a).delta ∧ (fn fs a).delta ≤ 32 ∧ 0 ≤ (fn fs a).steps ∧ (fn fs a).steps ≤ 4096 := by
  unfold fn
  rw [List.getD_eq_getElem?_getD]
  cases h' : fs[a.toNat]? with
  | none => simp
  | some c => exact mayBe_bd (List.all_eq_true.1 h c (List.mem_of_getElem? h'))
theorem pat_bd {n : Nat} {s : St} (h : Ok n s) (i : Int) : okP (pat s.pl i) := by
  unfold pat
  rw [List.getD_eq_getElem?_getD]
  cases h' : s.pl[i.toNat]? with
  | none => exact ⟨by decide, by decide, by decide, by decide⟩
  | some c => exact h.pl c (List.mem_of_getElem? h')
theorem start_ok (n : Nat) : Ok n (start n) := by
  refine ⟨by simp [start], ?_, ⟨by simp [start], by simp [start]⟩, ⟨by simp [start], by simp [start]⟩⟩
  intro p hp
  simp [start] at hp
  rcases hp with rfl | ⟨_, rfl⟩ <;> exact ⟨by decide, by decide, by decide, by decide⟩
theorem mark_ok (e : Eff) (pl : List Place) (t : Int) (h : ∀ p ∈ pl, okP p) (he : -64 ≤ e.high ∧ e.high ≤ 32 ∧ 0 ≤ e.steps ∧ e.steps ≤ 4096) : ∀ p ∈ mark e pl t, okP p := by
  intro p hp
  have hpt : okP (pat pl t) := by
    unfold pat
    rw [List.getD_eq_getElem?_getD]
    cases h' : pl[t.toNat]? with
    | none => exact ⟨by decide, by decide, by decide, by decide⟩
    | some c => exact h c (List.mem_of_getElem? h')
  unfold mark at hp
  rcases List.mem_or_eq_of_mem_set hp with hp | rfl
  · exact h p hp
  · unfold okP at *; simp only; omega
theorem effect_bd {fs : List Cost} (hf : fs.all mayBe = true) {p : Place} (hp : okP p) (x : Int × Int) :
    -98 ≤ (effect fs p x).need ∧ (effect fs p x).need ≤ 200 ∧ -66 ≤ (effect fs p x).peak ∧ (effect fs p x).peak ≤ 100 ∧ -98 ≤ (effect fs p x).high ∧ (effect fs p x).high ≤ 66 ∧ 1 ≤ (effect fs p x).steps ∧ (effect fs p x).steps ≤ 70000 ∧
    (effect fs p x).high ≤ (effect fs p x).peak ∧ ((effect fs p x).need ≤ 32 → -64 ≤ (effect fs p x).high) := by
  have ht := takes_bd x.1
  have hl := leaves_bd x.1
  have hfn := fn_bd hf x.2
  unfold okP at hp
  unfold effect
  simp only
  split
  · simp only
    generalize fn fs x.2 = c at *
    split <;> omega
  · simp only; omega
theorem look_ok {n : Nat} {fs : List Cost} {s : St} {at_ : Int} {x : Int × Int} (hf : fs.all mayBe = true) (h : Ok n s) (he : (look n fs s at_ x).1 = 0) : Ok n (look n fs s at_ x).2 := by
  unfold look at he ⊢
  split at he
  · rename_i h1; exact absurd he h1
  · rename_i h1
    rw [if_neg h1]
    split at he
    · rename_i h2; rw [if_pos h2]; exact h
    · rename_i h2
      rw [if_neg h2]
      simp only at he ⊢
      have eb := effect_bd hf (pat_bd h at_) x
      generalize effect fs (pat s.pl at_) x = e at *
      split at he
      · rename_i h3; exact absurd he h3
      · rename_i h3
        rw [if_neg h3]
        have h4 : max s.need e.need ≤ 32 ∧ max s.peak e.peak ≤ 32 ∧ e.steps ≤ 4096 := by
          unfold reached at h3
          split at h3
          · simp at h3
          · split at h3
            · simp at h3
            · rename_i h5
              split at h3
              · simp at h3
              · split at h3
                · simp at h3
                · rename_i h6; simp at h5 h6; omega
        have hn := h.need
        have hp := h.peak
        have key : ∀ (l : List Int) (pl : List Place), pl.length = n + 1 → (∀ p ∈ pl, okP p) → (l.foldl (mark e) pl).length = n + 1 ∧ ∀ p ∈ l.foldl (mark e) pl, okP p := by
          intro l
          induction l with
          | nil => intro pl h1 h2; exact ⟨h1, h2⟩
          | cons t r ih => intro pl h1 h2; exact ih _ (by simp [mark, h1]) (mark_ok e pl t h2 (by omega))
        obtain ⟨k1, k2⟩ := key (ways at_ x) s.pl h.len h.pl
        exact ⟨k1, k2, by simp only; omega, by simp only; omega⟩
end Bd
end Go.Proofs.YthdmdgmchkhngaaGreat
namespace Go.Proofs.YthdmdgmchkhngaaGreat
namespace Bd
def funcsGo : List (List (Int × Int)) → Int → List Cost → List Cost × Int × Int
  | [], _, cs => (cs, 0, 0)
  | l :: r, i, cs => if (code l cs).2.2 ≠ 0 then ([], i, (code l cs).2.2) else funcsGo r (i + 1) (cs ++ [(code l cs).1])
def funcs (ll : List (List (Int × Int))) : List Cost × Int × Int := if ll.length > 20 then ([], 20, 2) else funcsGo ll 0 []
def whole (l : List (Int × Int)) (cs : List Cost) : Cost × Int :=
  if (code l cs).2.2 ≠ 0 then (⟨0, 0, 0, 0⟩, (code l cs).2.2) else if (code l cs).1.need > 0 then (⟨0, 0, 0, 0⟩, 51) else ((code l cs).1, 0)
def program (ll : List (List (Int × Int))) (l : List (Int × Int)) : Cost × Int :=
  if (funcs ll).2.2 ≠ 0 then (⟨0, 0, 0, 0⟩, (funcs ll).2.2) else whole l (funcs ll).1

theorem funcsGo_len : ∀ (ll : List (List (Int × Int))) (i : Int) (cs : List Cost), (funcsGo ll i cs).1.length ≤ cs.length + ll.length := by
  intro ll
  induction ll with
  | nil => intro i cs; simp [funcsGo]
  | cons l r ih =>
    intro i cs
    unfold funcsGo
    split
    · simp
    · have := ih (i + 1) (cs ++ [(code l cs).1])
      simp at this ⊢
      omega
theorem funcs_len (ll : List (List (Int × Int))) : (funcs ll).1.length ≤ 20 := by
  unfold funcs
  split
  · simp
  · have := funcsGo_len ll 0 []
    simp at this
    omega
end Bd
end Go.Proofs.YthdmdgmchkhngaaGreat

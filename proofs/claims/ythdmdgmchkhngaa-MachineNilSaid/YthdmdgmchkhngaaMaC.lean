/- A machine as it lies: its cells, its rows, its map; and what stays of it as one of its rows, or its cells, are written. Lemmas alone. -/
import Derived.Test.YthdmdgmchkhngaaMaB
namespace Go.Proofs.Ythdmdgmchkhngaa
open Go.RowKit Mc

/-- where a machine's rows lie -/
structure Lay where
  cs : Array Value
  fu : Value
  fus : List Value
  fr : Value
  frs : List Value
  og : Value
  cu : Value
  to : Value
  en : Value
  co : Value
  cv : Value
  sk : Value
  db : Nat
/-- the machine's own cells -/
structure MaC (L : Lay) (s : St) : Prop where
  sz : L.cs.size = 50
  stl : s.store.length = 32
  st : ∀ (i : Nat) x, s.store[i]? = some x → L.cs[8 + i]? = some (.int .i64 x)
  c0 : L.cs[0]? = some L.fu
  c1 : L.cs[1]? = some L.fr
  c2 : L.cs[2]? = some L.og
  c3 : L.cs[3]? = some L.cu
  c4 : L.cs[4]? = some L.to
  c5 : L.cs[5]? = some L.en
  c6 : L.cs[6]? = some L.co
  c7 : L.cs[7]? = some L.cv
  c40 : L.cs[40]? = some L.sk
  c41 : L.cs[41]? = some (.int .i64 s.size)
  c42 : L.cs[42]? = some (.int .i64 s.look)
  c43 : L.cs[43]? = some (.int .i64 s.move)
  c44 : L.cs[44]? = some (.int .i64 s.mode)
  c45 : L.cs[45]? = some (.int .i64 s.steps)
  c46 : L.cs[46]? = some (.int .i64 s.peak)
  c47 : L.cs[47]? = some (.bool s.ended)
  c48 : L.cs[48]? = some (.int .i64 s.err)
  c49 : L.cs[49]? = some (.map (some L.db))
theorem MaC.setFr {L : Lay} {s : St} (h : MaC L s) (u : Value) (vs : List Value) (fs : List Fm) : MaC { L with cs := L.cs.setIfInBounds 1 u, fr := u, frs := vs } { s with frames := fs } := by
  have hz := h.sz
  have hl := h.stl
  refine ⟨by simp only [Array.size_setIfInBounds]; exact h.sz, h.stl, fun j x hx => ?_, ?_, ?_, ?_, ?_, ?_, ?_, ?_, ?_, ?_, ?_, ?_, ?_, ?_, ?_, ?_, ?_, ?_, ?_⟩
  · have : j < s.store.length := (List.getElem?_eq_some_iff.1 hx).1
    rw [Array.getElem?_setIfInBounds_ne (by omega)]
    exact h.st j x hx
  · rw [Array.getElem?_setIfInBounds_ne (by decide)]; exact h.c0
  · rw [Array.getElem?_setIfInBounds_self_of_lt (by omega)]
  · rw [Array.getElem?_setIfInBounds_ne (by decide)]; exact h.c2
  · rw [Array.getElem?_setIfInBounds_ne (by decide)]; exact h.c3
  · rw [Array.getElem?_setIfInBounds_ne (by decide)]; exact h.c4
  · rw [Array.getElem?_setIfInBounds_ne (by decide)]; exact h.c5
  · rw [Array.getElem?_setIfInBounds_ne (by decide)]; exact h.c6
  · rw [Array.getElem?_setIfInBounds_ne (by decide)]; exact h.c7
  · rw [Array.getElem?_setIfInBounds_ne (by decide)]; exact h.c40
  · rw [Array.getElem?_setIfInBounds_ne (by decide)]; exact h.c41
  · rw [Array.getElem?_setIfInBounds_ne (by decide)]; exact h.c42
  · rw [Array.getElem?_setIfInBounds_ne (by decide)]; exact h.c43
  · rw [Array.getElem?_setIfInBounds_ne (by decide)]; exact h.c44
  · rw [Array.getElem?_setIfInBounds_ne (by decide)]; exact h.c45
  · rw [Array.getElem?_setIfInBounds_ne (by decide)]; exact h.c46
  · rw [Array.getElem?_setIfInBounds_ne (by decide)]; exact h.c47
  · rw [Array.getElem?_setIfInBounds_ne (by decide)]; exact h.c48
  · rw [Array.getElem?_setIfInBounds_ne (by decide)]; exact h.c49
theorem MaC.setSk {L : Lay} {s : St} (h : MaC L s) (u : Value) (l : List Int) : MaC { L with cs := L.cs.setIfInBounds 40 u, sk := u } { s with stack := l } := by
  have hz := h.sz
  have hl := h.stl
  refine ⟨by simp only [Array.size_setIfInBounds]; exact h.sz, h.stl, fun j x hx => ?_, ?_, ?_, ?_, ?_, ?_, ?_, ?_, ?_, ?_, ?_, ?_, ?_, ?_, ?_, ?_, ?_, ?_, ?_⟩
  · have : j < s.store.length := (List.getElem?_eq_some_iff.1 hx).1
    rw [Array.getElem?_setIfInBounds_ne (by omega)]
    exact h.st j x hx
  · rw [Array.getElem?_setIfInBounds_ne (by decide)]; exact h.c0
  · rw [Array.getElem?_setIfInBounds_ne (by decide)]; exact h.c1
  · rw [Array.getElem?_setIfInBounds_ne (by decide)]; exact h.c2
  · rw [Array.getElem?_setIfInBounds_ne (by decide)]; exact h.c3
  · rw [Array.getElem?_setIfInBounds_ne (by decide)]; exact h.c4
  · rw [Array.getElem?_setIfInBounds_ne (by decide)]; exact h.c5
  · rw [Array.getElem?_setIfInBounds_ne (by decide)]; exact h.c6
  · rw [Array.getElem?_setIfInBounds_ne (by decide)]; exact h.c7
  · rw [Array.getElem?_setIfInBounds_self_of_lt (by omega)]
  · rw [Array.getElem?_setIfInBounds_ne (by decide)]; exact h.c41
  · rw [Array.getElem?_setIfInBounds_ne (by decide)]; exact h.c42
  · rw [Array.getElem?_setIfInBounds_ne (by decide)]; exact h.c43
  · rw [Array.getElem?_setIfInBounds_ne (by decide)]; exact h.c44
  · rw [Array.getElem?_setIfInBounds_ne (by decide)]; exact h.c45
  · rw [Array.getElem?_setIfInBounds_ne (by decide)]; exact h.c46
  · rw [Array.getElem?_setIfInBounds_ne (by decide)]; exact h.c47
  · rw [Array.getElem?_setIfInBounds_ne (by decide)]; exact h.c48
  · rw [Array.getElem?_setIfInBounds_ne (by decide)]; exact h.c49
theorem MaC.setLook {L : Lay} {s : St} (h : MaC L s) (n : Int) : MaC { L with cs := L.cs.setIfInBounds 42 (.int .i64 n) } { s with look := n } := by
  have hz := h.sz
  have hl := h.stl
  refine ⟨by simp only [Array.size_setIfInBounds]; exact h.sz, h.stl, fun j x hx => ?_, ?_, ?_, ?_, ?_, ?_, ?_, ?_, ?_, ?_, ?_, ?_, ?_, ?_, ?_, ?_, ?_, ?_, ?_⟩
  · have : j < s.store.length := (List.getElem?_eq_some_iff.1 hx).1
    rw [Array.getElem?_setIfInBounds_ne (by omega)]
    exact h.st j x hx
  · rw [Array.getElem?_setIfInBounds_ne (by decide)]; exact h.c0
  · rw [Array.getElem?_setIfInBounds_ne (by decide)]; exact h.c1
  · rw [Array.getElem?_setIfInBounds_ne (by decide)]; exact h.c2
  · rw [Array.getElem?_setIfInBounds_ne (by decide)]; exact h.c3
  · rw [Array.getElem?_setIfInBounds_ne (by decide)]; exact h.c4
  · rw [Array.getElem?_setIfInBounds_ne (by decide)]; exact h.c5
  · rw [Array.getElem?_setIfInBounds_ne (by decide)]; exact h.c6
  · rw [Array.getElem?_setIfInBounds_ne (by decide)]; exact h.c7
  · rw [Array.getElem?_setIfInBounds_ne (by decide)]; exact h.c40
  · rw [Array.getElem?_setIfInBounds_ne (by decide)]; exact h.c41
  · rw [Array.getElem?_setIfInBounds_self_of_lt (by omega)]
  · rw [Array.getElem?_setIfInBounds_ne (by decide)]; exact h.c43
  · rw [Array.getElem?_setIfInBounds_ne (by decide)]; exact h.c44
  · rw [Array.getElem?_setIfInBounds_ne (by decide)]; exact h.c45
  · rw [Array.getElem?_setIfInBounds_ne (by decide)]; exact h.c46
  · rw [Array.getElem?_setIfInBounds_ne (by decide)]; exact h.c47
  · rw [Array.getElem?_setIfInBounds_ne (by decide)]; exact h.c48
  · rw [Array.getElem?_setIfInBounds_ne (by decide)]; exact h.c49
theorem MaC.setMove {L : Lay} {s : St} (h : MaC L s) (n : Int) : MaC { L with cs := L.cs.setIfInBounds 43 (.int .i64 n) } { s with move := n } := by
  have hz := h.sz
  have hl := h.stl
  refine ⟨by simp only [Array.size_setIfInBounds]; exact h.sz, h.stl, fun j x hx => ?_, ?_, ?_, ?_, ?_, ?_, ?_, ?_, ?_, ?_, ?_, ?_, ?_, ?_, ?_, ?_, ?_, ?_, ?_⟩
  · have : j < s.store.length := (List.getElem?_eq_some_iff.1 hx).1
    rw [Array.getElem?_setIfInBounds_ne (by omega)]
    exact h.st j x hx
  · rw [Array.getElem?_setIfInBounds_ne (by decide)]; exact h.c0
  · rw [Array.getElem?_setIfInBounds_ne (by decide)]; exact h.c1
  · rw [Array.getElem?_setIfInBounds_ne (by decide)]; exact h.c2
  · rw [Array.getElem?_setIfInBounds_ne (by decide)]; exact h.c3
  · rw [Array.getElem?_setIfInBounds_ne (by decide)]; exact h.c4
  · rw [Array.getElem?_setIfInBounds_ne (by decide)]; exact h.c5
  · rw [Array.getElem?_setIfInBounds_ne (by decide)]; exact h.c6
  · rw [Array.getElem?_setIfInBounds_ne (by decide)]; exact h.c7
  · rw [Array.getElem?_setIfInBounds_ne (by decide)]; exact h.c40
  · rw [Array.getElem?_setIfInBounds_ne (by decide)]; exact h.c41
  · rw [Array.getElem?_setIfInBounds_ne (by decide)]; exact h.c42
  · rw [Array.getElem?_setIfInBounds_self_of_lt (by omega)]
  · rw [Array.getElem?_setIfInBounds_ne (by decide)]; exact h.c44
  · rw [Array.getElem?_setIfInBounds_ne (by decide)]; exact h.c45
  · rw [Array.getElem?_setIfInBounds_ne (by decide)]; exact h.c46
  · rw [Array.getElem?_setIfInBounds_ne (by decide)]; exact h.c47
  · rw [Array.getElem?_setIfInBounds_ne (by decide)]; exact h.c48
  · rw [Array.getElem?_setIfInBounds_ne (by decide)]; exact h.c49
theorem MaC.setMode {L : Lay} {s : St} (h : MaC L s) (n : Int) : MaC { L with cs := L.cs.setIfInBounds 44 (.int .i64 n) } { s with mode := n } := by
  have hz := h.sz
  have hl := h.stl
  refine ⟨by simp only [Array.size_setIfInBounds]; exact h.sz, h.stl, fun j x hx => ?_, ?_, ?_, ?_, ?_, ?_, ?_, ?_, ?_, ?_, ?_, ?_, ?_, ?_, ?_, ?_, ?_, ?_, ?_⟩
  · have : j < s.store.length := (List.getElem?_eq_some_iff.1 hx).1
    rw [Array.getElem?_setIfInBounds_ne (by omega)]
    exact h.st j x hx
  · rw [Array.getElem?_setIfInBounds_ne (by decide)]; exact h.c0
  · rw [Array.getElem?_setIfInBounds_ne (by decide)]; exact h.c1
  · rw [Array.getElem?_setIfInBounds_ne (by decide)]; exact h.c2
  · rw [Array.getElem?_setIfInBounds_ne (by decide)]; exact h.c3
  · rw [Array.getElem?_setIfInBounds_ne (by decide)]; exact h.c4
  · rw [Array.getElem?_setIfInBounds_ne (by decide)]; exact h.c5
  · rw [Array.getElem?_setIfInBounds_ne (by decide)]; exact h.c6
  · rw [Array.getElem?_setIfInBounds_ne (by decide)]; exact h.c7
  · rw [Array.getElem?_setIfInBounds_ne (by decide)]; exact h.c40
  · rw [Array.getElem?_setIfInBounds_ne (by decide)]; exact h.c41
  · rw [Array.getElem?_setIfInBounds_ne (by decide)]; exact h.c42
  · rw [Array.getElem?_setIfInBounds_ne (by decide)]; exact h.c43
  · rw [Array.getElem?_setIfInBounds_self_of_lt (by omega)]
  · rw [Array.getElem?_setIfInBounds_ne (by decide)]; exact h.c45
  · rw [Array.getElem?_setIfInBounds_ne (by decide)]; exact h.c46
  · rw [Array.getElem?_setIfInBounds_ne (by decide)]; exact h.c47
  · rw [Array.getElem?_setIfInBounds_ne (by decide)]; exact h.c48
  · rw [Array.getElem?_setIfInBounds_ne (by decide)]; exact h.c49
theorem MaC.setSteps {L : Lay} {s : St} (h : MaC L s) (n : Nat) : MaC { L with cs := L.cs.setIfInBounds 45 (.int .i64 n) } { s with steps := n } := by
  have hz := h.sz
  have hl := h.stl
  refine ⟨by simp only [Array.size_setIfInBounds]; exact h.sz, h.stl, fun j x hx => ?_, ?_, ?_, ?_, ?_, ?_, ?_, ?_, ?_, ?_, ?_, ?_, ?_, ?_, ?_, ?_, ?_, ?_, ?_⟩
  · have : j < s.store.length := (List.getElem?_eq_some_iff.1 hx).1
    rw [Array.getElem?_setIfInBounds_ne (by omega)]
    exact h.st j x hx
  · rw [Array.getElem?_setIfInBounds_ne (by decide)]; exact h.c0
  · rw [Array.getElem?_setIfInBounds_ne (by decide)]; exact h.c1
  · rw [Array.getElem?_setIfInBounds_ne (by decide)]; exact h.c2
  · rw [Array.getElem?_setIfInBounds_ne (by decide)]; exact h.c3
  · rw [Array.getElem?_setIfInBounds_ne (by decide)]; exact h.c4
  · rw [Array.getElem?_setIfInBounds_ne (by decide)]; exact h.c5
  · rw [Array.getElem?_setIfInBounds_ne (by decide)]; exact h.c6
  · rw [Array.getElem?_setIfInBounds_ne (by decide)]; exact h.c7
  · rw [Array.getElem?_setIfInBounds_ne (by decide)]; exact h.c40
  · rw [Array.getElem?_setIfInBounds_ne (by decide)]; exact h.c41
  · rw [Array.getElem?_setIfInBounds_ne (by decide)]; exact h.c42
  · rw [Array.getElem?_setIfInBounds_ne (by decide)]; exact h.c43
  · rw [Array.getElem?_setIfInBounds_ne (by decide)]; exact h.c44
  · rw [Array.getElem?_setIfInBounds_self_of_lt (by omega)]
  · rw [Array.getElem?_setIfInBounds_ne (by decide)]; exact h.c46
  · rw [Array.getElem?_setIfInBounds_ne (by decide)]; exact h.c47
  · rw [Array.getElem?_setIfInBounds_ne (by decide)]; exact h.c48
  · rw [Array.getElem?_setIfInBounds_ne (by decide)]; exact h.c49
theorem MaC.setPeak {L : Lay} {s : St} (h : MaC L s) (n : Nat) : MaC { L with cs := L.cs.setIfInBounds 46 (.int .i64 n) } { s with peak := n } := by
  have hz := h.sz
  have hl := h.stl
  refine ⟨by simp only [Array.size_setIfInBounds]; exact h.sz, h.stl, fun j x hx => ?_, ?_, ?_, ?_, ?_, ?_, ?_, ?_, ?_, ?_, ?_, ?_, ?_, ?_, ?_, ?_, ?_, ?_, ?_⟩
  · have : j < s.store.length := (List.getElem?_eq_some_iff.1 hx).1
    rw [Array.getElem?_setIfInBounds_ne (by omega)]
    exact h.st j x hx
  · rw [Array.getElem?_setIfInBounds_ne (by decide)]; exact h.c0
  · rw [Array.getElem?_setIfInBounds_ne (by decide)]; exact h.c1
  · rw [Array.getElem?_setIfInBounds_ne (by decide)]; exact h.c2
  · rw [Array.getElem?_setIfInBounds_ne (by decide)]; exact h.c3
  · rw [Array.getElem?_setIfInBounds_ne (by decide)]; exact h.c4
  · rw [Array.getElem?_setIfInBounds_ne (by decide)]; exact h.c5
  · rw [Array.getElem?_setIfInBounds_ne (by decide)]; exact h.c6
  · rw [Array.getElem?_setIfInBounds_ne (by decide)]; exact h.c7
  · rw [Array.getElem?_setIfInBounds_ne (by decide)]; exact h.c40
  · rw [Array.getElem?_setIfInBounds_ne (by decide)]; exact h.c41
  · rw [Array.getElem?_setIfInBounds_ne (by decide)]; exact h.c42
  · rw [Array.getElem?_setIfInBounds_ne (by decide)]; exact h.c43
  · rw [Array.getElem?_setIfInBounds_ne (by decide)]; exact h.c44
  · rw [Array.getElem?_setIfInBounds_ne (by decide)]; exact h.c45
  · rw [Array.getElem?_setIfInBounds_self_of_lt (by omega)]
  · rw [Array.getElem?_setIfInBounds_ne (by decide)]; exact h.c47
  · rw [Array.getElem?_setIfInBounds_ne (by decide)]; exact h.c48
  · rw [Array.getElem?_setIfInBounds_ne (by decide)]; exact h.c49
theorem MaC.setEnded {L : Lay} {s : St} (h : MaC L s) (b : Bool) : MaC { L with cs := L.cs.setIfInBounds 47 (.bool b) } { s with ended := b } := by
  have hz := h.sz
  have hl := h.stl
  refine ⟨by simp only [Array.size_setIfInBounds]; exact h.sz, h.stl, fun j x hx => ?_, ?_, ?_, ?_, ?_, ?_, ?_, ?_, ?_, ?_, ?_, ?_, ?_, ?_, ?_, ?_, ?_, ?_, ?_⟩
  · have : j < s.store.length := (List.getElem?_eq_some_iff.1 hx).1
    rw [Array.getElem?_setIfInBounds_ne (by omega)]
    exact h.st j x hx
  · rw [Array.getElem?_setIfInBounds_ne (by decide)]; exact h.c0
  · rw [Array.getElem?_setIfInBounds_ne (by decide)]; exact h.c1
  · rw [Array.getElem?_setIfInBounds_ne (by decide)]; exact h.c2
  · rw [Array.getElem?_setIfInBounds_ne (by decide)]; exact h.c3
  · rw [Array.getElem?_setIfInBounds_ne (by decide)]; exact h.c4
  · rw [Array.getElem?_setIfInBounds_ne (by decide)]; exact h.c5
  · rw [Array.getElem?_setIfInBounds_ne (by decide)]; exact h.c6
  · rw [Array.getElem?_setIfInBounds_ne (by decide)]; exact h.c7
  · rw [Array.getElem?_setIfInBounds_ne (by decide)]; exact h.c40
  · rw [Array.getElem?_setIfInBounds_ne (by decide)]; exact h.c41
  · rw [Array.getElem?_setIfInBounds_ne (by decide)]; exact h.c42
  · rw [Array.getElem?_setIfInBounds_ne (by decide)]; exact h.c43
  · rw [Array.getElem?_setIfInBounds_ne (by decide)]; exact h.c44
  · rw [Array.getElem?_setIfInBounds_ne (by decide)]; exact h.c45
  · rw [Array.getElem?_setIfInBounds_ne (by decide)]; exact h.c46
  · rw [Array.getElem?_setIfInBounds_self_of_lt (by omega)]
  · rw [Array.getElem?_setIfInBounds_ne (by decide)]; exact h.c48
  · rw [Array.getElem?_setIfInBounds_ne (by decide)]; exact h.c49
theorem MaC.setErr {L : Lay} {s : St} (h : MaC L s) (n : Int) : MaC { L with cs := L.cs.setIfInBounds 48 (.int .i64 n) } { s with err := n } := by
  have hz := h.sz
  have hl := h.stl
  refine ⟨by simp only [Array.size_setIfInBounds]; exact h.sz, h.stl, fun j x hx => ?_, ?_, ?_, ?_, ?_, ?_, ?_, ?_, ?_, ?_, ?_, ?_, ?_, ?_, ?_, ?_, ?_, ?_, ?_⟩
  · have : j < s.store.length := (List.getElem?_eq_some_iff.1 hx).1
    rw [Array.getElem?_setIfInBounds_ne (by omega)]
    exact h.st j x hx
  · rw [Array.getElem?_setIfInBounds_ne (by decide)]; exact h.c0
  · rw [Array.getElem?_setIfInBounds_ne (by decide)]; exact h.c1
  · rw [Array.getElem?_setIfInBounds_ne (by decide)]; exact h.c2
  · rw [Array.getElem?_setIfInBounds_ne (by decide)]; exact h.c3
  · rw [Array.getElem?_setIfInBounds_ne (by decide)]; exact h.c4
  · rw [Array.getElem?_setIfInBounds_ne (by decide)]; exact h.c5
  · rw [Array.getElem?_setIfInBounds_ne (by decide)]; exact h.c6
  · rw [Array.getElem?_setIfInBounds_ne (by decide)]; exact h.c7
  · rw [Array.getElem?_setIfInBounds_ne (by decide)]; exact h.c40
  · rw [Array.getElem?_setIfInBounds_ne (by decide)]; exact h.c41
  · rw [Array.getElem?_setIfInBounds_ne (by decide)]; exact h.c42
  · rw [Array.getElem?_setIfInBounds_ne (by decide)]; exact h.c43
  · rw [Array.getElem?_setIfInBounds_ne (by decide)]; exact h.c44
  · rw [Array.getElem?_setIfInBounds_ne (by decide)]; exact h.c45
  · rw [Array.getElem?_setIfInBounds_ne (by decide)]; exact h.c46
  · rw [Array.getElem?_setIfInBounds_ne (by decide)]; exact h.c47
  · rw [Array.getElem?_setIfInBounds_self_of_lt (by omega)]
  · rw [Array.getElem?_setIfInBounds_ne (by decide)]; exact h.c49
theorem MaC.setStore {L : Lay} {s : St} (h : MaC L s) (i : Nat) (n : Int) (hi : i < 32) : MaC { L with cs := L.cs.setIfInBounds (8 + i) (.int .i64 n) } { s with store := s.store.set i n } := by
  have hz := h.sz
  have hl := h.stl
  refine ⟨by simp only [Array.size_setIfInBounds]; exact h.sz, by simp only [List.length_set]; exact h.stl, fun j x hx => ?_, ?_, ?_, ?_, ?_, ?_, ?_, ?_, ?_, ?_, ?_, ?_, ?_, ?_, ?_, ?_, ?_, ?_, ?_⟩
  · simp only [List.getElem?_set] at hx
    rw [Array.getElem?_setIfInBounds]
    by_cases e : i = j
    · subst e
      rw [if_pos rfl, if_pos (by omega)] at hx
      injection hx with hx
      subst hx
      rw [if_pos rfl, if_pos (by omega)]
    · rw [if_neg e] at hx
      rw [if_neg (by omega)]
      exact h.st j x hx
  · rw [Array.getElem?_setIfInBounds_ne (by omega)]; exact h.c0
  · rw [Array.getElem?_setIfInBounds_ne (by omega)]; exact h.c1
  · rw [Array.getElem?_setIfInBounds_ne (by omega)]; exact h.c2
  · rw [Array.getElem?_setIfInBounds_ne (by omega)]; exact h.c3
  · rw [Array.getElem?_setIfInBounds_ne (by omega)]; exact h.c4
  · rw [Array.getElem?_setIfInBounds_ne (by omega)]; exact h.c5
  · rw [Array.getElem?_setIfInBounds_ne (by omega)]; exact h.c6
  · rw [Array.getElem?_setIfInBounds_ne (by omega)]; exact h.c7
  · rw [Array.getElem?_setIfInBounds_ne (by omega)]; exact h.c40
  · rw [Array.getElem?_setIfInBounds_ne (by omega)]; exact h.c41
  · rw [Array.getElem?_setIfInBounds_ne (by omega)]; exact h.c42
  · rw [Array.getElem?_setIfInBounds_ne (by omega)]; exact h.c43
  · rw [Array.getElem?_setIfInBounds_ne (by omega)]; exact h.c44
  · rw [Array.getElem?_setIfInBounds_ne (by omega)]; exact h.c45
  · rw [Array.getElem?_setIfInBounds_ne (by omega)]; exact h.c46
  · rw [Array.getElem?_setIfInBounds_ne (by omega)]; exact h.c47
  · rw [Array.getElem?_setIfInBounds_ne (by omega)]; exact h.c48
  · rw [Array.getElem?_setIfInBounds_ne (by omega)]; exact h.c49

/-- a machine in block mb, its memory in blocks of O -/
structure MaL (w : World) (mb : Nat) (O : Nat → Prop) (L : Lay) (s : St) : Prop where
  mbO : O mb
  olt : ∀ k, O k → k < w.heap.size
  blk : Blk w mb 62 L.cs
  c : MaC L s
  fu : Row w O 40 1 L.fu s.funcs.length L.fus
  fr : Row w O 56 3 L.fr s.frames.length (frC L.frs s.frames)
  og : Row w O 29 2 L.og s.org.length (pts s.org)
  cu : Row w O 29 2 L.cu s.cur.length (pts s.cur)
  to : Row w O 3 1 L.to s.touch.length (ints s.touch)
  en : Row w O 3 1 L.en s.ends.length (ints s.ends)
  co : Row w O 87 2 L.co s.cont.length (cts s.cont)
  cv : Row w O 3 1 L.cv s.cvt.length (ints s.cvt)
  sk : Row w O 3 1 L.sk s.stack.length (ints s.stack.reverse)
  fuc : Codes w O L.fus s.funcs
  frc : Codes w O L.frs (s.frames.map (·.code))
  ap_cu_og : Apart L.cu L.og
  ap_to_en : Apart L.to L.en
  ap_to_cv : Apart L.to L.cv
  ap_to_sk : Apart L.to L.sk
  ap_en_cv : Apart L.en L.cv
  ap_en_sk : Apart L.en L.sk
  ap_cv_sk : Apart L.cv L.sk
  dd : Deeds w O L.db
  ok : Ok s

section
variable {w w' : World} {O O' : Nat → Prop} {t : TypeId} {size : Nat} {v : Value} {n : Nat} {xs : List Value} {mb : Nat} {cs : Array Value} {r : Option Nat}
theorem Row.k (h : Row w O t size v n xs) (hmb : Blk w mb 62 cs) (ht : t ≠ 62) (hk : ∀ k, O k → k ≠ mb → some k ≠ r → w'.heap[k]? = w.heap[k]?) (hr : ∀ g, v.ownBlock = some g → r ≠ some g) (hO : ∀ k, O k → O' k) : Row w' O' t size v n xs :=
  h.keep (fun g hg => hk g (h.2 g hg) (h.ne_blk hmb ht hg) (fun e => hr g hg e.symm)) hO
theorem Codes.k {vs : List Value} {cl : List (List (Int × Int))} (h : Codes w O vs cl) (hmb : Blk w mb 62 cs) (hk : ∀ k, O k → k ≠ mb → some k ≠ r → w'.heap[k]? = w.heap[k]?) (hr : ∀ g cs, Blk w g 39 cs → r ≠ some g) (hO : ∀ k, O k → O' k) : Codes w' O' vs cl :=
  Codes.keep (fun g cs hg hb => hk g hg (hb.ne_ hmb (by decide)) (fun e => hr g cs hb e.symm)) hO h
theorem Deeds.k {db : Nat} (h : Deeds w O db) (hmb : Blk w mb 62 cs) (hk : ∀ k, O k → k ≠ mb → some k ≠ r → w'.heap[k]? = w.heap[k]?) {t0 : TypeId} (ht1 : t0 ≠ 23) (ht2 : t0 ≠ 50) (hr : ∀ g, r = some g → ∃ cs, Blk w g t0 cs) (hO : ∀ k, O k → O' k) : Deeds w' O' db := by
  refine h.keep ?_ (fun g t cs hg ht hb => hk g hg ?_ ?_) hO
  · obtain ⟨h0, bs, clock, h1, _⟩ := h
    refine hk db h0 ?_ ?_
    · rintro rfl; unfold Blk at hmb; rw [h1] at hmb; cases hmb
    · intro e
      obtain ⟨cs, hb⟩ := hr db e.symm
      unfold Blk at hb
      rw [h1] at hb
      cases hb
  · exact hb.ne_ hmb (by rcases ht with rfl | rfl <;> decide)
  · intro e
    obtain ⟨cs', hb'⟩ := hr g e.symm
    exact hb.ne_ hb' (by rcases ht with rfl | rfl <;> first | exact ht1.symm | exact ht2.symm) rfl
end

section
variable {w w' : World} {mb : Nat} {O O' : Nat → Prop} {L : Lay} {s : St}
theorem MaL.keep (h : MaL w mb O L s) (hk : ∀ k, O k → w'.heap[k]? = w.heap[k]?) (hO : ∀ k, O k → O' k) (hlt : ∀ k, O' k → k < w'.heap.size) : MaL w' mb O' L s :=
  ⟨hO _ h.mbO, hlt, (hk mb h.mbO).trans h.blk, h.c, h.fu.keep (fun g hg => hk g (h.fu.2 g hg)) hO, h.fr.keep (fun g hg => hk g (h.fr.2 g hg)) hO, h.og.keep (fun g hg => hk g (h.og.2 g hg)) hO, h.cu.keep (fun g hg => hk g (h.cu.2 g hg)) hO, h.to.keep (fun g hg => hk g (h.to.2 g hg)) hO, h.en.keep (fun g hg => hk g (h.en.2 g hg)) hO, h.co.keep (fun g hg => hk g (h.co.2 g hg)) hO, h.cv.keep (fun g hg => hk g (h.cv.2 g hg)) hO, h.sk.keep (fun g hg => hk g (h.sk.2 g hg)) hO, h.fuc.keep (fun g _ hg _ => hk g hg) hO, h.frc.keep (fun g _ hg _ => hk g hg) hO, h.ap_cu_og, h.ap_to_en, h.ap_to_cv, h.ap_to_sk, h.ap_en_cv, h.ap_en_sk, h.ap_cv_sk, h.dd.keep (hk _ h.dd.1) (fun g _ _ hg _ _ => hk g hg) hO, h.ok⟩
theorem MaL.mono (h : MaL w mb O L s) (hO : ∀ k, O k → O' k) (hlt : ∀ k, O' k → k < w.heap.size) : MaL w mb O' L s := h.keep (fun _ _ => rfl) hO hlt

/-- the machine's cells alone are written -/
theorem MaL.cells (h : MaL w mb O L s) {cs' : Array Value} {st' : List Int} {lo' mo' md' : Int} {sp' pk' : Nat} {ed' : Bool} {er' : Int} (hblk : Blk w' mb 62 cs') (hc : MaC { L with cs := cs' } { s with store := st', look := lo', move := mo', mode := md', steps := sp', peak := pk', ended := ed', err := er' }) (hk : ∀ k, O k → k ≠ mb → some k ≠ none → w'.heap[k]? = w.heap[k]?) (hO : ∀ k, O k → O' k) (hlt : ∀ k, O' k → k < w'.heap.size) (hok : Ok { s with store := st', look := lo', move := mo', mode := md', steps := sp', peak := pk', ended := ed', err := er' }) : MaL w' mb O' { L with cs := cs' } { s with store := st', look := lo', move := mo', mode := md', steps := sp', peak := pk', ended := ed', err := er' } := by
  exact ⟨hO _ h.mbO, hlt, hblk, hc, h.fu.k h.blk (by decide) hk (fun g hg e => by cases e) hO, h.fr.k h.blk (by decide) hk (fun g hg e => by cases e) hO, h.og.k h.blk (by decide) hk (fun g hg e => by cases e) hO, h.cu.k h.blk (by decide) hk (fun g hg e => by cases e) hO, h.to.k h.blk (by decide) hk (fun g hg e => by cases e) hO, h.en.k h.blk (by decide) hk (fun g hg e => by cases e) hO, h.co.k h.blk (by decide) hk (fun g hg e => by cases e) hO, h.cv.k h.blk (by decide) hk (fun g hg e => by cases e) hO, h.sk.k h.blk (by decide) hk (fun g hg e => by cases e) hO, h.fuc.k h.blk hk (fun g cs hb e => by cases e) hO, h.frc.k h.blk hk (fun g cs hb e => by cases e) hO, h.ap_cu_og, h.ap_to_en, h.ap_to_cv, h.ap_to_sk, h.ap_en_cv, h.ap_en_sk, h.ap_cv_sk, h.dd.k h.blk hk (t0 := 3) (by decide) (by decide) (fun g e => by cases e) hO, hok⟩
/-- the row sk is written, or put elsewhere -/
theorem MaL.stack (h : MaL w mb O L s) {u : Value} {cs' : Array Value} {l : List Int} (hblk : Blk w' mb 62 cs') (hc : MaC { L with cs := cs', sk := u } { s with stack := l }) (hrow : Row w' O' 3 1 u l.length (ints l.reverse)) (hnew : ∀ g, u.ownBlock = some g → L.sk.ownBlock = some g ∨ w.heap.size ≤ g) (hk : ∀ k, O k → k ≠ mb → some k ≠ L.sk.ownBlock → w'.heap[k]? = w.heap[k]?) (hO : ∀ k, O k → O' k) (hlt : ∀ k, O' k → k < w'.heap.size) (hok : Ok { s with stack := l }) : MaL w' mb O' { L with cs := cs', sk := u } { s with stack := l } := by
  exact ⟨hO _ h.mbO, hlt, hblk, hc, h.fu.k h.blk (by decide) hk (fun g hg => h.fu.apart h.sk (by decide) g hg) hO, h.fr.k h.blk (by decide) hk (fun g hg => h.fr.apart h.sk (by decide) g hg) hO, h.og.k h.blk (by decide) hk (fun g hg => h.og.apart h.sk (by decide) g hg) hO, h.cu.k h.blk (by decide) hk (fun g hg => h.cu.apart h.sk (by decide) g hg) hO, h.to.k h.blk (by decide) hk (fun g hg => h.ap_to_sk g hg) hO, h.en.k h.blk (by decide) hk (fun g hg => h.ap_en_sk g hg) hO, h.co.k h.blk (by decide) hk (fun g hg => h.co.apart h.sk (by decide) g hg) hO, h.cv.k h.blk (by decide) hk (fun g hg => h.ap_cv_sk g hg) hO, hrow, h.fuc.k h.blk hk (fun g cs hb e => by obtain ⟨_, _, cs2, hb2⟩ := h.sk.block e; exact hb.ne_ hb2 (by decide) rfl) hO, h.frc.k h.blk hk (fun g cs hb e => by obtain ⟨_, _, cs2, hb2⟩ := h.sk.block e; exact hb.ne_ hb2 (by decide) rfl) hO, h.ap_cu_og, h.ap_to_en, h.ap_to_cv, (Apart.symm ((fun g h1 h2 => by rcases hnew g h1 with h3 | h3; exact (h.ap_to_sk.symm) g h3 h2; have := (h.to.block h2).2.1; omega))), h.ap_en_cv, (Apart.symm ((fun g h1 h2 => by rcases hnew g h1 with h3 | h3; exact (h.ap_en_sk.symm) g h3 h2; have := (h.en.block h2).2.1; omega))), (Apart.symm ((fun g h1 h2 => by rcases hnew g h1 with h3 | h3; exact (h.ap_cv_sk.symm) g h3 h2; have := (h.cv.block h2).2.1; omega))), h.dd.k h.blk hk (t0 := 3) (by decide) (by decide) (fun g e => by obtain ⟨_, _, cs2, hb2⟩ := h.sk.block e; exact ⟨cs2, hb2⟩) hO, hok⟩
/-- the row fr is written, or put elsewhere -/
theorem MaL.frames_ (h : MaL w mb O L s) {u : Value} {cs' : Array Value} {vs : List Value} {fs : List Fm} (hcod : Codes w' O' vs (fs.map (·.code))) (hblk : Blk w' mb 62 cs') (hc : MaC { L with cs := cs', fr := u, frs := vs } { s with frames := fs }) (hrow : Row w' O' 56 3 u fs.length (frC vs fs)) (_hnew : ∀ g, u.ownBlock = some g → L.fr.ownBlock = some g ∨ w.heap.size ≤ g) (hk : ∀ k, O k → k ≠ mb → some k ≠ L.fr.ownBlock → w'.heap[k]? = w.heap[k]?) (hO : ∀ k, O k → O' k) (hlt : ∀ k, O' k → k < w'.heap.size) (hok : Ok { s with frames := fs }) : MaL w' mb O' { L with cs := cs', fr := u, frs := vs } { s with frames := fs } := by
  exact ⟨hO _ h.mbO, hlt, hblk, hc, h.fu.k h.blk (by decide) hk (fun g hg => h.fu.apart h.fr (by decide) g hg) hO, hrow, h.og.k h.blk (by decide) hk (fun g hg => h.og.apart h.fr (by decide) g hg) hO, h.cu.k h.blk (by decide) hk (fun g hg => h.cu.apart h.fr (by decide) g hg) hO, h.to.k h.blk (by decide) hk (fun g hg => h.to.apart h.fr (by decide) g hg) hO, h.en.k h.blk (by decide) hk (fun g hg => h.en.apart h.fr (by decide) g hg) hO, h.co.k h.blk (by decide) hk (fun g hg => h.co.apart h.fr (by decide) g hg) hO, h.cv.k h.blk (by decide) hk (fun g hg => h.cv.apart h.fr (by decide) g hg) hO, h.sk.k h.blk (by decide) hk (fun g hg => h.sk.apart h.fr (by decide) g hg) hO, h.fuc.k h.blk hk (fun g cs hb e => by obtain ⟨_, _, cs2, hb2⟩ := h.fr.block e; exact hb.ne_ hb2 (by decide) rfl) hO, hcod, h.ap_cu_og, h.ap_to_en, h.ap_to_cv, h.ap_to_sk, h.ap_en_cv, h.ap_en_sk, h.ap_cv_sk, h.dd.k h.blk hk (t0 := 56) (by decide) (by decide) (fun g e => by obtain ⟨_, _, cs2, hb2⟩ := h.fr.block e; exact ⟨cs2, hb2⟩) hO, hok⟩
theorem MaL.cur_ (h : MaL w mb O L s) {l : List (Int × Int)} (hl : l.length = s.cur.length) (hrow : Row w' O' 29 2 L.cu s.cur.length (pts l)) (hmb : w'.heap[mb]? = w.heap[mb]?) (hk : ∀ k, O k → k ≠ mb → some k ≠ L.cu.ownBlock → w'.heap[k]? = w.heap[k]?) (hO : ∀ k, O k → O' k) (hlt : ∀ k, O' k → k < w'.heap.size) (hok : Ok { s with cur := l }) : MaL w' mb O' L { s with cur := l } := by
  exact ⟨hO _ h.mbO, hlt, hmb.trans h.blk, ⟨h.c.sz, h.c.stl, h.c.st, h.c.c0, h.c.c1, h.c.c2, h.c.c3, h.c.c4, h.c.c5, h.c.c6, h.c.c7, h.c.c40, h.c.c41, h.c.c42, h.c.c43, h.c.c44, h.c.c45, h.c.c46, h.c.c47, h.c.c48, h.c.c49⟩, h.fu.k h.blk (by decide) hk (fun g hg => h.fu.apart h.cu (by decide) g hg) hO, h.fr.k h.blk (by decide) hk (fun g hg => h.fr.apart h.cu (by decide) g hg) hO, h.og.k h.blk (by decide) hk (fun g hg => h.ap_cu_og.symm g hg) hO, by rw [hl]; exact hrow, h.to.k h.blk (by decide) hk (fun g hg => h.to.apart h.cu (by decide) g hg) hO, h.en.k h.blk (by decide) hk (fun g hg => h.en.apart h.cu (by decide) g hg) hO, h.co.k h.blk (by decide) hk (fun g hg => h.co.apart h.cu (by decide) g hg) hO, h.cv.k h.blk (by decide) hk (fun g hg => h.cv.apart h.cu (by decide) g hg) hO, h.sk.k h.blk (by decide) hk (fun g hg => h.sk.apart h.cu (by decide) g hg) hO, h.fuc.k h.blk hk (fun g cs hb e => by obtain ⟨_, _, cs2, hb2⟩ := h.cu.block e; exact hb.ne_ hb2 (by decide) rfl) hO, h.frc.k h.blk hk (fun g cs hb e => by obtain ⟨_, _, cs2, hb2⟩ := h.cu.block e; exact hb.ne_ hb2 (by decide) rfl) hO, h.ap_cu_og, h.ap_to_en, h.ap_to_cv, h.ap_to_sk, h.ap_en_cv, h.ap_en_sk, h.ap_cv_sk, h.dd.k h.blk hk (t0 := 29) (by decide) (by decide) (fun g e => by obtain ⟨_, _, cs2, hb2⟩ := h.cu.block e; exact ⟨cs2, hb2⟩) hO, hok⟩
theorem MaL.touch_ (h : MaL w mb O L s) {l : List Int} (hl : l.length = s.touch.length) (hrow : Row w' O' 3 1 L.to s.touch.length (ints l)) (hmb : w'.heap[mb]? = w.heap[mb]?) (hk : ∀ k, O k → k ≠ mb → some k ≠ L.to.ownBlock → w'.heap[k]? = w.heap[k]?) (hO : ∀ k, O k → O' k) (hlt : ∀ k, O' k → k < w'.heap.size) (hok : Ok { s with touch := l }) : MaL w' mb O' L { s with touch := l } := by
  exact ⟨hO _ h.mbO, hlt, hmb.trans h.blk, ⟨h.c.sz, h.c.stl, h.c.st, h.c.c0, h.c.c1, h.c.c2, h.c.c3, h.c.c4, h.c.c5, h.c.c6, h.c.c7, h.c.c40, h.c.c41, h.c.c42, h.c.c43, h.c.c44, h.c.c45, h.c.c46, h.c.c47, h.c.c48, h.c.c49⟩, h.fu.k h.blk (by decide) hk (fun g hg => h.fu.apart h.to (by decide) g hg) hO, h.fr.k h.blk (by decide) hk (fun g hg => h.fr.apart h.to (by decide) g hg) hO, h.og.k h.blk (by decide) hk (fun g hg => h.og.apart h.to (by decide) g hg) hO, h.cu.k h.blk (by decide) hk (fun g hg => h.cu.apart h.to (by decide) g hg) hO, by rw [hl]; exact hrow, h.en.k h.blk (by decide) hk (fun g hg => h.ap_to_en.symm g hg) hO, h.co.k h.blk (by decide) hk (fun g hg => h.co.apart h.to (by decide) g hg) hO, h.cv.k h.blk (by decide) hk (fun g hg => h.ap_to_cv.symm g hg) hO, h.sk.k h.blk (by decide) hk (fun g hg => h.ap_to_sk.symm g hg) hO, h.fuc.k h.blk hk (fun g cs hb e => by obtain ⟨_, _, cs2, hb2⟩ := h.to.block e; exact hb.ne_ hb2 (by decide) rfl) hO, h.frc.k h.blk hk (fun g cs hb e => by obtain ⟨_, _, cs2, hb2⟩ := h.to.block e; exact hb.ne_ hb2 (by decide) rfl) hO, h.ap_cu_og, h.ap_to_en, h.ap_to_cv, h.ap_to_sk, h.ap_en_cv, h.ap_en_sk, h.ap_cv_sk, h.dd.k h.blk hk (t0 := 3) (by decide) (by decide) (fun g e => by obtain ⟨_, _, cs2, hb2⟩ := h.to.block e; exact ⟨cs2, hb2⟩) hO, hok⟩
theorem MaL.cvt_ (h : MaL w mb O L s) {l : List Int} (hl : l.length = s.cvt.length) (hrow : Row w' O' 3 1 L.cv s.cvt.length (ints l)) (hmb : w'.heap[mb]? = w.heap[mb]?) (hk : ∀ k, O k → k ≠ mb → some k ≠ L.cv.ownBlock → w'.heap[k]? = w.heap[k]?) (hO : ∀ k, O k → O' k) (hlt : ∀ k, O' k → k < w'.heap.size) (hok : Ok { s with cvt := l }) : MaL w' mb O' L { s with cvt := l } := by
  exact ⟨hO _ h.mbO, hlt, hmb.trans h.blk, ⟨h.c.sz, h.c.stl, h.c.st, h.c.c0, h.c.c1, h.c.c2, h.c.c3, h.c.c4, h.c.c5, h.c.c6, h.c.c7, h.c.c40, h.c.c41, h.c.c42, h.c.c43, h.c.c44, h.c.c45, h.c.c46, h.c.c47, h.c.c48, h.c.c49⟩, h.fu.k h.blk (by decide) hk (fun g hg => h.fu.apart h.cv (by decide) g hg) hO, h.fr.k h.blk (by decide) hk (fun g hg => h.fr.apart h.cv (by decide) g hg) hO, h.og.k h.blk (by decide) hk (fun g hg => h.og.apart h.cv (by decide) g hg) hO, h.cu.k h.blk (by decide) hk (fun g hg => h.cu.apart h.cv (by decide) g hg) hO, h.to.k h.blk (by decide) hk (fun g hg => h.ap_to_cv g hg) hO, h.en.k h.blk (by decide) hk (fun g hg => h.ap_en_cv g hg) hO, h.co.k h.blk (by decide) hk (fun g hg => h.co.apart h.cv (by decide) g hg) hO, by rw [hl]; exact hrow, h.sk.k h.blk (by decide) hk (fun g hg => h.ap_cv_sk.symm g hg) hO, h.fuc.k h.blk hk (fun g cs hb e => by obtain ⟨_, _, cs2, hb2⟩ := h.cv.block e; exact hb.ne_ hb2 (by decide) rfl) hO, h.frc.k h.blk hk (fun g cs hb e => by obtain ⟨_, _, cs2, hb2⟩ := h.cv.block e; exact hb.ne_ hb2 (by decide) rfl) hO, h.ap_cu_og, h.ap_to_en, h.ap_to_cv, h.ap_to_sk, h.ap_en_cv, h.ap_en_sk, h.ap_cv_sk, h.dd.k h.blk hk (t0 := 3) (by decide) (by decide) (fun g e => by obtain ⟨_, _, cs2, hb2⟩ := h.cv.block e; exact ⟨cs2, hb2⟩) hO, hok⟩
end

/-- the blocks of O, and those that are new -/
def ext (O : Nat → Prop) (w w' : World) (k : Nat) : Prop := O k ∨ (w.heap.size ≤ k ∧ k < w'.heap.size)
section
variable {w w' w'' : World} {mb : Nat} {O : Nat → Prop} {L : Lay} {s : St}
theorem MaL.ext_lt (h : MaL w mb O L s) (hz : w.heap.size ≤ w'.heap.size) : ∀ k, ext O w w' k → k < w'.heap.size := fun k hk => by
  rcases hk with hk | hk
  · have := h.olt k hk; omega
  · exact hk.2
theorem ext_trans (h1 : w.heap.size ≤ w'.heap.size) (h2 : w'.heap.size ≤ w''.heap.size) : ∀ k, ext (ext O w w') w' w'' k → ext O w w'' k := fun k hk => by
  rcases hk with (hk | hk) | hk
  · exact .inl hk
  · exact .inr ⟨hk.1, by omega⟩
  · exact .inr ⟨by omega, hk.2⟩
/-- what a deed leaves: the machine so, and nothing else turned -/
def MPost (w : World) (mb : Nat) (O : Nat → Prop) (s : St) (e : Ending) (w' : World) : Prop := e = .returned (.tuple #[]) ∧ (∃ L, MaL w' mb (ext O w w') L s) ∧ Fr O w w'
theorem Fr.ext (h : Fr O w w') (k : Fr (ext O w w') w' w'') : Fr O w w'' :=
  ⟨k.os.trans h.os, k.tape.trans h.tape, k.output.trans h.output, Nat.le_trans h.size k.size, fun i hi hs => (k.block i (Nat.lt_of_lt_of_le hi h.size) (fun a => by rcases a with a | a; exact hs a; omega)).trans (h.block i hi hs)⟩
theorem MaL.alloc (h : MaL w mb O L s) (o : Obj) : MaL (w.alloc o) mb O L s := h.keep (fun k hk => Below.heap_alloc _ _ _ (h.olt k hk)) (fun _ h => h) (fun k hk => by have := h.olt k hk; simp; omega)
theorem MaL.drew (h : MaL w mb O L s) : MaL w.drew mb O L s := h.keep (fun _ _ => rfl) (fun _ h => h) h.olt
theorem MaL.outer (h : MaL w mb O L s) {p : Addr} (hp : ¬ O p.block) (u : Value) : MaL (w.setCell p u) mb O L s :=
  h.keep (fun k hk => Below.heap_setCell _ _ _ _ (fun e => hp (e ▸ hk))) (fun _ h => h) (fun k hk => by have := h.olt k hk; simpa [World.setCell] using this)
theorem MaL.frame (h : MaL w mb O L s) {S : Nat → Prop} (hf : Fr S w w') (hS : ∀ k, O k → ¬ S k) : MaL w' mb O L s :=
  h.keep (fun k hk => hf.block k (h.olt k hk) (hS k hk)) (fun _ h => h) (fun k hk => by have := h.olt k hk; have := hf.size; omega)
end
end Go.Proofs.Ythdmdgmchkhngaa

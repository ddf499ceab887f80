/- Every deed of the machine, by its number: one contract. -/
import Derived.Test.YthdmdgmchkhngaaGreatMaW
import Derived.Test.YthdmdgmchkhngaaGreatMaX
import Derived.Test.YthdmdgmchkhngaaGreatMaV
import Derived.Conc.MuLone
namespace Go.Proofs.YthdmdgmchkhngaaGreat
open Go.RowKit Mc

theorem enters {f : Nat} {fn : Func} {c : Code} (hf : Tryz.prog.funcs[f]? = some fn) (hname : (fn.name == "runtime.NumGoroutine") = false) (hb : fn.body = some c) : ∀ args w, Sem.run Tryz.prog (callFunc f args) w = .ok (.enter f args) w :=
  fun args w => Go.MuLone.run_callFunc_enter hf hname hb args w
theorem inter_deed (w : World) (mb : Nat) (O : Nat → Prop) (L : Lay) (s : St) (h : MaL w mb O L s) (a : Int) :
    Calls Tryz.prog 97 #[.pointer (some ⟨mb, 0, none⟩), .int .i64 a] w (MPost w mb O (inter s (a % 2))) := by
  have HC := Lib.hid (inter_any w mb O L s h (a % 2) (by omega))
  clear h
  go_enter Tryz.func97, Tryz.ntmps97
  go_wp2_with fail
  refine (rest_m _ 2 _ (by decide) (by decide)).mono ?_
  rintro e w1 ⟨rfl, rfl⟩
  go_wp2_with fail
  refine HC.out.mono ?_
  intro e w9 hp
  have HP := Lib.hid (MPost.here hp.2.1 hp.2.2)
  obtain ⟨rfl, _⟩ := hp
  go_wp2
  go_end0
  exact HP.out

/-- a deed may be done -/
structure CanDo (n : Nat) (a : Int) (s : St) : Prop where
  st : takes n ≤ s.stack.length
  lv : s.stack.length + leaves n ≤ 32 + takes n
  jump : (n = 35 ∨ n = 36) → ∃ f r, s.frames = f :: r ∧ 0 ≤ a ∧ f.next + a.toNat ≤ f.code.length
  call : (n = 37 ∨ n = 38) → 0 ≤ a ∧ a.toNat < s.funcs.length ∧ s.frames.length ≤ 20
/-- what a deed's function does -/
def DeedCall (w : World) (mb : Nat) (O : Nat → Prop) (s : St) (n : Nat) (a : Int) (bs : Nat → Nat) : Prop :=
  ∃ id, (deedFn n).1 = .func id ∧ (∀ args w, Sem.run Tryz.prog (callFunc id args) w = .ok (.enter id args) w) ∧
    Calls Tryz.prog id (match (deedFn n).2 with | some _ => #[.pointer (some ⟨mb, 0, none⟩), .int .i64 a, .pointer (some ⟨bs n, 0, none⟩)] | none => #[.pointer (some ⟨mb, 0, none⟩), .int .i64 a]) w (MPost w mb O (deed n a s))
theorem st1 {l : List Int} (h : 1 ≤ l.length) : ∃ x r, l = x :: r := by
  cases l with
  | nil => simp at h
  | cons x r => exact ⟨x, r, rfl⟩
theorem st2 {l : List Int} (h : 2 ≤ l.length) : ∃ y x r, l = y :: x :: r := by
  match l, h with
  | y :: x :: r, _ => exact ⟨y, x, r, rfl⟩
  | [_], h => simp at h
  | [], h => simp at h
section
variable {w : World} {mb : Nat} {O : Nat → Prop} {L : Lay} {s : St} {a : Int} {bs : Nat → Nat}

theorem dc1 (h : MaL w mb O L s) (hc : CanDo 1 a s) (_hb : DeedBox w O bs 1) : DeedCall w mb O s 1 a bs := by
  refine ⟨_, rfl, (enters Tryz.func49 (by kernel_rfl) rfl), ?_⟩
  have e : deed ((1 : Nat) : Int) a s = push a s := rfl
  rw [e]
  exact push_deed w mb O L s h a (by have := hc.lv; simp [takes, leaves] at this; omega)

theorem dc2 (h : MaL w mb O L s) (hc : CanDo 2 a s) (_hb : DeedBox w O bs 2) : DeedCall w mb O s 2 a bs := by
  obtain ⟨x, r, hs⟩ := st1 (l := s.stack) (by have := hc.st; simpa [takes] using this)
  refine ⟨_, rfl, (enters Tryz.func51 (by kernel_rfl) rfl), ?_⟩
  have e : deed ((2 : Nat) : Int) a s = { s with stack := r } := by
    have e0 : deed ((2 : Nat) : Int) a s = { s with stack := (s.stack.drop 1) } := rfl
    rw [e0, hs]
    rfl
  rw [e]
  exact pop_deed w mb O L s h a x r hs

theorem dc3 (h : MaL w mb O L s) (hc : CanDo 3 a s) (_hb : DeedBox w O bs 3) : DeedCall w mb O s 3 a bs := by
  obtain ⟨x, r, hs⟩ := st1 (l := s.stack) (by have := hc.st; simpa [takes] using this)
  refine ⟨_, rfl, (enters Tryz.func53 (by kernel_rfl) rfl), ?_⟩
  have e : deed ((3 : Nat) : Int) a s = push x (push x { s with stack := r }) := by
    have e0 : deed ((3 : Nat) : Int) a s = push (s.stack.getD 0 0) (push (s.stack.getD 0 0) { s with stack := (s.stack.drop 1) }) := rfl
    rw [e0, hs]
    rfl
  rw [e]
  exact dup_deed w mb O L s h a x r hs (by have := hc.lv; simp [takes, leaves] at this; omega)

theorem dc4 (h : MaL w mb O L s) (hc : CanDo 4 a s) (_hb : DeedBox w O bs 4) : DeedCall w mb O s 4 a bs := by
  obtain ⟨y, x, r, hs⟩ := st2 (l := s.stack) (by have := hc.st; simpa [takes] using this)
  refine ⟨_, rfl, (enters Tryz.func54 (by kernel_rfl) rfl), ?_⟩
  have e : deed ((4 : Nat) : Int) a s = push x (push y { s with stack := r }) := by
    have e0 : deed ((4 : Nat) : Int) a s = push (s.stack.getD 1 0) (push (s.stack.getD 0 0) { s with stack := (s.stack.drop 2) }) := rfl
    rw [e0, hs]
    rfl
  rw [e]
  exact swap_deed w mb O L s h a x y r hs

theorem dc5 (h : MaL w mb O L s) (hc : CanDo 5 a s) (hb : DeedBox w O bs 5) : DeedCall w mb O s 5 a bs := by
  obtain ⟨y, x, r, hs⟩ := st2 (l := s.stack) (by have := hc.st; simpa [takes] using this)
  refine ⟨_, rfl, (enters Tryz.func122 (by kernel_rfl) rfl), ?_⟩
  have e : deed ((5 : Nat) : Int) a s = push (x + y) { s with stack := r } := by
    have e0 : deed ((5 : Nat) : Int) a s = push ((s.stack.getD 1 0) + (s.stack.getD 0 0)) { s with stack := s.stack.drop 2 } := rfl
    rw [e0, hs]
    rfl
  rw [e]
  exact two_any w mb O L s h a x y r hs (bs 5) _ hb.2 _ (enters Tryz.func56 (by kernel_rfl) rfl) (fun w hx hy => d5 x y w hx hy)

theorem dc6 (h : MaL w mb O L s) (hc : CanDo 6 a s) (hb : DeedBox w O bs 6) : DeedCall w mb O s 6 a bs := by
  obtain ⟨y, x, r, hs⟩ := st2 (l := s.stack) (by have := hc.st; simpa [takes] using this)
  refine ⟨_, rfl, (enters Tryz.func122 (by kernel_rfl) rfl), ?_⟩
  have e : deed ((6 : Nat) : Int) a s = push (x - y) { s with stack := r } := by
    have e0 : deed ((6 : Nat) : Int) a s = push ((s.stack.getD 1 0) - (s.stack.getD 0 0)) { s with stack := s.stack.drop 2 } := rfl
    rw [e0, hs]
    rfl
  rw [e]
  exact two_any w mb O L s h a x y r hs (bs 6) _ hb.2 _ (enters Tryz.func57 (by kernel_rfl) rfl) (fun w hx hy => d6 x y w hx hy)

theorem dc7 (h : MaL w mb O L s) (hc : CanDo 7 a s) (hb : DeedBox w O bs 7) : DeedCall w mb O s 7 a bs := by
  obtain ⟨y, x, r, hs⟩ := st2 (l := s.stack) (by have := hc.st; simpa [takes] using this)
  refine ⟨_, rfl, (enters Tryz.func122 (by kernel_rfl) rfl), ?_⟩
  have e : deed ((7 : Nat) : Int) a s = push (k32 (x * y / 64)) { s with stack := r } := by
    have e0 : deed ((7 : Nat) : Int) a s = push (k32 ((s.stack.getD 1 0) * (s.stack.getD 0 0) / 64)) { s with stack := s.stack.drop 2 } := rfl
    rw [e0, hs]
    rfl
  rw [e]
  exact two_any w mb O L s h a x y r hs (bs 7) _ hb.2 _ (enters Tryz.func58 (by kernel_rfl) rfl) (fun w hx hy => d7 x y w hx hy)

theorem dc8 (h : MaL w mb O L s) (hc : CanDo 8 a s) (hb : DeedBox w O bs 8) : DeedCall w mb O s 8 a bs := by
  obtain ⟨y, x, r, hs⟩ := st2 (l := s.stack) (by have := hc.st; simpa [takes] using this)
  refine ⟨_, rfl, (enters Tryz.func122 (by kernel_rfl) rfl), ?_⟩
  have e : deed ((8 : Nat) : Int) a s = push (k32 (divd (64 * x) y)) { s with stack := r } := by
    have e0 : deed ((8 : Nat) : Int) a s = push (k32 (divd (64 * (s.stack.getD 1 0)) (s.stack.getD 0 0))) { s with stack := s.stack.drop 2 } := rfl
    rw [e0, hs]
    rfl
  rw [e]
  exact two_any w mb O L s h a x y r hs (bs 8) _ hb.2 _ (enters Tryz.func60 (by kernel_rfl) rfl) (fun w hx hy => d8 x y w hx hy)

theorem dc9 (h : MaL w mb O L s) (hc : CanDo 9 a s) (hb : DeedBox w O bs 9) : DeedCall w mb O s 9 a bs := by
  obtain ⟨x, r, hs⟩ := st1 (l := s.stack) (by have := hc.st; simpa [takes] using this)
  refine ⟨_, rfl, (enters Tryz.func123 (by kernel_rfl) rfl), ?_⟩
  have e : deed ((9 : Nat) : Int) a s = push (-x) { s with stack := r } := by
    have e0 : deed ((9 : Nat) : Int) a s = push (-(s.stack.getD 0 0)) { s with stack := s.stack.drop 1 } := rfl
    rw [e0, hs]
    rfl
  rw [e]
  exact one_any w mb O L s h a x r hs (bs 9) _ hb.2 _ (enters Tryz.func63 (by kernel_rfl) rfl) (fun w hx => d9 x w hx)

theorem dc10 (h : MaL w mb O L s) (hc : CanDo 10 a s) (hb : DeedBox w O bs 10) : DeedCall w mb O s 10 a bs := by
  obtain ⟨x, r, hs⟩ := st1 (l := s.stack) (by have := hc.st; simpa [takes] using this)
  refine ⟨_, rfl, (enters Tryz.func123 (by kernel_rfl) rfl), ?_⟩
  have e : deed ((10 : Nat) : Int) a s = push (max x (-x)) { s with stack := r } := by
    have e0 : deed ((10 : Nat) : Int) a s = push (max (s.stack.getD 0 0) (-(s.stack.getD 0 0))) { s with stack := s.stack.drop 1 } := rfl
    rw [e0, hs]
    rfl
  rw [e]
  exact one_any w mb O L s h a x r hs (bs 10) _ hb.2 _ (enters Tryz.func64 (by kernel_rfl) rfl) (fun w hx => d10 x w hx)

theorem dc11 (h : MaL w mb O L s) (hc : CanDo 11 a s) (hb : DeedBox w O bs 11) : DeedCall w mb O s 11 a bs := by
  obtain ⟨y, x, r, hs⟩ := st2 (l := s.stack) (by have := hc.st; simpa [takes] using this)
  refine ⟨_, rfl, (enters Tryz.func122 (by kernel_rfl) rfl), ?_⟩
  have e : deed ((11 : Nat) : Int) a s = push (min x y) { s with stack := r } := by
    have e0 : deed ((11 : Nat) : Int) a s = push (min (s.stack.getD 1 0) (s.stack.getD 0 0)) { s with stack := s.stack.drop 2 } := rfl
    rw [e0, hs]
    rfl
  rw [e]
  exact two_any w mb O L s h a x y r hs (bs 11) _ hb.2 _ (enters Tryz.func65 (by kernel_rfl) rfl) (fun w hx hy => d11 x y w hx hy)

theorem dc12 (h : MaL w mb O L s) (hc : CanDo 12 a s) (hb : DeedBox w O bs 12) : DeedCall w mb O s 12 a bs := by
  obtain ⟨y, x, r, hs⟩ := st2 (l := s.stack) (by have := hc.st; simpa [takes] using this)
  refine ⟨_, rfl, (enters Tryz.func122 (by kernel_rfl) rfl), ?_⟩
  have e : deed ((12 : Nat) : Int) a s = push (max x y) { s with stack := r } := by
    have e0 : deed ((12 : Nat) : Int) a s = push (max (s.stack.getD 1 0) (s.stack.getD 0 0)) { s with stack := s.stack.drop 2 } := rfl
    rw [e0, hs]
    rfl
  rw [e]
  exact two_any w mb O L s h a x y r hs (bs 12) _ hb.2 _ (enters Tryz.func66 (by kernel_rfl) rfl) (fun w hx hy => d12 x y w hx hy)

theorem dc13 (h : MaL w mb O L s) (hc : CanDo 13 a s) (hb : DeedBox w O bs 13) : DeedCall w mb O s 13 a bs := by
  obtain ⟨x, r, hs⟩ := st1 (l := s.stack) (by have := hc.st; simpa [takes] using this)
  refine ⟨_, rfl, (enters Tryz.func123 (by kernel_rfl) rfl), ?_⟩
  have e : deed ((13 : Nat) : Int) a s = push (rounded 4 x) { s with stack := r } := by
    have e0 : deed ((13 : Nat) : Int) a s = push (rounded 4 (s.stack.getD 0 0)) { s with stack := s.stack.drop 1 } := rfl
    rw [e0, hs]
    rfl
  rw [e]
  exact one_any w mb O L s h a x r hs (bs 13) _ hb.2 _ (enters Tryz.func67 (by kernel_rfl) rfl) (fun w hx => d13 x w hx)

theorem dc14 (h : MaL w mb O L s) (hc : CanDo 14 a s) (hb : DeedBox w O bs 14) : DeedCall w mb O s 14 a bs := by
  obtain ⟨x, r, hs⟩ := st1 (l := s.stack) (by have := hc.st; simpa [takes] using this)
  refine ⟨_, rfl, (enters Tryz.func123 (by kernel_rfl) rfl), ?_⟩
  have e : deed ((14 : Nat) : Int) a s = push (rounded 5 x) { s with stack := r } := by
    have e0 : deed ((14 : Nat) : Int) a s = push (rounded 5 (s.stack.getD 0 0)) { s with stack := s.stack.drop 1 } := rfl
    rw [e0, hs]
    rfl
  rw [e]
  exact one_any w mb O L s h a x r hs (bs 14) _ hb.2 _ (enters Tryz.func69 (by kernel_rfl) rfl) (fun w hx => d14 x w hx)

theorem dc15 (h : MaL w mb O L s) (hc : CanDo 15 a s) (_hb : DeedBox w O bs 15) : DeedCall w mb O s 15 a bs := by
  obtain ⟨x, r, hs⟩ := st1 (l := s.stack) (by have := hc.st; simpa [takes] using this)
  refine ⟨_, rfl, (enters Tryz.func70 (by kernel_rfl) rfl), ?_⟩
  have e : deed ((15 : Nat) : Int) a s = push (rounded s.mode x) { s with stack := r } := by
    have e0 : deed ((15 : Nat) : Int) a s = push (rounded s.mode (s.stack.getD 0 0)) { s with stack := (s.stack.drop 1) } := rfl
    rw [e0, hs]
    rfl
  rw [e]
  exact round_deed w mb O L s h a x r hs

theorem dc16 (h : MaL w mb O L s) (hc : CanDo 16 a s) (hb : DeedBox w O bs 16) : DeedCall w mb O s 16 a bs := by
  obtain ⟨y, x, r, hs⟩ := st2 (l := s.stack) (by have := hc.st; simpa [takes] using this)
  refine ⟨_, rfl, (enters Tryz.func122 (by kernel_rfl) rfl), ?_⟩
  have e : deed ((16 : Nat) : Int) a s = push (truth (decide (x < y))) { s with stack := r } := by
    have e0 : deed ((16 : Nat) : Int) a s = push (truth (decide ((s.stack.getD 1 0) < (s.stack.getD 0 0)))) { s with stack := s.stack.drop 2 } := rfl
    rw [e0, hs]
    rfl
  rw [e]
  exact two_any w mb O L s h a x y r hs (bs 16) _ hb.2 _ (enters Tryz.func71 (by kernel_rfl) rfl) (fun w hx hy => d16 x y w hx hy)

theorem dc17 (h : MaL w mb O L s) (hc : CanDo 17 a s) (hb : DeedBox w O bs 17) : DeedCall w mb O s 17 a bs := by
  obtain ⟨y, x, r, hs⟩ := st2 (l := s.stack) (by have := hc.st; simpa [takes] using this)
  refine ⟨_, rfl, (enters Tryz.func122 (by kernel_rfl) rfl), ?_⟩
  have e : deed ((17 : Nat) : Int) a s = push (truth (decide (x ≤ y))) { s with stack := r } := by
    have e0 : deed ((17 : Nat) : Int) a s = push (truth (decide ((s.stack.getD 1 0) ≤ (s.stack.getD 0 0)))) { s with stack := s.stack.drop 2 } := rfl
    rw [e0, hs]
    rfl
  rw [e]
  exact two_any w mb O L s h a x y r hs (bs 17) _ hb.2 _ (enters Tryz.func73 (by kernel_rfl) rfl) (fun w hx hy => d17 x y w hx hy)

theorem dc18 (h : MaL w mb O L s) (hc : CanDo 18 a s) (hb : DeedBox w O bs 18) : DeedCall w mb O s 18 a bs := by
  obtain ⟨y, x, r, hs⟩ := st2 (l := s.stack) (by have := hc.st; simpa [takes] using this)
  refine ⟨_, rfl, (enters Tryz.func122 (by kernel_rfl) rfl), ?_⟩
  have e : deed ((18 : Nat) : Int) a s = push (truth (decide (x = y))) { s with stack := r } := by
    have e0 : deed ((18 : Nat) : Int) a s = push (truth (decide ((s.stack.getD 1 0) = (s.stack.getD 0 0)))) { s with stack := s.stack.drop 2 } := rfl
    rw [e0, hs]
    rfl
  rw [e]
  exact two_any w mb O L s h a x y r hs (bs 18) _ hb.2 _ (enters Tryz.func74 (by kernel_rfl) rfl) (fun w hx hy => d18 x y w hx hy)

theorem dc19 (h : MaL w mb O L s) (hc : CanDo 19 a s) (hb : DeedBox w O bs 19) : DeedCall w mb O s 19 a bs := by
  obtain ⟨x, r, hs⟩ := st1 (l := s.stack) (by have := hc.st; simpa [takes] using this)
  refine ⟨_, rfl, (enters Tryz.func123 (by kernel_rfl) rfl), ?_⟩
  have e : deed ((19 : Nat) : Int) a s = push (truth (decide (x = 0))) { s with stack := r } := by
    have e0 : deed ((19 : Nat) : Int) a s = push (truth (decide ((s.stack.getD 0 0) = 0))) { s with stack := s.stack.drop 1 } := rfl
    rw [e0, hs]
    rfl
  rw [e]
  exact one_any w mb O L s h a x r hs (bs 19) _ hb.2 _ (enters Tryz.func75 (by kernel_rfl) rfl) (fun w hx => d19 x w hx)

theorem dc20 (h : MaL w mb O L s) (hc : CanDo 20 a s) (hb : DeedBox w O bs 20) : DeedCall w mb O s 20 a bs := by
  obtain ⟨y, x, r, hs⟩ := st2 (l := s.stack) (by have := hc.st; simpa [takes] using this)
  refine ⟨_, rfl, (enters Tryz.func122 (by kernel_rfl) rfl), ?_⟩
  have e : deed ((20 : Nat) : Int) a s = push (truth (decide (x ≠ 0 ∧ y ≠ 0))) { s with stack := r } := by
    have e0 : deed ((20 : Nat) : Int) a s = push (truth (decide ((s.stack.getD 1 0) ≠ 0 ∧ (s.stack.getD 0 0) ≠ 0))) { s with stack := s.stack.drop 2 } := rfl
    rw [e0, hs]
    rfl
  rw [e]
  exact two_any w mb O L s h a x y r hs (bs 20) _ hb.2 _ (enters Tryz.func76 (by kernel_rfl) rfl) (fun w hx hy => d20 x y w hx hy)

theorem dc21 (h : MaL w mb O L s) (hc : CanDo 21 a s) (hb : DeedBox w O bs 21) : DeedCall w mb O s 21 a bs := by
  obtain ⟨y, x, r, hs⟩ := st2 (l := s.stack) (by have := hc.st; simpa [takes] using this)
  refine ⟨_, rfl, (enters Tryz.func122 (by kernel_rfl) rfl), ?_⟩
  have e : deed ((21 : Nat) : Int) a s = push (truth (decide (x ≠ 0 ∨ y ≠ 0))) { s with stack := r } := by
    have e0 : deed ((21 : Nat) : Int) a s = push (truth (decide ((s.stack.getD 1 0) ≠ 0 ∨ (s.stack.getD 0 0) ≠ 0))) { s with stack := s.stack.drop 2 } := rfl
    rw [e0, hs]
    rfl
  rw [e]
  exact two_any w mb O L s h a x y r hs (bs 21) _ hb.2 _ (enters Tryz.func77 (by kernel_rfl) rfl) (fun w hx hy => d21 x y w hx hy)

theorem dc22 (h : MaL w mb O L s) (_hc : CanDo 22 a s) (_hb : DeedBox w O bs 22) : DeedCall w mb O s 22 a bs := by
  refine ⟨_, rfl, (enters Tryz.func78 (by kernel_rfl) rfl), ?_⟩
  have e : deed ((22 : Nat) : Int) a s = { s with look := a % 2 } := rfl
  rw [e]
  exact proj_deed w mb O L s h a

theorem dc23 (h : MaL w mb O L s) (_hc : CanDo 23 a s) (_hb : DeedBox w O bs 23) : DeedCall w mb O s 23 a bs := by
  refine ⟨_, rfl, (enters Tryz.func80 (by kernel_rfl) rfl), ?_⟩
  have e : deed ((23 : Nat) : Int) a s = { s with move := a % 2 } := rfl
  rw [e]
  exact free_deed w mb O L s h a

theorem dc24 (h : MaL w mb O L s) (_hc : CanDo 24 a s) (_hb : DeedBox w O bs 24) : DeedCall w mb O s 24 a bs := by
  refine ⟨_, rfl, (enters Tryz.func81 (by kernel_rfl) rfl), ?_⟩
  have e : deed ((24 : Nat) : Int) a s = { s with mode := a % 6 } := rfl
  rw [e]
  exact mode_deed w mb O L s h a

theorem dc25 (h : MaL w mb O L s) (hc : CanDo 25 a s) (_hb : DeedBox w O bs 25) : DeedCall w mb O s 25 a bs := by
  obtain ⟨x, r, hs⟩ := st1 (l := s.stack) (by have := hc.st; simpa [takes] using this)
  refine ⟨_, rfl, (enters Tryz.func82 (by kernel_rfl) rfl), ?_⟩
  have e : deed ((25 : Nat) : Int) a s = push (at_ s.cvt x) { s with stack := r } := by
    have e0 : deed ((25 : Nat) : Int) a s = push (at_ s.cvt (s.stack.getD 0 0)) { s with stack := (s.stack.drop 1) } := rfl
    rw [e0, hs]
    rfl
  rw [e]
  exact cvt_deed w mb O L s h a x r hs

theorem dc26 (h : MaL w mb O L s) (hc : CanDo 26 a s) (_hb : DeedBox w O bs 26) : DeedCall w mb O s 26 a bs := by
  obtain ⟨y, x, r, hs⟩ := st2 (l := s.stack) (by have := hc.st; simpa [takes] using this)
  refine ⟨_, rfl, (enters Tryz.func84 (by kernel_rfl) rfl), ?_⟩
  have e : deed ((26 : Nat) : Int) a s = { s with stack := r, cvt := put_ s.cvt x y } := by
    have e0 : deed ((26 : Nat) : Int) a s = { s with stack := (s.stack.drop 2), cvt := put_ s.cvt (s.stack.getD 1 0) (s.stack.getD 0 0) } := rfl
    rw [e0, hs]
    rfl
  rw [e]
  exact setCvt_deed w mb O L s h a x y r hs

theorem dc27 (h : MaL w mb O L s) (hc : CanDo 27 a s) (_hb : DeedBox w O bs 27) : DeedCall w mb O s 27 a bs := by
  obtain ⟨x, r, hs⟩ := st1 (l := s.stack) (by have := hc.st; simpa [takes] using this)
  refine ⟨_, rfl, (enters Tryz.func86 (by kernel_rfl) rfl), ?_⟩
  have e : deed ((27 : Nat) : Int) a s = push (at_ s.store x) { s with stack := r } := by
    have e0 : deed ((27 : Nat) : Int) a s = push (at_ s.store (s.stack.getD 0 0)) { s with stack := (s.stack.drop 1) } := rfl
    rw [e0, hs]
    rfl
  rw [e]
  exact load_deed w mb O L s h a x r hs

theorem dc28 (h : MaL w mb O L s) (hc : CanDo 28 a s) (_hb : DeedBox w O bs 28) : DeedCall w mb O s 28 a bs := by
  obtain ⟨y, x, r, hs⟩ := st2 (l := s.stack) (by have := hc.st; simpa [takes] using this)
  refine ⟨_, rfl, (enters Tryz.func87 (by kernel_rfl) rfl), ?_⟩
  have e : deed ((28 : Nat) : Int) a s = { s with stack := r, store := put_ s.store x y } := by
    have e0 : deed ((28 : Nat) : Int) a s = { s with stack := (s.stack.drop 2), store := put_ s.store (s.stack.getD 1 0) (s.stack.getD 0 0) } := rfl
    rw [e0, hs]
    rfl
  rw [e]
  exact save_deed w mb O L s h a x y r hs

theorem dc29 (h : MaL w mb O L s) (hc : CanDo 29 a s) (_hb : DeedBox w O bs 29) : DeedCall w mb O s 29 a bs := by
  obtain ⟨x, r, hs⟩ := st1 (l := s.stack) (by have := hc.st; simpa [takes] using this)
  refine ⟨_, rfl, (enters Tryz.func88 (by kernel_rfl) rfl), ?_⟩
  have e : deed ((29 : Nat) : Int) a s = push (lookV s s.cur x) { s with stack := r } := by
    have e0 : deed ((29 : Nat) : Int) a s = push (lookV s s.cur (s.stack.getD 0 0)) { s with stack := (s.stack.drop 1) } := rfl
    rw [e0, hs]
    rfl
  rw [e]
  exact get_deed w mb O L s h a x r hs

theorem dc30 (h : MaL w mb O L s) (hc : CanDo 30 a s) (_hb : DeedBox w O bs 30) : DeedCall w mb O s 30 a bs := by
  obtain ⟨x, r, hs⟩ := st1 (l := s.stack) (by have := hc.st; simpa [takes] using this)
  refine ⟨_, rfl, (enters Tryz.func90 (by kernel_rfl) rfl), ?_⟩
  have e : deed ((30 : Nat) : Int) a s = push (lookV s s.org x) { s with stack := r } := by
    have e0 : deed ((30 : Nat) : Int) a s = push (lookV s s.org (s.stack.getD 0 0)) { s with stack := (s.stack.drop 1) } := rfl
    rw [e0, hs]
    rfl
  rw [e]
  exact org_deed w mb O L s h a x r hs

theorem dc31 (h : MaL w mb O L s) (hc : CanDo 31 a s) (_hb : DeedBox w O bs 31) : DeedCall w mb O s 31 a bs := by
  obtain ⟨y, x, r, hs⟩ := st2 (l := s.stack) (by have := hc.st; simpa [takes] using this)
  refine ⟨_, rfl, (enters Tryz.func91 (by kernel_rfl) rfl), ?_⟩
  have e : deed ((31 : Nat) : Int) a s = moveV s r x y := by
    have e0 : deed ((31 : Nat) : Int) a s = moveV s (s.stack.drop 2) (s.stack.getD 1 0) (s.stack.getD 0 0) := rfl
    rw [e0, hs]
    rfl
  rw [e]
  exact move_deed w mb O L s h a x y r hs

theorem dc32 (h : MaL w mb O L s) (hc : CanDo 32 a s) (_hb : DeedBox w O bs 32) : DeedCall w mb O s 32 a bs := by
  obtain ⟨y, x, r, hs⟩ := st2 (l := s.stack) (by have := hc.st; simpa [takes] using this)
  refine ⟨_, rfl, (enters Tryz.func93 (by kernel_rfl) rfl), ?_⟩
  have e : deed ((32 : Nat) : Int) a s = setV s r x y := by
    have e0 : deed ((32 : Nat) : Int) a s = setV s (s.stack.drop 2) (s.stack.getD 1 0) (s.stack.getD 0 0) := rfl
    rw [e0, hs]
    rfl
  rw [e]
  exact set_deed w mb O L s h a x y r hs

theorem dc33 (h : MaL w mb O L s) (hc : CanDo 33 a s) (_hb : DeedBox w O bs 33) : DeedCall w mb O s 33 a bs := by
  obtain ⟨y, x, r, hs⟩ := st2 (l := s.stack) (by have := hc.st; simpa [takes] using this)
  refine ⟨_, rfl, (enters Tryz.func95 (by kernel_rfl) rfl), ?_⟩
  have e : deed ((33 : Nat) : Int) a s = alignV s r x y := by
    have e0 : deed ((33 : Nat) : Int) a s = alignV s (s.stack.drop 2) (s.stack.getD 1 0) (s.stack.getD 0 0) := rfl
    rw [e0, hs]
    rfl
  rw [e]
  exact align_deed w mb O L s h a x y r hs

theorem dc34 (h : MaL w mb O L s) (_hc : CanDo 34 a s) (_hb : DeedBox w O bs 34) : DeedCall w mb O s 34 a bs := by
  refine ⟨_, rfl, (enters Tryz.func97 (by kernel_rfl) rfl), ?_⟩
  have e : deed ((34 : Nat) : Int) a s = inter s (a % 2) := rfl
  rw [e]
  exact inter_deed w mb O L s h a

theorem dc35 (h : MaL w mb O L s) (hc : CanDo 35 a s) (_hb : DeedBox w O bs 35) : DeedCall w mb O s 35 a bs := by
  obtain ⟨f, r, hf, h0, hn⟩ := hc.jump (.inl rfl)
  obtain ⟨m, rfl⟩ := Int.eq_ofNat_of_zero_le h0
  refine ⟨_, rfl, (enters Tryz.func99 (by kernel_rfl) rfl), ?_⟩
  have e : deed ((35 : Nat) : Int) (m : Int) s = pass s m := rfl
  rw [e]
  exact jump_deed w mb O L s h f r hf m (by simpa using hn)

theorem dc36 (h : MaL w mb O L s) (hc : CanDo 36 a s) (_hb : DeedBox w O bs 36) : DeedCall w mb O s 36 a bs := by
  obtain ⟨f, r, hf, h0, hn⟩ := hc.jump (.inr rfl)
  obtain ⟨m, rfl⟩ := Int.eq_ofNat_of_zero_le h0
  obtain ⟨x, l, hs⟩ := st1 (l := s.stack) (by have := hc.st; simpa [takes] using this)
  refine ⟨_, rfl, (enters Tryz.func101 (by kernel_rfl) rfl), ?_⟩
  have e : deed ((36 : Nat) : Int) (m : Int) s = jumpZV s l x m := by
    have e0 : deed ((36 : Nat) : Int) (m : Int) s = jumpZV s (s.stack.drop 1) (s.stack.getD 0 0) m := rfl
    rw [e0, hs]
    rfl
  rw [e]
  exact jumpZ_deed w mb O L s h x l hs f r hf m (by simpa using hn)

theorem dc37 (h : MaL w mb O L s) (hc : CanDo 37 a s) (_hb : DeedBox w O bs 37) : DeedCall w mb O s 37 a bs := by
  obtain ⟨h0, hl, hfl⟩ := hc.call (.inl rfl)
  obtain ⟨m, rfl⟩ := Int.eq_ofNat_of_zero_le h0
  refine ⟨_, rfl, (enters Tryz.func103 (by kernel_rfl) rfl), ?_⟩
  have e : deed ((37 : Nat) : Int) (m : Int) s = call s m 1 := rfl
  rw [e]
  exact callF_deed w mb O L s h m (by simpa using hl) hfl

theorem dc38 (h : MaL w mb O L s) (hc : CanDo 38 a s) (_hb : DeedBox w O bs 38) : DeedCall w mb O s 38 a bs := by
  obtain ⟨h0, hl, hfl⟩ := hc.call (.inr rfl)
  obtain ⟨m, rfl⟩ := Int.eq_ofNat_of_zero_le h0
  obtain ⟨x, l, hs⟩ := st1 (l := s.stack) (by have := hc.st; simpa [takes] using this)
  refine ⟨_, rfl, (enters Tryz.func105 (by kernel_rfl) rfl), ?_⟩
  have e : deed ((38 : Nat) : Int) (m : Int) s = call { s with stack := l } m (min x 16) := by
    have e0 : deed ((38 : Nat) : Int) (m : Int) s = call { s with stack := s.stack.drop 1 } m (min (s.stack.getD 0 0) 16) := rfl
    rw [e0, hs]
    rfl
  rw [e]
  exact loop_deed w mb O L s h x l hs m (by simpa using hl) hfl

theorem dc39 (h : MaL w mb O L s) (hc : CanDo 39 a s) (_hb : DeedBox w O bs 39) : DeedCall w mb O s 39 a bs := by
  refine ⟨_, rfl, (enters Tryz.func107 (by kernel_rfl) rfl), ?_⟩
  have e : deed ((39 : Nat) : Int) a s = push s.size s := rfl
  rw [e]
  exact size_deed w mb O L s h a (by have := hc.lv; simp [takes, leaves] at this; omega)

theorem deed_any (h : MaL w mb O L s) {n : Nat} (h1 : 1 ≤ n) (h2 : n ≤ 39) (hc : CanDo n a s) (hb : DeedBox w O bs n) : DeedCall w mb O s n a bs := by
  match n, h1, h2, hc, hb with
  | 1, _, _, hc, hb => exact dc1 h hc hb
  | 2, _, _, hc, hb => exact dc2 h hc hb
  | 3, _, _, hc, hb => exact dc3 h hc hb
  | 4, _, _, hc, hb => exact dc4 h hc hb
  | 5, _, _, hc, hb => exact dc5 h hc hb
  | 6, _, _, hc, hb => exact dc6 h hc hb
  | 7, _, _, hc, hb => exact dc7 h hc hb
  | 8, _, _, hc, hb => exact dc8 h hc hb
  | 9, _, _, hc, hb => exact dc9 h hc hb
  | 10, _, _, hc, hb => exact dc10 h hc hb
  | 11, _, _, hc, hb => exact dc11 h hc hb
  | 12, _, _, hc, hb => exact dc12 h hc hb
  | 13, _, _, hc, hb => exact dc13 h hc hb
  | 14, _, _, hc, hb => exact dc14 h hc hb
  | 15, _, _, hc, hb => exact dc15 h hc hb
  | 16, _, _, hc, hb => exact dc16 h hc hb
  | 17, _, _, hc, hb => exact dc17 h hc hb
  | 18, _, _, hc, hb => exact dc18 h hc hb
  | 19, _, _, hc, hb => exact dc19 h hc hb
  | 20, _, _, hc, hb => exact dc20 h hc hb
  | 21, _, _, hc, hb => exact dc21 h hc hb
  | 22, _, _, hc, hb => exact dc22 h hc hb
  | 23, _, _, hc, hb => exact dc23 h hc hb
  | 24, _, _, hc, hb => exact dc24 h hc hb
  | 25, _, _, hc, hb => exact dc25 h hc hb
  | 26, _, _, hc, hb => exact dc26 h hc hb
  | 27, _, _, hc, hb => exact dc27 h hc hb
  | 28, _, _, hc, hb => exact dc28 h hc hb
  | 29, _, _, hc, hb => exact dc29 h hc hb
  | 30, _, _, hc, hb => exact dc30 h hc hb
  | 31, _, _, hc, hb => exact dc31 h hc hb
  | 32, _, _, hc, hb => exact dc32 h hc hb
  | 33, _, _, hc, hb => exact dc33 h hc hb
  | 34, _, _, hc, hb => exact dc34 h hc hb
  | 35, _, _, hc, hb => exact dc35 h hc hb
  | 36, _, _, hc, hb => exact dc36 h hc hb
  | 37, _, _, hc, hb => exact dc37 h hc hb
  | 38, _, _, hc, hb => exact dc38 h hc hb
  | 39, _, _, hc, hb => exact dc39 h hc hb
  | n + 40, _, h2, _, _ => omega

end
end Go.Proofs.YthdmdgmchkhngaaGreat

/- What package machine does, as plain functions on numbers and lists. No program in sight. -/
namespace Go.Proofs.Ytnalbkjbidaojaa
namespace Mc

/-- as 32 bits with a sign -/
def k32 (n : Int) : Int := (n + 2147483648) % 4294967296 - 2147483648
/-- as 64 bits with a sign -/
def w64 (n : Int) : Int := (n + 9223372036854775808) % 18446744073709551616 - 9223372036854775808
/-- divided, rounded down; 0 by 0 -/
def divd (a b : Int) : Int := if b = 0 then 0 else a.fdiv b
def truth (p : Bool) : Int := if p then 1 else 0
def rounded (mode n : Int) : Int :=
  let n := k32 n
  let r := mode % 6
  k32 (if r = 1 then (n + 32) / 64 * 64 else if r = 2 then n / 64 * 64 + 32 else if r = 3 then (n + 16) / 32 * 32 else if r = 4 then n / 64 * 64 else if r = 5 then (n + 63) / 64 * 64 else n)

/-- code that goes on: its next instruction, and how often it is still to be done behind this time -/
structure Fm where
  code : List (Int × Int)
  next : Nat
  more : Nat

structure St where
  funcs : List (List (Int × Int))
  frames : List Fm
  org : List (Int × Int)
  cur : List (Int × Int)
  touch : List Int
  ends : List Int
  cont : List (Nat × Nat)
  cvt : List Int
  store : List Int
  stack : List Int
  size : Int
  look : Int
  move : Int
  mode : Int
  steps : Nat
  peak : Nat
  ended : Bool
  err : Int

/-- how many values an instruction takes, and leaves -/
def takes (op : Int) : Nat :=
  if op = 2 ∨ op = 36 ∨ op = 38 then 1 else if op = 3 then 1 else if op = 4 then 2
  else if op = 9 ∨ op = 10 ∨ op = 13 ∨ op = 14 ∨ op = 15 ∨ op = 19 ∨ op = 25 ∨ op = 27 ∨ op = 29 ∨ op = 30 then 1
  else if op = 5 ∨ op = 6 ∨ op = 7 ∨ op = 8 ∨ op = 11 ∨ op = 12 ∨ op = 16 ∨ op = 17 ∨ op = 18 ∨ op = 20 ∨ op = 21 then 2
  else if op = 26 ∨ op = 28 ∨ op = 31 ∨ op = 32 ∨ op = 33 then 2 else 0
def leaves (op : Int) : Nat :=
  if op = 1 ∨ op = 39 then 1 else if op = 3 then 2 else if op = 4 then 2
  else if op = 9 ∨ op = 10 ∨ op = 13 ∨ op = 14 ∨ op = 15 ∨ op = 19 ∨ op = 25 ∨ op = 27 ∨ op = 29 ∨ op = 30 then 1
  else if op = 5 ∨ op = 6 ∨ op = 7 ∨ op = 8 ∨ op = 11 ∨ op = 12 ∨ op = 16 ∨ op = 17 ∨ op = 18 ∨ op = 20 ∨ op = 21 then 1 else 0

/-- the frames whose code is through are left (the last one is first here) -/
def settle : List Fm → List Fm
  | [] => []
  | f :: r => if f.next < f.code.length then f :: r else if 0 < f.more ∧ 0 < f.code.length then { f with next := 0, more := f.more - 1 } :: r else settle r

/-- the error of an instruction, behind which so many stand -/
def wrong (s : St) (op a : Int) (behind : Int) : Int :=
  if op < 1 ∨ 39 < op then 50
  else if s.stack.length < takes op ∨ 32 + takes op < s.stack.length + leaves op then 51
  else if (op = 35 ∨ op = 36) ∧ (a < 0 ∨ behind < a) then 52
  else if (op = 37 ∨ op = 38) ∧ (a < 0 ∨ (s.funcs.length : Int) ≤ a ∨ 20 < s.frames.length) then 54
  else 0

def next (s : St) : St × Option (Int × Int) :=
  if s.ended then (s, none) else
  match settle s.frames with
  | [] => ({ s with frames := [], ended := true }, none)
  | f :: r =>
    let ins := f.code.getD f.next (0, 0)
    let e := wrong { s with frames := f :: r } ins.1 ins.2 (f.code.length - 1 - f.next : Int)
    ({ s with frames := f :: r, err := e, ended := decide (e ≠ 0) }, if e = 0 then some ins else none)

def push (v : Int) (s : St) : St := { s with stack := k32 v :: s.stack }
/-- one value is taken -/
def one (s : St) (f : Int → Int) : St := push (f (s.stack.getD 0 0)) { s with stack := s.stack.drop 1 }
/-- two values are taken; the last one was on top -/
def two (s : St) (f : Int → Int → Int) : St := push (f (s.stack.getD 1 0) (s.stack.getD 0 0)) { s with stack := s.stack.drop 2 }
def at_ (l : List Int) (i : Int) : Int := if 0 ≤ i ∧ i < l.length then l.getD i.toNat 0 else 0
def put_ (l : List Int) (i v : Int) : List Int := if 0 ≤ i ∧ i < l.length then l.set i.toNat v else l
def coord (axis : Int) (p : Int × Int) : Int := if axis = 1 then p.2 else p.1
def to_ (axis : Int) (p : Int × Int) (v : Int) : Int × Int := if axis = 1 then (p.1, k32 v) else (k32 v, p.2)
def has (s : St) (p : Int) : Bool := decide (0 ≤ p ∧ p < s.cur.length)
/-- is a point touched along an axis? -/
def bit (axis t : Int) : Bool := if axis = 1 then decide (t / 2 % 2 = 1) else decide (t % 2 = 1)
/-- a point is at v along an axis, and is touched -/
def goes (s : St) (p : Nat) (axis v : Int) : St :=
  { s with cur := s.cur.set p (to_ axis (s.cur.getD p (0, 0)) v), touch := s.touch.set p (let t := s.touch.getD p 0; if bit axis t then t else t + (axis + 1)) }
/-- the point that follows one around a contour -/
def behind (c : Nat × Nat) (p : Nat) : Nat := if p = c.2 then c.1 else p + 1
/-- where a point goes between two others -/
def between (org cur : List (Int × Int)) (axis : Int) (p a b : Nat) : Int :=
  let was := fun q => coord axis (org.getD q (0, 0))
  let is := fun q => coord axis (cur.getD q (0, 0))
  let (a, b) := if was b < was a then (b, a) else (a, b)
  let o := was p
  if o ≤ was a then o + is a - was a
  else if was b ≤ o then o + is b - was b
  else is a + divd (w64 (w64 (2 * (o - was a) * (is b - is a)) + (was b - was a))) (2 * (was b - was a))
def moved (org : List (Int × Int)) (axis : Int) (cur : List (Int × Int)) (p a b : Nat) : List (Int × Int) :=
  cur.set p (to_ axis (cur.getD p (0, 0)) (w64 (between org cur axis p a b)))
/-- the points behind a and ahead of b -/
def seg (org : List (Int × Int)) (axis : Int) (c : Nat × Nat) (a b : Nat) : Nat → Nat → List (Int × Int) → List (Int × Int)
  | 0, _, cur => cur
  | n + 1, p, cur => if p = b then cur else seg org axis c a b n (behind c p) (moved org axis cur p a b)
def fixed (touch : List Int) (axis : Int) (c : Nat × Nat) : List Nat := ((List.range (c.2 + 1 - c.1)).map (· + c.1)).filter fun p => bit axis (touch.getD p 0)
def contour (org : List (Int × Int)) (touch : List Int) (axis : Int) (cur : List (Int × Int)) (c : Nat × Nat) : List (Int × Int) :=
  let l := fixed touch axis c
  (List.range l.length).foldl (fun cur i => let a := l.getD i 0; seg org axis c a (l.getD ((i + 1) % l.length) 0) (c.2 + 1 - c.1) (behind c a) cur) cur
def inter (s : St) (axis : Int) : St := { s with cur := s.cont.foldl (fun cur c => contour s.org s.touch axis cur c) s.cur }

def pass (s : St) (n : Int) : St :=
  match s.frames with
  | [] => s
  | f :: r => { s with frames := { f with next := f.next + n.toNat } :: r }
def call (s : St) (f : Int) (times : Int) : St := if 0 < times then { s with frames := ⟨s.funcs.getD f.toNat [], 0, (times - 1).toNat⟩ :: s.frames } else s

/-- what an instruction does -/
def deed (op a : Int) (s : St) : St :=
  let x := s.stack.getD 0 0
  let y := s.stack.getD 1 0
  let s1 := { s with stack := s.stack.drop 1 }
  let s2 := { s with stack := s.stack.drop 2 }
  match op.toNat with
  | 1 => push a s
  | 2 => s1
  | 3 => push x (push x s1)
  | 4 => push y (push x s2)
  | 5 => two s fun x y => x + y
  | 6 => two s fun x y => x - y
  | 7 => two s fun x y => k32 (x * y / 64)
  | 8 => two s fun x y => k32 (divd (64 * x) y)
  | 9 => one s fun x => -x
  | 10 => one s fun x => max x (-x)
  | 11 => two s fun x y => min x y
  | 12 => two s fun x y => max x y
  | 13 => one s fun x => rounded 4 x
  | 14 => one s fun x => rounded 5 x
  | 15 => one s fun x => rounded s.mode x
  | 16 => two s fun x y => truth (decide (x < y))
  | 17 => two s fun x y => truth (decide (x ≤ y))
  | 18 => two s fun x y => truth (decide (x = y))
  | 19 => one s fun x => truth (decide (x = 0))
  | 20 => two s fun x y => truth (decide (x ≠ 0 ∧ y ≠ 0))
  | 21 => two s fun x y => truth (decide (x ≠ 0 ∨ y ≠ 0))
  | 22 => { s with look := a % 2 }
  | 23 => { s with move := a % 2 }
  | 24 => { s with mode := a % 6 }
  | 25 => push (at_ s.cvt x) s1
  | 26 => { s2 with cvt := put_ s.cvt y x }
  | 27 => push (at_ s.store x) s1
  | 28 => { s2 with store := put_ s.store y x }
  | 29 => push (if has s x then coord s.look (s.cur.getD x.toNat (0, 0)) else 0) s1
  | 30 => push (if has s x then coord s.look (s.org.getD x.toNat (0, 0)) else 0) s1
  | 31 => if has s y then goes s2 y.toNat s.move (coord s.move (s.cur.getD y.toNat (0, 0)) + x) else s2
  | 32 => if s.look = s.move ∧ has s y then goes s2 y.toNat s.move x else s2
  | 33 => if s.look = s.move ∧ has s y ∧ has s x then goes s2 x.toNat s.move (coord s.move (s.cur.getD y.toNat (0, 0))) else s2
  | 34 => inter s (a % 2)
  | 35 => pass s a
  | 36 => if x = 0 then pass s1 a else s1
  | 37 => call s a 1
  | 38 => call s1 a (min x 16)
  | 39 => push s.size s
  | _ => s

def bump (s : St) : St :=
  match s.frames with
  | [] => s
  | f :: r => { s with frames := { f with next := f.next + 1 } :: r }
def step (s : St) : St × Bool :=
  match next s with
  | (s', none) => (s', false)
  | (s', some ins) =>
    let t := deed ins.1 ins.2 (bump s')
    ({ t with steps := t.steps + 1, peak := max t.peak t.stack.length }, true)
/-- so many steps at most; whether it goes on -/
def steps : Nat → St → St × Bool
  | 0, s => (s, true)
  | n + 1, s => match step s with
    | (s', true) => steps n s'
    | (s', false) => (s', false)
/-- a run: how the machine stands in the end, with its error -/
def run (n : Nat) (s : St) : St :=
  match steps n s with
  | (s', false) => s'
  | (s', true) => match next s' with
    | (t, none) => t
    | (t, some _) => { t with err := 53 }

/-- contours, of the last points' numbers -/
def conts (n : Nat) : Int → List Int → List (Nat × Nat)
  | _, [] => []
  | last, e :: r => if last < e ∧ e < n then ((last + 1).toNat, e.toNat) :: conts n e r else conts n last r
structure Zn where
  org : List (Int × Int)
  cur : List (Int × Int)
  touch : List Int
  ends : List Int
structure Pg where
  funcs : List (List (Int × Int))
  main : List (Int × Int)
  cvt : List Int
  size : Int
def k2 (p : Int × Int) : Int × Int := (k32 p.1, k32 p.2)
/-- a machine that has not begun -/
def begin_ (p : Pg) (z : Zn) : St :=
  { funcs := p.funcs, frames := [⟨p.main, 0, 0⟩]
    cur := z.cur.map k2
    org := (List.range z.cur.length).map fun i => k2 ((z.org[i]?).getD (z.cur.getD i (0, 0)))
    touch := (List.range z.cur.length).map fun i => (z.touch.getD i 0) % 4
    ends := z.ends, cont := conts z.cur.length (-1) z.ends
    cvt := p.cvt.map k32, store := List.replicate 32 0, stack := [], size := k32 p.size
    look := 0, move := 0, mode := 1, steps := 0, peak := 0, ended := false, err := 0 }
end Mc
end Go.Proofs.Ytnalbkjbidaojaa

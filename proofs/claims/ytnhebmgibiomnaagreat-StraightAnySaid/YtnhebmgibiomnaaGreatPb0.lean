/- Parts of the proof, joined: MachSpec SrSpec BSpec BuSpec. -/
set_option linter.unusedVariables false
set_option linter.unusedSimpArgs false
set_option maxRecDepth 100000
set_option maxHeartbeats 8000000
namespace Go.Proofs.YtnhebmgibiomnaaGreat
namespace Mc
def k32 (n:Int):Int:=(n+2147483648) % 4294967296-2147483648
def w64 (n:Int):Int:=(n+9223372036854775808) % 18446744073709551616-9223372036854775808
def divd (a b:Int):Int:=if b=0 then 0 else a.fdiv b
def truth (p:Bool):Int:=if p then 1 else 0
def Bp (mode n:Int):Int :=
 let n:=k32 n
 let r:=mode % 6
 k32 (if r=1 then(n+32) / 64*64 else if r=2 then n / 64*64+32 else if r=3 then(n+16) / 32*32 else if r=4 then n / 64*64 else if r=5 then(n+63) / 64*64 else n)
structure Fm where
 code:List (Int×Int)
 next:Nat
 more:Nat
structure St where
 funcs:List (List (Int×Int))
 frames:List Fm
 org:List (Int×Int)
 cur:List (Int×Int)
 touch:List Int
 ends:List Int
 cont:List (Nat×Nat)
 cvt:List Int
 store:List Int
 stack:List Int
 size:Int
 look:Int
 move:Int
 mode:Int
 steps:Nat
 peak:Nat
 ended:Bool
 err:Int
def takes (op:Int):Nat :=
 if op=2∨op=36∨op=38 then 1 else if op=3 then 1 else if op=4 then 2
 else if op=9∨op=10∨op=13∨op=14∨op=15∨op=19∨op=25∨op=27∨op=29∨op=30 then 1
 else if op=5∨op=6∨op=7∨op=8∨op=11∨op=12∨op=16∨op=17∨op=18∨op=20∨op=21 then 2
 else if op=26∨op=28∨op=31∨op=32∨op=33 then 2 else 0
def leaves (op:Int):Nat :=
 if op=1∨op=39 then 1 else if op=3 then 2 else if op=4 then 2
 else if op=9∨op=10∨op=13∨op=14∨op=15∨op=19∨op=25∨op=27∨op=29∨op=30 then 1
 else if op=5∨op=6∨op=7∨op=8∨op=11∨op=12∨op=16∨op=17∨op=18∨op=20∨op=21 then 1 else 0
def settle:List Fm→List Fm
 | []=>[]
 | f::r=>if f.next<f.code.length then f::r else if 0<f.more∧0<f.code.length then { f with next:=0,more:=f.more-1 } :: r else settle r
def De (s:St) (op a:Int) (Bx:Int):Int :=
 if op<1∨39<op then 50
 else if s.stack.length<takes op∨32+takes op<s.stack.length+leaves op then 51
 else if (op=35∨op=36)∧(a<0∨Bx<a) then 52
 else if (op=37∨op=38)∧(a<0∨(s.funcs.length:Int)≤a∨20<s.frames.length) then 54
 else 0
def next (s:St):St×Option (Int×Int) :=
 if s.ended then(s,none) else
 match settle s.frames with
 | []=>({ s with frames:=[],ended:=true },none)
 | f::r =>
  let ins:=f.code.getD f.next (0,0)
  let e:=De { s with frames:=f::r } ins.1 ins.2 (f.code.length-1-f.next:Int)
  ({ s with frames:=f::r,err:=e,ended:=decide (e≠0) },if e=0 then some ins else none)
def push (v:Int) (s:St):St := { s with stack:=k32 v::s.stack }
def one (s:St) (f:Int→Int):St:=push (f (s.stack.getD 0 0)) { s with stack:=s.stack.drop 1 }
def two (s:St) (f:Int→Int→Int):St:=push (f (s.stack.getD 1 0) (s.stack.getD 0 0)) { s with stack:=s.stack.drop 2 }
def at_ (l:List Int) (i:Int):Int:=if 0≤i∧i<l.length then l.getD i.toNat 0 else 0
def Fz (l:List Int) (i v:Int):List Int:=if 0≤i∧i<l.length then l.set i.toNat v else l
def Az (axis:Int) (p:Int×Int):Int:=if axis=1 then p.2 else p.1
def to_ (axis:Int) (p:Int×Int) (v:Int):Int×Int:=if axis=1 then(p.1,k32 v) else(k32 v,p.2)
def has (s:St) (p:Int):Bool:=decide (0≤p∧p<s.cur.length)
def bit (axis t:Int):Bool:=if axis=1 then decide (t / 2 % 2=1) else decide (t % 2=1)
def goes (s:St) (p:Nat) (axis v:Int):St :=
 { s with cur:=s.cur.set p (to_ axis (s.cur.getD p (0,0)) v),touch:=s.touch.set p (let t:=s.touch.getD p 0;if bit axis t then t else t+(axis+1)) }
def Bx (c:Nat×Nat) (p:Nat):Nat:=if p=c.2 then c.1 else p+1
def Hq (org cur:List (Int×Int)) (axis:Int) (p a b:Nat):Int :=
 let was:=fun q=>Az axis (org.getD q (0,0))
 let is:=fun q=>Az axis (cur.getD q (0,0))
 let (a,b):=if was b<was a then(b,a) else(a,b)
 let o:=was p
 if o≤was a then o+is a-was a
 else if was b≤o then o+is b-was b
 else is a+divd (w64 (w64 (2*(o-was a)*(is b-is a))+(was b-was a))) (2*(was b-was a))
def Lu (org:List (Int×Int)) (axis:Int) (cur:List (Int×Int)) (p a b:Nat):List (Int×Int) :=
 cur.set p (to_ axis (cur.getD p (0,0)) (w64 (Hq org cur axis p a b)))
def seg (org:List (Int×Int)) (axis:Int) (c:Nat×Nat) (a b:Nat):Nat→Nat→List (Int×Int)→List (Int×Int)
 | 0,_,cur=>cur
 | n+1,p,cur=>if p=b then cur else seg org axis c a b n (Bx c p) (Lu org axis cur p a b)
def fixed (touch:List Int) (axis:Int) (c:Nat×Nat):List Nat:=((List.range (c.2+1-c.1)).map (· + c.1)).filter fun p=>bit axis (touch.getD p 0)
def Ft (org:List (Int×Int)) (touch:List Int) (axis:Int) (cur:List (Int×Int)) (c:Nat×Nat):List (Int×Int) :=
 let l:=fixed touch axis c
 (List.range l.length).foldl (fun cur i=>let a:=l.getD i 0;seg org axis c a (l.getD ((i+1) % l.length) 0) (c.2+1-c.1) (Bx c a) cur) cur
def Ki (s:St) (axis:Int):St := { s with cur:=s.cont.foldl (fun cur c=>Ft s.org s.touch axis cur c) s.cur }
def pass (s:St) (n:Int):St :=
 match s.frames with
 | []=>s
 | f::r => { s with frames := { f with next:=f.next+n.toNat } :: r }
def call (s:St) (f:Int) (times:Int):St:=if 0<times then { s with frames:=⟨s.funcs.getD f.toNat [],0,(times-1).toNat⟩::s.frames } else s
def deed (op a:Int) (s:St):St :=
 let x:=s.stack.getD 0 0
 let y:=s.stack.getD 1 0
 let s1 := { s with stack:=s.stack.drop 1 }
 let s2 := { s with stack:=s.stack.drop 2 }
 match op.toNat with
 | 1=>push a s
 | 2=>s1
 | 3=>push x (push x s1)
 | 4=>push y (push x s2)
 | 5=>two s fun x y=>x+y
 | 6=>two s fun x y=>x-y
 | 7=>two s fun x y=>k32 (x*y / 64)
 | 8=>two s fun x y=>k32 (divd (64*x) y)
 | 9=>one s fun x=>-x
 | 10=>one s fun x=>max x (-x)
 | 11=>two s fun x y=>min x y
 | 12=>two s fun x y=>max x y
 | 13=>one s fun x=>Bp 4 x
 | 14=>one s fun x=>Bp 5 x
 | 15=>one s fun x=>Bp s.mode x
 | 16=>two s fun x y=>truth (decide (x<y))
 | 17=>two s fun x y=>truth (decide (x≤y))
 | 18=>two s fun x y=>truth (decide (x=y))
 | 19=>one s fun x=>truth (decide (x=0))
 | 20=>two s fun x y=>truth (decide (x≠0∧y≠0))
 | 21=>two s fun x y=>truth (decide (x≠0∨y≠0))
 | 22 => { s with look:=a % 2 }
 | 23 => { s with move:=a % 2 }
 | 24 => { s with mode:=a % 6 }
 | 25=>push (at_ s.cvt x) s1
 | 26 => { s2 with cvt:=Fz s.cvt y x }
 | 27=>push (at_ s.store x) s1
 | 28 => { s2 with store:=Fz s.store y x }
 | 29=>push (if has s x then Az s.look (s.cur.getD x.toNat (0,0)) else 0) s1
 | 30=>push (if has s x then Az s.look (s.org.getD x.toNat (0,0)) else 0) s1
 | 31=>if has s y then goes s2 y.toNat s.move (Az s.move (s.cur.getD y.toNat (0,0))+x) else s2
 | 32=>if s.look=s.move∧has s y then goes s2 y.toNat s.move x else s2
 | 33=>if s.look=s.move∧has s y∧has s x then goes s2 x.toNat s.move (Az s.move (s.cur.getD y.toNat (0,0))) else s2
 | 34=>Ki s (a % 2)
 | 35=>pass s a
 | 36=>if x=0 then pass s1 a else s1
 | 37=>call s a 1
 | 38=>call s1 a (min x 16)
 | 39=>push s.size s
 | _=>s
def Ij (s:St):St :=
 match s.frames with
 | []=>s
 | f::r => { s with frames := { f with next:=f.next+1 } :: r }
def step (s:St):St×Bool :=
 match next s with
 | (s',none)=>(s',false)
 | (s',some ins) =>
  let t:=deed ins.1 ins.2 (Ij s')
  ({ t with steps:=t.steps+1,peak:=max t.peak t.stack.length },true)
def steps:Nat→St→St×Bool
 | 0,s=>(s,true)
 | n+1,s=>match step s with
  | (s',true)=>steps n s'
  | (s',false)=>(s',false)
def run (n:Nat) (s:St):St :=
 match steps n s with
 | (s',false)=>s'
 | (s',true)=>match next s' with
  | (t,none)=>t
  | (t,some _) => { t with err:=53 }
def conts (n:Nat):Int→List Int→List (Nat×Nat)
 | _,[]=>[]
 | last,e::r=>if last<e∧e<n then((last+1).toNat,e.toNat)::conts n e r else conts n last r
structure Zn where
 org:List (Int×Int)
 cur:List (Int×Int)
 touch:List Int
 ends:List Int
structure Pg where
 funcs:List (List (Int×Int))
 main:List (Int×Int)
 cvt:List Int
 size:Int
def k2 (p:Int×Int):Int×Int:=(k32 p.1,k32 p.2)
def begin_ (p:Pg) (z:Zn):St :=
 {funcs:=p.funcs,frames:=[⟨p.main,0,0⟩]
  cur:=z.cur.map k2
  org:=(List.range z.cur.length).map fun i=>k2 ((z.org[i]?).getD (z.cur.getD i (0,0)))
  touch:=(List.range z.cur.length).map fun i=>(z.touch.getD i 0) % 4
  ends:=z.ends,cont:=conts z.cur.length (-1) z.ends
  cvt:=p.cvt.map k32,store:=List.replicate 32 0,stack:=[],size:=k32 p.size
  look:=0,move:=0,mode:=1,steps:=0,peak:=0,ended:=false,err:=0 }
end Mc
end Go.Proofs.YtnhebmgibiomnaaGreat
namespace Go.Proofs.YtnhebmgibiomnaaGreat
namespace Sr
open Mc
structure Reg where
 op:Int
 d:Int
 a:Int
 b:Int
 n:Int
def uses (op:Int):Int×Bool :=
 if op=1∨op=39 then(1,true)
 else if op=40∨op=9∨op=10∨op=13∨op=14∨op=15∨op=19∨op=25∨op=27∨op=29∨op=30 then(3,true)
 else if op=5∨op=6∨op=7∨op=8∨op=11∨op=12∨op=16∨op=17∨op=18∨op=20∨op=21 then(7,true)
 else if op=26∨op=28∨op=31∨op=32∨op=33 then(6,true)
 else if op=36∨op=41 then(2,true)
 else if op=22∨op=23∨op=24∨op=34∨op=35∨op=42 then(0,true)
 else(0,false)
def rg (n:Int):Bool:=decide (0≤n∧n<64)
def there (r:Reg) (u:Int):Bool:=(decide (u % 2=0) || rg r.d) && (decide (u / 2 % 2=0) || rg r.a) && (decide (u / 4 % 2=0) || rg r.b)
def leaps (op:Int):Bool:=decide (op=35∨op=36∨op=41)
def fits (r:Reg) (Bx:Int):Bool :=
 (uses r.op).2 && (decide (r.op=42)==decide (Bx=0)) && there r (uses r.op).1 && (!leaps r.op || decide (0≤r.n∧r.n<Bx))
def fitsAll:List Reg→Bool
 | []=>true
 | r::l=>fits r l.length && fitsAll l
def right (code:List Reg):Bool :=
 decide (1≤code.length∧code.length≤80000) && fitsAll code && (match code.getLast? with|some r=>decide (0≤r.n∧r.n≤64)|none=>false)
structure St where
 regs:List Int
 m:Mc.St
 pc:Nat
 steps:Nat
def get (s:St) (r:Int):Int:=s.regs.getD r.toNat 0
def put (s:St) (r v:Int):St := { s with regs:=s.regs.set r.toNat v }
def fun1 (op:Nat) (x:Int):Int :=
 match op with
 | 9=>-x
 | 10=>max x (-x)
 | 13=>Bp 4 x
 | 14=>Bp 5 x
 | 19=>truth (decide (x=0))
 | _=>x
def fun2 (op:Nat) (x y:Int):Int :=
 match op with
 | 5=>x+y
 | 6=>x-y
 | 7=>k32 (x*y / 64)
 | 8=>k32 (divd (64*x) y)
 | 11=>min x y
 | 12=>max x y
 | 16=>truth (decide (x<y))
 | 17=>truth (decide (x≤y))
 | 18=>truth (decide (x=y))
 | 20=>truth (decide (x≠0∧y≠0))
 | _=>truth (decide (x≠0∨y≠0))
def pass (s:St) (n:Int) (so:Bool):St:=if so then { s with pc:=s.pc+n.toNat } else s
def deed (r:Reg) (s:St):St :=
 let x:=get s r.a
 let y:=get s r.b
 match r.op.toNat with
 | 1=>put s r.d (k32 r.n)
 | 39=>put s r.d s.m.size
 | 40|9|10|13|14|19=>put s r.d (k32 (fun1 r.op.toNat x))
 | 5|6|7|8|11|12|16|17|18|20|21=>put s r.d (k32 (fun2 r.op.toNat x y))
 | 15=>put s r.d (Bp s.m.mode x)
 | 25=>put s r.d (at_ s.m.cvt x)
 | 26 => { s with m := { s.m with cvt:=Fz s.m.cvt x y } }
 | 27=>put s r.d (at_ s.m.store x)
 | 28 => { s with m := { s.m with store:=Fz s.m.store x y } }
 | 22 => { s with m := { s.m with look:=r.n % 2 } }
 | 23 => { s with m := { s.m with move:=r.n % 2 } }
 | 24 => { s with m := { s.m with mode:=r.n % 6 } }
 | 29=>put s r.d (if has s.m x then Az s.m.look (s.m.cur.getD x.toNat (0,0)) else 0)
 | 30=>put s r.d (if has s.m x then Az s.m.look (s.m.org.getD x.toNat (0,0)) else 0)
 | 31=>if has s.m x then { s with m:=goes s.m x.toNat s.m.move (Az s.m.move (s.m.cur.getD x.toNat (0,0))+y) } else s
 | 32=>if s.m.look=s.m.move∧has s.m x then { s with m:=goes s.m x.toNat s.m.move y } else s
 | 33=>if s.m.look=s.m.move∧has s.m x∧has s.m y then { s with m:=goes s.m y.toNat s.m.move (Az s.m.move (s.m.cur.getD x.toNat (0,0))) } else s
 | 34 => { s with m:=Ki s.m (r.n % 2) }
 | 35=>pass s r.n true
 | 36=>pass s r.n (decide (x=0))
 | 41=>pass s r.n (decide (x≤r.b))
 | _=>s
def nop:Reg:=⟨42,0,0,0,0⟩
def step (code:List Reg) (s:St):St:=deed (code.getD s.pc nop) { s with pc:=s.pc+1,steps:=s.steps+1 }
def runs:Nat→List Reg→St→St
 | 0,_,s=>s
 | n+1,code,s=>if (code.getD s.pc nop).op=42 then s else runs n code (step code s)
def begin_ (cvt:List Int) (size:Int) (z:Zn):St:=⟨List.replicate 64 0,{ Mc.begin_ ⟨[],[],cvt,0⟩ z with size:=k32 size,mode:=1 },0,0⟩
def run (code:List Reg) (cvt:List Int) (size:Int) (z:Zn):St:=runs code.length code (begin_ cvt size z)
theorem fitsAll_at:∀ {code:List Reg} {i:Nat} {r:Reg},fitsAll code=true→code[i]?=some r→fits r ((code.length:Int)-1-i)=true
 | [],i,r,_,h=>by simp at h
 | x::l,0,r,h,hr=>by
  simp only[List.getElem?_cons_zero,Option.some.injEq] at hr;subst hr;simp only[fitsAll,Bool.and_eq_true] at h;rw[show (((x::l).length:Nat):Int)-1-(0:Nat)=l.length by rw[List.length_cons];omega];exact h.1
 | x::l,i+1,r,h,hr=>by
  simp only[List.getElem?_cons_succ] at hr;simp only[fitsAll,Bool.and_eq_true] at h;have:=fitsAll_at h.2 hr;rw[show (((x::l).length:Nat):Int)-1-((i+1:Nat):Int)=(l.length:Int)-1-i by rw[List.length_cons];omega];exact this
theorem Zfl {r:Reg} {s:St} {b:Int} (h:fits r b=true):(deed r s).steps=s.steps∧s.pc≤(deed r s).pc∧((deed r s).pc:Int)≤s.pc+(if leaps r.op then r.n else 0):=by
 have hn:leaps r.op=true→0≤r.n:=fun hl=>by
  unfold fits at h;simp only[hl,Bool.and_eq_true,Bool.not_true,Bool.false_or,decide_eq_true_eq] at h;exact h.2.1
 have h35:r.op.toNat=35→leaps r.op=true:=fun e=>by rw[show r.op=35 by omega];rfl
 have h36:r.op.toNat=36→leaps r.op=true:=fun e=>by rw[show r.op=36 by omega];rfl
 have h41:r.op.toNat=41→leaps r.op=true:=fun e=>by rw[show r.op=41 by omega];rfl
 clear h;by_cases hl:leaps r.op=true
 ·have hn:=hn hl;rw[if_pos hl];clear h35 h36 h41 hl;unfold deed;split
  all_goals (simp only[put,pass];refine⟨?_,?_,?_⟩ <;> (repeat' split) <;> first|trivial|rfl|exact Nat.le_refl _|omega|(dsimp only;omega))
 ·rw[if_neg hl];have n35:=fun e=>hl (h35 e)
  have n36:=fun e=>hl (h36 e)
  have n41:=fun e=>hl (h41 e)
  clear h35 h36 h41 hl hn;unfold deed;split
  all_goals (simp only[put,pass];refine⟨?_,?_,?_⟩ <;> (repeat' split) <;> first|trivial|rfl|exact Nat.le_refl _|omega|(dsimp only;omega))
end Sr
end Go.Proofs.YtnhebmgibiomnaaGreat
namespace Go.Proofs.YtnhebmgibiomnaaGreat
namespace Bd
structure Cost where
 need:Int
 delta:Int
 peak:Int
 steps:Int
deriving DecidableEq
structure Place where
 known:Bool
 high:Int
 steps:Int
deriving DecidableEq
structure Eff where
 need:Int
 peak:Int
 high:Int
 steps:Int
def takes (op:Int):Int :=
 if op=2∨op=36∨op=38 then 1 else if op=3 then 1 else if op=4 then 2
 else if op=9∨op=10∨op=13∨op=14∨op=15∨op=19∨op=25∨op=27∨op=29∨op=30 then 1
 else if op=5∨op=6∨op=7∨op=8∨op=11∨op=12∨op=16∨op=17∨op=18∨op=20∨op=21 then 2
 else if op=26∨op=28∨op=31∨op=32∨op=33 then 2 else 0
def leaves (op:Int):Int :=
 if op=1∨op=39 then 1 else if op=3 then 2 else if op=4 then 2
 else if op=9∨op=10∨op=13∨op=14∨op=15∨op=19∨op=25∨op=27∨op=29∨op=30 then 1
 else if op=5∨op=6∨op=7∨op=8∨op=11∨op=12∨op=16∨op=17∨op=18∨op=20∨op=21 then 1 else 0
theorem takes_bd (op:Int):0≤takes op∧takes op≤2:=by unfold takes;repeat' split <;> omega
theorem leaves_bd (op:Int):0≤leaves op∧leaves op≤2:=by unfold leaves;repeat' split <;> omega
def jumps (op:Int):Bool:=op==35 || op==36
def calls (op:Int):Bool:=op==37 || op==38
def mayBe (c:Cost):Bool:=decide (0≤c.need) && decide (c.need≤32) && decide (0≤c.peak) && decide (c.peak≤32) && decide (-32≤c.delta) && decide (c.delta≤32) && decide (0≤c.steps) && decide (c.steps≤4096)
def always (n nf at_:Int) (x:Int×Int):Int :=
 if ¬ (1≤x.1∧x.1≤39) then 50
 else if jumps x.1=true∧¬ (0≤x.2∧x.2≤n-1-at_) then 52
 else if calls x.1=true∧¬ (0≤x.2∧x.2<nf) then 54 else 0
def fn (fs:List Cost) (a:Int):Cost:=fs.getD a.toNat ⟨0,0,0,0⟩
def effect (fs:List Cost) (here:Place) (x:Int×Int):Eff :=
 let need:=takes x.1-here.high
 let high:=here.high-takes x.1+leaves x.1
 let steps:=here.steps+1
 if calls x.1=true then
  let c:=fn fs x.2
  ⟨max need (c.need-high),max (max high (high+c.peak)) (high+c.delta),high+c.delta,steps+(if x.1=38 then 16 else 1)*c.steps⟩
 else⟨need,high,high,steps⟩
structure St where
 pl:List Place
 need:Int
 peak:Int
def pat (pl:List Place) (i:Int):Place:=pl.getD i.toNat ⟨false,0,0⟩
def ways (at_:Int) (x:Int×Int):List Int:=(if x.1=35 then[] else[at_+1])++(if jumps x.1=true then[at_+1+x.2] else[])
def agree1 (pl:List Place) (high:Int) (t:Int):Bool:=!((pat pl t).known && ((pat pl t).high !=high))
def agrees (pl:List Place) (at_:Int) (x:Int×Int) (high:Int):Bool:=(ways at_ x).all (agree1 pl high)
def reached (fs:List Cost) (pl:List Place) (need peak at_:Int) (x:Int×Int) (e:Eff):Int :=
 if x.1=38∧(fn fs x.2).delta≠0 then 51
 else if ¬ (need≤32∧peak≤32) then 51
 else if agrees pl at_ x e.high=false then 51
 else if ¬ e.steps≤4096 then 53 else 0
def mark (e:Eff) (pl:List Place) (t:Int):List Place:=pl.set t.toNat ⟨true,e.high,max (pat pl t).steps e.steps⟩
def look (n:Int) (fs:List Cost) (s:St) (at_:Int) (x:Int×Int):Int×St :=
 if always n fs.length at_ x≠0 then(always n fs.length at_ x,s)
 else if (pat s.pl at_).known=false then(0,s)
 else
  let e:=effect fs (pat s.pl at_) x
  let need:=max s.need e.need
  let peak:=max s.peak e.peak
  if reached fs s.pl need peak at_ x e≠0 then(reached fs s.pl need peak at_ x e,⟨s.pl,need,peak⟩)
  else(0,⟨(ways at_ x).foldl (mark e) s.pl,need,peak⟩)
def rest (n:Int) (fs:List Cost):List (Int×Int)→Int→St→Cost×Int×Int
 | [],at_,s=>(⟨s.need,(pat s.pl at_).high,s.peak,(pat s.pl at_).steps⟩,0,0)
 | x::r,at_,s=>if (look n fs s at_ x).1≠0 then(⟨0,0,0,0⟩,at_,(look n fs s at_ x).1) else rest n fs r (at_+1) (look n fs s at_ x).2
def start (n:Nat):St:=⟨⟨true,0,0⟩::List.replicate n ⟨false,0,0⟩,0,0⟩
def code (l:List (Int×Int)) (fs:List Cost):Cost×Int×Int :=
 if fs.all mayBe=true then rest l.length fs l 0 (start l.length) else(⟨0,0,0,0⟩,0,1)
def okP (p:Place):Prop:=-64≤p.high∧p.high≤32∧0≤p.steps∧p.steps≤4096
structure Ok (n:Nat) (s:St):Prop where
 len:s.pl.length=n+1
 pl:∀ p∈s.pl,okP p
 need:0≤s.need∧s.need≤32
 peak:0≤s.peak∧s.peak≤32
theorem mayBe_bd {c:Cost} (h:mayBe c=true):0≤c.need∧c.need≤32∧0≤c.peak∧c.peak≤32∧-32≤c.delta∧c.delta≤32∧0≤c.steps∧c.steps≤4096:=by
 simp[mayBe] at h;omega
theorem fn_bd {fs:List Cost} (h:fs.all mayBe=true) (a:Int):0≤(fn fs a).need∧(fn fs a).need≤32∧0≤(fn fs a).peak∧(fn fs a).peak≤32∧-32≤(fn fs a).delta∧(fn fs a).delta≤32∧0≤(fn fs a).steps∧(fn fs a).steps≤4096:=by
 unfold fn;rw[List.getD_eq_getElem?_getD];cases h':fs[a.toNat]? with
 | none=>simp
 | some c=>exact mayBe_bd (List.all_eq_true.1 h c (List.mem_of_getElem? h'))
theorem pat_bd {n:Nat} {s:St} (h:Ok n s) (i:Int):okP (pat s.pl i):=by
 unfold pat;rw[List.getD_eq_getElem?_getD];cases h':s.pl[i.toNat]? with
 | none=>exact⟨by decide,by decide,by decide,by decide⟩
 | some c=>exact h.pl c (List.mem_of_getElem? h')
theorem start_ok (n:Nat):Ok n (start n):=by
 refine⟨by simp[start],?_,⟨by simp[start],by simp[start]⟩,⟨by simp[start],by simp[start]⟩⟩;intro p hp;simp[start] at hp;rcases hp with rfl|⟨_,rfl⟩ <;> exact⟨by decide,by decide,by decide,by decide⟩
theorem Zex (e:Eff) (pl:List Place) (t:Int) (h:∀ p∈pl,okP p) (he : -64≤e.high∧e.high≤32∧0≤e.steps∧e.steps≤4096):∀ p∈mark e pl t,okP p:=by
 intro p hp;have hpt:okP (pat pl t):=by
  unfold pat;rw[List.getD_eq_getElem?_getD];cases h':pl[t.toNat]? with
  | none=>exact⟨by decide,by decide,by decide,by decide⟩
  | some c=>exact h c (List.mem_of_getElem? h')
 unfold mark at hp;rcases List.mem_or_eq_of_mem_set hp with hp|rfl
 ·exact h p hp
 ·unfold okP at *;simp only;omega
theorem effect_bd {fs:List Cost} (hf:fs.all mayBe=true) {p:Place} (hp:okP p) (x:Int×Int) :
  -98≤(effect fs p x).need∧(effect fs p x).need≤200∧-66≤(effect fs p x).peak∧(effect fs p x).peak≤100∧-98≤(effect fs p x).high∧(effect fs p x).high≤66∧1≤(effect fs p x).steps∧(effect fs p x).steps≤70000 ∧
  (effect fs p x).high≤(effect fs p x).peak∧((effect fs p x).need≤32→-64≤(effect fs p x).high):=by
 have ht:=takes_bd x.1;have hl:=leaves_bd x.1;have hfn:=fn_bd hf x.2;unfold okP at hp;unfold effect;simp only;split
 ·simp only;generalize fn fs x.2=c at *;split <;> omega
 ·simp only;omega
theorem look_ok {n:Nat} {fs:List Cost} {s:St} {at_:Int} {x:Int×Int} (hf:fs.all mayBe=true) (h:Ok n s) (he:(look n fs s at_ x).1=0):Ok n (look n fs s at_ x).2:=by
 unfold look at he ⊢;split at he
 ·rename_i h1;exact absurd he h1
 ·rename_i h1;rw[if_neg h1];split at he
  ·rename_i h2;rw[if_pos h2];exact h
  ·rename_i h2;rw[if_neg h2];simp only at he ⊢;have eb:=effect_bd hf (pat_bd h at_) x;generalize effect fs (pat s.pl at_) x=e at *;split at he
   ·rename_i h3;exact absurd he h3
   ·rename_i h3;rw[if_neg h3];have h4:max s.need e.need≤32∧max s.peak e.peak≤32∧e.steps≤4096:=by
     unfold reached at h3;split at h3
     ·simp at h3
     ·split at h3
      ·simp at h3
      ·rename_i h5;split at h3
       ·simp at h3
       ·split at h3
        ·simp at h3
        ·rename_i h6;simp at h5 h6;omega
    have hn:=h.need;have hp:=h.peak;have key:∀ (l:List Int) (pl:List Place),pl.length=n+1→(∀ p∈pl,okP p)→(l.foldl (mark e) pl).length=n+1∧∀ p∈l.foldl (mark e) pl,okP p:=by
     intro l
     induction l with
     | nil=>intro pl h1 h2;exact⟨h1,h2⟩
     | cons t r ih=>intro pl h1 h2;exact ih _ (by simp[mark,h1]) (Zex e pl t h2 (by omega))
    obtain⟨k1,k2⟩:=key (ways at_ x) s.pl h.len h.pl;exact⟨k1,k2,by simp only;omega,by simp only;omega⟩
end Bd
end Go.Proofs.YtnhebmgibiomnaaGreat
namespace Go.Proofs.YtnhebmgibiomnaaGreat
namespace Bd
def funcsGo:List (List (Int×Int))→Int→List Cost→List Cost×Int×Int
 | [],_,cs=>(cs,0,0)
 | l::r,i,cs=>if (code l cs).2.2≠0 then([],i,(code l cs).2.2) else funcsGo r (i+1) (cs++[(code l cs).1])
def funcs (ll:List (List (Int×Int))):List Cost×Int×Int:=if ll.length>20 then([],20,2) else funcsGo ll 0 []
def whole (l:List (Int×Int)) (cs:List Cost):Cost×Int :=
 if (code l cs).2.2≠0 then(⟨0,0,0,0⟩,(code l cs).2.2) else if (code l cs).1.need>0 then(⟨0,0,0,0⟩,51) else((code l cs).1,0)
def program (ll:List (List (Int×Int))) (l:List (Int×Int)):Cost×Int :=
 if (funcs ll).2.2≠0 then(⟨0,0,0,0⟩,(funcs ll).2.2) else whole l (funcs ll).1
theorem Ps:∀ (ll:List (List (Int×Int))) (i:Int) (cs:List Cost),(funcsGo ll i cs).1.length≤cs.length+ll.length:=by
 intro ll
 induction ll with
 | nil=>intro i cs;simp[funcsGo]
 | cons l r ih =>
  intro i cs;unfold funcsGo;split
  ·simp
  ·have:=ih (i+1) (cs++[(code l cs).1]);simp at this ⊢;omega
theorem funcs_len (ll:List (List (Int×Int))):(funcs ll).1.length≤20:=by
 unfold funcs;split
 ·simp
 ·have:=Ps ll 0 [];simp at this;omega
end Bd
end Go.Proofs.YtnhebmgibiomnaaGreat
namespace Go.Proofs.YtnhebmgibiomnaaGreat
namespace Bu
structure PS where
 op:Int
 a:Int
 high:Int
 go:Nat
structure Plan where
 steps:List PS
 size:Int
def pl (ps:List Plan) (a:Int):Plan:=ps.getD a.toNat ⟨[],0⟩
def growth (x:Int×Int) (fs:List Bd.Cost):Int :=
 if x.1=1∨x.1=39∨x.1=3 then 1
 else if x.1=2∨x.1=36 then -1
 else if x.1=37 then(Bd.fn fs x.2).delta
 else if x.1=38 then(Bd.fn fs x.2).delta-1
 else if (Sr.uses x.1).1=7 then -1
 else if (Sr.uses x.1).1=6 then -2
 else 0
def sizeOf (x:Int×Int) (ps:List Plan):Int :=
 if x.1=4 then 3
 else if x.1=37 then(pl ps x.2).size
 else if x.1=38 then 1+16*(1+(pl ps x.2).size)
 else 1
structure PSt where
 known:List Bool
 high:List Int
 index:List Nat
 steps:List PS
 size:Int
def jump (x:Int×Int):Nat:=if x.1=35∨x.1=36 then x.2.toNat else 0
def plan1 (fs:List Bd.Cost) (ps:List Plan) (i:Nat) (x:Int×Int) (s:PSt):PSt :=
 if s.known.getD i false=false then s
 else
  let t:=i+1+jump x
  let h:=s.high.getD i 0
  let b:=h+growth x fs
  let z:=sizeOf x ps
  {known:=if x.1=35 then s.known.set t true else(s.known.set t true).set (i+1) true
   high:=if x.1=35 then s.high.set t b else(s.high.set t b).set (i+1) b
   index:=s.index.set i s.steps.length
   steps:=if 0<z then s.steps++[⟨x.1,x.2,h,t⟩] else s.steps
   size:=if 0<z then min (s.size+z) 20001 else s.size }
def planGo (fs:List Bd.Cost) (ps:List Plan):List (Int×Int)→Nat→PSt→PSt
 | [],_,s=>s
 | x::r,i,s=>planGo fs ps r (i+1) (plan1 fs ps i x s)
def start (n:Nat):PSt:=⟨true::List.replicate n false,List.replicate (n+1) 0,List.replicate (n+1) 0,[],0⟩
def planned (l:List (Int×Int)) (fs:List Bd.Cost) (ps:List Plan):Plan :=
 let s:=planGo fs ps l 0 (start l.length)
 ⟨s.steps.map fun p => { p with go:=(s.index.set l.length s.steps.length).getD p.go 0 },s.size⟩
abbrev Emit:=Int→Int→List Sr.Reg
def setN (l:List Sr.Reg) (n:Int):List Sr.Reg :=
 match l with
 | []=>[]
 | r::q => { r with n:=n } :: q
def loopE (body:List Sr.Reg) (top loops:Int):List Sr.Reg :=
 ⟨40,32+loops,top,0,0⟩::(List.range 16).flatMap fun (k:Nat)=>(⟨41,0,32+loops,(k:Int),(16-(k:Int))*(1+body.length)-1⟩:Sr.Reg)::body
def plainE (x:Int×Int) (top second:Int):List Sr.Reg :=
 if (Sr.uses x.1).1=3 then[⟨x.1,top,top,0,0⟩]
 else if (Sr.uses x.1).1=7 then[⟨x.1,second,second,top,0⟩]
 else if (Sr.uses x.1).1=6 then[⟨x.1,0,second,top,0⟩]
 else[⟨x.1,0,0,0,x.2⟩]
def em (es:List Emit) (a:Int):Emit:=es.getD a.toNat fun _ _=>[]
def stepE (es:List Emit) (x:Int×Int) (next loops:Int):List Sr.Reg :=
 if x.1=2 then[]
 else if x.1=1 then[⟨1,next,0,0,x.2⟩]
 else if x.1=39 then[⟨39,next,0,0,0⟩]
 else if x.1=3 then[⟨40,next,next-1,0,0⟩]
 else if x.1=4 then[⟨40,63,next-1,0,0⟩,⟨40,next-1,next-2,0,0⟩,⟨40,next-2,63,0,0⟩]
 else if x.1=35 then[⟨35,0,0,0,0⟩]
 else if x.1=36 then[⟨36,0,next-1,0,0⟩]
 else if x.1=37 then em es x.2 next loops
 else if x.1=38 then loopE (em es x.2 (next-1) (loops+1)) (next-1) loops
 else plainE x (next-1) (next-2)
def pieces (es:List Emit) (p:Plan) (high loops:Int):List (List Sr.Reg):=p.steps.map fun s=>stepE es (s.op,s.a) (high+s.high) loops
def begins (ls:List (List Sr.Reg)) (i:Nat):Nat:=(ls.take i).flatten.length
def isJump (op:Int):Bool:=decide (op=35∨op=36)
def fixed (ls:List (List Sr.Reg)) (st:List PS) (i:Nat):List Sr.Reg :=
 let l:=ls.getD i []
 match st[i]? with
 | some s=>if isJump s.op then setN l ((begins ls s.go:Int)-begins ls i-1) else l
 | none=>l
def emitE (es:List Emit) (p:Plan):Emit:=fun high loops =>
 let ls:=pieces es p high loops
 (List.range p.steps.length).flatMap (fixed ls p.steps)
def plans (fs:List Bd.Cost):List (List (Int×Int))→List Plan→List Plan
 | [],ps=>ps
 | l::r,ps=>plans fs r (ps++[planned l fs ps])
def emits:List Plan→List Emit→List Emit
 | [],es=>es
 | p::r,es=>emits r (es++[emitE es p])
def build (ll:List (List (Int×Int))) (l:List (Int×Int)):List Sr.Reg×Int :=
 let c:=Bd.program ll l
 if c.2≠0 then([],c.2)
 else
  let fs:=(Bd.funcs ll).1
  let ps:=plans fs ll []
  let main:=planned l fs ps
  if 20000<main.size+1 then([],3)
  else(emitE (emits ps []) main 0 0++[⟨42,0,0,0,c.1.delta⟩],0)
end Bu
end Go.Proofs.YtnhebmgibiomnaaGreat

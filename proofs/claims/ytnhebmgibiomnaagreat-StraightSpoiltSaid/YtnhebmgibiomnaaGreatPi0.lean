set_option linter.unusedVariables false
set_option linter.unusedSimpArgs false
set_option maxRecDepth 100000
set_option maxHeartbeats 8000000
namespace Go.Proofs.YtnhebmgibiomnaaGreat
section
namespace Mc
def bA (n:Int):Int:=(n+2147483648) % 4294967296-2147483648
def iJ (n:Int):Int:=(n+9223372036854775808) % 18446744073709551616-9223372036854775808
def eT (a b:Int):Int:=if b=0 then 0 else a.fdiv b
def bC (p:Bool):Int:=if p then 1 else 0
def Db (bG n:Int):Int :=
 let n:=bA n
 let r:=bG % 6
 bA (if r=1 then(n+32) / 64*64 else if r=2 then n / 64*64+32 else if r=3 then(n+16) / 32*32 else if r=4 then n / 64*64 else if r=5 then(n+63) / 64*64 else n)
structure Fm where
 aA:List (Int×Int)
 next:Nat
 aY:Nat
structure St where
 funcs:List (List (Int×Int))
 aD:List Fm
 aT:List (Int×Int)
 aF:List (Int×Int)
 aB:List Int
 aJ:List Int
 bH:List (Nat×Nat)
 aP:List Int
 store:List Int
 stack:List Int
 size:Int
 look:Int
 move:Int
 bG:Int
 steps:Nat
 aM:Nat
 ai:Bool
 br:Int
def aO (op:Int):Nat :=
 if op=2∨op=36∨op=38 then 1 else if op=3 then 1 else if op=4 then 2
 else if op=9∨op=10∨op=13∨op=14∨op=15∨op=19∨op=25∨op=27∨op=29∨op=30 then 1
 else if op=5∨op=6∨op=7∨op=8∨op=11∨op=12∨op=16∨op=17∨op=18∨op=20∨op=21 then 2
 else if op=26∨op=28∨op=31∨op=32∨op=33 then 2 else 0
def aV (op:Int):Nat :=
 if op=1∨op=39 then 1 else if op=3 then 2 else if op=4 then 2
 else if op=9∨op=10∨op=13∨op=14∨op=15∨op=19∨op=25∨op=27∨op=29∨op=30 then 1
 else if op=5∨op=6∨op=7∨op=8∨op=11∨op=12∨op=16∨op=17∨op=18∨op=20∨op=21 then 1 else 0
def settle:List Fm→List Fm
 | []=>[]
 |f::r=>if f.next<f.aA.length then f::r else if 0<f.aY∧0<f.aA.length then { f with next:=0,aY:=f.aY-1 } :: r else settle r
def Fv (s:St)(op a:Int)(Di:Int):Int :=
 if op<1∨39<op then 50
 else if s.stack.length<aO op∨32+aO op<s.stack.length+aV op then 51
 else if (op=35∨op=36)∧(a<0∨Di<a) then 52
 else if (op=37∨op=38)∧(a<0∨(s.funcs.length:Int)≤a∨20<s.aD.length) then 54
 else 0
def next (s:St):St×Option (Int×Int) :=
 if s.ai then(s,none) else
 match settle s.aD with
 | []=>({ s with aD:=[],ai:=true },none)
 |f::r =>
  let ins:=f.aA.getD f.next (0,0)
  let e:=Fv { s with aD:=f::r } ins.1 ins.2 (f.aA.length-1-f.next:Int)
  ({ s with aD:=f::r,br:=e,ai:=decide (e≠0) },if e=0 then some ins else none)
def push (v:Int)(s:St):St := { s with stack:=bA v::s.stack }
def du (s:St)(f:Int→Int):St:=push (f (s.stack.getD 0 0)) { s with stack:=s.stack.drop 1 }
def fT (s:St)(f:Int→Int→Int):St:=push (f (s.stack.getD 1 0) (s.stack.getD 0 0)) { s with stack:=s.stack.drop 2 }
def aL (l:List Int)(i:Int):Int:=if 0≤i∧i<l.length then l.getD i.toNat 0 else 0
def Iy (l:List Int)(i v:Int):List Int:=if 0≤i∧i<l.length then l.set i.toNat v else l
def Cg (axis:Int)(p:Int×Int):Int:=if axis=1 then p.2 else p.1
def fm (axis:Int)(p:Int×Int)(v:Int):Int×Int:=if axis=1 then(p.1,bA v) else(bA v,p.2)
def cO (s:St)(p:Int):Bool:=decide (0≤p∧p<s.aF.length)
def bit (axis t:Int):Bool:=if axis=1 then decide (t / 2 % 2=1) else decide (t % 2=1)
def bn (s:St)(p:Nat)(axis v:Int):St :=
 {s with aF:=s.aF.set p (fm axis (s.aF.getD p (0,0)) v),aB:=s.aB.set p (let t:=s.aB.getD p 0;if bit axis t then t else t+(axis+1)) }
def Di (c:Nat×Nat)(p:Nat):Nat:=if p=c.2 then c.1 else p+1
def Kv (aT aF:List (Int×Int)) (axis:Int) (p a b:Nat):Int :=
 let was:=fun q=>Cg axis (aT.getD q (0,0))
 let is:=fun q=>Cg axis (aF.getD q (0,0))
 let (a,b):=if was b<was a then(b,a) else(a,b)
 let o:=was p
 if o≤was a then o+is a-was a
 else if was b≤o then o+is b-was b
 else is a+eT (iJ (iJ (2*(o-was a)*(is b-is a))+(was b-was a))) (2*(was b-was a))
def Pq (aT:List (Int×Int)) (axis:Int) (aF:List (Int×Int)) (p a b:Nat):List (Int×Int) :=
 aF.set p (fm axis (aF.getD p (0,0)) (iJ (Kv aT aF axis p a b)))
def seg (aT:List (Int×Int)) (axis:Int) (c:Nat×Nat) (a b:Nat):Nat→Nat→List (Int×Int)→List (Int×Int)
 |0,_,aF=>aF
 |n+1,p,aF=>if p=b then aF else seg aT axis c a b n (Di c p) (Pq aT axis aF p a b)
def fixed (aB:List Int)(axis:Int)(c:Nat×Nat):List Nat:=((List.range (c.2+1-c.1)).map (· + c.1)).filter fun p=>bit axis (aB.getD p 0)
def Ir (aT:List (Int×Int)) (aB:List Int) (axis:Int) (aF:List (Int×Int)) (c:Nat×Nat):List (Int×Int) :=
 let l:=fixed aB axis c
 (List.range l.length).foldl (fun aF i=>let a:=l.getD i 0;seg aT axis c a (l.getD ((i+1) % l.length) 0) (c.2+1-c.1) (Di c a) aF) aF
def Nq (s:St)(axis:Int):St := { s with aF:=s.bH.foldl (fun aF c=>Ir s.aT s.aB axis aF c) s.aF }
def cC (s:St)(n:Int):St :=
 match s.aD with
 | []=>s
 |f::r => { s with aD := { f with next:=f.next+n.toNat } :: r }
def call (s:St)(f:Int)(x:Int):St:=if 0<x then { s with aD:=⟨s.funcs.getD f.toNat [],0,(x-1).toNat⟩::s.aD } else s
def deed (op a:Int)(s:St):St :=
 let x:=s.stack.getD 0 0
 let y:=s.stack.getD 1 0
 let s1 := { s with stack:=s.stack.drop 1 }
 let s2 := { s with stack:=s.stack.drop 2 }
 match op.toNat with
 |1=>push a s
 |2=>s1
 |3=>push x (push x s1)
 |4=>push y (push x s2)
 |5=>fT s fun x y=>x+y
 |6=>fT s fun x y=>x-y
 |7=>fT s fun x y=>bA (x*y / 64)
 |8=>fT s fun x y=>bA (eT (64*x) y)
 |9=>du s fun x=>-x
 |10=>du s fun x=>max x (-x)
 |11=>fT s fun x y=>min x y
 |12=>fT s fun x y=>max x y
 |13=>du s fun x=>Db 4 x
 |14=>du s fun x=>Db 5 x
 |15=>du s fun x=>Db s.bG x
 |16=>fT s fun x y=>bC (decide (x<y))
 |17=>fT s fun x y=>bC (decide (x≤y))
 |18=>fT s fun x y=>bC (decide (x=y))
 |19=>du s fun x=>bC (decide (x=0))
 |20=>fT s fun x y=>bC (decide (x≠0∧y≠0))
 |21=>fT s fun x y=>bC (decide (x≠0∨y≠0))
 |22 => { s with look:=a % 2 }
 |23 => { s with move:=a % 2 }
 |24 => { s with bG:=a % 6 }
 |25=>push (aL s.aP x) s1
 |26 => { s2 with aP:=Iy s.aP y x }
 |27=>push (aL s.store x) s1
 |28 => { s2 with store:=Iy s.store y x }
 |29=>push (if cO s x then Cg s.look (s.aF.getD x.toNat (0,0)) else 0) s1
 |30=>push (if cO s x then Cg s.look (s.aT.getD x.toNat (0,0)) else 0) s1
 |31=>if cO s y then bn s2 y.toNat s.move (Cg s.move (s.aF.getD y.toNat (0,0))+x) else s2
 |32=>if s.look=s.move∧cO s y then bn s2 y.toNat s.move x else s2
 |33=>if s.look=s.move∧cO s y∧cO s x then bn s2 x.toNat s.move (Cg s.move (s.aF.getD y.toNat (0,0))) else s2
 |34=>Nq s (a % 2)
 |35=>cC s a
 |36=>if x=0 then cC s1 a else s1
 |37=>call s a 1
 |38=>call s1 a (min x 16)
 |39=>push s.size s
 |_=>s
def Lq (s:St):St :=
 match s.aD with
 | []=>s
 |f::r => { s with aD := { f with next:=f.next+1 } :: r }
def step (s:St):St×Bool :=
 match next s with
 | (s',none)=>(s',false)
 | (s',some ins) =>
  let t:=deed ins.1 ins.2 (Lq s')
  ({ t with steps:=t.steps+1,aM:=max t.aM t.stack.length },true)
def steps:Nat→St→St×Bool
 |0,s=>(s,true)
 |n+1,s=>match step s with
  | (s',true)=>steps n s'
  | (s',false)=>(s',false)
def run (n:Nat)(s:St):St :=
 match steps n s with
 | (s',false)=>s'
 | (s',true)=>match next s' with
  | (t,none)=>t
  | (t,some _) => { t with br:=53 }
def eK (n:Nat):Int→List Int→List (Nat×Nat)
 |_,[]=>[]
 |last,e::r=>if last<e∧e<n then((last+1).toNat,e.toNat)::eK n e r else eK n last r
structure Zn where
 aT:List (Int×Int)
 aF:List (Int×Int)
 aB:List Int
 aJ:List Int
structure Pg where
 funcs:List (List (Int×Int))
 eN:List (Int×Int)
 aP:List Int
 size:Int
def k2 (p:Int×Int):Int×Int:=(bA p.1,bA p.2)
def ah (p:Pg)(z:Zn):St :=
 {funcs:=p.funcs,aD:=[⟨p.eN,0,0⟩]
  aF:=z.aF.map k2
  aT:=(List.range z.aF.length).map fun i=>k2 ((z.aT[i]?).getD (z.aF.getD i (0,0)))
  aB:=(List.range z.aF.length).map fun i=>(z.aB.getD i 0) % 4
  aJ:=z.aJ,bH:=eK z.aF.length (-1) z.aJ
  aP:=p.aP.map bA,store:=List.replicate 32 0,stack:=[],size:=bA p.size
  look:=0,move:=0,bG:=1,steps:=0,aM:=0,ai:=false,br:=0 }
end Mc
namespace Sr
open Mc
structure bE where
 op:Int
 d:Int
 a:Int
 b:Int
 n:Int
def cS (op:Int):Int×Bool :=
 if op=1∨op=39 then(1,true)
 else if op=40∨op=9∨op=10∨op=13∨op=14∨op=15∨op=19∨op=25∨op=27∨op=29∨op=30 then(3,true)
 else if op=5∨op=6∨op=7∨op=8∨op=11∨op=12∨op=16∨op=17∨op=18∨op=20∨op=21 then(7,true)
 else if op=26∨op=28∨op=31∨op=32∨op=33 then(6,true)
 else if op=36∨op=41 then(2,true)
 else if op=22∨op=23∨op=24∨op=34∨op=35∨op=42 then(0,true)
 else(0,false)
def rg (n:Int):Bool:=decide (0≤n∧n<64)
def eV (r:bE)(u:Int):Bool:=(decide (u % 2=0) || rg r.d) && (decide (u / 2 % 2=0) || rg r.a) && (decide (u / 4 % 2=0) || rg r.b)
def cP (op:Int):Bool:=decide (op=35∨op=36∨op=41)
def dm (r:bE)(Di:Int):Bool :=
 (cS r.op).2 && (decide (r.op=42)==decide (Di=0)) && eV r (cS r.op).1 && (!cP r.op || decide (0≤r.n∧r.n<Di))
def fitsAll:List bE→Bool
 | []=>true
 |r::l=>dm r l.length && fitsAll l
def right (aA:List bE):Bool :=
 decide (1≤aA.length∧aA.length≤80000) && fitsAll aA && (match aA.getLast? with|some r=>decide (0≤r.n∧r.n≤64)|none=>false)
structure St where
 aW:List Int
 m:Mc.St
 pc:Nat
 steps:Nat
def get (s:St)(r:Int):Int:=s.aW.getD r.toNat 0
def put (s:St)(r v:Int):St := { s with aW:=s.aW.set r.toNat v }
def fun1 (op:Nat)(x:Int):Int :=
 match op with
 |9=>-x
 |10=>max x (-x)
 |13=>Db 4 x
 |14=>Db 5 x
 |19=>bC (decide (x=0))
 |_=>x
def fun2 (op:Nat)(x y:Int):Int :=
 match op with
 |5=>x+y
 |6=>x-y
 |7=>bA (x*y / 64)
 |8=>bA (eT (64*x) y)
 |11=>min x y
 |12=>max x y
 |16=>bC (decide (x<y))
 |17=>bC (decide (x≤y))
 |18=>bC (decide (x=y))
 |20=>bC (decide (x≠0∧y≠0))
 |_=>bC (decide (x≠0∨y≠0))
def cC (s:St)(n:Int)(x:Bool):St:=if x then { s with pc:=s.pc+n.toNat } else s
def deed (r:bE)(s:St):St :=
 let x:=get s r.a
 let y:=get s r.b
 match r.op.toNat with
 |1=>put s r.d (bA r.n)
 |39=>put s r.d s.m.size
 |40|9|10|13|14|19=>put s r.d (bA (fun1 r.op.toNat x))
 |5|6|7|8|11|12|16|17|18|20|21=>put s r.d (bA (fun2 r.op.toNat x y))
 |15=>put s r.d (Db s.m.bG x)
 |25=>put s r.d (aL s.m.aP x)
 |26 => { s with m := { s.m with aP:=Iy s.m.aP x y } }
 |27=>put s r.d (aL s.m.store x)
 |28 => { s with m := { s.m with store:=Iy s.m.store x y } }
 |22 => { s with m := { s.m with look:=r.n % 2 } }
 |23 => { s with m := { s.m with move:=r.n % 2 } }
 |24 => { s with m := { s.m with bG:=r.n % 6 } }
 |29=>put s r.d (if cO s.m x then Cg s.m.look (s.m.aF.getD x.toNat (0,0)) else 0)
 |30=>put s r.d (if cO s.m x then Cg s.m.look (s.m.aT.getD x.toNat (0,0)) else 0)
 |31=>if cO s.m x then { s with m:=bn s.m x.toNat s.m.move (Cg s.m.move (s.m.aF.getD x.toNat (0,0))+y) } else s
 |32=>if s.m.look=s.m.move∧cO s.m x then { s with m:=bn s.m x.toNat s.m.move y } else s
 |33=>if s.m.look=s.m.move∧cO s.m x∧cO s.m y then { s with m:=bn s.m y.toNat s.m.move (Cg s.m.move (s.m.aF.getD x.toNat (0,0))) } else s
 |34 => { s with m:=Nq s.m (r.n % 2) }
 |35=>cC s r.n true
 |36=>cC s r.n (decide (x=0))
 |41=>cC s r.n (decide (x≤r.b))
 |_=>s
def kK:bE:=⟨42,0,0,0,0⟩
def step (aA:List bE)(s:St):St:=deed (aA.getD s.pc kK) { s with pc:=s.pc+1,steps:=s.steps+1 }
def runs:Nat→List bE→St→St
 |0,_,s=>s
 |n+1,aA,s=>if (aA.getD s.pc kK).op=42 then s else runs n aA (step aA s)
def ah (aP:List Int)(size:Int)(z:Zn):St:=⟨List.replicate 64 0,{ Mc.ah ⟨[],[],aP,0⟩ z with size:=bA size,bG:=1 },0,0⟩
def run (aA:List bE)(aP:List Int)(size:Int)(z:Zn):St:=runs aA.length aA (ah aP size z)
theorem eD:∀{aA:List bE}{i:Nat}{r:bE},fitsAll aA=true→aA[i]?=some r→dm r ((aA.length:Int)-1-i)=true
 | [],i,r,_,h=>by simp at h
 |x::l,0,r,h,y=>by
  simp only[List.getElem?_cons_zero,Option.some.injEq]at y;subst y;simp only[fitsAll,Bool.and_eq_true]at h;rw[show (((x::l).length:Nat):Int)-1-(0:Nat)=l.length by rw[List.length_cons];omega];exact h.1
 |x::l,i+1,r,h,y=>by
  simp only[List.getElem?_cons_succ]at y;simp only[fitsAll,Bool.and_eq_true]at h;have:=eD h.2 y;rw[show (((x::l).length:Nat):Int)-1-((i+1:Nat):Int)=(l.length:Int)-1-i by rw[List.length_cons];omega];exact this
theorem Zkz {r:bE}{s:St}{b:Int}(h:dm r b=true):(deed r s).steps=s.steps∧s.pc≤(deed r s).pc∧((deed r s).pc:Int)≤s.pc+(if cP r.op then r.n else 0):=by
 have v:cP r.op=true→0≤r.n:=fun x=>by
  unfold dm at h;simp only[x,Bool.and_eq_true,Bool.not_true,Bool.false_or,decide_eq_true_eq]at h;exact h.2.1
 have u:r.op.toNat=35→cP r.op=true:=fun e=>by rw[show r.op=35 by omega];rfl
 have z:r.op.toNat=36→cP r.op=true:=fun e=>by rw[show r.op=36 by omega];rfl
 have y:r.op.toNat=41→cP r.op=true:=fun e=>by rw[show r.op=41 by omega];rfl
 clear h;by_cases x:cP r.op=true
 ·have v:=v x;rw[if_pos x];clear u z y x;unfold deed;split
  all_goals (simp only[put,cC];refine⟨?_,?_,?_⟩ <;> (repeat' split) <;> first|trivial|rfl|exact Nat.le_refl _|omega|(dsimp only;omega))
 ·rw[if_neg x];have k:=fun e=>x (u e)
  have q:=fun e=>x (z e)
  have p:=fun e=>x (y e)
  clear u z y x v;unfold deed;split
  all_goals (simp only[put,cC];refine⟨?_,?_,?_⟩ <;> (repeat' split) <;> first|trivial|rfl|exact Nat.le_refl _|omega|(dsimp only;omega))
end Sr
namespace Bd
structure aa where
 aU:Int
 delta:Int
 aM:Int
 steps:Int
deriving DecidableEq
structure Place where
 aR:Bool
 aC:Int
 steps:Int
deriving DecidableEq
structure mL where
 aU:Int
 aM:Int
 aC:Int
 steps:Int
def aO (op:Int):Int :=
 if op=2∨op=36∨op=38 then 1 else if op=3 then 1 else if op=4 then 2
 else if op=9∨op=10∨op=13∨op=14∨op=15∨op=19∨op=25∨op=27∨op=29∨op=30 then 1
 else if op=5∨op=6∨op=7∨op=8∨op=11∨op=12∨op=16∨op=17∨op=18∨op=20∨op=21 then 2
 else if op=26∨op=28∨op=31∨op=32∨op=33 then 2 else 0
def aV (op:Int):Int :=
 if op=1∨op=39 then 1 else if op=3 then 2 else if op=4 then 2
 else if op=9∨op=10∨op=13∨op=14∨op=15∨op=19∨op=25∨op=27∨op=29∨op=30 then 1
 else if op=5∨op=6∨op=7∨op=8∨op=11∨op=12∨op=16∨op=17∨op=18∨op=20∨op=21 then 1 else 0
theorem ff (op:Int):0≤aO op∧aO op≤2:=by unfold aO;repeat' split <;> omega
theorem fI (op:Int):0≤aV op∧aV op≤2:=by unfold aV;repeat' split <;> omega
def az (op:Int):Bool:=op==35 || op==36
def ao (op:Int):Bool:=op==37 || op==38
def dB (c:aa):Bool:=decide (0≤c.aU) && decide (c.aU≤32) && decide (0≤c.aM) && decide (c.aM≤32) && decide (-32≤c.delta) && decide (c.delta≤32) && decide (0≤c.steps) && decide (c.steps≤4096)
def bp (n y aL:Int)(x:Int×Int):Int :=
 if ¬ (1≤x.1∧x.1≤39) then 50
 else if az x.1=true∧¬ (0≤x.2∧x.2≤n-1-aL) then 52
 else if ao x.1=true∧¬ (0≤x.2∧x.2<y) then 54 else 0
def fn (fs:List aa)(a:Int):aa:=fs.getD a.toNat ⟨0,0,0,0⟩
def ay (fs:List aa)(dE:Place)(x:Int×Int):mL :=
 let aU:=aO x.1-dE.aC
 let aC:=dE.aC-aO x.1+aV x.1
 let steps:=dE.steps+1
 if ao x.1=true then
  let c:=fn fs x.2
  ⟨max aU (c.aU-aC),max (max aC (aC+c.aM)) (aC+c.delta),aC+c.delta,steps+(if x.1=38 then 16 else 1)*c.steps⟩
 else⟨aU,aC,aC,steps⟩
structure St where
 pl:List Place
 aU:Int
 aM:Int
def bk (pl:List Place)(i:Int):Place:=pl.getD i.toNat ⟨false,0,0⟩
def ways (aL:Int)(x:Int×Int):List Int:=(if x.1=35 then[] else[aL+1])++(if az x.1=true then[aL+1+x.2] else[])
def gL (pl:List Place)(aC:Int)(t:Int):Bool:=!((bk pl t).aR && ((bk pl t).aC != aC))
def ea (pl:List Place)(aL:Int)(x:Int×Int)(aC:Int):Bool:=(ways aL x).all (gL pl aC)
def dR (fs:List aa)(pl:List Place)(aU aM aL:Int)(x:Int×Int)(e:mL):Int :=
 if x.1=38∧(fn fs x.2).delta≠0 then 51
 else if ¬ (aU≤32∧aM≤32) then 51
 else if ea pl aL x e.aC=false then 51
 else if ¬ e.steps≤4096 then 53 else 0
def mark (e:mL)(pl:List Place)(t:Int):List Place:=pl.set t.toNat ⟨true,e.aC,max (bk pl t).steps e.steps⟩
def look (n:Int)(fs:List aa)(s:St)(aL:Int)(x:Int×Int):Int×St :=
 if bp n fs.length aL x≠0 then(bp n fs.length aL x,s)
 else if (bk s.pl aL).aR=false then(0,s)
 else
  let e:=ay fs (bk s.pl aL) x
  let aU:=max s.aU e.aU
  let aM:=max s.aM e.aM
  if dR fs s.pl aU aM aL x e≠0 then(dR fs s.pl aU aM aL x e,⟨s.pl,aU,aM⟩)
  else(0,⟨(ways aL x).foldl (mark e) s.pl,aU,aM⟩)
def rest (n:Int)(fs:List aa):List (Int×Int)→Int→St→aa×Int×Int
 | [],aL,s=>(⟨s.aU,(bk s.pl aL).aC,s.aM,(bk s.pl aL).steps⟩,0,0)
 |x::r,aL,s=>if (look n fs s aL x).1≠0 then(⟨0,0,0,0⟩,aL,(look n fs s aL x).1) else rest n fs r (aL+1) (look n fs s aL x).2
def start (n:Nat):St:=⟨⟨true,0,0⟩::List.replicate n ⟨false,0,0⟩,0,0⟩
def aA (l:List (Int×Int)) (fs:List aa):aa×Int×Int :=
 if fs.all dB=true then rest l.length fs l 0 (start l.length) else(⟨0,0,0,0⟩,0,1)
def kN (p:Place):Prop:=-64≤p.aC∧p.aC≤32∧0≤p.steps∧p.steps≤4096
structure Ok (n:Nat) (s:St):Prop where
 len:s.pl.length=n+1
 pl:∀p∈s.pl,kN p
 aU:0≤s.aU∧s.aU≤32
 aM:0≤s.aM∧s.aM≤32
theorem gm {c:aa}(h:dB c=true):0≤c.aU∧c.aU≤32∧0≤c.aM∧c.aM≤32∧-32≤c.delta∧c.delta≤32∧0≤c.steps∧c.steps≤4096:=by
 simp[dB]at h;omega
theorem jw {fs:List aa}(h:fs.all dB=true)(a:Int):0≤(fn fs a).aU∧(fn fs a).aU≤32∧0≤(fn fs a).aM∧(fn fs a).aM≤32∧-32≤(fn fs a).delta∧(fn fs a).delta≤32∧0≤(fn fs a).steps∧(fn fs a).steps≤4096:=by
 unfold fn;rw[List.getD_eq_getElem?_getD];cases x:fs[a.toNat]? with
 |none=>simp
 |some c=>exact gm (List.all_eq_true.1 h c (List.mem_of_getElem? x))
theorem jb {n:Nat}{s:St}(h:Ok n s)(i:Int):kN (bk s.pl i):=by
 unfold bk;rw[List.getD_eq_getElem?_getD];cases x:s.pl[i.toNat]? with
 |none=>exact⟨by decide,by decide,by decide,by decide⟩
 |some c=>exact h.pl c (List.mem_of_getElem? x)
theorem eX (n:Nat):Ok n (start n):=by
 refine⟨by simp[start],?_,⟨by simp[start],by simp[start]⟩,⟨by simp[start],by simp[start]⟩⟩;intro p x;simp[start]at x;rcases x with rfl|⟨_,rfl⟩ <;> exact⟨by decide,by decide,by decide,by decide⟩
theorem Zko (e:mL)(pl:List Place)(t:Int)(h:∀p∈pl,kN p)(z : -64≤e.aC∧e.aC≤32∧0≤e.steps∧e.steps≤4096):∀p∈mark e pl t,kN p:=by
 intro p x;have u:kN (bk pl t):=by
  unfold bk;rw[List.getD_eq_getElem?_getD];cases y:pl[t.toNat]? with
  |none=>exact⟨by decide,by decide,by decide,by decide⟩
  |some c=>exact h c (List.mem_of_getElem? y)
 unfold mark at x;rcases List.mem_or_eq_of_mem_set x with x|rfl
 ·exact h p x
 ·unfold kN at *;simp only;omega
theorem iT {fs:List aa}(z:fs.all dB=true){p:Place}(y:kN p)(x:Int×Int) :
  -98≤(ay fs p x).aU∧(ay fs p x).aU≤200∧-66≤(ay fs p x).aM∧(ay fs p x).aM≤100∧-98≤(ay fs p x).aC∧(ay fs p x).aC≤66∧1≤(ay fs p x).steps∧(ay fs p x).steps≤70000 ∧
  (ay fs p x).aC≤(ay fs p x).aM∧((ay fs p x).aU≤32→-64≤(ay fs p x).aC):=by
 have k:=ff x.1;have u:=fI x.1;have v:=jw z x.2;unfold kN at y;unfold ay;simp only;split
 ·simp only;generalize fn fs x.2=c at *;split <;> omega
 ·simp only;omega
theorem jg {n:Nat}{fs:List aa}{s:St}{aL:Int}{x:Int×Int}(q:fs.all dB=true)(h:Ok n s) (v:(look n fs s aL x).1=0):Ok n (look n fs s aL x).2:=by
 unfold look at v ⊢;split at v
 ·rename_i u;exact absurd v u
 ·rename_i u;rw[if_neg u];split at v
  ·rename_i z;rw[if_pos z];exact h
  ·rename_i z;rw[if_neg z];simp only at v ⊢;have c:=iT q (jb h aL) x;generalize ay fs (bk s.pl aL) x=e at *;split at v
   ·rename_i y;exact absurd v y
   ·rename_i y;rw[if_neg y];have b:max s.aU e.aU≤32∧max s.aM e.aM≤32∧e.steps≤4096:=by
     unfold dR at y;split at y
     ·simp at y
     ·split at y
      ·simp at y
      ·rename_i k;split at y
       ·simp at y
       ·split at y
        ·simp at y
        ·rename_i a;simp at k a;omega
    have f:=h.aU;have d:=h.aM;have key:∀(l:List Int) (pl:List Place),pl.length=n+1→(∀p∈pl,kN p)→(l.foldl (mark e) pl).length=n+1∧∀p∈l.foldl (mark e) pl,kN p:=by
     intro l
     induction l with
     |nil=>intro pl u z;exact⟨u,z⟩
     |cons t r ih=>intro pl u z;exact ih _ (by simp[mark,u]) (Zko e pl t z (by omega))
    obtain⟨k1,k2⟩:=key (ways aL x) s.pl h.len h.pl;exact⟨k1,k2,by simp only;omega,by simp only;omega⟩
end Bd
namespace Bd
def funcsGo:List (List (Int×Int))→Int→List aa→List aa×Int×Int
 | [],_,cs=>(cs,0,0)
 |l::r,i,cs=>if (aA l cs).2.2≠0 then([],i,(aA l cs).2.2) else funcsGo r (i+1) (cs++[(aA l cs).1])
def funcs (ll:List (List (Int×Int))):List aa×Int×Int:=if ll.length>20 then([],20,2) else funcsGo ll 0 []
def fp (l:List (Int×Int)) (cs:List aa):aa×Int :=
 if (aA l cs).2.2≠0 then(⟨0,0,0,0⟩,(aA l cs).2.2) else if (aA l cs).1.aU>0 then(⟨0,0,0,0⟩,51) else((aA l cs).1,0)
def program (ll:List (List (Int×Int))) (l:List (Int×Int)):aa×Int :=
 if (funcs ll).2.2≠0 then(⟨0,0,0,0⟩,(funcs ll).2.2) else fp l (funcs ll).1
theorem Tz:∀(ll:List (List (Int×Int))) (i:Int) (cs:List aa),(funcsGo ll i cs).1.length≤cs.length+ll.length:=by
 intro ll
 induction ll with
 |nil=>intro i cs;simp[funcsGo]
 |cons l r ih =>
  intro i cs;unfold funcsGo;split
  ·simp
  ·have:=ih (i+1) (cs++[(aA l cs).1]);simp at this ⊢;omega
theorem kH (ll:List (List (Int×Int))):(funcs ll).1.length≤20:=by
 unfold funcs;split
 ·simp
 ·have:=Tz ll 0 [];simp at this;omega
end Bd
namespace Bu
structure PS where
 op:Int
 a:Int
 aC:Int
 go:Nat
structure aq where
 steps:List PS
 size:Int
def pl (ps:List aq)(a:Int):aq:=ps.getD a.toNat ⟨[],0⟩
def bc (x:Int×Int)(fs:List Bd.aa):Int :=
 if x.1=1∨x.1=39∨x.1=3 then 1
 else if x.1=2∨x.1=36 then -1
 else if x.1=37 then(Bd.fn fs x.2).delta
 else if x.1=38 then(Bd.fn fs x.2).delta-1
 else if (Sr.cS x.1).1=7 then -1
 else if (Sr.cS x.1).1=6 then -2
 else 0
def sizeOf (x:Int×Int)(ps:List aq):Int :=
 if x.1=4 then 3
 else if x.1=37 then(pl ps x.2).size
 else if x.1=38 then 1+16*(1+(pl ps x.2).size)
 else 1
structure gj where
 aR:List Bool
 aC:List Int
 index:List Nat
 steps:List PS
 size:Int
def jump (x:Int×Int):Nat:=if x.1=35∨x.1=36 then x.2.toNat else 0
def bz (fs:List Bd.aa)(ps:List aq)(i:Nat)(x:Int×Int)(s:gj):gj :=
 if s.aR.getD i false=false then s
 else
  let t:=i+1+jump x
  let h:=s.aC.getD i 0
  let b:=h+bc x fs
  let z:=sizeOf x ps
  {aR:=if x.1=35 then s.aR.set t true else(s.aR.set t true).set (i+1) true
   aC:=if x.1=35 then s.aC.set t b else(s.aC.set t b).set (i+1) b
   index:=s.index.set i s.steps.length
   steps:=if 0<z then s.steps++[⟨x.1,x.2,h,t⟩] else s.steps
   size:=if 0<z then min (s.size+z) 20001 else s.size }
def bL (fs:List Bd.aa)(ps:List aq):List (Int×Int)→Nat→gj→gj
 | [],_,s=>s
 |x::r,i,s=>bL fs ps r (i+1) (bz fs ps i x s)
def start (n:Nat):gj:=⟨true::List.replicate n false,List.replicate (n+1) 0,List.replicate (n+1) 0,[],0⟩
def a_ (l:List (Int×Int)) (fs:List Bd.aa) (ps:List aq):aq :=
 let s:=bL fs ps l 0 (start l.length)
 ⟨s.steps.map fun p => { p with go:=(s.index.set l.length s.steps.length).getD p.go 0 },s.size⟩
abbrev cU:=Int→Int→List Sr.bE
def iy (l:List Sr.bE)(n:Int):List Sr.bE :=
 match l with
 | []=>[]
 |r::q => { r with n:=n } :: q
def eJ (body:List Sr.bE)(bm loops:Int):List Sr.bE :=
 ⟨40,32+loops,bm,0,0⟩::(List.range 16).flatMap fun (k:Nat)=>(⟨41,0,32+loops,(k:Int),(16-(k:Int))*(1+body.length)-1⟩:Sr.bE)::body
def cx (x:Int×Int)(bm cJ:Int):List Sr.bE :=
 if (Sr.cS x.1).1=3 then[⟨x.1,bm,bm,0,0⟩]
 else if (Sr.cS x.1).1=7 then[⟨x.1,cJ,cJ,bm,0⟩]
 else if (Sr.cS x.1).1=6 then[⟨x.1,0,cJ,bm,0⟩]
 else[⟨x.1,0,0,0,x.2⟩]
def em (es:List cU)(a:Int):cU:=es.getD a.toNat fun _ _=>[]
def bD (es:List cU)(x:Int×Int)(next loops:Int):List Sr.bE :=
 if x.1=2 then[]
 else if x.1=1 then[⟨1,next,0,0,x.2⟩]
 else if x.1=39 then[⟨39,next,0,0,0⟩]
 else if x.1=3 then[⟨40,next,next-1,0,0⟩]
 else if x.1=4 then[⟨40,63,next-1,0,0⟩,⟨40,next-1,next-2,0,0⟩,⟨40,next-2,63,0,0⟩]
 else if x.1=35 then[⟨35,0,0,0,0⟩]
 else if x.1=36 then[⟨36,0,next-1,0,0⟩]
 else if x.1=37 then em es x.2 next loops
 else if x.1=38 then eJ (em es x.2 (next-1) (loops+1)) (next-1) loops
 else cx x (next-1) (next-2)
def bZ (es:List cU)(p:aq)(aC loops:Int):List (List Sr.bE):=p.steps.map fun s=>bD es (s.op,s.a) (aC+s.aC) loops
def aZ (ls:List (List Sr.bE)) (i:Nat):Nat:=(ls.take i).flatten.length
def cR (op:Int):Bool:=decide (op=35∨op=36)
def fixed (ls:List (List Sr.bE)) (st:List PS) (i:Nat):List Sr.bE :=
 let l:=ls.getD i []
 match st[i]? with
 |some s=>if cR s.op then iy l ((aZ ls s.go:Int)-aZ ls i-1) else l
 |none=>l
def cG (es:List cU)(p:aq):cU:=fun aC loops =>
 let ls:=bZ es p aC loops
 (List.range p.steps.length).flatMap (fixed ls p.steps)
def dZ (fs:List Bd.aa):List (List (Int×Int))→List aq→List aq
 | [],ps=>ps
 |l::r,ps=>dZ fs r (ps++[a_ l fs ps])
def ej:List aq→List cU→List cU
 | [],es=>es
 |p::r,es=>ej r (es++[cG es p])
def build (ll:List (List (Int×Int))) (l:List (Int×Int)):List Sr.bE×Int :=
 let c:=Bd.program ll l
 if c.2≠0 then([],c.2)
 else
  let fs:=(Bd.funcs ll).1
  let ps:=dZ fs ll []
  let eN:=a_ l fs ps
  if 20000<eN.size+1 then([],3)
  else(cG (ej ps []) eN 0 0++[⟨42,0,0,0,c.1.delta⟩],0)
end Bu
end
end Go.Proofs.YtnhebmgibiomnaaGreat

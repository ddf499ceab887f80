import Derived.BigQuiet
import Derived.Conc.MuLone
import Derived.Deep.QuietTactic
import Derived.IntWalk
import Derived.Lib.SliceRun
import Derived.LoopN
import Derived.Test.YtnhebmgibiomnaaGreatProg
import Derived.Test.YtnhebmgibiomnaaGreatPi0
import Derived.Test.YtnhebmgibiomnaaGreatPi3
set_option linter.unusedVariables false
set_option linter.unusedSimpArgs false
set_option maxRecDepth 100000
set_option maxHeartbeats 8000000
namespace Go.Proofs.YtnhebmgibiomnaaGreat
section
open Go.RowKit
theorem Pr (n:Int):RowKit.wrap64 (RowKit.wrap32 n)=Mc.bA n:=by
 rw[pR _ (by unfold RowKit.wrap32;omega)];unfold RowKit.wrap32 Mc.bA;rfl
theorem Gx (n:Int):RowKit.wrap64 n=Mc.iJ n:=by
 unfold RowKit.wrap64 Mc.iJ;rfl
theorem Co {a b:Int}(h:a=b):Ending.returned (Aj a)=.returned (Aj b):=by rw[h]
theorem Ma (n d:Int)(y:0<d):n % d=if n.tmod d<0 then n.tmod d+d else n.tmod d:=by
 have x:=Int.tmod_eq_emod (a:=n) (b:=d);have z:=pm n (show d≠0 by omega);have v:=po n y;by_cases h:0≤n∨d ∣ n
 ·rw[if_pos h]at x;rw[if_neg (by omega)];omega
 ·rw[if_neg h,Int.natAbs_of_nonneg (by omega)]at x;have u:n % d≠0:=fun e=>h (.inr (Int.dvd_of_emod_eq_zero e))
  rw[if_pos (by omega)];omega
theorem Rp (a b:Int)(z:b≠0):a.fdiv b=if a.tmod b≠0∧(decide (a<0)≠decide (b<0)) then a.tdiv b-1 else a.tdiv b:=by
 have u:=Int.fdiv_eq_ediv (a:=a) (b:=b);have y:=Int.tdiv_eq_ediv (a:=a) (b:=b);have p:=Int.dvd_iff_tmod_eq_zero (a:=b) (b:=a);by_cases x:b ∣ a
 ·rw[if_pos (.inr x)]at u y;rw[if_neg (fun h=>h.1 (p.1 x))];omega
 ·have k:a.tmod b≠0:=fun e=>x (p.2 e)
  have r:a≠0:=fun e=>x (by rw[e];exact Int.dvd_zero _)
  rcases Int.lt_or_gt_of_ne z with z|z
  ·have q:b.sign = -1:=Int.sign_eq_neg_one_of_neg z;rw[if_neg (by simp[x];omega)]at u;by_cases v:0≤a
   ·rw[if_pos (.inl v)]at y;rw[if_pos ⟨k,by simp;omega⟩];omega
   ·rw[if_neg (by simp[x];omega)]at y;rw[if_neg (by simp;omega)];omega
  ·have q:b.sign=1:=Int.sign_eq_one_of_pos z;rw[if_pos (.inl (by omega))]at u;by_cases v:0≤a
   ·rw[if_pos (.inl v)]at y;rw[if_neg (by simp;omega)];omega
   ·rw[if_neg (by simp[x];omega)]at y;rw[if_pos ⟨k,by simp;omega⟩];omega
theorem Zc (a:Int):RowKit.wrap64 (RowKit.wrap64 a-1)=Mc.iJ (a-1):=by
 unfold RowKit.wrap64 Mc.iJ;omega
namespace Mc
def bI (n:Int):Prop:=-2147483648≤n∧n≤2147483647
theorem Fq (n:Int):bI (bA n):=by unfold bI bA;omega
structure Ok (s:St):Prop where
 stack:∀x∈s.stack,bI x
 df:s.stack.length≤32
 aP:∀x∈s.aP,bI x
 store:∀x∈s.store,bI x
 dQ:s.store.length=32
 aF:∀p∈s.aF,bI p.1∧bI p.2
 aT:∀p∈s.aT,bI p.1∧bI p.2
 dK:s.aT.length=s.aF.length
 aB:∀t∈s.aB,0≤t∧t≤3
 tl:s.aB.length=s.aF.length
 size:bI s.size
 look:0≤s.look∧s.look≤1
 move:0≤s.move∧s.move≤1
 bG:0≤s.bG∧s.bG≤5
 aM:s.aM≤32
 aD:∀f∈s.aD,f.next≤f.aA.length∧f.aY≤15∧f.aA.length≤1000000
 fX:s.aD.length≤21
 funcs:∀c∈s.funcs,c.length≤1000000
 kJ:s.funcs.length≤1000000
 bH:∀c∈s.bH,c.1≤c.2∧c.2<s.aF.length
 eg:s.bH.length≤1000000
 c_:s.aF.length≤1000000
 gy:s.aP.length≤1000000
 fW:s.aJ.length≤1000000
end Mc
open Mc
def ae (l:List Int):List Value:=l.map (Value.int .i64)
def bu (l:List (Int×Int)):List Value:=l.flatMap fun p=>[Aj p.1,Aj p.2]
def it (l:List (Nat×Nat)):List Value:=l.flatMap fun p=>[Aj p.1,Aj p.2]
theorem Dg (l:List Int):(ae l).length=l.length:=by simp[ae]
theorem Ij (l:List (Int×Int)):(bu l).length=l.length*2:=by
 induction l with
 |nil=>rfl
 |cons a r ih=>simp only[bu,pC,Ca,Bp,Bx]at *;omega
def Row (w:World)(O:Nat→Prop)(t:TypeId)(size:Nat)(v:Value)(n:Nat)(xs:List Value):Prop :=
 w.ownsRow 0 t size v n xs∧∀g,v.ownBlock=some g→O g
def au (a b:Value):Prop:=∀g,a.ownBlock=some g→b.ownBlock≠some g
theorem au.symm {a b:Value}(h:au a b):au b a:=fun g y x=>h g x y
abbrev qV:=@au.symm
section
variable {w w' : World} {O O' : Nat → Prop} {t t' : TypeId} {size size' : Nat} {v v' : Value} {n n' : Nat} {xs xs' : List Value}
theorem Row.aQ (h:Row w O t size v n xs) (z:∀g,v.ownBlock=some g→w'.heap[g]?=w.heap[g]?) (r:∀k,O k→O' k):Row w' O' t size v n xs:=by
 refine⟨⟨h.1.1,?_⟩,fun g x=>r g (h.2 g x)⟩;rcases h.1.2 with q|⟨g,cY,aF,y,x,u,p⟩
 ·exact .inl q
 ·exact .inr ⟨g,cY,aF,y,x,(z g (by rw[y];rfl)).trans u,p⟩
theorem Row.block (h:Row w O t size v n xs){g:Nat}(x:v.ownBlock=some g):O g∧g<w.heap.size∧∃cs,aH w g t cs:=by
 refine⟨h.2 g x,(h.1.lt g x).2,?_⟩;rcases h.1.2 with⟨rfl,_⟩|⟨z,cY,aF,rfl,_,y,_⟩
 ·simp[Value.ownBlock]at x
 ·simp only[Value.ownBlock,Bw]at x;subst x;exact⟨aF,y⟩
theorem Row.apart (h:Row w O t size v n xs)(x:Row w O' t' size' v' n' xs')(u:t≠t'):au v v':=by
 intro g k z;obtain⟨_,_,cs,p⟩:=h.block k;obtain⟨_,_,q,y⟩:=x.block z;exact p.dF y u rfl
theorem Row.cD (h:Row w O t size v n xs){b:Nat}{cs:Array Value}(z:aH w b t' cs)(y:t≠t'){g:Nat}(u:v.ownBlock=some g):g≠b:=by
 obtain⟨_,_,k,x⟩:=h.block u;exact x.dF z y
theorem Row.form (h:Row w O t size v n xs):∃A c,v=.slice A n c∧n≤c∧c≤maxLen:=by
 rcases h.1.2 with⟨rfl,rfl⟩|⟨u,cY,aF,rfl,_,z,y,x,_⟩
 ·exact⟨none,0,rfl,Aw,By _⟩
 ·exact⟨_,cY,rfl,y,x⟩
theorem Row.aL (h:Row w O t size v n xs)(a:0<n):∃g c,v=.slice (some ⟨g,0,none⟩) n c∧n≤c∧c≤maxLen∧O g∧g<w.heap.size∧(∀j u,xs[j]?=some u→w.cell? ⟨g,j,none⟩=some u)∧∀j,w.frozen? ⟨g,j,none⟩=false:=by
 rcases h.1.2 with⟨_,r⟩|⟨g,cY,aF,rfl,_,p,q,z,s,k⟩
 ·omega
 ·have y:aH w g t aF:=p;refine⟨g,cY,rfl,q,z,h.2 g rfl,y.lt,fun j u x=>?_,fun j=>y.frozen j⟩;rw[y.cell,←k]at *;rw[oB]at x;split at x
  ·simpa using x
  ·cases x
theorem Row.take (h:Row w O t size v n xs){m:Nat}(p:m≤n){A:Option Addr}{c:Nat}(b:v=.slice A n c):Row w O t size (.slice A m c) m (xs.take (m*size)):=by
 subst b;refine⟨⟨?_,?_⟩,fun g y=>h.2 g (by cases A <;> exact y)⟩
 ·rw[Du,h.1.1];exact pp (pD _ p)
 ·rcases h.1.2 with⟨x,k⟩|⟨g,cY,aF,k,y,a,x,u,z,q⟩
  ·injection x with x u z
   subst x z;exact .inl ⟨by rw[show m=0 by omega],by omega⟩
  ·injection k with s d r
   subst s r;refine .inr ⟨g,c,aF,rfl,y,a,by omega,u,z,?_⟩;rw[←q,List.take_take,pp (pD _ p)]
theorem Row.aX (h:Row w O t size v n xs){g:Nat}(x:v.ownBlock=some g){j:Nat}(_hj:j<xs.length)(u:Value):Row (w.setCell ⟨g,j,none⟩ u) O t size v n (xs.set j u):=by
 refine⟨⟨by rw[Dh];exact h.1.1,?_⟩,h.2⟩;rcases h.1.2 with⟨rfl,_⟩|⟨y,cY,aF,rfl,a,p,q,z,r,k⟩
 ·simp[Value.ownBlock]at x
 ·simp only[Value.ownBlock,Bw]at x;subst x;have s:aH w y t aF:=p;refine .inr ⟨y,cY,aF.setIfInBounds j u,rfl,a,s.aX j u,q,z,by rw[Dx];exact r,?_⟩;rw[qr,List.take_set,k]
end
theorem Fe {P:Program}{t:TypeId}{z:Value}{n b:Nat} (h:(P.info? t).map (fun i=>(i.zero,i.size,i.bytes))=some (some z,n,b)):∃i,P.info? t=some i∧i.zero=some z∧i.size=n∧i.bytes=b:=by
 cases hi:P.info? t with
 |none=>rw[hi]at h;cases h
 |some i =>
  rw[hi]at h;simp only[oH,Bw,Prod.mk.injEq]at h;exact⟨i,rfl,h.1,h.2.1,h.2.2⟩
theorem Hv:(Tryz.prog.info? 3).map (fun i=>(i.zero,i.size,i.bytes))=some (some (Aj 0),1,8):=by kernel_rfl
theorem aE.aG {w:World}{g:Nat}{t:TypeId}{cs:List Value}(h:aH w g t cs.toArray)(size n:Nat)(x:cs.length=n*size):aE w w.heap.size size (some ⟨g,0,none⟩) n cs :=
 ⟨x,fun _=>⟨g,0,rfl,h.lt,fun j u y=>by rw[nz,h.cell];simpa using y⟩⟩
abbrev qM:=@aE.aG
abbrev bJ (w w':World):Prop:=Fr (fun _=>False) w w'
theorem bJ.below {w w':World}{B:Nat}(h:bJ w w')(y:B≤w.heap.size):Below B w w':=Fr.below h y fun _ _ x=>x
abbrev qO:=@bJ.below
theorem Cb {w w':World}{aN size n:Nat}{t:TypeId}{v:Value}{xs:List Value}(h:w.ownsRow aN t size v n xs)(u:bJ w w'):w'.ownsRow aN t size v n xs:=by
 refine⟨h.1,?_⟩;rcases h.2 with k|⟨g,cY,aF,q,z,y,p⟩
 ·exact .inl k
 ·exact .inr ⟨g,cY,aF,q,z,(u.block g (bO.1 y).1 (fun x=>x)).trans y,p⟩
theorem Cm {w:World}{aN x size n:Nat}{t:TypeId}{v:Value}{xs:List Value}(h:w.ownsRow aN t size v n xs)(p:x≤aN):w.ownsRow x t size v n xs:=by
 refine⟨h.1,?_⟩;rcases h.2 with z|⟨g,cY,aF,y,k,u⟩
 ·exact .inl z
 ·exact .inr ⟨g,cY,aF,y,by omega,u⟩
theorem Eo (w:World)(aN size:Nat)(t:TypeId):w.ownsRow aN t size (.slice none 0 0) 0 []:=⟨by simp,.inl ⟨rfl,rfl⟩⟩
theorem Kr {w:World}{aN size g:Nat}{t:TypeId} (x:aH w g t #[]) (y:aN≤g):w.ownsRow aN t size (.slice (some ⟨g,0,none⟩) 0 0) 0 [] :=
 ⟨by simp,.inr ⟨g,0,#[],rfl,y,x,Aw,by unfold maxLen;omega,by simp,by simp⟩⟩
def Zec (w:World)(t:TypeId)(size n:Nat)(xs:List Value)(e:Ending)(w':World):Prop:=∃v,e=.returned v∧w'.ownsRow w.heap.size t size v n xs∧bJ w w'
theorem Hw {w w1 w':World}{r:Option Nat}(x:bJ w w1)(y:w1.grownBy w' r)(h:∀g,r=some g→w.heap.size≤g):bJ w w' :=
 ⟨y.os.trans x.os,y.tape.trans x.tape,y.output.trans x.output,Ex x.size y.size,fun k z u=>(y.block k (Dq z x.size) (fun e=>by have:=h k e.symm;omega)).trans (x.block k z u)⟩
theorem Tw:(Tryz.prog.info? 76).map (fun i=>(i.zero,i.size,i.bytes))=some (some (.agg #[Aj 0,Aj 0]),2,16):=by kernel_rfl
theorem Zgi:(Tryz.prog.info? 96).map (fun i=>(i.zero,i.size,i.bytes))=some (some (.agg #[Aj 0,Aj 0]),2,16):=by kernel_rfl
theorem Ik {l:List Int}{P:Int→Prop}(h:∀x∈l,P x){i:Nat}{v:Int}(z:P v):∀x∈l.set i v,P x:=fun x y=>by
 rcases oI y with y|rfl
 ·exact h x y
 ·exact z
theorem Gj (l:List Int)(i:Nat)(v:Int):ae (l.set i v)=(ae l).set i (Aj v):=by simp[ae,pS]
theorem Cn {l:List Int}{i:Nat}{v:Int} (h:l[i]?=some v):(ae l)[i]?=some (Aj v):=by simp[ae,h]
theorem Gf:∀{l:List (Int×Int)} {i:Nat} {v:Int×Int},l[i]?=some v→(bu l)[2*i]?=some (Aj v.1)∧(bu l)[2*i+1]?=some (Aj v.2)
 |a::l,0,v,h=>by
  simp only[Ay,Bw]at h;subst h;exact⟨rfl,rfl⟩
 |a::l,i+1,v,h=>by
  have:=Gf (l:=l) (i:=i) (v:=v) h;rw[show 2*(i+1)=2*i+2 by omega];exact this
 | [],i,v,h=>by simp at h
theorem mC {l:List Int}{x:Int} (h:¬ (0≤x∧x<l.length)):aL l x=0:=by unfold aL;rw[if_neg h]
theorem Zhr {l:List Int}{i:Nat}{v:Int} (h:l[i]?=some v):aL l i=v:=by
 have:=(aS.1 h).1;unfold aL;rw[if_pos (by omega),Da,Bo,h];rfl
theorem Vd {l:List Int}{x v:Int} (h:¬ (0≤x∧x<l.length)):Iy l x v=l:=by unfold Iy;rw[if_neg h]
theorem Pf {l:List Int}{i:Nat}{v:Int}(h:i<l.length):Iy l i v=l.set i v:=by
 unfold Iy;rw[if_pos (by omega),Da]
theorem De {α:Type}{l:List α}{i:Nat}{x d:α} (h:l[i]?=some x):l.getD i d=x:=by rw[Bo,h];rfl
def mk {α:Type}(n i:Nat)(F:Nat→α)(z:α):List α:=(List.range n).map fun j=>if j<i then F j else z
theorem Fc {α:Type}(n i:Nat)(F:Nat→α)(z:α):(mk n i F z).length=n:=by simp[mk]
theorem Ji {α:Type}{n i:Nat}{F:Nat→α}{z:α}{j:Nat}(h:j<n):(mk n i F z)[j]?=some (if j<i then F j else z):=by
 unfold mk;rw[Cd,oa h];rfl
theorem Lc {α:Type}{n i:Nat}{F:Nat→α}{z:α}(h:i<n):(mk n i F z).set i (F i)=mk n (i+1) F z:=by
 refine oJ fun j=>?_
 rw[Jc];rcases oe j n with x|x
 ·rw[Ji x,Ji x,Fc];by_cases u:i=j
  ·subst u;rw[if_pos rfl,if_pos h,if_pos (by omega)]
  ·rw[if_neg u];by_cases y:j<i
   ·rw[if_pos y,if_pos (by omega)]
   ·rw[if_neg y,if_neg (by omega)]
 ·rw[if_neg (by omega),ge (by rw[Fc];omega),ge (by rw[Fc];omega)]
theorem Mt {α:Type}(n:Nat)(F:Nat→α)(z:α):mk n 0 F z=List.replicate n z:=by
 refine oJ fun j=>?_
 rcases oe j n with x|x
 ·rw[Ji x,if_neg (by omega),pT,if_pos x]
 ·rw[ge (by rw[Fc];omega),ge (by simpa using x)]
theorem Tl {α:Type}(n:Nat)(F:Nat→α)(z:α):mk n n F z=(List.range n).map F:=by
 unfold mk;refine pE fun j x=>?_
 rw[if_pos (List.mem_range.1 x)]
theorem Zbp {α:Type}{n i:Nat}{F:Nat→α}{z:α}(h:i<n→F i=z):mk n i F z=mk n (i+1) F z:=by
 refine oJ fun j=>?_
 rcases oe j n with x|x
 ·rw[Ji x,Ji x];by_cases u:j=i
  ·subst u;rw[if_neg (by omega),if_pos (by omega),h x]
  ·by_cases y:j<i
   ·rw[if_pos y,if_pos (by omega)]
   ·rw[if_neg y,if_neg (by omega)]
 ·rw[ge (by rw[Fc];omega),ge (by rw[Fc];omega)]
def Mc.oF (z:Zn)(j:Nat):Int×Int:=k2 ((z.aT[j]?).getD (z.aF.getD j (0,0)))
def Mc.cF (z:Zn)(j:Nat):Int×Int:=k2 (z.aF.getD j (0,0))
def Mc.tF (z:Zn)(j:Nat):Int:=(z.aB.getD j 0) % 4
theorem Zfl (z:Zn):(List.range z.aF.length).map (cF z)=z.aF.map k2:=by
 refine oJ fun j=>?_
 rw[Cd,Cd];rcases oe j z.aF.length with x|x
 ·rw[oa x,Bf x];simp only[oH,cF,Bo,Bf x,oK]
 ·rw[ge (by simpa using x),ge x];rfl
structure dC (W:World) (B:Nat) (z:Zn) (oA:Option Addr) (cA:Option Addr) (tA:Option Addr) (eA:Option Addr):Prop where
 aT:aE W B 2 oA z.aT.length (bu z.aT)
 aF:aE W B 2 cA z.aF.length (bu z.aF)
 aB:aE W B 1 tA z.aB.length (ae z.aB)
 aJ:aE W B 1 eA z.aJ.length (ae z.aJ)
structure ek (z:Zn):Prop where
 aT:z.aT.length≤1000000
 aF:z.aF.length≤1000000
 aB:z.aB.length≤1000000
 aJ:z.aJ.length≤1000000
theorem dC.aQ {W W':World}{B:Nat}{z:Zn}{oA cA tA eA:Option Addr}(h:dC W B z oA cA tA eA)(x:∀p:Addr,p.block<B→W'.cell? p=W.cell? p):dC W' B z oA cA tA eA :=
 ⟨h.aT.aQ x,h.aF.aQ x,h.aB.aQ x,h.aJ.aQ x⟩
theorem aE.aL {w:World}{B size:Nat}{A:Option Addr}{n:Nat}{xs:List Value}(h:aE w B size A n xs)(x:0<n):∃b off,A=some ⟨b,off,none⟩∧b<B∧∀j u,xs[j]?=some u→w.cell? ⟨b,off+j,none⟩=some u:=h.2 x
theorem Rz (n:Int):bits .and .i64 n 3=n % 4:=by
 have h:(BitVec.ofInt 64 3).toNat=2 ^ 2-1:=by decide
 have key:(BitVec.ofInt 64 n &&& BitVec.ofInt 64 3).toNat=(n % ((2 ^ 64:Nat):Int)).toNat % 2 ^ 2:=by
  rw[BitVec.toNat_and,BitVec.toNat_ofInt,h,Nat.and_two_pow_sub_one_eq_mod]
 show IntKind.i64.wrap ((BitVec.ofInt 64 n &&& BitVec.ofInt 64 3).toNat:Nat)=n % 4
 rw[key,IntKind.wrap_i64];omega
theorem dD {v:Value}:au (.slice none 0 0) v:=fun g h=>by simp[Value.ownBlock]at h
theorem Hu (l:List Int):∀u∈ae l,u.oneCell'=true:=by
 intro u y;obtain⟨x,_,rfl⟩:=List.mem_map.1 y;rfl
theorem Pj (l:List (Int×Int)):∀u∈bu l,u.oneCell'=true:=by
 intro u z;obtain⟨x,_,y⟩:=List.mem_flatMap.1 z;simp only[If,eq,or_false]at y;rcases y with rfl|rfl <;> rfl
theorem Bc {w:World}{aN size n:Nat}{t:TypeId}{v:Value}{xs:List Value}(h:w.ownsRow aN t size v n xs):∃A c,v=.slice A n c∧n≤c∧c≤maxLen:=by
 rcases h.2 with⟨rfl,rfl⟩|⟨g,cY,aF,rfl,_,_,y,x,_⟩
 ·exact⟨none,0,rfl,Aw,By _⟩
 ·exact⟨_,cY,rfl,y,x⟩
theorem Ck {W:World}{aN size n:Nat}{t:TypeId}{v:Value}{xs:List Value}(h:W.ownsRow aN t size v n xs){b:Nat}{t0:TypeId}{cs:Array Value}(k:aH W b t0 cs)(z:t0≠t)(i:Nat)(u:Value):(W.setCell ⟨b,i,none⟩ u).ownsRow aN t size v n xs:=by
 refine⟨h.1,?_⟩;rcases h.2 with p|⟨g,cY,aF,r,s,x,q⟩
 ·exact .inl p
 ·have y:g≠b:=fun e=>k.dF (show aH W g t aF from x) z e.symm
  exact .inr ⟨g,cY,aF,r,s,(Bq _ _ _ _ y).trans x,q⟩
theorem Cf {W:World}{aN size n:Nat}{t:TypeId}{v:Value}{xs:List Value}(h:W.ownsRow aN t size v n xs)(b:0<n) :
  ∃g c,v=.slice (some ⟨g,0,none⟩) n c∧n≤c∧aN≤g∧g<W.heap.size∧∀j u,xs[j]?=some u→W.cell? ⟨g,j,none⟩=some u:=by
 rcases h.2 with⟨_,s⟩|⟨g,cY,aF,rfl,z,q,p,r,a,k⟩
 ·omega
 ·have y:aH W g t aF:=q;refine⟨g,cY,rfl,p,z,y.lt,fun j u x=>?_⟩;rw[y.cell];rw[←k,oB]at x;split at x
  ·simpa using x
  ·cases x
theorem Us {P:Program}(w:World){ops:Array Oper}{o:Oper}{a:Act}{K:Act→World→Prop}{Q:Exit→Act→World→Prop}{E:Prop}(k:o.guard=none)(s x:Operand)(t:TypeId)
  (l:o.op=.call { callee:=.builtin .append,args:=#[s,x],argTypes:=#[t,t] }) (aN:Nat) (e:TypeId) (i:TypeInfo) (z:Value) (size bytes:Nat) (q:P.underlying t=some (.slice e)) (hi:P.info? e=some i) (f:i.zero=some z)
  (p:i.size=size) (H:i.bytes=bytes) (V:z.cells.size=size) (g:0<size)
  (v:Value) (n:Nat) (xs:List Value) (Z:a.eval s=v) (R:w.ownsRow aN e size v n xs)
  (B:Nat) (A:Option Addr) (m c:Nat) (y:List Value) (U:a.eval x=.slice A m c) (Y:aE w B size A m y) (b:∀u∈y,u.oneCell'=true)
  (d:n+m≤maxLen) (X:(n+m)*bytes≤140737488355328) (r:aN≤w.heap.size)
  (h:∀v' w',w'.ownsRow aN e size v' (n+m) (xs++y)→w.grownBy w' v.ownBlock→(v'.ownBlock=v.ownBlock∨v'.ownBlock=some w.heap.size)→K (a.put o.dst v') w') :
  if Region.wanted o (yielded ops a.tmps)=true then Oper.wp P o a w K Q else E:=by
 have j:Region.wanted o (yielded ops a.tmps)=true:=by simp[Region.wanted,k]
 rw[if_pos j];exact Fg w s x t l aN e i z size bytes q hi f p H V g v n xs Z R B A m c y U Y b d X r h
theorem Bg {w:World}{aN size n g:Nat}{t:TypeId}{v:Value}{xs:List Value}(h:w.ownsRow aN t size v n xs)(x:v.ownBlock=some g):aN≤g∧g<w.heap.size∧∃cs,aH w g t cs:=by
 rcases h.2 with⟨rfl,_⟩|⟨u,cY,aF,rfl,z,y,_⟩
 ·simp[Value.ownBlock]at x
 ·simp only[Value.ownBlock,Bw]at x;subst x;exact⟨z,(bO.1 y).1,aF,y⟩
theorem Dd {w w':World}{aN size n:Nat}{t:TypeId}{v:Value}{xs:List Value}(h:w.ownsRow aN t size v n xs) (k:∀g,v.ownBlock=some g→w'.heap[g]?=w.heap[g]?):w'.ownsRow aN t size v n xs:=by
 refine⟨h.1,?_⟩;rcases h.2 with u|⟨g,cY,aF,x,p,y,z⟩
 ·exact .inl u
 ·exact .inr ⟨g,cY,aF,x,p,(k g (by rw[x];rfl)).trans y,z⟩
theorem Cx {w w':World}{aN size n:Nat}{t:TypeId}{v u:Value}{xs:List Value}(h:w.ownsRow aN t size v n xs)(z:w.grownBy w' u.ownBlock)(x:au v u):w'.ownsRow aN t size v n xs :=
 Dd h fun g e=>z.block g (Bg h e).2.1 (fun y=>x g e y.symm)
theorem Ds {w:World}{z b s1 s n1 e:Nat}{y x:TypeId}{v u:Value}{xs c:List Value}(h:w.ownsRow z y s1 v n1 xs)(k:w.ownsRow b x s u e c)(p:y≠x):au v u:=fun g a q=>by
 obtain⟨_,_,cs,r⟩:=Bg h a;obtain⟨_,_,f,d⟩:=Bg k q;exact(r.dF d p) rfl
theorem He {w:World}{v u v':Value}{aN size n:Nat}{t:TypeId}{xs:List Value}(p:w.ownsRow aN t size u n xs)(k:au v u)(x:v'.ownBlock=v.ownBlock∨v'.ownBlock=some w.heap.size):au v' u:=fun g y z=>by
 rcases x with x|x
 ·exact k g (x ▸ y) z
 ·rw[x]at y
  injection y with y
  have:=(Bg p z).2.1;omega
structure gC (w:World) (zb:Nat) (wr:World) (vo vu vt ve:Value) (z:Zn):Prop where
 box:aH wr zb 30 #[vo,vu,vt,ve]
 aT:wr.ownsRow w.heap.size 76 2 vo z.aT.length (bu z.aT)
 aF:wr.ownsRow w.heap.size 76 2 vu z.aF.length (bu z.aF)
 aB:wr.ownsRow w.heap.size 3 1 vt z.aB.length (ae z.aB)
 aJ:wr.ownsRow w.heap.size 3 1 ve z.aJ.length (ae z.aJ)
 nK:au vo vu
 mz:au vt ve
 fr:Fr (· = zb) w wr
 lZ:zb<w.heap.size∨w.heap.size≤zb
section
variable {w wr w1 : World} {zb : Nat} {vo vu vt ve : Value} {z : Zn}
theorem gC.go (h:gC w zb wr vo vu vt ve z)(y:bJ wr w1):gC w zb w1 vo vu vt ve z :=
 ⟨y.aG h.box (fun x=>x),Cb h.aT y,Cb h.aF y,Cb h.aB y,Cb h.aJ y,h.nK,h.mz,h.fr.trans (y.mono fun _ _ x=>x.elim),h.lZ⟩
theorem gC.alloc (h:gC w zb wr vo vu vt ve z)(o:Obj):gC w zb (wr.alloc o) vo vu vt ve z:=h.go ((qF _ _).alloc o)
theorem gC.drew (h:gC w zb wr vo vu vt ve z):gC w zb wr.drew vo vu vt ve z:=h.go ((qF _ _).drew)
theorem gC.g_ (h:gC w zb wr vo vu vt ve z){v:Value}(p:∀g,v.ownBlock=some g→w.heap.size≤g)(x:wr.grownBy w1 v.ownBlock)(i:Nat)(u:Value):Fr (· = zb) w (w1.setCell ⟨zb,i,none⟩ u) :=
 qU ⟨x.os.trans h.fr.os,x.tape.trans h.fr.tape,x.output.trans h.fr.output,Ex h.fr.size x.size,fun k y q=>(x.block k (Dq y h.fr.size) (fun e=>by have:=p k e.symm;omega)).trans (h.fr.block k y q)⟩ (.inl rfl) _
theorem Cs {aN size n g0:Nat}{t t0:TypeId}{v:Value}{xs:List Value}{cs:Array Value}(h:w.ownsRow aN t size v n xs)(y:aH w g0 t0 cs)(x:t0≠t)(i:Nat)(u:Value):(w.setCell ⟨g0,i,none⟩ u).ownsRow aN t size v n xs:=Ck h y x i u
theorem gC.lB (h:gC w zb wr vo vu vt ve z){v':Value} {p:(Int×Int)} (u:w1.ownsRow w.heap.size 76 2 v' (z.aT.length+1) (bu z.aT++[Aj p.1,Aj p.2])) (y:wr.grownBy w1 vo.ownBlock) (v:v'.ownBlock=vo.ownBlock∨v'.ownBlock=some wr.heap.size) :
  aH w1 zb 30 #[vo,vu,vt,ve]∧gC w zb (w1.setCell ⟨zb,0,none⟩ v') v' vu vt ve { z with aT:=z.aT++[p] } := by
 have x:aH w1 zb 30 #[vo,vu,vt,ve]:=h.box.grown y fun e=>by
  obtain⟨_,_,cs,k⟩:=Bg h.aT e.symm;exact(h.box.dF k (by decide)) rfl
 refine⟨x,by have:=x.aX 0 v';simpa using this,by have:=Cs u x (by decide) 0 v';simpa [bu,pF]using this,Cs (Cx h.aF y (by exact h.nK.symm)) x (by decide) 0 v',Cs (Cx h.aB y (Ds h.aB h.aT (by decide))) x (by decide) 0 v',Cs (Cx h.aJ y (Ds h.aJ h.aT (by decide))) x (by decide) 0 v',He h.aF h.nK v,h.mz,h.g_ (fun g e=>(Bg h.aT e).1) y _ _,h.lZ⟩
theorem gC.k_ (h:gC w zb wr vo vu vt ve z){v':Value} {p:(Int×Int)} (u:w1.ownsRow w.heap.size 76 2 v' (z.aF.length+1) (bu z.aF++[Aj p.1,Aj p.2])) (y:wr.grownBy w1 vu.ownBlock) (v:v'.ownBlock=vu.ownBlock∨v'.ownBlock=some wr.heap.size) :
  aH w1 zb 30 #[vo,vu,vt,ve]∧gC w zb (w1.setCell ⟨zb,1,none⟩ v') vo v' vt ve { z with aF:=z.aF++[p] } := by
 have x:aH w1 zb 30 #[vo,vu,vt,ve]:=h.box.grown y fun e=>by
  obtain⟨_,_,cs,k⟩:=Bg h.aF e.symm;exact(h.box.dF k (by decide)) rfl
 refine⟨x,by have:=x.aX 1 v';simpa using this,Cs (Cx h.aT y (by exact h.nK)) x (by decide) 1 v',by have:=Cs u x (by decide) 1 v';simpa [bu,pF]using this,Cs (Cx h.aB y (Ds h.aB h.aF (by decide))) x (by decide) 1 v',Cs (Cx h.aJ y (Ds h.aJ h.aF (by decide))) x (by decide) 1 v',(He h.aT h.nK.symm v).symm,h.mz,h.g_ (fun g e=>(Bg h.aF e).1) y _ _,h.lZ⟩
theorem gC.j_ (h:gC w zb wr vo vu vt ve z){v':Value}{p:Int} (u:w1.ownsRow w.heap.size 3 1 v' (z.aB.length+1) (ae z.aB++[Aj p])) (y:wr.grownBy w1 vt.ownBlock) (v:v'.ownBlock=vt.ownBlock∨v'.ownBlock=some wr.heap.size) :
  aH w1 zb 30 #[vo,vu,vt,ve]∧gC w zb (w1.setCell ⟨zb,2,none⟩ v') vo vu v' ve { z with aB:=z.aB++[p] } := by
 have x:aH w1 zb 30 #[vo,vu,vt,ve]:=h.box.grown y fun e=>by
  obtain⟨_,_,cs,k⟩:=Bg h.aB e.symm;exact(h.box.dF k (by decide)) rfl
 refine⟨x,by have:=x.aX 2 v';simpa using this,Cs (Cx h.aT y (Ds h.aT h.aB (by decide))) x (by decide) 2 v',Cs (Cx h.aF y (Ds h.aF h.aB (by decide))) x (by decide) 2 v',by have:=Cs u x (by decide) 2 v';simpa [ae,pF]using this,Cs (Cx h.aJ y (by exact h.mz.symm)) x (by decide) 2 v',h.nK,He h.aJ h.mz v,h.g_ (fun g e=>(Bg h.aB e).1) y _ _,h.lZ⟩
theorem gC.kG (h:gC w zb wr vo vu vt ve z){v':Value}{p:Int} (u:w1.ownsRow w.heap.size 3 1 v' (z.aJ.length+1) (ae z.aJ++[Aj p])) (y:wr.grownBy w1 ve.ownBlock) (v:v'.ownBlock=ve.ownBlock∨v'.ownBlock=some wr.heap.size) :
  aH w1 zb 30 #[vo,vu,vt,ve]∧gC w zb (w1.setCell ⟨zb,3,none⟩ v') vo vu vt v' { z with aJ:=z.aJ++[p] } := by
 have x:aH w1 zb 30 #[vo,vu,vt,ve]:=h.box.grown y fun e=>by
  obtain⟨_,_,cs,k⟩:=Bg h.aJ e.symm;exact(h.box.dF k (by decide)) rfl
 refine⟨x,by have:=x.aX 3 v';simpa using this,Cs (Cx h.aT y (Ds h.aT h.aJ (by decide))) x (by decide) 3 v',Cs (Cx h.aF y (Ds h.aF h.aJ (by decide))) x (by decide) 3 v',Cs (Cx h.aB y (by exact h.mz)) x (by decide) 3 v',by have:=Cs u x (by decide) 3 v';simpa [ae,pF]using this,h.nK,(He h.aB h.mz.symm v).symm,h.g_ (fun g e=>(Bg h.aJ e).1) y _ _,h.lZ⟩
def ZnOwn (B:Nat)(W:World)(z:Zn)(og cu to en:Value):Prop:=W.ownsRow B 76 2 og z.aT.length (bu z.aT)∧W.ownsRow B 76 2 cu z.aF.length (bu z.aF)∧W.ownsRow B 3 1 to z.aB.length (ae z.aB)∧W.ownsRow B 3 1 en z.aJ.length (ae z.aJ)
def Zhs (w:World)(z:Zn)(e:Ending)(w':World):Prop:=∃og cu to en,e=.returned (.agg #[og,cu,to,en])∧ZnOwn w.heap.size w' z og cu to en∧bJ w w'
end
theorem Ve:∀(l:List (Int×Int)) (k:Nat) (x:Int×Int),l[k]?=some x→(bu l)[k*2]?=some (Aj x.1)∧(bu l)[k*2+1]?=some (Aj x.2)
 | [],k,x,h=>by simp at h
 |y::r,0,x,h=>by
  simp only[Ay,Bw]at h;subst h;exact⟨rfl,rfl⟩
 |y::r,k+1,x,h=>by
  have:=Ve r k x (by simpa using h);rw[Nat.add_mul];exact this
theorem Pu (l:List Int)(k:Nat)(x:Int) (h:l[k]?=some x):(ae l)[k]?=some (Aj x):=by
 unfold ae;rw[Cd,h];rfl
theorem Sk {α:Type}{l l':List α}{k:Nat}{x z:α} (h:l[k]?=some x) (y:l'[k]?=some z) (u:x≠z):l≠l':=fun e=>by
 subst e;rw[h]at y
 injection y with y
 exact u y
theorem Qj {α:Type}{l l':List α}{k:Nat}{x:α} (h:l[k]?=some x) (y:l'[k]?=some x) (z:l.take k=l'.take k):l.take (k+1)=l'.take (k+1):=by
 rw[oC,oC,z,h,y]
theorem Ph:∀{l:List (Int×Int)} {i:Nat} (_:i<l.length) (p:Int×Int),bu (l.set i p)=((bu l).set (i*2) (Aj p.1)).set (i*2+1) (Aj p.2)
 |a::l,0,h,p=>by simp[bu]
 |a::l,i+1,h,p=>by
  have x:=Ph (l:=l) (i:=i) (by simpa using h) p;have:((bu (a::l)).set ((i+1)*2) (Aj p.1)).set ((i+1)*2+1) (Aj p.2)=Aj a.1::Aj a.2::((bu l).set (i*2) (Aj p.1)).set (i*2+1) (Aj p.2):=by
   rw[show (i+1)*2=i*2+1+1 by omega];rfl
  rw[this,←x];rfl
 | [],i,h,p=>by simp at h
end
section
open Go.RowKit
theorem Iz (n:Int)(w:World):Calls Tryz.prog 98 #[Aj n] w fun e w'=>e=.returned (Aj (Mc.bA n))∧w=w':=by
 go_enter Tryz.func98,Tryz.ntmps98;go_wp2;go_ret;exact⟨Co (Pr n),rfl⟩
theorem Fd (n:Int)(w:World):Calls Tryz.prog 176 #[Aj n] w fun e w'=>e=.returned (Aj (Mc.bA n))∧w=w':=by
 go_enter Tryz.func176,Tryz.ntmps176;go_wp2;go_ret;exact⟨Co (Pr n),rfl⟩
theorem Qw (n d:Int)(w:World)(y:0<d)(z:d≤1000):Calls Tryz.prog 195 #[Aj n,Aj d] w fun e w'=>e=.returned (Aj (n % d))∧w=w':=by
 have x:=Aq (Ma n d y);have u:=pm n (show d≠0 by omega);have v:=po n y;go_enter Tryz.func195,Tryz.ntmps195;go_wp2
 all_goals go_ret
 ·have x:=x.o;rw[if_pos ‹_›]at x;exact⟨Co (by rw[x];exact pR _ (by omega)),rfl⟩
 ·have x:=x.o;rw[if_neg (by omega)]at x;exact⟨Co x.symm,rfl⟩
theorem Jq (a b:Int)(w:World):Calls Tryz.prog 178 #[Aj a,Aj b] w fun e w'=>e=.returned (Aj (Mc.iJ (Mc.eT a b)))∧w=w':=by
 by_cases z:b=0
 ·subst z;go_enter Tryz.func178,Tryz.ntmps178;go_wp2;go_ret;exact⟨Co rfl,rfl⟩
 ·have p:Mc.eT a b=a.fdiv b:=by unfold Mc.eT;rw[if_neg z]
  have u:=Aq (Rp a b z);have k:=Aq p;have c:(b==0)=false:=beq_eq_false_iff_ne.2 z;clear p;by_cases x:a.tmod b≠0∧(decide (a<0)≠decide (b<0))
  ·have q:(a.tmod b != 0)=true:=bne_iff_ne.2 x.1;have s:(decide (a<0)==decide (b<0))=false:=beq_eq_false_iff_ne.2 x.2;have y:=Aq x;obtain⟨d,_⟩:=x;go_enter Tryz.func178,Tryz.ntmps178;go_wp2;go_ret;refine⟨Co ?_,rfl⟩;rw[k.o,u.o,if_pos y.o];exact Zc _
  ·have y:=Aq x;clear x;by_cases v:a.tmod b=0
   ·have q:(a.tmod b != 0)=false:=by simp[v]
    go_enter Tryz.func178,Tryz.ntmps178;go_wp2;go_ret;refine⟨Co ?_,rfl⟩;rw[k.o,u.o,if_neg y.o];exact Gx _
   ·have q:(a.tmod b != 0)=true:=bne_iff_ne.2 v;have s:(decide (a<0)==decide (b<0))=true:=by
     rcases r:(decide (a<0)==decide (b<0)) with _|_
     ·exact absurd ⟨v,beq_eq_false_iff_ne.1 r⟩ y.o
     ·rfl
    go_enter Tryz.func178,Tryz.ntmps178;go_wp2;go_ret;refine⟨Co ?_,rfl⟩;rw[k.o,u.o,if_neg y.o];exact Gx _
theorem Hj (b:Bool)(w:World):Calls Tryz.prog 188 #[.bool b] w fun e w'=>e=.returned (Aj (Mc.bC b))∧w=w':=by
 cases b
 all_goals
  go_enter Tryz.func188,Tryz.ntmps188;go_wp2;go_ret;exact⟨rfl,rfl⟩
theorem Lz (a:Int)(w:World)(y:0≤a)(x:a≤1):Calls Tryz.prog 255 #[Aj a] w fun e w'=>e=.returned (Aj (a+1))∧w=w':=by
 have h:a=0∨a=1:=by omega
 rcases h with rfl|rfl
 all_goals
  clear y x;go_enter Tryz.func255,Tryz.ntmps255;go_wp2;go_ret;exact⟨rfl,rfl⟩
theorem Cy (b off:Nat)(a:Int)(w:World):Calls Tryz.prog 253 #[.pointer (some ⟨b,off,none⟩),Aj a] w fun e w'=>e=.returned (.pointer (some ⟨b,off+(if a=1 then 1 else 0),none⟩))∧w=w':=by
 by_cases h:a=1
 ·go_enter Tryz.func253,Tryz.ntmps253;go_wp2;go_ret;exact⟨rfl,rfl⟩
 ·go_enter Tryz.func253,Tryz.ntmps253;go_wp2;go_ret;exact⟨rfl,rfl⟩
end
section
open Go.RowKit
open Mc
def cL (w:World)(O:Nat→Prop):List Value→List (List (Int×Int))→Prop
 | [],[]=>True
 |v::vs,c::cs=>Row w O 96 2 v c.length (bu c)∧cL w O vs cs
 |_,_=>False
theorem cL.len {w:World}{O:Nat→Prop}:∀{vs:List Value} {cs:List (List (Int×Int))},cL w O vs cs→vs.length=cs.length
 | [],[],_=>rfl
 |_::_,_::_,h=>by simp[cL.len h.2]
 | [],_::_,h=>h.elim
 |_::_,[],h=>h.elim
theorem cL.get {w:World}{O:Nat→Prop}:∀{vs:List Value} {cs:List (List (Int×Int))},cL w O vs cs→∀{i:Nat} {c:List (Int×Int)},cs[i]?=some c→∃v,vs[i]?=some v∧Row w O 96 2 v c.length (bu c)
 |v::_,c::_,h,0,c',x=>by
  simp only[Ay,Bw]at x;subst x;exact⟨v,rfl,h.1⟩
 |_::_,_::_,h,i+1,c',x=>by
  simp only[Ba]at x ⊢;exact cL.get h.2 x
 | [],[],_,_,_,x=>by simp at x
 | [],_::_,h,_,_,_=>h.elim
 |_::_,[],h,_,_,_=>h.elim
theorem cL.aQ {w w':World}{O O':Nat→Prop} (x:∀g cs,O g→aH w g 96 cs→w'.heap[g]?=w.heap[g]?) (y:∀k,O k→O' k):∀{vs:List Value} {cs:List (List (Int×Int))},cL w O vs cs→cL w' O' vs cs
 | [],[],_=>trivial
 |_::_,_::_,h=>⟨h.1.aQ (fun g v=>by obtain⟨u,_,cs,z⟩:=h.1.block v;exact x g cs u z) y,cL.aQ x y h.2⟩
 | [],_::_,h=>h.elim
 |_::_,[],h=>h.elim
def gd:List Value→List Fm→List Value
 |v::vs,f::fs=>gd vs fs++[v,Aj f.next,Aj f.aY]
 |_,_=>[]
theorem Ks:∀(vs:List Value)(fs:List Fm),vs.length=fs.length→(gd vs fs).length=fs.length*3
 | [],[],_=>rfl
 |_::vs,_::fs,h=>by simp only[gd,Ca,Ks vs fs (by simpa using h),Bp,Bx];omega
 | [],_::_,h=>by simp at h
 |_::_,[],h=>by simp at h
def Nd:Nat→Fn×Option (TypeId×Fn)
 |1=>(.func 166,none)
 |2=>(.func 168,none)
 |3=>(.func 170,none)
 |4=>(.func 171,none)
 |5=>(.func 250,some (74,.func 173))
 |6=>(.func 250,some (74,.func 174))
 |7=>(.func 250,some (74,.func 175))
 |8=>(.func 250,some (74,.func 177))
 |9=>(.func 251,some (117,.func 180))
 |10=>(.func 251,some (117,.func 181))
 |11=>(.func 250,some (74,.func 182))
 |12=>(.func 250,some (74,.func 183))
 |13=>(.func 251,some (117,.func 184))
 |14=>(.func 251,some (117,.func 185))
 |15=>(.func 186,none)
 |16=>(.func 250,some (74,.func 187))
 |17=>(.func 250,some (74,.func 189))
 |18=>(.func 250,some (74,.func 190))
 |19=>(.func 251,some (117,.func 191))
 |20=>(.func 250,some (74,.func 192))
 |21=>(.func 250,some (74,.func 193))
 |22=>(.func 194,none)
 |23=>(.func 196,none)
 |24=>(.func 197,none)
 |25=>(.func 198,none)
 |26=>(.func 200,none)
 |27=>(.func 202,none)
 |28=>(.func 203,none)
 |29=>(.func 204,none)
 |30=>(.func 206,none)
 |31=>(.func 207,none)
 |32=>(.func 209,none)
 |33=>(.func 211,none)
 |34=>(.func 213,none)
 |35=>(.func 215,none)
 |36=>(.func 217,none)
 |37=>(.func 219,none)
 |38=>(.func 221,none)
 |_=>(.func 223,none)
def Nr (bs:Nat→Nat)(i:Nat):Value:=.func (Nd i).1 #[] (match (Nd i).2 with|some _=>#[.pointer (some ⟨bs i,0,none⟩)]|none=>#[])
def Ha (bs:Nat→Nat)(n:Nat):List MapEntry:=(List.range n).map fun i=>⟨Aj ((i+1:Nat):Int),Nr bs (i+1),i⟩
def DeedBox (w:World)(O:Nat→Prop)(bs:Nat→Nat)(i:Nat):Prop:=match (Nd i).2 with|some (t,f)=>O (bs i)∧aH w (bs i) t #[.func f #[] #[]]|none=>True
def dz (w:World)(O:Nat→Prop)(x:Nat):Prop:=O x∧∃bs clock,w.heap[x]?=some (.map (Ha bs 39).toArray clock)∧∀i,1≤i→i≤39→DeedBox w O bs i
theorem dz.aQ {w w':World}{O O':Nat→Prop}{x:Nat}(h:dz w O x) (s:w'.heap[x]?=w.heap[x]?) (p:∀g t cs,O g→(t=74∨t=117)→aH w g t cs→w'.heap[g]?=w.heap[g]?) (y:∀k,O k→O' k):dz w' O' x:=by
 obtain⟨v,bs,clock,r,u⟩:=h;refine⟨y _ v,bs,clock,s.trans r,fun i z q=>?_⟩;have:=u i z q;unfold DeedBox at this ⊢;split at this
 ·rename_i t f e;refine⟨y _ this.1,(p _ t _ this.1 ?_ this.2).trans this.2⟩;unfold Nd at e;split at e <;> first|(cases e;done)|(cases e;first|exact .inl rfl|exact .inr rfl)
 ·trivial
end
section
open Go.RowKit Mc
structure bd where
 cs:Array Value
 fu:Value
 mO:List Value
 fr:Value
 ix:List Value
 og:Value
 cu:Value
 to:Value
 en:Value
 co:Value
 cv:Value
 sk:Value
 db:Nat
structure eF (L:bd) (s:St):Prop where
 sz:L.cs.size=50
 dQ:s.store.length=32
 st:∀(i:Nat) x,s.store[i]?=some x→L.cs[8+i]?=some (Aj x)
 c0:L.cs[0]?=some L.fu
 c1:L.cs[1]?=some L.fr
 c2:L.cs[2]?=some L.og
 c3:L.cs[3]?=some L.cu
 c4:L.cs[4]?=some L.to
 c5:L.cs[5]?=some L.en
 c6:L.cs[6]?=some L.co
 c7:L.cs[7]?=some L.cv
 dX:L.cs[40]?=some L.sk
 iL:L.cs[41]?=some (Aj s.size)
 dH:L.cs[42]?=some (Aj s.look)
 dL:L.cs[43]?=some (Aj s.move)
 gY:L.cs[44]?=some (Aj s.bG)
 gS:L.cs[45]?=some (Aj s.steps)
 gB:L.cs[46]?=some (Aj s.aM)
 ew:L.cs[47]?=some (.bool s.ai)
 iH:L.cs[48]?=some (Aj s.br)
 gx:L.cs[49]?=some (.map (some L.db))
theorem eF.mJ {L:bd}{s:St}(h:eF L s)(u:Value)(vs:List Value)(fs:List Fm):eF { L with cs:=L.cs.setIfInBounds 1 u,fr:=u,ix:=vs } { s with aD:=fs } := by
 have v:=h.sz;have z:=h.dQ;refine⟨by simp only[Dx];exact h.sz,h.dQ,fun j x y=>?_,?_,?_,?_,?_,?_,?_,?_,?_,?_,?_,?_,?_,?_,?_,?_,?_,?_,?_⟩
 ·have:j<s.store.length:=(aS.1 y).1;rw[Ax (by omega)];exact h.st j x y
 ·rw[Ax (by decide)];exact h.c0
 ·rw[Eb (by omega)]
 ·rw[Ax (by decide)];exact h.c2
 ·rw[Ax (by decide)];exact h.c3
 ·rw[Ax (by decide)];exact h.c4
 ·rw[Ax (by decide)];exact h.c5
 ·rw[Ax (by decide)];exact h.c6
 ·rw[Ax (by decide)];exact h.c7
 ·rw[Ax (by decide)];exact h.dX
 ·rw[Ax (by decide)];exact h.iL
 ·rw[Ax (by decide)];exact h.dH
 ·rw[Ax (by decide)];exact h.dL
 ·rw[Ax (by decide)];exact h.gY
 ·rw[Ax (by decide)];exact h.gS
 ·rw[Ax (by decide)];exact h.gB
 ·rw[Ax (by decide)];exact h.ew
 ·rw[Ax (by decide)];exact h.iH
 ·rw[Ax (by decide)];exact h.gx
theorem eF.mK {L:bd}{s:St}(h:eF L s)(u:Value)(l:List Int):eF { L with cs:=L.cs.setIfInBounds 40 u,sk:=u } { s with stack:=l } := by
 have v:=h.sz;have z:=h.dQ;refine⟨by simp only[Dx];exact h.sz,h.dQ,fun j x y=>?_,?_,?_,?_,?_,?_,?_,?_,?_,?_,?_,?_,?_,?_,?_,?_,?_,?_,?_⟩
 ·have:j<s.store.length:=(aS.1 y).1;rw[Ax (by omega)];exact h.st j x y
 ·rw[Ax (by decide)];exact h.c0
 ·rw[Ax (by decide)];exact h.c1
 ·rw[Ax (by decide)];exact h.c2
 ·rw[Ax (by decide)];exact h.c3
 ·rw[Ax (by decide)];exact h.c4
 ·rw[Ax (by decide)];exact h.c5
 ·rw[Ax (by decide)];exact h.c6
 ·rw[Ax (by decide)];exact h.c7
 ·rw[Eb (by omega)]
 ·rw[Ax (by decide)];exact h.iL
 ·rw[Ax (by decide)];exact h.dH
 ·rw[Ax (by decide)];exact h.dL
 ·rw[Ax (by decide)];exact h.gY
 ·rw[Ax (by decide)];exact h.gS
 ·rw[Ax (by decide)];exact h.gB
 ·rw[Ax (by decide)];exact h.ew
 ·rw[Ax (by decide)];exact h.iH
 ·rw[Ax (by decide)];exact h.gx
theorem eF.im {L:bd}{s:St}(h:eF L s)(n:Int):eF { L with cs:=L.cs.setIfInBounds 42 (Aj n) } { s with look:=n } := by
 have u:=h.sz;have z:=h.dQ;refine⟨by simp only[Dx];exact h.sz,h.dQ,fun j x y=>?_,?_,?_,?_,?_,?_,?_,?_,?_,?_,?_,?_,?_,?_,?_,?_,?_,?_,?_⟩
 ·have:j<s.store.length:=(aS.1 y).1;rw[Ax (by omega)];exact h.st j x y
 ·rw[Ax (by decide)];exact h.c0
 ·rw[Ax (by decide)];exact h.c1
 ·rw[Ax (by decide)];exact h.c2
 ·rw[Ax (by decide)];exact h.c3
 ·rw[Ax (by decide)];exact h.c4
 ·rw[Ax (by decide)];exact h.c5
 ·rw[Ax (by decide)];exact h.c6
 ·rw[Ax (by decide)];exact h.c7
 ·rw[Ax (by decide)];exact h.dX
 ·rw[Ax (by decide)];exact h.iL
 ·rw[Eb (by omega)]
 ·rw[Ax (by decide)];exact h.dL
 ·rw[Ax (by decide)];exact h.gY
 ·rw[Ax (by decide)];exact h.gS
 ·rw[Ax (by decide)];exact h.gB
 ·rw[Ax (by decide)];exact h.ew
 ·rw[Ax (by decide)];exact h.iH
 ·rw[Ax (by decide)];exact h.gx
theorem eF.ir {L:bd}{s:St}(h:eF L s)(n:Int):eF { L with cs:=L.cs.setIfInBounds 43 (Aj n) } { s with move:=n } := by
 have u:=h.sz;have z:=h.dQ;refine⟨by simp only[Dx];exact h.sz,h.dQ,fun j x y=>?_,?_,?_,?_,?_,?_,?_,?_,?_,?_,?_,?_,?_,?_,?_,?_,?_,?_,?_⟩
 ·have:j<s.store.length:=(aS.1 y).1;rw[Ax (by omega)];exact h.st j x y
 ·rw[Ax (by decide)];exact h.c0
 ·rw[Ax (by decide)];exact h.c1
 ·rw[Ax (by decide)];exact h.c2
 ·rw[Ax (by decide)];exact h.c3
 ·rw[Ax (by decide)];exact h.c4
 ·rw[Ax (by decide)];exact h.c5
 ·rw[Ax (by decide)];exact h.c6
 ·rw[Ax (by decide)];exact h.c7
 ·rw[Ax (by decide)];exact h.dX
 ·rw[Ax (by decide)];exact h.iL
 ·rw[Ax (by decide)];exact h.dH
 ·rw[Eb (by omega)]
 ·rw[Ax (by decide)];exact h.gY
 ·rw[Ax (by decide)];exact h.gS
 ·rw[Ax (by decide)];exact h.gB
 ·rw[Ax (by decide)];exact h.ew
 ·rw[Ax (by decide)];exact h.iH
 ·rw[Ax (by decide)];exact h.gx
theorem eF.iw {L:bd}{s:St}(h:eF L s)(n:Int):eF { L with cs:=L.cs.setIfInBounds 44 (Aj n) } { s with bG:=n } := by
 have u:=h.sz;have z:=h.dQ;refine⟨by simp only[Dx];exact h.sz,h.dQ,fun j x y=>?_,?_,?_,?_,?_,?_,?_,?_,?_,?_,?_,?_,?_,?_,?_,?_,?_,?_,?_⟩
 ·have:j<s.store.length:=(aS.1 y).1;rw[Ax (by omega)];exact h.st j x y
 ·rw[Ax (by decide)];exact h.c0
 ·rw[Ax (by decide)];exact h.c1
 ·rw[Ax (by decide)];exact h.c2
 ·rw[Ax (by decide)];exact h.c3
 ·rw[Ax (by decide)];exact h.c4
 ·rw[Ax (by decide)];exact h.c5
 ·rw[Ax (by decide)];exact h.c6
 ·rw[Ax (by decide)];exact h.c7
 ·rw[Ax (by decide)];exact h.dX
 ·rw[Ax (by decide)];exact h.iL
 ·rw[Ax (by decide)];exact h.dH
 ·rw[Ax (by decide)];exact h.dL
 ·rw[Eb (by omega)]
 ·rw[Ax (by decide)];exact h.gS
 ·rw[Ax (by decide)];exact h.gB
 ·rw[Ax (by decide)];exact h.ew
 ·rw[Ax (by decide)];exact h.iH
 ·rw[Ax (by decide)];exact h.gx
theorem eF.fD {L:bd}{s:St}(h:eF L s)(n:Nat):eF { L with cs:=L.cs.setIfInBounds 45 (Aj n) } { s with steps:=n } := by
 have u:=h.sz;have z:=h.dQ;refine⟨by simp only[Dx];exact h.sz,h.dQ,fun j x y=>?_,?_,?_,?_,?_,?_,?_,?_,?_,?_,?_,?_,?_,?_,?_,?_,?_,?_,?_⟩
 ·have:j<s.store.length:=(aS.1 y).1;rw[Ax (by omega)];exact h.st j x y
 ·rw[Ax (by decide)];exact h.c0
 ·rw[Ax (by decide)];exact h.c1
 ·rw[Ax (by decide)];exact h.c2
 ·rw[Ax (by decide)];exact h.c3
 ·rw[Ax (by decide)];exact h.c4
 ·rw[Ax (by decide)];exact h.c5
 ·rw[Ax (by decide)];exact h.c6
 ·rw[Ax (by decide)];exact h.c7
 ·rw[Ax (by decide)];exact h.dX
 ·rw[Ax (by decide)];exact h.iL
 ·rw[Ax (by decide)];exact h.dH
 ·rw[Ax (by decide)];exact h.dL
 ·rw[Ax (by decide)];exact h.gY
 ·rw[Eb (by omega)]
 ·rw[Ax (by decide)];exact h.gB
 ·rw[Ax (by decide)];exact h.ew
 ·rw[Ax (by decide)];exact h.iH
 ·rw[Ax (by decide)];exact h.gx
theorem eF.jn {L:bd}{s:St}(h:eF L s)(n:Nat):eF { L with cs:=L.cs.setIfInBounds 46 (Aj n) } { s with aM:=n } := by
 have u:=h.sz;have z:=h.dQ;refine⟨by simp only[Dx];exact h.sz,h.dQ,fun j x y=>?_,?_,?_,?_,?_,?_,?_,?_,?_,?_,?_,?_,?_,?_,?_,?_,?_,?_,?_⟩
 ·have:j<s.store.length:=(aS.1 y).1;rw[Ax (by omega)];exact h.st j x y
 ·rw[Ax (by decide)];exact h.c0
 ·rw[Ax (by decide)];exact h.c1
 ·rw[Ax (by decide)];exact h.c2
 ·rw[Ax (by decide)];exact h.c3
 ·rw[Ax (by decide)];exact h.c4
 ·rw[Ax (by decide)];exact h.c5
 ·rw[Ax (by decide)];exact h.c6
 ·rw[Ax (by decide)];exact h.c7
 ·rw[Ax (by decide)];exact h.dX
 ·rw[Ax (by decide)];exact h.iL
 ·rw[Ax (by decide)];exact h.dH
 ·rw[Ax (by decide)];exact h.dL
 ·rw[Ax (by decide)];exact h.gY
 ·rw[Ax (by decide)];exact h.gS
 ·rw[Eb (by omega)]
 ·rw[Ax (by decide)];exact h.ew
 ·rw[Ax (by decide)];exact h.iH
 ·rw[Ax (by decide)];exact h.gx
theorem eF.iC {L:bd}{s:St}(h:eF L s)(b:Bool):eF { L with cs:=L.cs.setIfInBounds 47 (.bool b) } { s with ai:=b } := by
 have u:=h.sz;have z:=h.dQ;refine⟨by simp only[Dx];exact h.sz,h.dQ,fun j x y=>?_,?_,?_,?_,?_,?_,?_,?_,?_,?_,?_,?_,?_,?_,?_,?_,?_,?_,?_⟩
 ·have:j<s.store.length:=(aS.1 y).1;rw[Ax (by omega)];exact h.st j x y
 ·rw[Ax (by decide)];exact h.c0
 ·rw[Ax (by decide)];exact h.c1
 ·rw[Ax (by decide)];exact h.c2
 ·rw[Ax (by decide)];exact h.c3
 ·rw[Ax (by decide)];exact h.c4
 ·rw[Ax (by decide)];exact h.c5
 ·rw[Ax (by decide)];exact h.c6
 ·rw[Ax (by decide)];exact h.c7
 ·rw[Ax (by decide)];exact h.dX
 ·rw[Ax (by decide)];exact h.iL
 ·rw[Ax (by decide)];exact h.dH
 ·rw[Ax (by decide)];exact h.dL
 ·rw[Ax (by decide)];exact h.gY
 ·rw[Ax (by decide)];exact h.gS
 ·rw[Ax (by decide)];exact h.gB
 ·rw[Eb (by omega)]
 ·rw[Ax (by decide)];exact h.iH
 ·rw[Ax (by decide)];exact h.gx
theorem eF.my {L:bd}{s:St}(h:eF L s)(n:Int):eF { L with cs:=L.cs.setIfInBounds 48 (Aj n) } { s with br:=n } := by
 have u:=h.sz;have z:=h.dQ;refine⟨by simp only[Dx];exact h.sz,h.dQ,fun j x y=>?_,?_,?_,?_,?_,?_,?_,?_,?_,?_,?_,?_,?_,?_,?_,?_,?_,?_,?_⟩
 ·have:j<s.store.length:=(aS.1 y).1;rw[Ax (by omega)];exact h.st j x y
 ·rw[Ax (by decide)];exact h.c0
 ·rw[Ax (by decide)];exact h.c1
 ·rw[Ax (by decide)];exact h.c2
 ·rw[Ax (by decide)];exact h.c3
 ·rw[Ax (by decide)];exact h.c4
 ·rw[Ax (by decide)];exact h.c5
 ·rw[Ax (by decide)];exact h.c6
 ·rw[Ax (by decide)];exact h.c7
 ·rw[Ax (by decide)];exact h.dX
 ·rw[Ax (by decide)];exact h.iL
 ·rw[Ax (by decide)];exact h.dH
 ·rw[Ax (by decide)];exact h.dL
 ·rw[Ax (by decide)];exact h.gY
 ·rw[Ax (by decide)];exact h.gS
 ·rw[Ax (by decide)];exact h.gB
 ·rw[Ax (by decide)];exact h.ew
 ·rw[Eb (by omega)]
 ·rw[Ax (by decide)];exact h.gx
theorem eF.lC {L:bd}{s:St}(h:eF L s)(i:Nat)(n:Int)(hi:i<32):eF { L with cs:=L.cs.setIfInBounds (8+i) (Aj n) } { s with store:=s.store.set i n } := by
 have u:=h.sz;have z:=h.dQ;refine⟨by simp only[Dx];exact h.sz,by simp only[Dh];exact h.dQ,fun j x y=>?_,?_,?_,?_,?_,?_,?_,?_,?_,?_,?_,?_,?_,?_,?_,?_,?_,?_,?_⟩
 ·simp only[Jc]at y;rw[Array.getElem?_setIfInBounds];by_cases e:i=j
  ·subst e;rw[if_pos rfl,if_pos (by omega)]at y
   injection y with y
   subst y;rw[if_pos rfl,if_pos (by omega)]
  ·rw[if_neg e]at y;rw[if_neg (by omega)];exact h.st j x y
 ·rw[Ax (by omega)];exact h.c0
 ·rw[Ax (by omega)];exact h.c1
 ·rw[Ax (by omega)];exact h.c2
 ·rw[Ax (by omega)];exact h.c3
 ·rw[Ax (by omega)];exact h.c4
 ·rw[Ax (by omega)];exact h.c5
 ·rw[Ax (by omega)];exact h.c6
 ·rw[Ax (by omega)];exact h.c7
 ·rw[Ax (by omega)];exact h.dX
 ·rw[Ax (by omega)];exact h.iL
 ·rw[Ax (by omega)];exact h.dH
 ·rw[Ax (by omega)];exact h.dL
 ·rw[Ax (by omega)];exact h.gY
 ·rw[Ax (by omega)];exact h.gS
 ·rw[Ax (by omega)];exact h.gB
 ·rw[Ax (by omega)];exact h.ew
 ·rw[Ax (by omega)];exact h.iH
 ·rw[Ax (by omega)];exact h.gx
structure ag (w:World) (mb:Nat) (O:Nat→Prop) (L:bd) (s:St):Prop where
 eu:O mb
 eO:∀k,O k→k<w.heap.size
 aG:aH w mb 212 L.cs
 c:eF L s
 fu:Row w O 24 1 L.fu s.funcs.length L.mO
 fr:Row w O 205 3 L.fr s.aD.length (gd L.ix s.aD)
 og:Row w O 76 2 L.og s.aT.length (bu s.aT)
 cu:Row w O 76 2 L.cu s.aF.length (bu s.aF)
 to:Row w O 3 1 L.to s.aB.length (ae s.aB)
 en:Row w O 3 1 L.en s.aJ.length (ae s.aJ)
 co:Row w O 252 2 L.co s.bH.length (it s.bH)
 cv:Row w O 3 1 L.cv s.aP.length (ae s.aP)
 sk:Row w O 3 1 L.sk s.stack.length (ae s.stack.reverse)
 jV:cL w O L.mO s.funcs
 kB:cL w O L.ix (s.aD.map (·.aA))
 bS:au L.cu L.og
 cz:au L.to L.en
 cV:au L.to L.cv
 cT:au L.to L.sk
 bV:au L.en L.cv
 dA:au L.en L.sk
 cK:au L.cv L.sk
 dd:dz w O L.db
 ok:Ok s
section
variable {w w' : World} {O O' : Nat → Prop} {t : TypeId} {size : Nat} {v : Value} {n : Nat} {xs : List Value} {mb : Nat} {cs : Array Value} {r : Option Nat}
theorem Row.k (h:Row w O t size v n xs)(z:aH w mb 212 cs)(q:t≠212) (y:∀k,O k→k≠mb→some k≠r→w'.heap[k]?=w.heap[k]?) (u:∀g,v.ownBlock=some g→r≠some g) (p:∀k,O k→O' k):Row w' O' t size v n xs :=
 h.aQ (fun g x=>y g (h.2 g x) (h.cD z q x) (fun e=>u g x e.symm)) p
theorem cL.k {vs:List Value} {cl:List (List (Int×Int))} (h:cL w O vs cl) (z:aH w mb 212 cs) (y:∀k,O k→k≠mb→some k≠r→w'.heap[k]?=w.heap[k]?) (u:∀g cs,aH w g 96 cs→r≠some g) (v:∀k,O k→O' k):cL w' O' vs cl :=
 cL.aQ (fun g cs p x=>y g p (x.dF z (by decide)) (fun e=>u g cs x e.symm)) v h
theorem dz.k {z:Nat}(h:dz w O z)(y:aH w mb 212 cs) (v:∀k,O k→k≠mb→some k≠r→w'.heap[k]?=w.heap[k]?) {t0:TypeId} (c:t0≠74) (d:t0≠117) (q:∀g,r=some g→∃cs,aH w g t0 cs) (b:∀k,O k→O' k):dz w' O' z:=by
 refine h.aQ ?_ (fun g t cs a u x=>v g a ?_ ?_) b
 ·obtain⟨s,bs,clock,p,_⟩:=h;refine v z s ?_ ?_
  ·rintro rfl;unfold aH at y;rw[p]at y;cases y
  ·intro e;obtain⟨cs,x⟩:=q z e.symm;unfold aH at x;rw[p]at x;cases x
 ·exact x.dF y (by rcases u with rfl|rfl <;> decide)
 ·intro e;obtain⟨i,f⟩:=q g e.symm;exact x.dF f (by rcases u with rfl|rfl <;> first|exact c.symm|exact d.symm) rfl
end
section
variable {w w' : World} {mb : Nat} {O O' : Nat → Prop} {L : bd} {s : St}
theorem ag.aQ (h:ag w mb O L s) (y:∀k,O k→w'.heap[k]?=w.heap[k]?) (z:∀k,O k→O' k) (u:∀k,O' k→k<w'.heap.size):ag w' mb O' L s :=
 ⟨z _ h.eu,u,(y mb h.eu).trans h.aG,h.c,h.fu.aQ (fun g x=>y g (h.fu.2 g x)) z,h.fr.aQ (fun g x=>y g (h.fr.2 g x)) z,h.og.aQ (fun g x=>y g (h.og.2 g x)) z,h.cu.aQ (fun g x=>y g (h.cu.2 g x)) z,h.to.aQ (fun g x=>y g (h.to.2 g x)) z,h.en.aQ (fun g x=>y g (h.en.2 g x)) z,h.co.aQ (fun g x=>y g (h.co.2 g x)) z,h.cv.aQ (fun g x=>y g (h.cv.2 g x)) z,h.sk.aQ (fun g x=>y g (h.sk.2 g x)) z,h.jV.aQ (fun g _ x _=>y g x) z,h.kB.aQ (fun g _ x _=>y g x) z,h.bS,h.cz,h.cV,h.cT,h.bV,h.dA,h.cK,h.dd.aQ (y _ h.dd.1) (fun g _ _ x _ _=>y g x) z,h.ok⟩
theorem ag.mono (h:ag w mb O L s)(y:∀k,O k→O' k)(x:∀k,O' k→k<w.heap.size):ag w mb O' L s:=h.aQ (fun _ _=>rfl) y x
theorem ag.cells (h:ag w mb O L s){cs':Array Value}{q:List Int}{a b v:Int}{c u:Nat}{p:Bool}{r:Int}(j:aH w' mb 212 cs') (l:eF { L with cs:=cs' } { s with store:=q,look:=a,move:=b,bG:=v,steps:=c,aM:=u,ai:=p,br:=r }) (y:∀k,O k→k≠mb→some k≠none→w'.heap[k]?=w.heap[k]?) (x:∀k,O k→O' k) (d:∀k,O' k→k<w'.heap.size) (i:Ok { s with store:=q,look:=a,move:=b,bG:=v,steps:=c,aM:=u,ai:=p,br:=r }):ag w' mb O' { L with cs:=cs' } { s with store:=q,look:=a,move:=b,bG:=v,steps:=c,aM:=u,ai:=p,br:=r } := by
 exact⟨x _ h.eu,d,j,l,h.fu.k h.aG (by decide) y (fun g z e=>by cases e) x,h.fr.k h.aG (by decide) y (fun g z e=>by cases e) x,h.og.k h.aG (by decide) y (fun g z e=>by cases e) x,h.cu.k h.aG (by decide) y (fun g z e=>by cases e) x,h.to.k h.aG (by decide) y (fun g z e=>by cases e) x,h.en.k h.aG (by decide) y (fun g z e=>by cases e) x,h.co.k h.aG (by decide) y (fun g z e=>by cases e) x,h.cv.k h.aG (by decide) y (fun g z e=>by cases e) x,h.sk.k h.aG (by decide) y (fun g z e=>by cases e) x,h.jV.k h.aG y (fun g cs f e=>by cases e) x,h.kB.k h.aG y (fun g cs f e=>by cases e) x,h.bS,h.cz,h.cV,h.cT,h.bV,h.dA,h.cK,h.dd.k h.aG y (t0:=3) (by decide) (by decide) (fun g e=>by cases e) x,i⟩
theorem ag.stack (h:ag w mb O L s){u:Value}{cs':Array Value}{l:List Int}(j:aH w' mb 212 cs') (m:eF { L with cs:=cs',sk:=u } { s with stack:=l }) (i:Row w' O' 3 1 u l.length (ae l.reverse)) (c:∀g,u.ownBlock=some g→L.sk.ownBlock=some g∨w.heap.size≤g) (z:∀k,O k→k≠mb→some k≠L.sk.ownBlock→w'.heap[k]?=w.heap[k]?) (y:∀k,O k→O' k) (d:∀k,O' k→k<w'.heap.size) (f:Ok { s with stack:=l }):ag w' mb O' { L with cs:=cs',sk:=u } { s with stack:=l } := by
 exact⟨y _ h.eu,d,j,m,h.fu.k h.aG (by decide) z (fun g x=>h.fu.apart h.sk (by decide) g x) y,h.fr.k h.aG (by decide) z (fun g x=>h.fr.apart h.sk (by decide) g x) y,h.og.k h.aG (by decide) z (fun g x=>h.og.apart h.sk (by decide) g x) y,h.cu.k h.aG (by decide) z (fun g x=>h.cu.apart h.sk (by decide) g x) y,h.to.k h.aG (by decide) z (fun g x=>h.cT g x) y,h.en.k h.aG (by decide) z (fun g x=>h.dA g x) y,h.co.k h.aG (by decide) z (fun g x=>h.co.apart h.sk (by decide) g x) y,h.cv.k h.aG (by decide) z (fun g x=>h.cK g x) y,i,h.jV.k h.aG z (fun g cs b e=>by obtain⟨_,_,a,r⟩:=h.sk.block e;exact b.dF r (by decide) rfl) y,h.kB.k h.aG z (fun g cs b e=>by obtain⟨_,_,a,r⟩:=h.sk.block e;exact b.dF r (by decide) rfl) y,h.bS,h.cz,h.cV,(qV ((fun g q v=>by rcases c g q with p|p;exact(h.cT.symm) g p v;have:=(h.to.block v).2.1;omega))),h.bV,(qV ((fun g q v=>by rcases c g q with p|p;exact(h.dA.symm) g p v;have:=(h.en.block v).2.1;omega))),(qV ((fun g q v=>by rcases c g q with p|p;exact(h.cK.symm) g p v;have:=(h.cv.block v).2.1;omega))),h.dd.k h.aG z (t0:=3) (by decide) (by decide) (fun g e=>by obtain⟨_,_,a,r⟩:=h.sk.block e;exact⟨a,r⟩) y,f⟩
theorem ag.dv (h:ag w mb O L s){u:Value}{cs':Array Value}{vs:List Value}{fs:List Fm} (q:cL w' O' vs (fs.map (·.aA))) (d:aH w' mb 212 cs') (f:eF { L with cs:=cs',fr:=u,ix:=vs } { s with aD:=fs }) (c:Row w' O' 205 3 u fs.length (gd vs fs)) (_hnew:∀g,u.ownBlock=some g→L.fr.ownBlock=some g∨w.heap.size≤g) (z:∀k,O k→k≠mb→some k≠L.fr.ownBlock→w'.heap[k]?=w.heap[k]?) (y:∀k,O k→O' k) (r:∀k,O' k→k<w'.heap.size) (b:Ok { s with aD:=fs }):ag w' mb O' { L with cs:=cs',fr:=u,ix:=vs } { s with aD:=fs } := by
 exact⟨y _ h.eu,r,d,f,h.fu.k h.aG (by decide) z (fun g x=>h.fu.apart h.fr (by decide) g x) y,c,h.og.k h.aG (by decide) z (fun g x=>h.og.apart h.fr (by decide) g x) y,h.cu.k h.aG (by decide) z (fun g x=>h.cu.apart h.fr (by decide) g x) y,h.to.k h.aG (by decide) z (fun g x=>h.to.apart h.fr (by decide) g x) y,h.en.k h.aG (by decide) z (fun g x=>h.en.apart h.fr (by decide) g x) y,h.co.k h.aG (by decide) z (fun g x=>h.co.apart h.fr (by decide) g x) y,h.cv.k h.aG (by decide) z (fun g x=>h.cv.apart h.fr (by decide) g x) y,h.sk.k h.aG (by decide) z (fun g x=>h.sk.apart h.fr (by decide) g x) y,h.jV.k h.aG z (fun g cs a e=>by obtain⟨_,_,p,v⟩:=h.fr.block e;exact a.dF v (by decide) rfl) y,q,h.bS,h.cz,h.cV,h.cT,h.bV,h.dA,h.cK,h.dd.k h.aG z (t0:=205) (by decide) (by decide) (fun g e=>by obtain⟨_,_,p,v⟩:=h.fr.block e;exact⟨p,v⟩) y,b⟩
theorem ag.kw (h:ag w mb O L s) {l:List (Int×Int)} (b:l.length=s.aF.length) (d:Row w' O' 76 2 L.cu s.aF.length (bu l)) (r:w'.heap[mb]?=w.heap[mb]?) (z:∀k,O k→k≠mb→some k≠L.cu.ownBlock→w'.heap[k]?=w.heap[k]?) (y:∀k,O k→O' k) (a:∀k,O' k→k<w'.heap.size) (q:Ok { s with aF:=l }):ag w' mb O' L { s with aF:=l } := by
 exact⟨y _ h.eu,a,r.trans h.aG,⟨h.c.sz,h.c.dQ,h.c.st,h.c.c0,h.c.c1,h.c.c2,h.c.c3,h.c.c4,h.c.c5,h.c.c6,h.c.c7,h.c.dX,h.c.iL,h.c.dH,h.c.dL,h.c.gY,h.c.gS,h.c.gB,h.c.ew,h.c.iH,h.c.gx⟩,h.fu.k h.aG (by decide) z (fun g x=>h.fu.apart h.cu (by decide) g x) y,h.fr.k h.aG (by decide) z (fun g x=>h.fr.apart h.cu (by decide) g x) y,h.og.k h.aG (by decide) z (fun g x=>h.bS.symm g x) y,by rw[b];exact d,h.to.k h.aG (by decide) z (fun g x=>h.to.apart h.cu (by decide) g x) y,h.en.k h.aG (by decide) z (fun g x=>h.en.apart h.cu (by decide) g x) y,h.co.k h.aG (by decide) z (fun g x=>h.co.apart h.cu (by decide) g x) y,h.cv.k h.aG (by decide) z (fun g x=>h.cv.apart h.cu (by decide) g x) y,h.sk.k h.aG (by decide) z (fun g x=>h.sk.apart h.cu (by decide) g x) y,h.jV.k h.aG z (fun g cs p e=>by obtain⟨_,_,v,u⟩:=h.cu.block e;exact p.dF u (by decide) rfl) y,h.kB.k h.aG z (fun g cs p e=>by obtain⟨_,_,v,u⟩:=h.cu.block e;exact p.dF u (by decide) rfl) y,h.bS,h.cz,h.cV,h.cT,h.bV,h.dA,h.cK,h.dd.k h.aG z (t0:=76) (by decide) (by decide) (fun g e=>by obtain⟨_,_,v,u⟩:=h.cu.block e;exact⟨v,u⟩) y,q⟩
theorem ag.jN (h:ag w mb O L s){l:List Int}(b:l.length=s.aB.length) (d:Row w' O' 3 1 L.to s.aB.length (ae l)) (r:w'.heap[mb]?=w.heap[mb]?) (z:∀k,O k→k≠mb→some k≠L.to.ownBlock→w'.heap[k]?=w.heap[k]?) (y:∀k,O k→O' k) (a:∀k,O' k→k<w'.heap.size) (q:Ok { s with aB:=l }):ag w' mb O' L { s with aB:=l } := by
 exact⟨y _ h.eu,a,r.trans h.aG,⟨h.c.sz,h.c.dQ,h.c.st,h.c.c0,h.c.c1,h.c.c2,h.c.c3,h.c.c4,h.c.c5,h.c.c6,h.c.c7,h.c.dX,h.c.iL,h.c.dH,h.c.dL,h.c.gY,h.c.gS,h.c.gB,h.c.ew,h.c.iH,h.c.gx⟩,h.fu.k h.aG (by decide) z (fun g x=>h.fu.apart h.to (by decide) g x) y,h.fr.k h.aG (by decide) z (fun g x=>h.fr.apart h.to (by decide) g x) y,h.og.k h.aG (by decide) z (fun g x=>h.og.apart h.to (by decide) g x) y,h.cu.k h.aG (by decide) z (fun g x=>h.cu.apart h.to (by decide) g x) y,by rw[b];exact d,h.en.k h.aG (by decide) z (fun g x=>h.cz.symm g x) y,h.co.k h.aG (by decide) z (fun g x=>h.co.apart h.to (by decide) g x) y,h.cv.k h.aG (by decide) z (fun g x=>h.cV.symm g x) y,h.sk.k h.aG (by decide) z (fun g x=>h.cT.symm g x) y,h.jV.k h.aG z (fun g cs p e=>by obtain⟨_,_,v,u⟩:=h.to.block e;exact p.dF u (by decide) rfl) y,h.kB.k h.aG z (fun g cs p e=>by obtain⟨_,_,v,u⟩:=h.to.block e;exact p.dF u (by decide) rfl) y,h.bS,h.cz,h.cV,h.cT,h.bV,h.dA,h.cK,h.dd.k h.aG z (t0:=3) (by decide) (by decide) (fun g e=>by obtain⟨_,_,v,u⟩:=h.to.block e;exact⟨v,u⟩) y,q⟩
theorem ag.kY (h:ag w mb O L s){l:List Int}(b:l.length=s.aP.length) (d:Row w' O' 3 1 L.cv s.aP.length (ae l)) (r:w'.heap[mb]?=w.heap[mb]?) (z:∀k,O k→k≠mb→some k≠L.cv.ownBlock→w'.heap[k]?=w.heap[k]?) (y:∀k,O k→O' k) (a:∀k,O' k→k<w'.heap.size) (q:Ok { s with aP:=l }):ag w' mb O' L { s with aP:=l } := by
 exact⟨y _ h.eu,a,r.trans h.aG,⟨h.c.sz,h.c.dQ,h.c.st,h.c.c0,h.c.c1,h.c.c2,h.c.c3,h.c.c4,h.c.c5,h.c.c6,h.c.c7,h.c.dX,h.c.iL,h.c.dH,h.c.dL,h.c.gY,h.c.gS,h.c.gB,h.c.ew,h.c.iH,h.c.gx⟩,h.fu.k h.aG (by decide) z (fun g x=>h.fu.apart h.cv (by decide) g x) y,h.fr.k h.aG (by decide) z (fun g x=>h.fr.apart h.cv (by decide) g x) y,h.og.k h.aG (by decide) z (fun g x=>h.og.apart h.cv (by decide) g x) y,h.cu.k h.aG (by decide) z (fun g x=>h.cu.apart h.cv (by decide) g x) y,h.to.k h.aG (by decide) z (fun g x=>h.cV g x) y,h.en.k h.aG (by decide) z (fun g x=>h.bV g x) y,h.co.k h.aG (by decide) z (fun g x=>h.co.apart h.cv (by decide) g x) y,by rw[b];exact d,h.sk.k h.aG (by decide) z (fun g x=>h.cK.symm g x) y,h.jV.k h.aG z (fun g cs p e=>by obtain⟨_,_,v,u⟩:=h.cv.block e;exact p.dF u (by decide) rfl) y,h.kB.k h.aG z (fun g cs p e=>by obtain⟨_,_,v,u⟩:=h.cv.block e;exact p.dF u (by decide) rfl) y,h.bS,h.cz,h.cV,h.cT,h.bV,h.dA,h.cK,h.dd.k h.aG z (t0:=3) (by decide) (by decide) (fun g e=>by obtain⟨_,_,v,u⟩:=h.cv.block e;exact⟨v,u⟩) y,q⟩
end
def ext (O:Nat→Prop)(w w':World)(k:Nat):Prop:=O k∨(w.heap.size≤k∧k<w'.heap.size)
section
variable {w w' w'' : World} {mb : Nat} {O : Nat → Prop} {L : bd} {s : St}
theorem ag.iB (h:ag w mb O L s)(y:w.heap.size≤w'.heap.size):∀k,ext O w w' k→k<w'.heap.size:=fun k x=>by
 rcases x with x|x
 ·have:=h.eO k x;omega
 ·exact x.2
def aw (w:World)(mb:Nat)(O:Nat→Prop)(s:St)(e:Ending)(w':World):Prop:=e=.returned (.tuple #[])∧(∃L,ag w' mb (ext O w w') L s)∧Fr O w w'
theorem Fr.ext (h:Fr O w w') (k:Fr (ext O w w') w' w''):Fr O w w'' :=
 ⟨k.os.trans h.os,k.tape.trans h.tape,k.output.trans h.output,Ex h.size k.size,fun i hi x=>(k.block i (Dq hi h.size) (fun a=>by rcases a with a|a;exact x a;omega)).trans (h.block i hi x)⟩
theorem ag.alloc (h:ag w mb O L s)(o:Obj):ag (w.alloc o) mb O L s:=h.aQ (fun k x=>pq _ _ _ (h.eO k x)) (fun _ h=>h) (fun k x=>by have:=h.eO k x;simp;omega)
theorem ag.drew (h:ag w mb O L s):ag w.drew mb O L s:=h.aQ (fun _ _=>rfl) (fun _ h=>h) h.eO
theorem ag.jl (h:ag w mb O L s){p:Addr}(y:¬ O p.block)(u:Value):ag (w.setCell p u) mb O L s :=
 h.aQ (fun k x=>Bq _ _ _ _ (fun e=>y (e ▸ x))) (fun _ h=>h) (fun k x=>by have:=h.eO k x;simpa [World.setCell]using this)
end
end
section
open Go.RowKit Mc
theorem Le (m:List Int)(x:Int):(ae (x::m).reverse)[m.length]?=some (Aj x):=by
 unfold ae;rw[qt,Cd,Dv (by simp)];simp
theorem Pt (m:List Int)(x y:Int):(ae (x::y::m).reverse)[m.length]?=some (Aj y):=by
 unfold ae;rw[qt,Cd,Ez (by simp),qt,Dv (by simp)];simp
theorem Ps (m a:List Int):(ae (a++m).reverse).take (m.length*1)=ae m.reverse:=by
 unfold ae;rw[←pK,List.reverse_append,ow]
 congr 1
 exact List.take_left' (by simp)
theorem Mc.Ok.kg {s:St}(h:Ok s){l:List Int}(z:∀x∈l,bI x)(y:l.length≤32):Ok { s with stack:=l } :=
 ⟨z,y,h.aP,h.store,h.dQ,h.aF,h.aT,h.dK,h.aB,h.tl,h.size,h.look,h.move,h.bG,h.aM,h.aD,h.fX,h.funcs,h.kJ,h.bH,h.eg,h.c_,h.gy,h.fW⟩
section
variable {w : World} {mb : Nat} {O : Nat → Prop} {L : bd} {s : St}
theorem ag.mR (h:ag w mb O L s){a r:List Int}(z:s.stack=a++r){A:Option Addr}{n c:Nat}(b:L.sk=.slice A n c){w1:World} (v:∀k,O k→w1.heap[k]?=w.heap[k]?) (K:w1.heap.size=w.heap.size) :
  ∃L',ag (w1.setCell ⟨mb,40,none⟩ (.slice A r.length c)) mb O L' { s with stack:=r } := by
 have j:n=(a++r).length:=by
  obtain⟨H,o,e,_⟩:=h.sk.form;rw[b]at e
  injection e with _ e
  rw[e,z]
 have y:ag w1 mb O L s:=h.aQ v (fun _ h=>h) (fun k q=>by have:=h.eO k q;omega);have d:=y.sk.take (m:=r.length) (by rw[z];simp) (A:=A) (c:=c) (by rw[b,j,z]);rw[z,Ps]at d;have f:∀k,k≠mb→(w1.setCell ⟨mb,40,none⟩ (.slice A r.length c)).heap[k]?=w1.heap[k]?:=fun k v=>Bq _ _ _ _ v
 refine⟨_,y.stack (u:=.slice A r.length c) (l:=r) (y.aG.aX 40 _) (y.c.mK _ _) (d.aQ (fun g p=>f g (fun e=>?_)) (fun _ h=>h)) ?_ (fun k _ v _=>f k v) (fun _ h=>h) (fun k q=>by have:=y.eO k q;simpa [World.setCell]using this) (h.ok.kg (fun x i=>h.ok.stack x (by rw[z];exact List.mem_append_right _ i)) (by have:=h.ok.df;rw[z,Ca]at this;omega))⟩
 ·exact d.cD y.aG (by decide) p e
 ·intro g p;rw[b];cases A with
  |none=>simp[Value.ownBlock]at p
  |some a=>exact .inl p
end
theorem Zj (w:World)(mb:Nat)(O:Nat→Prop)(L:bd)(s:St)(h:ag w mb O L s)(x:Int)(r:List Int)(p:s.stack=x::r)(y sb:Nat)(Q:Value) (z:aH w y 3 #[Q]) (b:aH w sb 246 #[.pointer (some ⟨y,0,none⟩)]) (d:¬ O y) :
  Calls Tryz.prog 169 #[.pointer (some ⟨mb,0,none⟩),.slice (some ⟨sb,0,none⟩) 1 1] w fun e w'=>e=.returned (.tuple #[])∧(∃L',ag w' mb O L' { s with stack:=r })∧aH w' y 3 #[Aj x]∧Fr (fun k=>O k∨k=y) w w'∧∃v,w'=(w.setCell ⟨y,0,none⟩ (Aj x)).setCell ⟨mb,40,none⟩ v:=by
 have q:=h.sk;rw[p]at q;obtain⟨g,c,f,K,R,Z,M,n,B⟩:=q.aL (by simp);have I:=n r.length (Aj x) (Le r x);have dX:=h.aG.cell 40;rw[h.c.dX,f]at dX;have E:=h.aG.frozen 40;have G:=h.aG.lt;have X:=b.cell 0;have T:=b.lt;have S:=z.cell 0;have F:=z.frozen 0;have J:=z.lt;simp only[Az,Ay]at X S;have n1:y≠mb:=fun e=>d (e ▸ h.eu)
 have N:=n1.symm;have P:y≠g:=fun e=>d (e ▸ Z)
 have C:=P.symm;have j:=h.ok.df;rw[p]at j;simp only[Bp]at j dX;have u:∀k,O k→(w.setCell ⟨y,0,none⟩ (Aj x)).heap[k]?=w.heap[k]?:=fun k u=>Bq _ _ _ _ (fun (e:k=y)=>d (e ▸ u))
 have i:=h.mR (a:=[x]) (r:=r) (by rw[p];rfl) f u (by simp[World.setCell]);have H:aH ((w.setCell ⟨y,0,none⟩ (Aj x)).setCell ⟨mb,40,none⟩ (.slice (some ⟨g,0,none⟩) r.length c)) y 3 #[Aj x]:=(z.aX 0 _).cZ n1 _;have l:Fr (fun k=>O k∨k=y) w ((w.setCell ⟨y,0,none⟩ (Aj x)).setCell ⟨mb,40,none⟩ (.slice (some ⟨g,0,none⟩) r.length c)):=((qF _ _).setCell (.inl (.inr rfl)) _).setCell (.inl (.inl h.eu)) _;have Y:=Aq i;have V:=Aq H;have U:=Aq l;clear i H l u n B q h b z p f R;generalize A:r.length=m at *;have D:m≤c:=by simp at K;omega
 clear K A;go_enter Tryz.func169,Tryz.ntmps169;go_wp2;refine wp_loop_rounds 2 ?_;rw[rounds_succ];go_wp2;rw[rounds_succ];go_wp2;go_end0;exact⟨rfl,Y.o,V.o,U.o,_,rfl⟩
theorem Zi (w:World)(mb:Nat)(O:Nat→Prop)(L:bd)(s:St)(h:ag w mb O L s)(x y:Int)(r:List Int)(f:s.stack=x::y::r)(z u sb:Nat)(G F:Value) (q:aH w z 3 #[G]) (p:aH w u 3 #[F]) (Z:z≠u) (b:aH w sb 246 #[.pointer (some ⟨z,0,none⟩),.pointer (some ⟨u,0,none⟩)]) (j:¬ O z) (H:¬ O u) :
  Calls Tryz.prog 169 #[.pointer (some ⟨mb,0,none⟩),.slice (some ⟨sb,0,none⟩) 2 2] w fun e w'=>e=.returned (.tuple #[])∧(∃L',ag w' mb O L' { s with stack:=r })∧aH w' z 3 #[Aj y]∧aH w' u 3 #[Aj x]∧Fr (fun k=>O k∨k=z∨k=u) w w'∧∃v,w'=((w.setCell ⟨z,0,none⟩ (Aj y)).setCell ⟨u,0,none⟩ (Aj x)).setCell ⟨mb,40,none⟩ v:=by
 have i:=h.sk;rw[f]at i;obtain⟨g,c,n,R,J,Y,hM,l,D⟩:=i.aL (by simp);have d0:=l r.length (Aj y) (Pt r x y);have d1:=l (r.length+1) (Aj x) (Le (y::r) x);have dX:=h.aG.cell 40;rw[h.c.dX,n]at dX;have h2:=h.aG.frozen 40;have h1:=h.aG.lt;have S:=b.cell 0;have N:=b.cell 1;have x1:=b.lt;have W:=q.cell 0;have y1:=q.frozen 0;have y2:=q.lt;have T:=p.cell 0;have z1:=p.frozen 0;have z2:=p.lt;simp only[Az,Ay,Ba]at S N W T;have n1:z≠mb:=fun e=>j (e ▸ h.eu)
 have hs:=n1.symm;have E:z≠g:=fun e=>j (e ▸ Y)
 have b1:=E.symm;have X:u≠mb:=fun e=>H (e ▸ h.eu)
 have hk:=X.symm;have n4:u≠g:=fun e=>H (e ▸ Y)
 have hv:=n4.symm;have n5:sb≠z:=b.dF q (by decide);have n6:sb≠u:=b.dF p (by decide);have I:=Z.symm;have U:=h.ok.df;rw[f]at U;simp only[Bp]at U dX;have d:∀k,O k→((w.setCell ⟨z,0,none⟩ (Aj y)).setCell ⟨u,0,none⟩ (Aj x)).heap[k]?=w.heap[k]?:=fun k d=>(Bq _ _ _ _ (fun (e:k=u)=>H (e ▸ d))).trans (Bq _ _ _ _ (fun (e:k=z)=>j (e ▸ d)))
 have K:=h.mR (a:=[x,y]) (r:=r) (by rw[f];rfl) n d (by simp[World.setCell]);have Q:aH (((w.setCell ⟨z,0,none⟩ (Aj y)).setCell ⟨u,0,none⟩ (Aj x)).setCell ⟨mb,40,none⟩ (.slice (some ⟨g,0,none⟩) r.length c)) z 3 #[Aj y]:=((q.aX 0 _).cZ Z _).cZ n1 _;have P:aH (((w.setCell ⟨z,0,none⟩ (Aj y)).setCell ⟨u,0,none⟩ (Aj x)).setCell ⟨mb,40,none⟩ (.slice (some ⟨g,0,none⟩) r.length c)) u 3 #[Aj x]:=((p.cZ I _).aX 0 _).cZ X _;have V:Fr (fun k=>O k∨k=z∨k=u) w (((w.setCell ⟨z,0,none⟩ (Aj y)).setCell ⟨u,0,none⟩ (Aj x)).setCell ⟨mb,40,none⟩ (.slice (some ⟨g,0,none⟩) r.length c)):=(((qF _ _).setCell (.inl (.inr (.inl rfl))) _).setCell (.inl (.inr (.inr rfl))) _).setCell (.inl (.inl h.eu)) _;have A:=Aq K;have C:=Aq Q;have M:=Aq P;have B:=Aq V;clear K Q P V d l D i h b q p f n J;generalize hm:r.length=m at *;have b2:m≤c:=by simp at R;omega
 clear R hm;go_enter Tryz.func169,Tryz.ntmps169;go_wp2;refine wp_loop_rounds 3 ?_;rw[rounds_succ];go_wp2;rw[rounds_succ];go_wp2;rw[rounds_succ];go_wp2;go_end0;exact⟨rfl,A.o,C.o,M.o,B.o,_,rfl⟩
end
section
open Go.RowKit Mc
theorem Gw (w:World)(A:Option Addr)(n c B:Nat)(xs:List Value)(p:aE w B 1 A n xs)(v:∀u∈xs,u.oneCell'=true)(r:n≤1000000000000) :
  Calls Tryz.prog 42 #[.slice A n c] w (Zec w 3 1 n xs):=by
 obtain⟨P,Z,l,Y,D⟩:=Fe Hv;have q0:∀(w:World) (a:Option Addr) (n c n' y:Nat),(binOp .eql 22 (.slice a n c) (.slice none n' y)).run Tryz.prog w=.ok (.bool a.isNone) w:=fun w a n c n' y=>Lib.run_eql_slice_nil w _ _ a n c n' y Tryz.underlying22
 have x:=Aq p;have H1:=Aq v;have q:=Aq r;clear p v r;rcases A with _|V
 ·have E:n=0:=by
   rcases oQ n with h|h
   ·exact h
   ·obtain⟨b,off,e,_⟩:=x.o.2 h;cases e
  subst E;have z:xs=[]:=pu (by simpa using x.o.1);subst z;go_enter Tryz.func42,Tryz.ntmps42;go_wp2;go_ret;exact⟨_,rfl,Eo _ _ _ _,qF _ _⟩
 ·have k:Hid (∃B,aE (w.alloc (.cells #[] 3)) B 1 (some V) n xs):=Aq (by
   rcases oQ n with h|h
   ·subst h;have z:xs=[]:=pu (by simpa using x.o.1);subst z;exact⟨0,qK⟩
   ·obtain⟨b,off,e,H,f⟩:=x.o.2 h;have Q:b<w.heap.size:=by
     have S:0<xs.length:=by rw[x.o.1];exact Nat.mul_pos h (by decide)
     have:=f 0 xs[0] (Bf S);rcases oe b w.heap.size with m|i
     ·exact m
     ·rw[oh]at this;simp[World.cell?,qu i]at this
    exact⟨B,x.o.1,fun _=>⟨b,off,e,H,fun j u C=>(Cc w _ _ Q).trans (f j u C)⟩⟩)
  have s:(w.alloc (.cells #[] 3)).ownsRow w.heap.size 3 1 (.slice (some ⟨w.heap.size,0,none⟩) 0 0) 0 []:=Kr (qG _ _ _) Aw;have U:=Aq s;clear s;obtain⟨F,d⟩:=k.o;have X:=Aq d;clear d k x;go_enter Tryz.func42,Tryz.ntmps42;go_wp2_with (at_builtin;refine Cp _ rfl (.tmp 5) (.tmp 6) _ rfl w.heap.size 3 P _ 1 8 Tryz.underlying22 Z l Y D rfl (show 0<1 by decide) (.slice (some ⟨w.heap.size,0,none⟩) 0 0) 0 [] rfl U.o F _ n _ xs rfl X.o H1.o (by have:=q.o;unfold maxLen;omega) (by have:=q.o;omega) (by simp) ?_;intro v' w' R K _)
  go_ret;refine⟨_,rfl,by simpa using R,Hw ((qF _ w).alloc _) K (fun g e=>?_)⟩;simp only[Value.ownBlock,Bw]at e;omega
theorem Wg (w:World)(A:Option Addr)(n c B:Nat)(xs:List Value)(p:aE w B 2 A n xs)(v:∀u∈xs,u.oneCell'=true)(r:n≤1000000000000) :
  Calls Tryz.prog 101 #[.slice A n c] w (Zec w 76 2 n xs):=by
 obtain⟨P,Z,l,Y,D⟩:=Fe Tw;have q0:∀(w:World) (a:Option Addr) (n c n' y:Nat),(binOp .eql 28 (.slice a n c) (.slice none n' y)).run Tryz.prog w=.ok (.bool a.isNone) w:=fun w a n c n' y=>Lib.run_eql_slice_nil w _ _ a n c n' y Tryz.underlying28
 have x:=Aq p;have H1:=Aq v;have q:=Aq r;clear p v r;rcases A with _|V
 ·have E:n=0:=by
   rcases oQ n with h|h
   ·exact h
   ·obtain⟨b,off,e,_⟩:=x.o.2 h;cases e
  subst E;have z:xs=[]:=pu (by simpa using x.o.1);subst z;go_enter Tryz.func101,Tryz.ntmps101;go_wp2;go_ret;exact⟨_,rfl,Eo _ _ _ _,qF _ _⟩
 ·have k:Hid (∃B,aE (w.alloc (.cells #[] 76)) B 2 (some V) n xs):=Aq (by
   rcases oQ n with h|h
   ·subst h;have z:xs=[]:=pu (by simpa using x.o.1);subst z;exact⟨0,qK⟩
   ·obtain⟨b,off,e,H,f⟩:=x.o.2 h;have Q:b<w.heap.size:=by
     have S:0<xs.length:=by rw[x.o.1];exact Nat.mul_pos h (by decide)
     have:=f 0 xs[0] (Bf S);rcases oe b w.heap.size with m|i
     ·exact m
     ·rw[oh]at this;simp[World.cell?,qu i]at this
    exact⟨B,x.o.1,fun _=>⟨b,off,e,H,fun j u C=>(Cc w _ _ Q).trans (f j u C)⟩⟩)
  have s:(w.alloc (.cells #[] 76)).ownsRow w.heap.size 76 2 (.slice (some ⟨w.heap.size,0,none⟩) 0 0) 0 []:=Kr (qG _ _ _) Aw;have U:=Aq s;clear s;obtain⟨F,d⟩:=k.o;have X:=Aq d;clear d k x;go_enter Tryz.func101,Tryz.ntmps101;go_wp2_with (at_builtin;refine Cp _ rfl (.tmp 5) (.tmp 6) _ rfl w.heap.size 76 P _ 2 16 Tryz.underlying28 Z l Y D rfl (show 0<2 by decide) (.slice (some ⟨w.heap.size,0,none⟩) 0 0) 0 [] rfl U.o F _ n _ xs rfl X.o H1.o (by have:=q.o;unfold maxLen;omega) (by have:=q.o;omega) (by simp) ?_;intro v' w' R K _)
  go_ret;refine⟨_,rfl,by simpa using R,Hw ((qF _ w).alloc _) K (fun g e=>?_)⟩;simp only[Value.ownBlock,Bw]at e;omega
theorem Rv (w:World)(A:Option Addr)(n c B:Nat)(xs:List Value)(p:aE w B 2 A n xs)(v:∀u∈xs,u.oneCell'=true)(r:n≤1000000000000) :
  Calls Tryz.prog 97 #[.slice A n c] w (Zec w 96 2 n xs):=by
 obtain⟨P,Z,l,Y,D⟩:=Fe Zgi;have q0:∀(w:World) (a:Option Addr) (n c n' y:Nat),(binOp .eql 24 (.slice a n c) (.slice none n' y)).run Tryz.prog w=.ok (.bool a.isNone) w:=fun w a n c n' y=>Lib.run_eql_slice_nil w _ _ a n c n' y Tryz.underlying24
 have x:=Aq p;have H1:=Aq v;have q:=Aq r;clear p v r;rcases A with _|V
 ·have E:n=0:=by
   rcases oQ n with h|h
   ·exact h
   ·obtain⟨b,off,e,_⟩:=x.o.2 h;cases e
  subst E;have z:xs=[]:=pu (by simpa using x.o.1);subst z;go_enter Tryz.func97,Tryz.ntmps97;go_wp2;go_ret;exact⟨_,rfl,Eo _ _ _ _,qF _ _⟩
 ·have k:Hid (∃B,aE (w.alloc (.cells #[] 96)) B 2 (some V) n xs):=Aq (by
   rcases oQ n with h|h
   ·subst h;have z:xs=[]:=pu (by simpa using x.o.1);subst z;exact⟨0,qK⟩
   ·obtain⟨b,off,e,H,f⟩:=x.o.2 h;have Q:b<w.heap.size:=by
     have S:0<xs.length:=by rw[x.o.1];exact Nat.mul_pos h (by decide)
     have:=f 0 xs[0] (Bf S);rcases oe b w.heap.size with m|i
     ·exact m
     ·rw[oh]at this;simp[World.cell?,qu i]at this
    exact⟨B,x.o.1,fun _=>⟨b,off,e,H,fun j u C=>(Cc w _ _ Q).trans (f j u C)⟩⟩)
  have s:(w.alloc (.cells #[] 96)).ownsRow w.heap.size 96 2 (.slice (some ⟨w.heap.size,0,none⟩) 0 0) 0 []:=Kr (qG _ _ _) Aw;have U:=Aq s;clear s;obtain⟨F,d⟩:=k.o;have X:=Aq d;clear d k x;go_enter Tryz.func97,Tryz.ntmps97;go_wp2_with (at_builtin;refine Cp _ rfl (.tmp 5) (.tmp 6) _ rfl w.heap.size 96 P _ 2 16 Tryz.underlying24 Z l Y D rfl (show 0<2 by decide) (.slice (some ⟨w.heap.size,0,none⟩) 0 0) 0 [] rfl U.o F _ n _ xs rfl X.o H1.o (by have:=q.o;unfold maxLen;omega) (by have:=q.o;omega) (by simp) ?_;intro v' w' R K _)
  go_ret;refine⟨_,rfl,by simpa using R,Hw ((qF _ w).alloc _) K (fun g e=>?_)⟩;simp only[Value.ownBlock,Bw]at e;omega
theorem Fk {W:World}{B size n:Nat}{t:TypeId}{xs:List Value}(x:xs.length=n*size)(y:B≤W.heap.size)(z:n≤maxLen):(W.alloc (.cells xs.toArray t)).ownsRow B t size (.slice (some ⟨W.heap.size,0,none⟩) n n) n xs :=
 ⟨x,.inr ⟨W.heap.size,n,xs.toArray,rfl,y,qG _ _ _,Aw,z,by simpa using x,by simp[←x]⟩⟩
theorem Nj {W:World}{B size n m:Nat}{t:TypeId}{v u:Value}{xs:List Value}(h:W.ownsRow B t size v n xs) (z:u=.slice (some ⟨W.heap.size,0,none⟩) m m):au u v:=by
 intro g y x;subst z;simp only[Value.ownBlock,Bw]at y;have:=(h.lt g x).2;omega
theorem En {W W':World}{B size size' n m:Nat}{t t':TypeId}{v u:Value}{xs x:List Value}(h:W.ownsRow B t size v n xs)(k:W'.ownsRow W.heap.size t' size' u m x):au u v:=by
 intro g z y;have:=(h.lt g y).2;have:=(k.lt g z).1;omega
theorem Zfx (n:Nat):madeCells #[Value.int .i64 0,Aj 0] (n*2)=(bu (List.replicate n (0,0))).toArray:=by
 unfold madeCells;apply Array.toList_inj.1;simp only[pL,pM]
 induction n with
 |zero=>rfl
 |succ n ih =>
  have y:bu (List.replicate n ((0:Int),(0:Int))++[(0,0)])=bu (List.replicate n (0,0))++[Aj 0,Aj 0]:=by simp[bu]
  rw[qv,y,←ih,show (n+1)*2=n*2+1+1 by omega,od,od];simp only[oq,oD,oR,ox,oy,le];have x:n*2 % 2=0:=by omega
  have z:(n*2+1) % 2=1:=by omega
  simp[x,z]
theorem Zbt (n:Nat):madeCells #[Value.int .i64 0] n=(ae (List.replicate n 0)).toArray:=by
 unfold madeCells;apply Array.toList_inj.1;simp only[pL,pM,ae,qw];rw[qx];exact⟨by simp,by intro b x;simp at x;obtain⟨a,y,rfl⟩:=x;rw[show a % 1=0 by omega];rfl⟩
theorem Kf {P:Program}(t e:TypeId)(i:TypeInfo)(z:Value) (y:P.underlying t=some (.slice e)) (hi:P.info? e=some i) (v:i.zero=some z)
  (n:Nat) (k:i.bytes*n≤281474976710656) (p:n≤9223372036854775807) (w:World) :
  (Instr.makeSlice t (Aj (n:Int)) (Aj (n:Int))).run P w=.ok (.slice (some ⟨w.heap.size,0,none⟩) n n) (w.alloc (.cells (madeCells z.cells (n*i.size)) e)):=by
 have u:(i.bytes:Int)*(n:Int)≤281474976710656:=by
  have h:((i.bytes*n:Nat):Int)≤281474976710656:=by omega
  rwa [Int.natCast_mul]at h
 have x:=run_make (P:=P) w t e i z y hi v .i64 .i64 n n (by omega) (by omega) u (by omega);simp only[Da]at x;exact x
theorem Zfw (n:Nat)(u:n≤1000000)(w:World):(Instr.makeSlice 28 (Aj (n:Int)) (Aj (n:Int))).run Tryz.prog w=.ok (.slice (some ⟨w.heap.size,0,none⟩) n n) (w.alloc (.cells (bu (List.replicate n (0,0))).toArray 76)):=by
 obtain⟨i,hi,y,z,x⟩:=Fe Tw;have:=Kf (P:=Tryz.prog) 28 76 i _ Tryz.underlying28 hi y n (by rw[x];omega) (by omega) w;rw[z,show (Value.agg #[Aj 0,Aj 0]).cells = #[Aj 0,Aj 0] from rfl,Zfx]at this;exact this
theorem Kg (n:Nat)(u:n≤1000000)(w:World):(Instr.makeSlice 22 (Aj (n:Int)) (Aj (n:Int))).run Tryz.prog w=.ok (.slice (some ⟨w.heap.size,0,none⟩) n n) (w.alloc (.cells (ae (List.replicate n 0)).toArray 3)):=by
 obtain⟨i,hi,y,z,x⟩:=Fe Hv;have:=Kf (P:=Tryz.prog) 22 3 i _ Tryz.underlying22 hi y n (by rw[x];omega) (by omega) w;rw[z,ow,show (Value.int .i64 0).cells = #[Aj 0] from rfl,Zbt]at this;exact this
theorem Oi (l:List Int):l.flatMap (fun x=>[Value.int .i64 x])=ae l:=by
 unfold ae
 induction l with
 |nil=>rfl
 |cons a r ih=>rw[pC,ih];rfl
end
end Go.Proofs.YtnhebmgibiomnaaGreat

import Derived.BigQuiet
import Derived.Conc.MuLone
import Derived.Deep.QuietTactic
import Derived.IntWalk
import Derived.Lib.SliceRun
import Derived.LoopN
import Derived.Test.YtnhebmgibiomnaaGreatProg
import Derived.Test.YtnhebmgibiomnaaGreatPh0
import Derived.Test.YtnhebmgibiomnaaGreatPh3
set_option linter.unusedVariables false
set_option linter.unusedSimpArgs false
set_option maxRecDepth 100000
set_option maxHeartbeats 8000000
namespace Go.Proofs.YtnhebmgibiomnaaGreat
section
open Go.RowKit
theorem Pd (n:Int):RowKit.wrap64 (RowKit.wrap32 n)=Mc.bA n:=by
 rw[pG _ (by unfold RowKit.wrap32;omega)];unfold RowKit.wrap32 Mc.bA;rfl
theorem Gr (n:Int):RowKit.wrap64 n=Mc.iD n:=by
 unfold RowKit.wrap64 Mc.iD;rfl
theorem Cl {a b:Int}(h:a=b):Ending.returned (Aj a)=.returned (Aj b):=by rw[h]
theorem Ln (n d:Int)(y:0<d):n % d=if n.tmod d<0 then n.tmod d+d else n.tmod d:=by
 have x:=Int.tmod_eq_emod (a:=n) (b:=d);have v:=oT n (show d≠0 by omega);have u:=oU n y;by_cases h:0≤n∨d ∣ n
 ·rw[if_pos h]at x;rw[if_neg (by omega)];omega
 ·rw[if_neg h,Int.natAbs_of_nonneg (by omega)]at x;have z:n % d≠0:=fun e=>h (.inr (Int.dvd_of_emod_eq_zero e))
  rw[if_pos (by omega)];omega
theorem Rd (a b:Int)(y:b≠0):a.fdiv b=if a.tmod b≠0∧(decide (a<0)≠decide (b<0)) then a.tdiv b-1 else a.tdiv b:=by
 have v:=Int.fdiv_eq_ediv (a:=a) (b:=b);have z:=Int.tdiv_eq_ediv (a:=a) (b:=b);have p:=Int.dvd_iff_tmod_eq_zero (a:=b) (b:=a);by_cases x:b ∣ a
 ·rw[if_pos (.inr x)]at v z;rw[if_neg (fun h=>h.1 (p.1 x))];omega
 ·have k:a.tmod b≠0:=fun e=>x (p.2 e)
  have r:a≠0:=fun e=>x (by rw[e];exact Int.dvd_zero _)
  rcases Int.lt_or_gt_of_ne y with y|y
  ·have q:b.sign = -1:=Int.sign_eq_neg_one_of_neg y;rw[if_neg (by simp[x];omega)]at v;by_cases u:0≤a
   ·rw[if_pos (.inl u)]at z;rw[if_pos ⟨k,by simp;omega⟩];omega
   ·rw[if_neg (by simp[x];omega)]at z;rw[if_neg (by simp;omega)];omega
  ·have q:b.sign=1:=Int.sign_eq_one_of_pos y;rw[if_pos (.inl (by omega))]at v;by_cases u:0≤a
   ·rw[if_pos (.inl u)]at z;rw[if_neg (by simp;omega)];omega
   ·rw[if_neg (by simp[x];omega)]at z;rw[if_pos ⟨k,by simp;omega⟩];omega
theorem Yr (a:Int):RowKit.wrap64 (RowKit.wrap64 a-1)=Mc.iD (a-1):=by
 unfold RowKit.wrap64 Mc.iD;omega
namespace Mc
def bI (n:Int):Prop:=-2147483648≤n∧n≤2147483647
theorem Fg (n:Int):bI (bA n):=by unfold bI bA;omega
structure Ok (s:St):Prop where
 stack:∀x∈s.stack,bI x
 dg:s.stack.length≤32
 aP:∀x∈s.aP,bI x
 store:∀x∈s.store,bI x
 dR:s.store.length=32
 aF:∀p∈s.aF,bI p.1∧bI p.2
 aT:∀p∈s.aT,bI p.1∧bI p.2
 dL:s.aT.length=s.aF.length
 aB:∀t∈s.aB,0≤t∧t≤3
 tl:s.aB.length=s.aF.length
 size:bI s.size
 look:0≤s.look∧s.look≤1
 move:0≤s.move∧s.move≤1
 bG:0≤s.bG∧s.bG≤5
 aL:s.aL≤32
 aD:∀f∈s.aD,f.next≤f.aA.length∧f.a_≤15∧f.aA.length≤1000000
 fW:s.aD.length≤21
 funcs:∀c∈s.funcs,c.length≤1000000
 jy:s.funcs.length≤1000000
 bH:∀c∈s.bH,c.1≤c.2∧c.2<s.aF.length
 ej:s.bH.length≤1000000
 cX:s.aF.length≤1000000
 iC:s.aP.length≤1000000
 fY:s.aJ.length≤1000000
end Mc
open Mc
def ae (l:List Int):List Value:=l.map (Value.int .i64)
def bq (l:List (Int×Int)):List Value:=l.flatMap fun p=>[Aj p.1,Aj p.2]
def ir (l:List (Nat×Nat)):List Value:=l.flatMap fun p=>[Aj p.1,Aj p.2]
theorem Dc (l:List Int):(ae l).length=l.length:=by simp[ae]
theorem Ia (l:List (Int×Int)):(bq l).length=l.length*2:=by
 induction l with
 |nil=>rfl
 |cons a r ih=>simp only[bq,pa,Bz,Bo,Bw]at *;omega
def dK (w:World)(O:Nat→Prop)(t:TypeId)(size:Nat)(v:Value)(n:Nat)(xs:List Value):Prop :=
 w.ownsRow 0 t size v n xs∧∀g,v.ownBlock=some g→O g
def ar (a b:Value):Prop:=∀g,a.ownBlock=some g→b.ownBlock≠some g
theorem ar.symm {a b:Value}(h:ar a b):ar b a:=fun g y x=>h g x y
abbrev qK:=@ar.symm
section
variable {w w' : World} {O O' : Nat → Prop} {t t' : TypeId} {size size' : Nat} {v v' : Value} {n n' : Nat} {xs xs' : List Value}
theorem dK.aQ (h:dK w O t size v n xs) (q:∀g,v.ownBlock=some g→w'.heap[g]?=w.heap[g]?) (z:∀k,O k→O' k):dK w' O' t size v n xs:=by
 refine⟨⟨h.1.1,?_⟩,fun g x=>z g (h.2 g x)⟩;rcases h.1.2 with r|⟨g,dA,aF,y,x,u,p⟩
 ·exact .inl r
 ·exact .inr ⟨g,dA,aF,y,x,(q g (by rw[y];rfl)).trans u,p⟩
theorem dK.block (h:dK w O t size v n xs){g:Nat}(x:v.ownBlock=some g):O g∧g<w.heap.size∧∃cs,aH w g t cs:=by
 refine⟨h.2 g x,(h.1.lt g x).2,?_⟩;rcases h.1.2 with⟨rfl,_⟩|⟨z,dA,aF,rfl,_,y,_⟩
 ·simp[Value.ownBlock]at x
 ·simp only[Value.ownBlock,Bv]at x;subst x;exact⟨aF,y⟩
theorem dK.apart (h:dK w O t size v n xs)(y:dK w O' t' size' v' n' xs')(k:t≠t'):ar v v':=by
 intro g p z;obtain⟨_,_,cs,x⟩:=h.block p;obtain⟨_,_,q,u⟩:=y.block z;exact x.dF u k rfl
theorem dK.bz (h:dK w O t size v n xs){b:Nat}{cs:Array Value}(x:aH w b t' cs)(u:t≠t'){g:Nat}(z:v.ownBlock=some g):g≠b:=by
 obtain⟨_,_,k,y⟩:=h.block z;exact y.dF x u
theorem dK.form (h:dK w O t size v n xs):∃A c,v=.slice A n c∧n≤c∧c≤maxLen:=by
 rcases h.1.2 with⟨rfl,rfl⟩|⟨u,dA,aF,rfl,_,z,y,x,_⟩
 ·exact⟨none,0,rfl,Aw,By _⟩
 ·exact⟨_,dA,rfl,y,x⟩
theorem dK.aK (h:dK w O t size v n xs)(r:0<n):∃g c,v=.slice (some ⟨g,0,none⟩) n c∧n≤c∧c≤maxLen∧O g∧g<w.heap.size∧(∀j u,xs[j]?=some u→w.cell? ⟨g,j,none⟩=some u)∧∀j,w.frozen? ⟨g,j,none⟩=false:=by
 rcases h.1.2 with⟨_,a⟩|⟨g,dA,aF,rfl,_,k,q,p,s,z⟩
 ·omega
 ·have y:aH w g t aF:=k;refine⟨g,dA,rfl,q,p,h.2 g rfl,y.lt,fun j u x=>?_,fun j=>y.frozen j⟩;rw[y.cell,←z]at *;rw[oe]at x;split at x
  ·simpa using x
  ·cases x
theorem dK.take (h:dK w O t size v n xs){m:Nat}(u:m≤n){A:Option Addr}{c:Nat}(q:v=.slice A n c):dK w O t size (.slice A m c) m (xs.take (m*size)):=by
 subst q;refine⟨⟨?_,?_⟩,fun g y=>h.2 g (by cases A <;> exact y)⟩
 ·rw[Dn,h.1.1];exact oV (pd _ u)
 ·rcases h.1.2 with⟨x,k⟩|⟨g,dA,aF,k,y,b,x,p,z,r⟩
  ·injection x with x p z
   subst x z;exact .inl ⟨by rw[show m=0 by omega],by omega⟩
  ·injection k with s d a
   subst s a;refine .inr ⟨g,c,aF,rfl,y,b,by omega,p,z,?_⟩;rw[←r,List.take_take,oV (pd _ u)]
theorem dK.aZ (h:dK w O t size v n xs){g:Nat}(x:v.ownBlock=some g){j:Nat}(_hj:j<xs.length)(u:Value):dK (w.setCell ⟨g,j,none⟩ u) O t size v n (xs.set j u):=by
 refine⟨⟨by rw[Dd];exact h.1.1,?_⟩,h.2⟩;rcases h.1.2 with⟨rfl,_⟩|⟨y,dA,aF,rfl,r,q,a,s,p,z⟩
 ·simp[Value.ownBlock]at x
 ·simp only[Value.ownBlock,Bv]at x;subst x;have k:aH w y t aF:=q;refine .inr ⟨y,dA,aF.setIfInBounds j u,rfl,r,k.aZ j u,a,s,by rw[Dr];exact p,?_⟩;rw[qa,List.take_set,z]
end
theorem Eu {P:Program}{t:TypeId}{z:Value}{n b:Nat} (h:(P.info? t).map (fun i=>(i.zero,i.size,i.bytes))=some (some z,n,b)):∃i,P.info? t=some i∧i.zero=some z∧i.size=n∧i.bytes=b:=by
 cases hi:P.info? t with
 |none=>rw[hi]at h;cases h
 |some i =>
  rw[hi]at h;simp only[ou,Bv,Prod.mk.injEq]at h;exact⟨i,rfl,h.1,h.2.1,h.2.2⟩
theorem Hp:(Tryz.prog.info? 3).map (fun i=>(i.zero,i.size,i.bytes))=some (some (Aj 0),1,8):=by kernel_rfl
theorem aE.aG {w:World}{g:Nat}{t:TypeId}{cs:List Value}(h:aH w g t cs.toArray)(size n:Nat)(y:cs.length=n*size):aE w w.heap.size size (some ⟨g,0,none⟩) n cs :=
 ⟨y,fun _=>⟨g,0,rfl,h.lt,fun j u x=>by rw[ns,h.cell];simpa using x⟩⟩
abbrev qB:=@aE.aG
abbrev bT (w w':World):Prop:=Fr (fun _=>False) w w'
theorem bT.below {w w':World}{B:Nat}(h:bT w w')(y:B≤w.heap.size):Below B w w':=Fr.below h y fun _ _ x=>x
abbrev qG:=@bT.below
theorem Ca {w w':World}{aN size n:Nat}{t:TypeId}{v:Value}{xs:List Value}(h:w.ownsRow aN t size v n xs)(z:bT w w'):w'.ownsRow aN t size v n xs:=by
 refine⟨h.1,?_⟩;rcases h.2 with p|⟨g,dA,aF,u,q,y,k⟩
 ·exact .inl p
 ·exact .inr ⟨g,dA,aF,u,q,(z.block g (bN.1 y).1 (fun x=>x)).trans y,k⟩
theorem Cj {w:World}{aN x size n:Nat}{t:TypeId}{v:Value}{xs:List Value}(h:w.ownsRow aN t size v n xs)(p:x≤aN):w.ownsRow x t size v n xs:=by
 refine⟨h.1,?_⟩;rcases h.2 with u|⟨g,dA,aF,y,k,z⟩
 ·exact .inl u
 ·exact .inr ⟨g,dA,aF,y,by omega,z⟩
theorem Eh (w:World)(aN size:Nat)(t:TypeId):w.ownsRow aN t size (.slice none 0 0) 0 []:=⟨by simp,.inl ⟨rfl,rfl⟩⟩
theorem Kf {w:World}{aN size g:Nat}{t:TypeId} (x:aH w g t #[]) (y:aN≤g):w.ownsRow aN t size (.slice (some ⟨g,0,none⟩) 0 0) 0 [] :=
 ⟨by simp,.inr ⟨g,0,#[],rfl,y,x,Aw,by unfold maxLen;omega,by simp,by simp⟩⟩
def Zdp (w:World)(t:TypeId)(size n:Nat)(xs:List Value)(e:Ending)(w':World):Prop:=∃v,e=.returned v∧w'.ownsRow w.heap.size t size v n xs∧bT w w'
theorem Hq {w w1 w':World}{r:Option Nat}(x:bT w w1)(y:w1.grownBy w' r)(h:∀g,r=some g→w.heap.size≤g):bT w w' :=
 ⟨y.os.trans x.os,y.tape.trans x.tape,y.output.trans x.output,Ex x.size y.size,fun k z u=>(y.block k (Dm z x.size) (fun e=>by have:=h k e.symm;omega)).trans (x.block k z u)⟩
theorem Tk:(Tryz.prog.info? 76).map (fun i=>(i.zero,i.size,i.bytes))=some (some (.agg #[Aj 0,Aj 0]),2,16):=by kernel_rfl
theorem Zfv:(Tryz.prog.info? 96).map (fun i=>(i.zero,i.size,i.bytes))=some (some (.agg #[Aj 0,Aj 0]),2,16):=by kernel_rfl
theorem Ib {l:List Int}{P:Int→Prop}(h:∀x∈l,P x){i:Nat}{v:Int}(z:P v):∀x∈l.set i v,P x:=fun x y=>by
 rcases oE y with y|rfl
 ·exact h x y
 ·exact z
theorem Gd (l:List Int)(i:Nat)(v:Int):ae (l.set i v)=(ae l).set i (Aj v):=by simp[ae,pH]
theorem Ck {l:List Int}{i:Nat}{v:Int} (h:l[i]?=some v):(ae l)[i]?=some (Aj v):=by simp[ae,h]
theorem Fy:∀{l:List (Int×Int)} {i:Nat} {v:Int×Int},l[i]?=some v→(bq l)[2*i]?=some (Aj v.1)∧(bq l)[2*i+1]?=some (Aj v.2)
 |a::l,0,v,h=>by
  simp only[Ay,Bv]at h;subst h;exact⟨rfl,rfl⟩
 |a::l,i+1,v,h=>by
  have:=Fy (l:=l) (i:=i) (v:=v) h;rw[show 2*(i+1)=2*i+2 by omega];exact this
 | [],i,v,h=>by simp at h
theorem lf {l:List Int}{x:Int} (h:¬ (0≤x∧x<l.length)):aK l x=0:=by unfold aK;rw[if_neg h]
theorem Zhe {l:List Int}{i:Nat}{v:Int} (h:l[i]?=some v):aK l i=v:=by
 have:=(aS.1 h).1;unfold aK;rw[if_pos (by omega),Cw,Bn,h];rfl
theorem Ut {l:List Int}{x v:Int} (h:¬ (0≤x∧x<l.length)):Ip l x v=l:=by unfold Ip;rw[if_neg h]
theorem Ou {l:List Int}{i:Nat}{v:Int}(h:i<l.length):Ip l i v=l.set i v:=by
 unfold Ip;rw[if_pos (by omega),Cw]
theorem Da {α:Type}{l:List α}{i:Nat}{x d:α} (h:l[i]?=some x):l.getD i d=x:=by rw[Bn,h];rfl
def mk {α:Type}(n i:Nat)(F:Nat→α)(z:α):List α:=(List.range n).map fun j=>if j<i then F j else z
theorem Es {α:Type}(n i:Nat)(F:Nat→α)(z:α):(mk n i F z).length=n:=by simp[mk]
theorem Ja {α:Type}{n i:Nat}{F:Nat→α}{z:α}{j:Nat}(h:j<n):(mk n i F z)[j]?=some (if j<i then F j else z):=by
 unfold mk;rw[Cc,eq h];rfl
theorem Kr {α:Type}{n i:Nat}{F:Nat→α}{z:α}(h:i<n):(mk n i F z).set i (F i)=mk n (i+1) F z:=by
 refine ov fun j=>?_
 rw[Iu];rcases le j n with x|x
 ·rw[Ja x,Ja x,Es];by_cases y:i=j
  ·subst y;rw[if_pos rfl,if_pos h,if_pos (by omega)]
  ·rw[if_neg y];by_cases u:j<i
   ·rw[if_pos u,if_pos (by omega)]
   ·rw[if_neg u,if_neg (by omega)]
 ·rw[if_neg (by omega),Je (by rw[Es];omega),Je (by rw[Es];omega)]
theorem Me {α:Type}(n:Nat)(F:Nat→α)(z:α):mk n 0 F z=List.replicate n z:=by
 refine ov fun j=>?_
 rcases le j n with x|x
 ·rw[Ja x,if_neg (by omega),pI,if_pos x]
 ·rw[Je (by rw[Es];omega),Je (by simpa using x)]
theorem Ta {α:Type}(n:Nat)(F:Nat→α)(z:α):mk n n F z=(List.range n).map F:=by
 unfold mk;refine pm fun j x=>?_
 rw[if_pos (List.mem_range.1 x)]
theorem Zbc {α:Type}{n i:Nat}{F:Nat→α}{z:α}(h:i<n→F i=z):mk n i F z=mk n (i+1) F z:=by
 refine ov fun j=>?_
 rcases le j n with x|x
 ·rw[Ja x,Ja x];by_cases u:j=i
  ·subst u;rw[if_neg (by omega),if_pos (by omega),h x]
  ·by_cases y:j<i
   ·rw[if_pos y,if_pos (by omega)]
   ·rw[if_neg y,if_neg (by omega)]
 ·rw[Je (by rw[Es];omega),Je (by rw[Es];omega)]
def Mc.oF (z:Zn)(j:Nat):Int×Int:=k2 ((z.aT[j]?).getD (z.aF.getD j (0,0)))
def Mc.cF (z:Zn)(j:Nat):Int×Int:=k2 (z.aF.getD j (0,0))
def Mc.tF (z:Zn)(j:Nat):Int:=(z.aB.getD j 0) % 4
theorem Zey (z:Zn):(List.range z.aF.length).map (cF z)=z.aF.map k2:=by
 refine ov fun j=>?_
 rw[Cc,Cc];rcases le j z.aF.length with x|x
 ·rw[eq x,Bg x];simp only[ou,cF,Bn,Bg x,ow]
 ·rw[Je (by simpa using x),Je x];rfl
structure cz (W:World) (B:Nat) (z:Zn) (oA:Option Addr) (cA:Option Addr) (tA:Option Addr) (eA:Option Addr):Prop where
 aT:aE W B 2 oA z.aT.length (bq z.aT)
 aF:aE W B 2 cA z.aF.length (bq z.aF)
 aB:aE W B 1 tA z.aB.length (ae z.aB)
 aJ:aE W B 1 eA z.aJ.length (ae z.aJ)
structure eu (z:Zn):Prop where
 aT:z.aT.length≤1000000
 aF:z.aF.length≤1000000
 aB:z.aB.length≤1000000
 aJ:z.aJ.length≤1000000
theorem cz.aQ {W W':World}{B:Nat}{z:Zn}{oA cA tA eA:Option Addr}(h:cz W B z oA cA tA eA)(x:∀p:Addr,p.block<B→W'.cell? p=W.cell? p):cz W' B z oA cA tA eA :=
 ⟨h.aT.aQ x,h.aF.aQ x,h.aB.aQ x,h.aJ.aQ x⟩
theorem aE.aK {w:World}{B size:Nat}{A:Option Addr}{n:Nat}{xs:List Value}(h:aE w B size A n xs)(x:0<n):∃b off,A=some ⟨b,off,none⟩∧b<B∧∀j u,xs[j]?=some u→w.cell? ⟨b,off+j,none⟩=some u:=h.2 x
theorem Ro (n:Int):bits .and .i64 n 3=n % 4:=by
 have h:(BitVec.ofInt 64 3).toNat=2 ^ 2-1:=by decide
 have key:(BitVec.ofInt 64 n &&& BitVec.ofInt 64 3).toNat=(n % ((2 ^ 64:Nat):Int)).toNat % 2 ^ 2:=by
  rw[BitVec.toNat_and,BitVec.toNat_ofInt,h,Nat.and_two_pow_sub_one_eq_mod]
 show IntKind.i64.wrap ((BitVec.ofInt 64 n &&& BitVec.ofInt 64 3).toNat:Nat)=n % 4
 rw[key,IntKind.wrap_i64];omega
theorem dB {v:Value}:ar (.slice none 0 0) v:=fun g h=>by simp[Value.ownBlock]at h
theorem Ho (l:List Int):∀u∈ae l,u.oneCell'=true:=by
 intro u y;obtain⟨x,_,rfl⟩:=List.mem_map.1 y;rfl
theorem Ow (l:List (Int×Int)):∀u∈bq l,u.oneCell'=true:=by
 intro u z;obtain⟨x,_,y⟩:=List.mem_flatMap.1 z;simp only[Ga,If,or_false]at y;rcases y with rfl|rfl <;> rfl
theorem Ba {w:World}{aN size n:Nat}{t:TypeId}{v:Value}{xs:List Value}(h:w.ownsRow aN t size v n xs):∃A c,v=.slice A n c∧n≤c∧c≤maxLen:=by
 rcases h.2 with⟨rfl,rfl⟩|⟨g,dA,aF,rfl,_,_,y,x,_⟩
 ·exact⟨none,0,rfl,Aw,By _⟩
 ·exact⟨_,dA,rfl,y,x⟩
theorem Ci {W:World}{aN size n:Nat}{t:TypeId}{v:Value}{xs:List Value}(h:W.ownsRow aN t size v n xs){b:Nat}{t0:TypeId}{cs:Array Value}(s:aH W b t0 cs)(z:t0≠t)(i:Nat)(u:Value):(W.setCell ⟨b,i,none⟩ u).ownsRow aN t size v n xs:=by
 refine⟨h.1,?_⟩;rcases h.2 with q|⟨g,dA,aF,y,r,x,p⟩
 ·exact .inl q
 ·have k:g≠b:=fun e=>s.dF (show aH W g t aF from x) z e.symm
  exact .inr ⟨g,dA,aF,y,r,(Bp _ _ _ _ k).trans x,p⟩
theorem Ce {W:World}{aN size n:Nat}{t:TypeId}{v:Value}{xs:List Value}(h:W.ownsRow aN t size v n xs)(b:0<n) :
  ∃g c,v=.slice (some ⟨g,0,none⟩) n c∧n≤c∧aN≤g∧g<W.heap.size∧∀j u,xs[j]?=some u→W.cell? ⟨g,j,none⟩=some u:=by
 rcases h.2 with⟨_,r⟩|⟨g,dA,aF,rfl,z,q,p,s,a,k⟩
 ·omega
 ·have y:aH W g t aF:=q;refine⟨g,dA,rfl,p,z,y.lt,fun j u x=>?_⟩;rw[y.cell];rw[←k,oe]at x;split at x
  ·simpa using x
  ·cases x
theorem Uh {P:Program}(w:World){ops:Array Oper}{o:Oper}{a:Act}{K:Act→World→Prop}{Q:Exit→Act→World→Prop}{E:Prop}(k:o.guard=none)(s x:Operand)(t:TypeId)
  (p:o.op=.call { callee:=.builtin .append,args:=#[s,x],argTypes:=#[t,t] }) (aN:Nat) (e:TypeId) (i:TypeInfo) (z:Value) (size bytes:Nat) (R:P.underlying t=some (.slice e)) (hi:P.info? e=some i) (H:i.zero=some z)
  (f:i.size=size) (l:i.bytes=bytes) (j:z.cells.size=size) (Z:0<size)
  (v:Value) (n:Nat) (xs:List Value) (q:a.eval s=v) (g:w.ownsRow aN e size v n xs)
  (B:Nat) (A:Option Addr) (m c:Nat) (y:List Value) (d:a.eval x=.slice A m c) (X:aE w B size A m y) (Y:∀u∈y,u.oneCell'=true)
  (b:n+m≤maxLen) (U:(n+m)*bytes≤140737488355328) (r:aN≤w.heap.size)
  (h:∀v' w',w'.ownsRow aN e size v' (n+m) (xs++y)→w.grownBy w' v.ownBlock→(v'.ownBlock=v.ownBlock∨v'.ownBlock=some w.heap.size)→K (a.put o.dst v') w') :
  if Region.wanted o (yielded ops a.tmps)=true then Oper.wp P o a w K Q else E:=by
 have V:Region.wanted o (yielded ops a.tmps)=true:=by simp[Region.wanted,k]
 rw[if_pos V];exact Ey w s x t p aN e i z size bytes R hi H f l j Z v n xs q g B A m c y d X Y b U r h
theorem Bf {w:World}{aN size n g:Nat}{t:TypeId}{v:Value}{xs:List Value}(h:w.ownsRow aN t size v n xs)(x:v.ownBlock=some g):aN≤g∧g<w.heap.size∧∃cs,aH w g t cs:=by
 rcases h.2 with⟨rfl,_⟩|⟨u,dA,aF,rfl,z,y,_⟩
 ·simp[Value.ownBlock]at x
 ·simp only[Value.ownBlock,Bv]at x;subst x;exact⟨z,(bN.1 y).1,aF,y⟩
theorem Cz {w w':World}{aN size n:Nat}{t:TypeId}{v:Value}{xs:List Value}(h:w.ownsRow aN t size v n xs) (k:∀g,v.ownBlock=some g→w'.heap[g]?=w.heap[g]?):w'.ownsRow aN t size v n xs:=by
 refine⟨h.1,?_⟩;rcases h.2 with p|⟨g,dA,aF,x,y,z,u⟩
 ·exact .inl p
 ·exact .inr ⟨g,dA,aF,x,y,(k g (by rw[x];rfl)).trans z,u⟩
theorem Ct {w w':World}{aN size n:Nat}{t:TypeId}{v u:Value}{xs:List Value}(h:w.ownsRow aN t size v n xs)(y:w.grownBy w' u.ownBlock)(z:ar v u):w'.ownsRow aN t size v n xs :=
 Cz h fun g e=>y.block g (Bf h e).2.1 (fun x=>z g e x.symm)
theorem Dl {w:World}{d p s1 a n1 e:Nat}{y x:TypeId}{v u:Value}{xs s:List Value}(h:w.ownsRow d y s1 v n1 xs)(k:w.ownsRow p x a u e s)(q:y≠x):ar v u:=fun g b r=>by
 obtain⟨_,_,cs,c⟩:=Bf h b;obtain⟨_,_,f,z⟩:=Bf k r;exact(c.dF z q) rfl
theorem Gx {w:World}{v u v':Value}{aN size n:Nat}{t:TypeId}{xs:List Value}(k:w.ownsRow aN t size u n xs)(p:ar v u)(x:v'.ownBlock=v.ownBlock∨v'.ownBlock=some w.heap.size):ar v' u:=fun g y z=>by
 rcases x with x|x
 ·exact p g (x ▸ y) z
 ·rw[x]at y
  injection y with y
  have:=(Bf k z).2.1;omega
structure gQ (w:World) (zb:Nat) (wr:World) (vo vu vt ve:Value) (z:Zn):Prop where
 box:aH wr zb 30 #[vo,vu,vt,ve]
 aT:wr.ownsRow w.heap.size 76 2 vo z.aT.length (bq z.aT)
 aF:wr.ownsRow w.heap.size 76 2 vu z.aF.length (bq z.aF)
 aB:wr.ownsRow w.heap.size 3 1 vt z.aB.length (ae z.aB)
 aJ:wr.ownsRow w.heap.size 3 1 ve z.aJ.length (ae z.aJ)
 mZ:ar vo vu
 nJ:ar vt ve
 fr:Fr (· = zb) w wr
 lM:zb<w.heap.size∨w.heap.size≤zb
section
variable {w wr w1 : World} {zb : Nat} {vo vu vt ve : Value} {z : Zn}
theorem gQ.go (h:gQ w zb wr vo vu vt ve z)(y:bT wr w1):gQ w zb w1 vo vu vt ve z :=
 ⟨y.aG h.box (fun x=>x),Ca h.aT y,Ca h.aF y,Ca h.aB y,Ca h.aJ y,h.mZ,h.nJ,h.fr.trans (y.mono fun _ _ x=>x.elim),h.lM⟩
theorem gQ.alloc (h:gQ w zb wr vo vu vt ve z)(o:Obj):gQ w zb (wr.alloc o) vo vu vt ve z:=h.go ((qu _ _).alloc o)
theorem gQ.drew (h:gQ w zb wr vo vu vt ve z):gQ w zb wr.drew vo vu vt ve z:=h.go ((qu _ _).drew)
theorem gQ.g_ (h:gQ w zb wr vo vu vt ve z){v:Value}(q:∀g,v.ownBlock=some g→w.heap.size≤g)(x:wr.grownBy w1 v.ownBlock)(i:Nat)(u:Value):Fr (· = zb) w (w1.setCell ⟨zb,i,none⟩ u) :=
 qJ ⟨x.os.trans h.fr.os,x.tape.trans h.fr.tape,x.output.trans h.fr.output,Ex h.fr.size x.size,fun k y p=>(x.block k (Dm y h.fr.size) (fun e=>by have:=q k e.symm;omega)).trans (h.fr.block k y p)⟩ (.inl rfl) _
theorem Co {aN size n g0:Nat}{t t0:TypeId}{v:Value}{xs:List Value}{cs:Array Value}(h:w.ownsRow aN t size v n xs)(x:aH w g0 t0 cs)(y:t0≠t)(i:Nat)(u:Value):(w.setCell ⟨g0,i,none⟩ u).ownsRow aN t size v n xs:=Ci h x y i u
theorem gQ.kY (h:gQ w zb wr vo vu vt ve z){v':Value} {p:(Int×Int)} (k:w1.ownsRow w.heap.size 76 2 v' (z.aT.length+1) (bq z.aT++[Aj p.1,Aj p.2])) (y:wr.grownBy w1 vo.ownBlock) (u:v'.ownBlock=vo.ownBlock∨v'.ownBlock=some wr.heap.size) :
  aH w1 zb 30 #[vo,vu,vt,ve]∧gQ w zb (w1.setCell ⟨zb,0,none⟩ v') v' vu vt ve { z with aT:=z.aT++[p] } := by
 have x:aH w1 zb 30 #[vo,vu,vt,ve]:=h.box.grown y fun e=>by
  obtain⟨_,_,cs,v⟩:=Bf h.aT e.symm;exact(h.box.dF v (by decide)) rfl
 refine⟨x,by have:=x.aZ 0 v';simpa using this,by have:=Co k x (by decide) 0 v';simpa [bq,po]using this,Co (Ct h.aF y (by exact h.mZ.symm)) x (by decide) 0 v',Co (Ct h.aB y (Dl h.aB h.aT (by decide))) x (by decide) 0 v',Co (Ct h.aJ y (Dl h.aJ h.aT (by decide))) x (by decide) 0 v',Gx h.aF h.mZ u,h.nJ,h.g_ (fun g e=>(Bf h.aT e).1) y _ _,h.lM⟩
theorem gQ.kM (h:gQ w zb wr vo vu vt ve z){v':Value} {p:(Int×Int)} (k:w1.ownsRow w.heap.size 76 2 v' (z.aF.length+1) (bq z.aF++[Aj p.1,Aj p.2])) (y:wr.grownBy w1 vu.ownBlock) (u:v'.ownBlock=vu.ownBlock∨v'.ownBlock=some wr.heap.size) :
  aH w1 zb 30 #[vo,vu,vt,ve]∧gQ w zb (w1.setCell ⟨zb,1,none⟩ v') vo v' vt ve { z with aF:=z.aF++[p] } := by
 have x:aH w1 zb 30 #[vo,vu,vt,ve]:=h.box.grown y fun e=>by
  obtain⟨_,_,cs,v⟩:=Bf h.aF e.symm;exact(h.box.dF v (by decide)) rfl
 refine⟨x,by have:=x.aZ 1 v';simpa using this,Co (Ct h.aT y (by exact h.mZ)) x (by decide) 1 v',by have:=Co k x (by decide) 1 v';simpa [bq,po]using this,Co (Ct h.aB y (Dl h.aB h.aF (by decide))) x (by decide) 1 v',Co (Ct h.aJ y (Dl h.aJ h.aF (by decide))) x (by decide) 1 v',(Gx h.aT h.mZ.symm u).symm,h.nJ,h.g_ (fun g e=>(Bf h.aF e).1) y _ _,h.lM⟩
theorem gQ.jY (h:gQ w zb wr vo vu vt ve z){v':Value}{p:Int} (k:w1.ownsRow w.heap.size 3 1 v' (z.aB.length+1) (ae z.aB++[Aj p])) (y:wr.grownBy w1 vt.ownBlock) (u:v'.ownBlock=vt.ownBlock∨v'.ownBlock=some wr.heap.size) :
  aH w1 zb 30 #[vo,vu,vt,ve]∧gQ w zb (w1.setCell ⟨zb,2,none⟩ v') vo vu v' ve { z with aB:=z.aB++[p] } := by
 have x:aH w1 zb 30 #[vo,vu,vt,ve]:=h.box.grown y fun e=>by
  obtain⟨_,_,cs,v⟩:=Bf h.aB e.symm;exact(h.box.dF v (by decide)) rfl
 refine⟨x,by have:=x.aZ 2 v';simpa using this,Co (Ct h.aT y (Dl h.aT h.aB (by decide))) x (by decide) 2 v',Co (Ct h.aF y (Dl h.aF h.aB (by decide))) x (by decide) 2 v',by have:=Co k x (by decide) 2 v';simpa [ae,po]using this,Co (Ct h.aJ y (by exact h.nJ.symm)) x (by decide) 2 v',h.mZ,Gx h.aJ h.nJ u,h.g_ (fun g e=>(Bf h.aB e).1) y _ _,h.lM⟩
theorem gQ.jx (h:gQ w zb wr vo vu vt ve z){v':Value}{p:Int} (k:w1.ownsRow w.heap.size 3 1 v' (z.aJ.length+1) (ae z.aJ++[Aj p])) (y:wr.grownBy w1 ve.ownBlock) (u:v'.ownBlock=ve.ownBlock∨v'.ownBlock=some wr.heap.size) :
  aH w1 zb 30 #[vo,vu,vt,ve]∧gQ w zb (w1.setCell ⟨zb,3,none⟩ v') vo vu vt v' { z with aJ:=z.aJ++[p] } := by
 have x:aH w1 zb 30 #[vo,vu,vt,ve]:=h.box.grown y fun e=>by
  obtain⟨_,_,cs,v⟩:=Bf h.aJ e.symm;exact(h.box.dF v (by decide)) rfl
 refine⟨x,by have:=x.aZ 3 v';simpa using this,Co (Ct h.aT y (Dl h.aT h.aJ (by decide))) x (by decide) 3 v',Co (Ct h.aF y (Dl h.aF h.aJ (by decide))) x (by decide) 3 v',Co (Ct h.aB y (by exact h.nJ)) x (by decide) 3 v',by have:=Co k x (by decide) 3 v';simpa [ae,po]using this,h.mZ,(Gx h.aB h.nJ.symm u).symm,h.g_ (fun g e=>(Bf h.aJ e).1) y _ _,h.lM⟩
def ZnOwn (B:Nat)(W:World)(z:Zn)(og cu to en:Value):Prop:=W.ownsRow B 76 2 og z.aT.length (bq z.aT)∧W.ownsRow B 76 2 cu z.aF.length (bq z.aF)∧W.ownsRow B 3 1 to z.aB.length (ae z.aB)∧W.ownsRow B 3 1 en z.aJ.length (ae z.aJ)
def Zhf (w:World)(z:Zn)(e:Ending)(w':World):Prop:=∃og cu to en,e=.returned (.agg #[og,cu,to,en])∧ZnOwn w.heap.size w' z og cu to en∧bT w w'
end
theorem Uu:∀(l:List (Int×Int)) (k:Nat) (x:Int×Int),l[k]?=some x→(bq l)[k*2]?=some (Aj x.1)∧(bq l)[k*2+1]?=some (Aj x.2)
 | [],k,x,h=>by simp at h
 |y::r,0,x,h=>by
  simp only[Ay,Bv]at h;subst h;exact⟨rfl,rfl⟩
 |y::r,k+1,x,h=>by
  have:=Uu r k x (by simpa using h);rw[Nat.add_mul];exact this
theorem Ph (l:List Int)(k:Nat)(x:Int) (h:l[k]?=some x):(ae l)[k]?=some (Aj x):=by
 unfold ae;rw[Cc,h];rfl
theorem Sa {α:Type}{l l':List α}{k:Nat}{x z:α} (h:l[k]?=some x) (y:l'[k]?=some z) (u:x≠z):l≠l':=fun e=>by
 subst e;rw[h]at y
 injection y with y
 exact u y
theorem Px {α:Type}{l l':List α}{k:Nat}{x:α} (h:l[k]?=some x) (y:l'[k]?=some x) (z:l.take k=l'.take k):l.take (k+1)=l'.take (k+1):=by
 rw[oh,oh,z,h,y]
theorem Ov:∀{l:List (Int×Int)} {i:Nat} (_:i<l.length) (p:Int×Int),bq (l.set i p)=((bq l).set (i*2) (Aj p.1)).set (i*2+1) (Aj p.2)
 |a::l,0,h,p=>by simp[bq]
 |a::l,i+1,h,p=>by
  have x:=Ov (l:=l) (i:=i) (by simpa using h) p;have:((bq (a::l)).set ((i+1)*2) (Aj p.1)).set ((i+1)*2+1) (Aj p.2)=Aj a.1::Aj a.2::((bq l).set (i*2) (Aj p.1)).set (i*2+1) (Aj p.2):=by
   rw[show (i+1)*2=i*2+1+1 by omega];rfl
  rw[this,←x];rfl
 | [],i,h,p=>by simp at h
end
section
open Go.RowKit
theorem Iq (n:Int)(w:World):Calls Tryz.prog 98 #[Aj n] w fun e w'=>e=.returned (Aj (Mc.bA n))∧w=w':=by
 go_enter Tryz.func98,Tryz.ntmps98;go_wp2;go_ret;exact⟨Cl (Pd n),rfl⟩
theorem Et (n:Int)(w:World):Calls Tryz.prog 176 #[Aj n] w fun e w'=>e=.returned (Aj (Mc.bA n))∧w=w':=by
 go_enter Tryz.func176,Tryz.ntmps176;go_wp2;go_ret;exact⟨Cl (Pd n),rfl⟩
theorem Qk (n d:Int)(w:World)(y:0<d)(u:d≤1000):Calls Tryz.prog 195 #[Aj n,Aj d] w fun e w'=>e=.returned (Aj (n % d))∧w=w':=by
 have x:=Aq (Ln n d y);have v:=oT n (show d≠0 by omega);have z:=oU n y;go_enter Tryz.func195,Tryz.ntmps195;go_wp2
 all_goals go_ret
 ·have x:=x.o;rw[if_pos ‹_›]at x;exact⟨Cl (by rw[x];exact pG _ (by omega)),rfl⟩
 ·have x:=x.o;rw[if_neg (by omega)]at x;exact⟨Cl x.symm,rfl⟩
theorem Jg (a b:Int)(w:World):Calls Tryz.prog 178 #[Aj a,Aj b] w fun e w'=>e=.returned (Aj (Mc.iD (Mc.eT a b)))∧w=w':=by
 by_cases z:b=0
 ·subst z;go_enter Tryz.func178,Tryz.ntmps178;go_wp2;go_ret;exact⟨Cl rfl,rfl⟩
 ·have p:Mc.eT a b=a.fdiv b:=by unfold Mc.eT;rw[if_neg z]
  have k:=Aq (Rd a b z);have u:=Aq p;have d:(b==0)=false:=beq_eq_false_iff_ne.2 z;clear p;by_cases x:a.tmod b≠0∧(decide (a<0)≠decide (b<0))
  ·have q:(a.tmod b != 0)=true:=bne_iff_ne.2 x.1;have s:(decide (a<0)==decide (b<0))=false:=beq_eq_false_iff_ne.2 x.2;have y:=Aq x;obtain⟨c,_⟩:=x;go_enter Tryz.func178,Tryz.ntmps178;go_wp2;go_ret;refine⟨Cl ?_,rfl⟩;rw[u.o,k.o,if_pos y.o];exact Yr _
  ·have y:=Aq x;clear x;by_cases v:a.tmod b=0
   ·have q:(a.tmod b != 0)=false:=by simp[v]
    go_enter Tryz.func178,Tryz.ntmps178;go_wp2;go_ret;refine⟨Cl ?_,rfl⟩;rw[u.o,k.o,if_neg y.o];exact Gr _
   ·have q:(a.tmod b != 0)=true:=bne_iff_ne.2 v;have s:(decide (a<0)==decide (b<0))=true:=by
     rcases r:(decide (a<0)==decide (b<0)) with _|_
     ·exact absurd ⟨v,beq_eq_false_iff_ne.1 r⟩ y.o
     ·rfl
    go_enter Tryz.func178,Tryz.ntmps178;go_wp2;go_ret;refine⟨Cl ?_,rfl⟩;rw[u.o,k.o,if_neg y.o];exact Gr _
theorem Hc (b:Bool)(w:World):Calls Tryz.prog 188 #[.bool b] w fun e w'=>e=.returned (Aj (Mc.bC b))∧w=w':=by
 cases b
 all_goals
  go_enter Tryz.func188,Tryz.ntmps188;go_wp2;go_ret;exact⟨rfl,rfl⟩
theorem Lm (a:Int)(w:World)(x:0≤a)(y:a≤1):Calls Tryz.prog 255 #[Aj a] w fun e w'=>e=.returned (Aj (a+1))∧w=w':=by
 have h:a=0∨a=1:=by omega
 rcases h with rfl|rfl
 all_goals
  clear x y;go_enter Tryz.func255,Tryz.ntmps255;go_wp2;go_ret;exact⟨rfl,rfl⟩
theorem Cu (b off:Nat)(a:Int)(w:World):Calls Tryz.prog 253 #[.pointer (some ⟨b,off,none⟩),Aj a] w fun e w'=>e=.returned (.pointer (some ⟨b,off+(if a=1 then 1 else 0),none⟩))∧w=w':=by
 by_cases h:a=1
 ·go_enter Tryz.func253,Tryz.ntmps253;go_wp2;go_ret;exact⟨rfl,rfl⟩
 ·go_enter Tryz.func253,Tryz.ntmps253;go_wp2;go_ret;exact⟨rfl,rfl⟩
end
section
open Go.RowKit
open Mc
def cI (w:World)(O:Nat→Prop):List Value→List (List (Int×Int))→Prop
 | [],[]=>True
 |v::vs,c::cs=>dK w O 96 2 v c.length (bq c)∧cI w O vs cs
 |_,_=>False
theorem cI.len {w:World}{O:Nat→Prop}:∀{vs:List Value} {cs:List (List (Int×Int))},cI w O vs cs→vs.length=cs.length
 | [],[],_=>rfl
 |_::_,_::_,h=>by simp[cI.len h.2]
 | [],_::_,h=>h.elim
 |_::_,[],h=>h.elim
theorem cI.get {w:World}{O:Nat→Prop}:∀{vs:List Value} {cs:List (List (Int×Int))},cI w O vs cs→∀{i:Nat} {c:List (Int×Int)},cs[i]?=some c→∃v,vs[i]?=some v∧dK w O 96 2 v c.length (bq c)
 |v::_,c::_,h,0,c',x=>by
  simp only[Ay,Bv]at x;subst x;exact⟨v,rfl,h.1⟩
 |_::_,_::_,h,i+1,c',x=>by
  simp only[Bc]at x ⊢;exact cI.get h.2 x
 | [],[],_,_,_,x=>by simp at x
 | [],_::_,h,_,_,_=>h.elim
 |_::_,[],h,_,_,_=>h.elim
theorem cI.aQ {w w':World}{O O':Nat→Prop} (y:∀g cs,O g→aH w g 96 cs→w'.heap[g]?=w.heap[g]?) (x:∀k,O k→O' k):∀{vs:List Value} {cs:List (List (Int×Int))},cI w O vs cs→cI w' O' vs cs
 | [],[],_=>trivial
 |_::_,_::_,h=>⟨h.1.aQ (fun g u=>by obtain⟨v,_,cs,z⟩:=h.1.block u;exact y g cs v z) x,cI.aQ y x h.2⟩
 | [],_::_,h=>h.elim
 |_::_,[],h=>h.elim
def gd:List Value→List Fm→List Value
 |v::vs,f::fs=>gd vs fs++[v,Aj f.next,Aj f.a_]
 |_,_=>[]
theorem Kg:∀(vs:List Value)(fs:List Fm),vs.length=fs.length→(gd vs fs).length=fs.length*3
 | [],[],_=>rfl
 |_::vs,_::fs,h=>by simp only[gd,Bz,Kg vs fs (by simpa using h),Bo,Bw];omega
 | [],_::_,h=>by simp at h
 |_::_,[],h=>by simp at h
def Mq:Nat→Fn×Option (TypeId×Fn)
 |1=>(.func 166,none)
 |2=>(.func 168,none)
 |3=>(.func 170,none)
 |4=>(.func 171,none)
 |5=>(.func 250,some (74,.func 173))
 |6=>(.func 250,some (74,.func 174))
 |7=>(.func 250,some (74,.func 175))
 |8=>(.func 250,some (74,.func 177))
 |9=>(.func 251,some (117,.func 180))
 |10=>(.func 251,some (117,.func 181))
 |11=>(.func 250,some (74,.func 182))
 |12=>(.func 250,some (74,.func 183))
 |13=>(.func 251,some (117,.func 184))
 |14=>(.func 251,some (117,.func 185))
 |15=>(.func 186,none)
 |16=>(.func 250,some (74,.func 187))
 |17=>(.func 250,some (74,.func 189))
 |18=>(.func 250,some (74,.func 190))
 |19=>(.func 251,some (117,.func 191))
 |20=>(.func 250,some (74,.func 192))
 |21=>(.func 250,some (74,.func 193))
 |22=>(.func 194,none)
 |23=>(.func 196,none)
 |24=>(.func 197,none)
 |25=>(.func 198,none)
 |26=>(.func 200,none)
 |27=>(.func 202,none)
 |28=>(.func 203,none)
 |29=>(.func 204,none)
 |30=>(.func 206,none)
 |31=>(.func 207,none)
 |32=>(.func 209,none)
 |33=>(.func 211,none)
 |34=>(.func 213,none)
 |35=>(.func 215,none)
 |36=>(.func 217,none)
 |37=>(.func 219,none)
 |38=>(.func 221,none)
 |_=>(.func 223,none)
def Ng (bs:Nat→Nat)(i:Nat):Value:=.func (Mq i).1 #[] (match (Mq i).2 with|some _=>#[.pointer (some ⟨bs i,0,none⟩)]|none=>#[])
def Gu (bs:Nat→Nat)(n:Nat):List MapEntry:=(List.range n).map fun i=>⟨Aj ((i+1:Nat):Int),Ng bs (i+1),i⟩
def DeedBox (w:World)(O:Nat→Prop)(bs:Nat→Nat)(i:Nat):Prop:=match (Mq i).2 with|some (t,f)=>O (bs i)∧aH w (bs i) t #[.func f #[] #[]]|none=>True
def eE (w:World)(O:Nat→Prop)(x:Nat):Prop:=O x∧∃bs clock,w.heap[x]?=some (.map (Gu bs 39).toArray clock)∧∀i,1≤i→i≤39→DeedBox w O bs i
theorem eE.aQ {w w':World}{O O':Nat→Prop}{x:Nat}(h:eE w O x) (z:w'.heap[x]?=w.heap[x]?) (q:∀g t cs,O g→(t=74∨t=117)→aH w g t cs→w'.heap[g]?=w.heap[g]?) (y:∀k,O k→O' k):eE w' O' x:=by
 obtain⟨u,bs,clock,r,v⟩:=h;refine⟨y _ u,bs,clock,z.trans r,fun i p s=>?_⟩;have:=v i p s;unfold DeedBox at this ⊢;split at this
 ·rename_i t f e;refine⟨y _ this.1,(q _ t _ this.1 ?_ this.2).trans this.2⟩;unfold Mq at e;split at e <;> first|(cases e;done)|(cases e;first|exact .inl rfl|exact .inr rfl)
 ·trivial
end
section
open Go.RowKit Mc
structure bd where
 cs:Array Value
 fu:Value
 mG:List Value
 fr:Value
 iu:List Value
 og:Value
 cu:Value
 to:Value
 en:Value
 co:Value
 cv:Value
 sk:Value
 db:Nat
structure eH (L:bd) (s:St):Prop where
 sz:L.cs.size=50
 dR:s.store.length=32
 st:∀(i:Nat) x,s.store[i]?=some x→L.cs[8+i]?=some (Aj x)
 c0:L.cs[0]?=some L.fu
 c1:L.cs[1]?=some L.fr
 c2:L.cs[2]?=some L.og
 c3:L.cs[3]?=some L.cu
 c4:L.cs[4]?=some L.to
 c5:L.cs[5]?=some L.en
 c6:L.cs[6]?=some L.co
 c7:L.cs[7]?=some L.cv
 dY:L.cs[40]?=some L.sk
 iJ:L.cs[41]?=some (Aj s.size)
 dH:L.cs[42]?=some (Aj s.look)
 dO:L.cs[43]?=some (Aj s.move)
 gW:L.cs[44]?=some (Aj s.bG)
 gV:L.cs[45]?=some (Aj s.steps)
 gB:L.cs[46]?=some (Aj s.aL)
 ey:L.cs[47]?=some (.bool s.ai)
 iH:L.cs[48]?=some (Aj s.bp)
 gx:L.cs[49]?=some (.map (some L.db))
theorem eH.lh {L:bd}{s:St}(h:eH L s)(u:Value)(vs:List Value)(fs:List Fm):eH { L with cs:=L.cs.setIfInBounds 1 u,fr:=u,iu:=vs } { s with aD:=fs } := by
 have v:=h.sz;have z:=h.dR;refine⟨by simp only[Dr];exact h.sz,h.dR,fun j x y=>?_,?_,?_,?_,?_,?_,?_,?_,?_,?_,?_,?_,?_,?_,?_,?_,?_,?_,?_⟩
 ·have:j<s.store.length:=(aS.1 y).1;rw[Ax (by omega)];exact h.st j x y
 ·rw[Ax (by decide)];exact h.c0
 ·rw[Dw (by omega)]
 ·rw[Ax (by decide)];exact h.c2
 ·rw[Ax (by decide)];exact h.c3
 ·rw[Ax (by decide)];exact h.c4
 ·rw[Ax (by decide)];exact h.c5
 ·rw[Ax (by decide)];exact h.c6
 ·rw[Ax (by decide)];exact h.c7
 ·rw[Ax (by decide)];exact h.dY
 ·rw[Ax (by decide)];exact h.iJ
 ·rw[Ax (by decide)];exact h.dH
 ·rw[Ax (by decide)];exact h.dO
 ·rw[Ax (by decide)];exact h.gW
 ·rw[Ax (by decide)];exact h.gV
 ·rw[Ax (by decide)];exact h.gB
 ·rw[Ax (by decide)];exact h.ey
 ·rw[Ax (by decide)];exact h.iH
 ·rw[Ax (by decide)];exact h.gx
theorem eH.mO {L:bd}{s:St}(h:eH L s)(u:Value)(l:List Int):eH { L with cs:=L.cs.setIfInBounds 40 u,sk:=u } { s with stack:=l } := by
 have v:=h.sz;have z:=h.dR;refine⟨by simp only[Dr];exact h.sz,h.dR,fun j x y=>?_,?_,?_,?_,?_,?_,?_,?_,?_,?_,?_,?_,?_,?_,?_,?_,?_,?_,?_⟩
 ·have:j<s.store.length:=(aS.1 y).1;rw[Ax (by omega)];exact h.st j x y
 ·rw[Ax (by decide)];exact h.c0
 ·rw[Ax (by decide)];exact h.c1
 ·rw[Ax (by decide)];exact h.c2
 ·rw[Ax (by decide)];exact h.c3
 ·rw[Ax (by decide)];exact h.c4
 ·rw[Ax (by decide)];exact h.c5
 ·rw[Ax (by decide)];exact h.c6
 ·rw[Ax (by decide)];exact h.c7
 ·rw[Dw (by omega)]
 ·rw[Ax (by decide)];exact h.iJ
 ·rw[Ax (by decide)];exact h.dH
 ·rw[Ax (by decide)];exact h.dO
 ·rw[Ax (by decide)];exact h.gW
 ·rw[Ax (by decide)];exact h.gV
 ·rw[Ax (by decide)];exact h.gB
 ·rw[Ax (by decide)];exact h.ey
 ·rw[Ax (by decide)];exact h.iH
 ·rw[Ax (by decide)];exact h.gx
theorem eH.ie {L:bd}{s:St}(h:eH L s)(n:Int):eH { L with cs:=L.cs.setIfInBounds 42 (Aj n) } { s with look:=n } := by
 have u:=h.sz;have z:=h.dR;refine⟨by simp only[Dr];exact h.sz,h.dR,fun j x y=>?_,?_,?_,?_,?_,?_,?_,?_,?_,?_,?_,?_,?_,?_,?_,?_,?_,?_,?_⟩
 ·have:j<s.store.length:=(aS.1 y).1;rw[Ax (by omega)];exact h.st j x y
 ·rw[Ax (by decide)];exact h.c0
 ·rw[Ax (by decide)];exact h.c1
 ·rw[Ax (by decide)];exact h.c2
 ·rw[Ax (by decide)];exact h.c3
 ·rw[Ax (by decide)];exact h.c4
 ·rw[Ax (by decide)];exact h.c5
 ·rw[Ax (by decide)];exact h.c6
 ·rw[Ax (by decide)];exact h.c7
 ·rw[Ax (by decide)];exact h.dY
 ·rw[Ax (by decide)];exact h.iJ
 ·rw[Dw (by omega)]
 ·rw[Ax (by decide)];exact h.dO
 ·rw[Ax (by decide)];exact h.gW
 ·rw[Ax (by decide)];exact h.gV
 ·rw[Ax (by decide)];exact h.gB
 ·rw[Ax (by decide)];exact h.ey
 ·rw[Ax (by decide)];exact h.iH
 ·rw[Ax (by decide)];exact h.gx
theorem eH.ij {L:bd}{s:St}(h:eH L s)(n:Int):eH { L with cs:=L.cs.setIfInBounds 43 (Aj n) } { s with move:=n } := by
 have u:=h.sz;have z:=h.dR;refine⟨by simp only[Dr];exact h.sz,h.dR,fun j x y=>?_,?_,?_,?_,?_,?_,?_,?_,?_,?_,?_,?_,?_,?_,?_,?_,?_,?_,?_⟩
 ·have:j<s.store.length:=(aS.1 y).1;rw[Ax (by omega)];exact h.st j x y
 ·rw[Ax (by decide)];exact h.c0
 ·rw[Ax (by decide)];exact h.c1
 ·rw[Ax (by decide)];exact h.c2
 ·rw[Ax (by decide)];exact h.c3
 ·rw[Ax (by decide)];exact h.c4
 ·rw[Ax (by decide)];exact h.c5
 ·rw[Ax (by decide)];exact h.c6
 ·rw[Ax (by decide)];exact h.c7
 ·rw[Ax (by decide)];exact h.dY
 ·rw[Ax (by decide)];exact h.iJ
 ·rw[Ax (by decide)];exact h.dH
 ·rw[Dw (by omega)]
 ·rw[Ax (by decide)];exact h.gW
 ·rw[Ax (by decide)];exact h.gV
 ·rw[Ax (by decide)];exact h.gB
 ·rw[Ax (by decide)];exact h.ey
 ·rw[Ax (by decide)];exact h.iH
 ·rw[Ax (by decide)];exact h.gx
theorem eH.iY {L:bd}{s:St}(h:eH L s)(n:Int):eH { L with cs:=L.cs.setIfInBounds 44 (Aj n) } { s with bG:=n } := by
 have u:=h.sz;have z:=h.dR;refine⟨by simp only[Dr];exact h.sz,h.dR,fun j x y=>?_,?_,?_,?_,?_,?_,?_,?_,?_,?_,?_,?_,?_,?_,?_,?_,?_,?_,?_⟩
 ·have:j<s.store.length:=(aS.1 y).1;rw[Ax (by omega)];exact h.st j x y
 ·rw[Ax (by decide)];exact h.c0
 ·rw[Ax (by decide)];exact h.c1
 ·rw[Ax (by decide)];exact h.c2
 ·rw[Ax (by decide)];exact h.c3
 ·rw[Ax (by decide)];exact h.c4
 ·rw[Ax (by decide)];exact h.c5
 ·rw[Ax (by decide)];exact h.c6
 ·rw[Ax (by decide)];exact h.c7
 ·rw[Ax (by decide)];exact h.dY
 ·rw[Ax (by decide)];exact h.iJ
 ·rw[Ax (by decide)];exact h.dH
 ·rw[Ax (by decide)];exact h.dO
 ·rw[Dw (by omega)]
 ·rw[Ax (by decide)];exact h.gV
 ·rw[Ax (by decide)];exact h.gB
 ·rw[Ax (by decide)];exact h.ey
 ·rw[Ax (by decide)];exact h.iH
 ·rw[Ax (by decide)];exact h.gx
theorem eH.fC {L:bd}{s:St}(h:eH L s)(n:Nat):eH { L with cs:=L.cs.setIfInBounds 45 (Aj n) } { s with steps:=n } := by
 have u:=h.sz;have z:=h.dR;refine⟨by simp only[Dr];exact h.sz,h.dR,fun j x y=>?_,?_,?_,?_,?_,?_,?_,?_,?_,?_,?_,?_,?_,?_,?_,?_,?_,?_,?_⟩
 ·have:j<s.store.length:=(aS.1 y).1;rw[Ax (by omega)];exact h.st j x y
 ·rw[Ax (by decide)];exact h.c0
 ·rw[Ax (by decide)];exact h.c1
 ·rw[Ax (by decide)];exact h.c2
 ·rw[Ax (by decide)];exact h.c3
 ·rw[Ax (by decide)];exact h.c4
 ·rw[Ax (by decide)];exact h.c5
 ·rw[Ax (by decide)];exact h.c6
 ·rw[Ax (by decide)];exact h.c7
 ·rw[Ax (by decide)];exact h.dY
 ·rw[Ax (by decide)];exact h.iJ
 ·rw[Ax (by decide)];exact h.dH
 ·rw[Ax (by decide)];exact h.dO
 ·rw[Ax (by decide)];exact h.gW
 ·rw[Dw (by omega)]
 ·rw[Ax (by decide)];exact h.gB
 ·rw[Ax (by decide)];exact h.ey
 ·rw[Ax (by decide)];exact h.iH
 ·rw[Ax (by decide)];exact h.gx
theorem eH.jg {L:bd}{s:St}(h:eH L s)(n:Nat):eH { L with cs:=L.cs.setIfInBounds 46 (Aj n) } { s with aL:=n } := by
 have u:=h.sz;have z:=h.dR;refine⟨by simp only[Dr];exact h.sz,h.dR,fun j x y=>?_,?_,?_,?_,?_,?_,?_,?_,?_,?_,?_,?_,?_,?_,?_,?_,?_,?_,?_⟩
 ·have:j<s.store.length:=(aS.1 y).1;rw[Ax (by omega)];exact h.st j x y
 ·rw[Ax (by decide)];exact h.c0
 ·rw[Ax (by decide)];exact h.c1
 ·rw[Ax (by decide)];exact h.c2
 ·rw[Ax (by decide)];exact h.c3
 ·rw[Ax (by decide)];exact h.c4
 ·rw[Ax (by decide)];exact h.c5
 ·rw[Ax (by decide)];exact h.c6
 ·rw[Ax (by decide)];exact h.c7
 ·rw[Ax (by decide)];exact h.dY
 ·rw[Ax (by decide)];exact h.iJ
 ·rw[Ax (by decide)];exact h.dH
 ·rw[Ax (by decide)];exact h.dO
 ·rw[Ax (by decide)];exact h.gW
 ·rw[Ax (by decide)];exact h.gV
 ·rw[Dw (by omega)]
 ·rw[Ax (by decide)];exact h.ey
 ·rw[Ax (by decide)];exact h.iH
 ·rw[Ax (by decide)];exact h.gx
theorem eH.gq {L:bd}{s:St}(h:eH L s)(b:Bool):eH { L with cs:=L.cs.setIfInBounds 47 (.bool b) } { s with ai:=b } := by
 have u:=h.sz;have z:=h.dR;refine⟨by simp only[Dr];exact h.sz,h.dR,fun j x y=>?_,?_,?_,?_,?_,?_,?_,?_,?_,?_,?_,?_,?_,?_,?_,?_,?_,?_,?_⟩
 ·have:j<s.store.length:=(aS.1 y).1;rw[Ax (by omega)];exact h.st j x y
 ·rw[Ax (by decide)];exact h.c0
 ·rw[Ax (by decide)];exact h.c1
 ·rw[Ax (by decide)];exact h.c2
 ·rw[Ax (by decide)];exact h.c3
 ·rw[Ax (by decide)];exact h.c4
 ·rw[Ax (by decide)];exact h.c5
 ·rw[Ax (by decide)];exact h.c6
 ·rw[Ax (by decide)];exact h.c7
 ·rw[Ax (by decide)];exact h.dY
 ·rw[Ax (by decide)];exact h.iJ
 ·rw[Ax (by decide)];exact h.dH
 ·rw[Ax (by decide)];exact h.dO
 ·rw[Ax (by decide)];exact h.gW
 ·rw[Ax (by decide)];exact h.gV
 ·rw[Ax (by decide)];exact h.gB
 ·rw[Dw (by omega)]
 ·rw[Ax (by decide)];exact h.iH
 ·rw[Ax (by decide)];exact h.gx
theorem eH.nS {L:bd}{s:St}(h:eH L s)(n:Int):eH { L with cs:=L.cs.setIfInBounds 48 (Aj n) } { s with bp:=n } := by
 have u:=h.sz;have z:=h.dR;refine⟨by simp only[Dr];exact h.sz,h.dR,fun j x y=>?_,?_,?_,?_,?_,?_,?_,?_,?_,?_,?_,?_,?_,?_,?_,?_,?_,?_,?_⟩
 ·have:j<s.store.length:=(aS.1 y).1;rw[Ax (by omega)];exact h.st j x y
 ·rw[Ax (by decide)];exact h.c0
 ·rw[Ax (by decide)];exact h.c1
 ·rw[Ax (by decide)];exact h.c2
 ·rw[Ax (by decide)];exact h.c3
 ·rw[Ax (by decide)];exact h.c4
 ·rw[Ax (by decide)];exact h.c5
 ·rw[Ax (by decide)];exact h.c6
 ·rw[Ax (by decide)];exact h.c7
 ·rw[Ax (by decide)];exact h.dY
 ·rw[Ax (by decide)];exact h.iJ
 ·rw[Ax (by decide)];exact h.dH
 ·rw[Ax (by decide)];exact h.dO
 ·rw[Ax (by decide)];exact h.gW
 ·rw[Ax (by decide)];exact h.gV
 ·rw[Ax (by decide)];exact h.gB
 ·rw[Ax (by decide)];exact h.ey
 ·rw[Dw (by omega)]
 ·rw[Ax (by decide)];exact h.gx
theorem eH.kU {L:bd}{s:St}(h:eH L s)(i:Nat)(n:Int)(hi:i<32):eH { L with cs:=L.cs.setIfInBounds (8+i) (Aj n) } { s with store:=s.store.set i n } := by
 have z:=h.sz;have u:=h.dR;refine⟨by simp only[Dr];exact h.sz,by simp only[Dd];exact h.dR,fun j x y=>?_,?_,?_,?_,?_,?_,?_,?_,?_,?_,?_,?_,?_,?_,?_,?_,?_,?_,?_⟩
 ·simp only[Iu]at y;rw[Array.getElem?_setIfInBounds];by_cases e:i=j
  ·subst e;rw[if_pos rfl,if_pos (by omega)]at y
   injection y with y
   subst y;rw[if_pos rfl,if_pos (by omega)]
  ·rw[if_neg e]at y;rw[if_neg (by omega)];exact h.st j x y
 ·rw[Ax (by omega)];exact h.c0
 ·rw[Ax (by omega)];exact h.c1
 ·rw[Ax (by omega)];exact h.c2
 ·rw[Ax (by omega)];exact h.c3
 ·rw[Ax (by omega)];exact h.c4
 ·rw[Ax (by omega)];exact h.c5
 ·rw[Ax (by omega)];exact h.c6
 ·rw[Ax (by omega)];exact h.c7
 ·rw[Ax (by omega)];exact h.dY
 ·rw[Ax (by omega)];exact h.iJ
 ·rw[Ax (by omega)];exact h.dH
 ·rw[Ax (by omega)];exact h.dO
 ·rw[Ax (by omega)];exact h.gW
 ·rw[Ax (by omega)];exact h.gV
 ·rw[Ax (by omega)];exact h.gB
 ·rw[Ax (by omega)];exact h.ey
 ·rw[Ax (by omega)];exact h.iH
 ·rw[Ax (by omega)];exact h.gx
structure ag (w:World) (mb:Nat) (O:Nat→Prop) (L:bd) (s:St):Prop where
 ew:O mb
 eQ:∀k,O k→k<w.heap.size
 aG:aH w mb 212 L.cs
 c:eH L s
 fu:dK w O 24 1 L.fu s.funcs.length L.mG
 fr:dK w O 205 3 L.fr s.aD.length (gd L.iu s.aD)
 og:dK w O 76 2 L.og s.aT.length (bq s.aT)
 cu:dK w O 76 2 L.cu s.aF.length (bq s.aF)
 to:dK w O 3 1 L.to s.aB.length (ae s.aB)
 en:dK w O 3 1 L.en s.aJ.length (ae s.aJ)
 co:dK w O 252 2 L.co s.bH.length (ir s.bH)
 cv:dK w O 3 1 L.cv s.aP.length (ae s.aP)
 sk:dK w O 3 1 L.sk s.stack.length (ae s.stack.reverse)
 jZ:cI w O L.mG s.funcs
 kH:cI w O L.iu (s.aD.map (·.aA))
 bQ:ar L.cu L.og
 cx:ar L.to L.en
 cS:ar L.to L.cv
 cU:ar L.to L.sk
 bW:ar L.en L.cv
 cq:ar L.en L.sk
 cH:ar L.cv L.sk
 dd:eE w O L.db
 ok:Ok s
section
variable {w w' : World} {O O' : Nat → Prop} {t : TypeId} {size : Nat} {v : Value} {n : Nat} {xs : List Value} {mb : Nat} {cs : Array Value} {r : Option Nat}
theorem dK.k (h:dK w O t size v n xs)(y:aH w mb 212 cs)(u:t≠212) (q:∀k,O k→k≠mb→some k≠r→w'.heap[k]?=w.heap[k]?) (p:∀g,v.ownBlock=some g→r≠some g) (z:∀k,O k→O' k):dK w' O' t size v n xs :=
 h.aQ (fun g x=>q g (h.2 g x) (h.bz y u x) (fun e=>p g x e.symm)) z
theorem cI.k {vs:List Value} {cl:List (List (Int×Int))} (h:cI w O vs cl) (y:aH w mb 212 cs) (p:∀k,O k→k≠mb→some k≠r→w'.heap[k]?=w.heap[k]?) (v:∀g cs,aH w g 96 cs→r≠some g) (z:∀k,O k→O' k):cI w' O' vs cl :=
 cI.aQ (fun g cs u x=>p g u (x.dF y (by decide)) (fun e=>v g cs x e.symm)) z h
theorem eE.k {z:Nat}(h:eE w O z)(y:aH w mb 212 cs) (v:∀k,O k→k≠mb→some k≠r→w'.heap[k]?=w.heap[k]?) {t0:TypeId} (s:t0≠74) (f:t0≠117) (u:∀g,r=some g→∃cs,aH w g t0 cs) (d:∀k,O k→O' k):eE w' O' z:=by
 refine h.aQ ?_ (fun g t cs b q x=>v g b ?_ ?_) d
 ·obtain⟨c,bs,clock,p,_⟩:=h;refine v z c ?_ ?_
  ·rintro rfl;unfold aH at y;rw[p]at y;cases y
  ·intro e;obtain⟨cs,x⟩:=u z e.symm;unfold aH at x;rw[p]at x;cases x
 ·exact x.dF y (by rcases q with rfl|rfl <;> decide)
 ·intro e;obtain⟨i,a⟩:=u g e.symm;exact x.dF a (by rcases q with rfl|rfl <;> first|exact s.symm|exact f.symm) rfl
end
section
variable {w w' : World} {mb : Nat} {O O' : Nat → Prop} {L : bd} {s : St}
theorem ag.aQ (h:ag w mb O L s) (y:∀k,O k→w'.heap[k]?=w.heap[k]?) (z:∀k,O k→O' k) (u:∀k,O' k→k<w'.heap.size):ag w' mb O' L s :=
 ⟨z _ h.ew,u,(y mb h.ew).trans h.aG,h.c,h.fu.aQ (fun g x=>y g (h.fu.2 g x)) z,h.fr.aQ (fun g x=>y g (h.fr.2 g x)) z,h.og.aQ (fun g x=>y g (h.og.2 g x)) z,h.cu.aQ (fun g x=>y g (h.cu.2 g x)) z,h.to.aQ (fun g x=>y g (h.to.2 g x)) z,h.en.aQ (fun g x=>y g (h.en.2 g x)) z,h.co.aQ (fun g x=>y g (h.co.2 g x)) z,h.cv.aQ (fun g x=>y g (h.cv.2 g x)) z,h.sk.aQ (fun g x=>y g (h.sk.2 g x)) z,h.jZ.aQ (fun g _ x _=>y g x) z,h.kH.aQ (fun g _ x _=>y g x) z,h.bQ,h.cx,h.cS,h.cU,h.bW,h.cq,h.cH,h.dd.aQ (y _ h.dd.1) (fun g _ _ x _ _=>y g x) z,h.ok⟩
theorem ag.mono (h:ag w mb O L s)(x:∀k,O k→O' k)(y:∀k,O' k→k<w.heap.size):ag w mb O' L s:=h.aQ (fun _ _=>rfl) x y
theorem ag.cells (h:ag w mb O L s){cs':Array Value}{p:List Int}{v q r:Int}{b u:Nat}{c:Bool}{a:Int}(i:aH w' mb 212 cs') (d:eH { L with cs:=cs' } { s with store:=p,look:=v,move:=q,bG:=r,steps:=b,aL:=u,ai:=c,bp:=a }) (y:∀k,O k→k≠mb→some k≠none→w'.heap[k]?=w.heap[k]?) (x:∀k,O k→O' k) (l:∀k,O' k→k<w'.heap.size) (f:Ok { s with store:=p,look:=v,move:=q,bG:=r,steps:=b,aL:=u,ai:=c,bp:=a }):ag w' mb O' { L with cs:=cs' } { s with store:=p,look:=v,move:=q,bG:=r,steps:=b,aL:=u,ai:=c,bp:=a } := by
 exact⟨x _ h.ew,l,i,d,h.fu.k h.aG (by decide) y (fun g z e=>by cases e) x,h.fr.k h.aG (by decide) y (fun g z e=>by cases e) x,h.og.k h.aG (by decide) y (fun g z e=>by cases e) x,h.cu.k h.aG (by decide) y (fun g z e=>by cases e) x,h.to.k h.aG (by decide) y (fun g z e=>by cases e) x,h.en.k h.aG (by decide) y (fun g z e=>by cases e) x,h.co.k h.aG (by decide) y (fun g z e=>by cases e) x,h.cv.k h.aG (by decide) y (fun g z e=>by cases e) x,h.sk.k h.aG (by decide) y (fun g z e=>by cases e) x,h.jZ.k h.aG y (fun g cs j e=>by cases e) x,h.kH.k h.aG y (fun g cs j e=>by cases e) x,h.bQ,h.cx,h.cS,h.cU,h.bW,h.cq,h.cH,h.dd.k h.aG y (t0:=3) (by decide) (by decide) (fun g e=>by cases e) x,f⟩
theorem ag.stack (h:ag w mb O L s){u:Value}{cs':Array Value}{l:List Int}(i:aH w' mb 212 cs') (d:eH { L with cs:=cs',sk:=u } { s with stack:=l }) (f:dK w' O' 3 1 u l.length (ae l.reverse)) (a:∀g,u.ownBlock=some g→L.sk.ownBlock=some g∨w.heap.size≤g) (z:∀k,O k→k≠mb→some k≠L.sk.ownBlock→w'.heap[k]?=w.heap[k]?) (y:∀k,O k→O' k) (m:∀k,O' k→k<w'.heap.size) (j:Ok { s with stack:=l }):ag w' mb O' { L with cs:=cs',sk:=u } { s with stack:=l } := by
 exact⟨y _ h.ew,m,i,d,h.fu.k h.aG (by decide) z (fun g x=>h.fu.apart h.sk (by decide) g x) y,h.fr.k h.aG (by decide) z (fun g x=>h.fr.apart h.sk (by decide) g x) y,h.og.k h.aG (by decide) z (fun g x=>h.og.apart h.sk (by decide) g x) y,h.cu.k h.aG (by decide) z (fun g x=>h.cu.apart h.sk (by decide) g x) y,h.to.k h.aG (by decide) z (fun g x=>h.cU g x) y,h.en.k h.aG (by decide) z (fun g x=>h.cq g x) y,h.co.k h.aG (by decide) z (fun g x=>h.co.apart h.sk (by decide) g x) y,h.cv.k h.aG (by decide) z (fun g x=>h.cH g x) y,f,h.jZ.k h.aG z (fun g cs c e=>by obtain⟨_,_,b,q⟩:=h.sk.block e;exact c.dF q (by decide) rfl) y,h.kH.k h.aG z (fun g cs c e=>by obtain⟨_,_,b,q⟩:=h.sk.block e;exact c.dF q (by decide) rfl) y,h.bQ,h.cx,h.cS,(qK ((fun g r v=>by rcases a g r with p|p;exact(h.cU.symm) g p v;have:=(h.to.block v).2.1;omega))),h.bW,(qK ((fun g r v=>by rcases a g r with p|p;exact(h.cq.symm) g p v;have:=(h.en.block v).2.1;omega))),(qK ((fun g r v=>by rcases a g r with p|p;exact(h.cH.symm) g p v;have:=(h.cv.block v).2.1;omega))),h.dd.k h.aG z (t0:=3) (by decide) (by decide) (fun g e=>by obtain⟨_,_,b,q⟩:=h.sk.block e;exact⟨b,q⟩) y,j⟩
theorem ag.dv (h:ag w mb O L s){u:Value}{cs':Array Value}{vs:List Value}{fs:List Fm} (r:cI w' O' vs (fs.map (·.aA))) (b:aH w' mb 212 cs') (q:eH { L with cs:=cs',fr:=u,iu:=vs } { s with aD:=fs }) (a:dK w' O' 205 3 u fs.length (gd vs fs)) (_hnew:∀g,u.ownBlock=some g→L.fr.ownBlock=some g∨w.heap.size≤g) (z:∀k,O k→k≠mb→some k≠L.fr.ownBlock→w'.heap[k]?=w.heap[k]?) (y:∀k,O k→O' k) (f:∀k,O' k→k<w'.heap.size) (c:Ok { s with aD:=fs }):ag w' mb O' { L with cs:=cs',fr:=u,iu:=vs } { s with aD:=fs } := by
 exact⟨y _ h.ew,f,b,q,h.fu.k h.aG (by decide) z (fun g x=>h.fu.apart h.fr (by decide) g x) y,a,h.og.k h.aG (by decide) z (fun g x=>h.og.apart h.fr (by decide) g x) y,h.cu.k h.aG (by decide) z (fun g x=>h.cu.apart h.fr (by decide) g x) y,h.to.k h.aG (by decide) z (fun g x=>h.to.apart h.fr (by decide) g x) y,h.en.k h.aG (by decide) z (fun g x=>h.en.apart h.fr (by decide) g x) y,h.co.k h.aG (by decide) z (fun g x=>h.co.apart h.fr (by decide) g x) y,h.cv.k h.aG (by decide) z (fun g x=>h.cv.apart h.fr (by decide) g x) y,h.sk.k h.aG (by decide) z (fun g x=>h.sk.apart h.fr (by decide) g x) y,h.jZ.k h.aG z (fun g cs d e=>by obtain⟨_,_,p,v⟩:=h.fr.block e;exact d.dF v (by decide) rfl) y,r,h.bQ,h.cx,h.cS,h.cU,h.bW,h.cq,h.cH,h.dd.k h.aG z (t0:=205) (by decide) (by decide) (fun g e=>by obtain⟨_,_,p,v⟩:=h.fr.block e;exact⟨p,v⟩) y,c⟩
theorem ag.kX (h:ag w mb O L s) {l:List (Int×Int)} (a:l.length=s.aF.length) (b:dK w' O' 76 2 L.cu s.aF.length (bq l)) (q:w'.heap[mb]?=w.heap[mb]?) (z:∀k,O k→k≠mb→some k≠L.cu.ownBlock→w'.heap[k]?=w.heap[k]?) (y:∀k,O k→O' k) (d:∀k,O' k→k<w'.heap.size) (r:Ok { s with aF:=l }):ag w' mb O' L { s with aF:=l } := by
 exact⟨y _ h.ew,d,q.trans h.aG,⟨h.c.sz,h.c.dR,h.c.st,h.c.c0,h.c.c1,h.c.c2,h.c.c3,h.c.c4,h.c.c5,h.c.c6,h.c.c7,h.c.dY,h.c.iJ,h.c.dH,h.c.dO,h.c.gW,h.c.gV,h.c.gB,h.c.ey,h.c.iH,h.c.gx⟩,h.fu.k h.aG (by decide) z (fun g x=>h.fu.apart h.cu (by decide) g x) y,h.fr.k h.aG (by decide) z (fun g x=>h.fr.apart h.cu (by decide) g x) y,h.og.k h.aG (by decide) z (fun g x=>h.bQ.symm g x) y,by rw[a];exact b,h.to.k h.aG (by decide) z (fun g x=>h.to.apart h.cu (by decide) g x) y,h.en.k h.aG (by decide) z (fun g x=>h.en.apart h.cu (by decide) g x) y,h.co.k h.aG (by decide) z (fun g x=>h.co.apart h.cu (by decide) g x) y,h.cv.k h.aG (by decide) z (fun g x=>h.cv.apart h.cu (by decide) g x) y,h.sk.k h.aG (by decide) z (fun g x=>h.sk.apart h.cu (by decide) g x) y,h.jZ.k h.aG z (fun g cs p e=>by obtain⟨_,_,v,u⟩:=h.cu.block e;exact p.dF u (by decide) rfl) y,h.kH.k h.aG z (fun g cs p e=>by obtain⟨_,_,v,u⟩:=h.cu.block e;exact p.dF u (by decide) rfl) y,h.bQ,h.cx,h.cS,h.cU,h.bW,h.cq,h.cH,h.dd.k h.aG z (t0:=76) (by decide) (by decide) (fun g e=>by obtain⟨_,_,v,u⟩:=h.cu.block e;exact⟨v,u⟩) y,r⟩
theorem ag.jQ (h:ag w mb O L s){l:List Int}(a:l.length=s.aB.length) (b:dK w' O' 3 1 L.to s.aB.length (ae l)) (q:w'.heap[mb]?=w.heap[mb]?) (z:∀k,O k→k≠mb→some k≠L.to.ownBlock→w'.heap[k]?=w.heap[k]?) (y:∀k,O k→O' k) (d:∀k,O' k→k<w'.heap.size) (r:Ok { s with aB:=l }):ag w' mb O' L { s with aB:=l } := by
 exact⟨y _ h.ew,d,q.trans h.aG,⟨h.c.sz,h.c.dR,h.c.st,h.c.c0,h.c.c1,h.c.c2,h.c.c3,h.c.c4,h.c.c5,h.c.c6,h.c.c7,h.c.dY,h.c.iJ,h.c.dH,h.c.dO,h.c.gW,h.c.gV,h.c.gB,h.c.ey,h.c.iH,h.c.gx⟩,h.fu.k h.aG (by decide) z (fun g x=>h.fu.apart h.to (by decide) g x) y,h.fr.k h.aG (by decide) z (fun g x=>h.fr.apart h.to (by decide) g x) y,h.og.k h.aG (by decide) z (fun g x=>h.og.apart h.to (by decide) g x) y,h.cu.k h.aG (by decide) z (fun g x=>h.cu.apart h.to (by decide) g x) y,by rw[a];exact b,h.en.k h.aG (by decide) z (fun g x=>h.cx.symm g x) y,h.co.k h.aG (by decide) z (fun g x=>h.co.apart h.to (by decide) g x) y,h.cv.k h.aG (by decide) z (fun g x=>h.cS.symm g x) y,h.sk.k h.aG (by decide) z (fun g x=>h.cU.symm g x) y,h.jZ.k h.aG z (fun g cs p e=>by obtain⟨_,_,v,u⟩:=h.to.block e;exact p.dF u (by decide) rfl) y,h.kH.k h.aG z (fun g cs p e=>by obtain⟨_,_,v,u⟩:=h.to.block e;exact p.dF u (by decide) rfl) y,h.bQ,h.cx,h.cS,h.cU,h.bW,h.cq,h.cH,h.dd.k h.aG z (t0:=3) (by decide) (by decide) (fun g e=>by obtain⟨_,_,v,u⟩:=h.to.block e;exact⟨v,u⟩) y,r⟩
theorem ag.kQ (h:ag w mb O L s){l:List Int}(a:l.length=s.aP.length) (b:dK w' O' 3 1 L.cv s.aP.length (ae l)) (q:w'.heap[mb]?=w.heap[mb]?) (z:∀k,O k→k≠mb→some k≠L.cv.ownBlock→w'.heap[k]?=w.heap[k]?) (y:∀k,O k→O' k) (d:∀k,O' k→k<w'.heap.size) (r:Ok { s with aP:=l }):ag w' mb O' L { s with aP:=l } := by
 exact⟨y _ h.ew,d,q.trans h.aG,⟨h.c.sz,h.c.dR,h.c.st,h.c.c0,h.c.c1,h.c.c2,h.c.c3,h.c.c4,h.c.c5,h.c.c6,h.c.c7,h.c.dY,h.c.iJ,h.c.dH,h.c.dO,h.c.gW,h.c.gV,h.c.gB,h.c.ey,h.c.iH,h.c.gx⟩,h.fu.k h.aG (by decide) z (fun g x=>h.fu.apart h.cv (by decide) g x) y,h.fr.k h.aG (by decide) z (fun g x=>h.fr.apart h.cv (by decide) g x) y,h.og.k h.aG (by decide) z (fun g x=>h.og.apart h.cv (by decide) g x) y,h.cu.k h.aG (by decide) z (fun g x=>h.cu.apart h.cv (by decide) g x) y,h.to.k h.aG (by decide) z (fun g x=>h.cS g x) y,h.en.k h.aG (by decide) z (fun g x=>h.bW g x) y,h.co.k h.aG (by decide) z (fun g x=>h.co.apart h.cv (by decide) g x) y,by rw[a];exact b,h.sk.k h.aG (by decide) z (fun g x=>h.cH.symm g x) y,h.jZ.k h.aG z (fun g cs p e=>by obtain⟨_,_,v,u⟩:=h.cv.block e;exact p.dF u (by decide) rfl) y,h.kH.k h.aG z (fun g cs p e=>by obtain⟨_,_,v,u⟩:=h.cv.block e;exact p.dF u (by decide) rfl) y,h.bQ,h.cx,h.cS,h.cU,h.bW,h.cq,h.cH,h.dd.k h.aG z (t0:=3) (by decide) (by decide) (fun g e=>by obtain⟨_,_,v,u⟩:=h.cv.block e;exact⟨v,u⟩) y,r⟩
end
def ext (O:Nat→Prop)(w w':World)(k:Nat):Prop:=O k∨(w.heap.size≤k∧k<w'.heap.size)
section
variable {w w' w'' : World} {mb : Nat} {O : Nat → Prop} {L : bd} {s : St}
theorem ag.gu (h:ag w mb O L s)(y:w.heap.size≤w'.heap.size):∀k,ext O w w' k→k<w'.heap.size:=fun k x=>by
 rcases x with x|x
 ·have:=h.eQ k x;omega
 ·exact x.2
def aw (w:World)(mb:Nat)(O:Nat→Prop)(s:St)(e:Ending)(w':World):Prop:=e=.returned (.tuple #[])∧(∃L,ag w' mb (ext O w w') L s)∧Fr O w w'
theorem Fr.ext (h:Fr O w w') (k:Fr (ext O w w') w' w''):Fr O w w'' :=
 ⟨k.os.trans h.os,k.tape.trans h.tape,k.output.trans h.output,Ex h.size k.size,fun i hi x=>(k.block i (Dm hi h.size) (fun a=>by rcases a with a|a;exact x a;omega)).trans (h.block i hi x)⟩
theorem ag.alloc (h:ag w mb O L s)(o:Obj):ag (w.alloc o) mb O L s:=h.aQ (fun k x=>oW _ _ _ (h.eQ k x)) (fun _ h=>h) (fun k x=>by have:=h.eQ k x;simp;omega)
theorem ag.drew (h:ag w mb O L s):ag w.drew mb O L s:=h.aQ (fun _ _=>rfl) (fun _ h=>h) h.eQ
theorem ag.jt (h:ag w mb O L s){p:Addr}(y:¬ O p.block)(u:Value):ag (w.setCell p u) mb O L s :=
 h.aQ (fun k x=>Bp _ _ _ _ (fun e=>y (e ▸ x))) (fun _ h=>h) (fun k x=>by have:=h.eQ k x;simpa [World.setCell]using this)
end
end
section
open Go.RowKit Mc
theorem Kt (m:List Int)(x:Int):(ae (x::m).reverse)[m.length]?=some (Aj x):=by
 unfold ae;rw[qb,Cc,Dp (by simp)];simp
theorem Pf (m:List Int)(x y:Int):(ae (x::y::m).reverse)[m.length]?=some (Aj y):=by
 unfold ae;rw[qb,Cc,En (by simp),qb,Dp (by simp)];simp
theorem Pe (m a:List Int):(ae (a++m).reverse).take (m.length*1)=ae m.reverse:=by
 unfold ae;rw[←px,List.reverse_append,ox]
 congr 1
 exact List.take_left' (by simp)
theorem Mc.Ok.km {s:St}(h:Ok s){l:List Int}(z:∀x∈l,bI x)(y:l.length≤32):Ok { s with stack:=l } :=
 ⟨z,y,h.aP,h.store,h.dR,h.aF,h.aT,h.dL,h.aB,h.tl,h.size,h.look,h.move,h.bG,h.aL,h.aD,h.fW,h.funcs,h.jy,h.bH,h.ej,h.cX,h.iC,h.fY⟩
section
variable {w : World} {mb : Nat} {O : Nat → Prop} {L : bd} {s : St}
theorem ag.ld (h:ag w mb O L s){a r:List Int}(y:s.stack=a++r){A:Option Addr}{n c:Nat}(q:L.sk=.slice A n c){w1:World} (v:∀k,O k→w1.heap[k]?=w.heap[k]?) (o:w1.heap.size=w.heap.size) :
  ∃L',ag (w1.setCell ⟨mb,40,none⟩ (.slice A r.length c)) mb O L' { s with stack:=r } := by
 have j:n=(a++r).length:=by
  obtain⟨K,H,e,_⟩:=h.sk.form;rw[q]at e
  injection e with _ e
  rw[e,y]
 have z:ag w1 mb O L s:=h.aQ v (fun _ h=>h) (fun k d=>by have:=h.eQ k d;omega);have b:=z.sk.take (m:=r.length) (by rw[y];simp) (A:=A) (c:=c) (by rw[q,j,y]);rw[y,Pe]at b;have f:∀k,k≠mb→(w1.setCell ⟨mb,40,none⟩ (.slice A r.length c)).heap[k]?=w1.heap[k]?:=fun k v=>Bp _ _ _ _ v
 refine⟨_,z.stack (u:=.slice A r.length c) (l:=r) (z.aG.aZ 40 _) (z.c.mO _ _) (b.aQ (fun g p=>f g (fun e=>?_)) (fun _ h=>h)) ?_ (fun k _ v _=>f k v) (fun _ h=>h) (fun k d=>by have:=z.eQ k d;simpa [World.setCell]using this) (h.ok.km (fun x i=>h.ok.stack x (by rw[y];exact List.mem_append_right _ i)) (by have:=h.ok.dg;rw[y,Bz]at this;omega))⟩
 ·exact b.bz z.aG (by decide) p e
 ·intro g p;rw[q];cases A with
  |none=>simp[Value.ownBlock]at p
  |some a=>exact .inl p
end
theorem Yy (w:World)(mb:Nat)(O:Nat→Prop)(L:bd)(s:St)(h:ag w mb O L s)(x:Int)(r:List Int)(u:s.stack=x::r)(y sb:Nat)(P:Value) (z:aH w y 3 #[P]) (f:aH w sb 246 #[.pointer (some ⟨y,0,none⟩)]) (d:¬ O y) :
  Calls Tryz.prog 169 #[.pointer (some ⟨mb,0,none⟩),.slice (some ⟨sb,0,none⟩) 1 1] w fun e w'=>e=.returned (.tuple #[])∧(∃L',ag w' mb O L' { s with stack:=r })∧aH w' y 3 #[Aj x]∧Fr (fun k=>O k∨k=y) w w'∧∃v,w'=(w.setCell ⟨y,0,none⟩ (Aj x)).setCell ⟨mb,40,none⟩ v:=by
 have b:=h.sk;rw[u]at b;obtain⟨g,c,q,H,V,X,C,j,Z⟩:=b.aK (by simp);have J:=j r.length (Aj x) (Kt r x);have dY:=h.aG.cell 40;rw[h.c.dY,q]at dY;have E:=h.aG.frozen 40;have T:=h.aG.lt;have S:=f.cell 0;have N:=f.lt;have A:=z.cell 0;have D:=z.frozen 0;have I:=z.lt;simp only[Az,Ay]at S A;have n1:y≠mb:=fun e=>d (e ▸ h.ew)
 have G:=n1.symm;have B:y≠g:=fun e=>d (e ▸ X)
 have M:=B.symm;have K:=h.ok.dg;rw[u]at K;simp only[Bo]at K dY;have p:∀k,O k→(w.setCell ⟨y,0,none⟩ (Aj x)).heap[k]?=w.heap[k]?:=fun k p=>Bp _ _ _ _ (fun (e:k=y)=>d (e ▸ p))
 have i:=h.ld (a:=[x]) (r:=r) (by rw[u];rfl) q p (by simp[World.setCell]);have l:aH ((w.setCell ⟨y,0,none⟩ (Aj x)).setCell ⟨mb,40,none⟩ (.slice (some ⟨g,0,none⟩) r.length c)) y 3 #[Aj x]:=(z.aZ 0 _).dE n1 _;have n:Fr (fun k=>O k∨k=y) w ((w.setCell ⟨y,0,none⟩ (Aj x)).setCell ⟨mb,40,none⟩ (.slice (some ⟨g,0,none⟩) r.length c)):=((qu _ _).setCell (.inl (.inr rfl)) _).setCell (.inl (.inl h.ew)) _;have Q:=Aq i;have U:=Aq l;have R:=Aq n;clear i l n p j Z b h f z u q V;generalize Y:r.length=m at *;have F:m≤c:=by simp at H;omega
 clear H Y;go_enter Tryz.func169,Tryz.ntmps169;go_wp2;refine wp_loop_rounds 2 ?_;rw[rounds_succ];go_wp2;rw[rounds_succ];go_wp2;go_end0;exact⟨rfl,Q.o,U.o,R.o,_,rfl⟩
theorem Yx (w:World)(mb:Nat)(O:Nat→Prop)(L:bd)(s:St)(h:ag w mb O L s)(x y:Int)(r:List Int)(f:s.stack=x::y::r)(u z sb:Nat)(F I:Value) (b:aH w u 3 #[F]) (p:aH w z 3 #[I]) (R:u≠z) (q:aH w sb 246 #[.pointer (some ⟨u,0,none⟩),.pointer (some ⟨z,0,none⟩)]) (H:¬ O u) (n:¬ O z) :
  Calls Tryz.prog 169 #[.pointer (some ⟨mb,0,none⟩),.slice (some ⟨sb,0,none⟩) 2 2] w fun e w'=>e=.returned (.tuple #[])∧(∃L',ag w' mb O L' { s with stack:=r })∧aH w' u 3 #[Aj y]∧aH w' z 3 #[Aj x]∧Fr (fun k=>O k∨k=u∨k=z) w w'∧∃v,w'=((w.setCell ⟨u,0,none⟩ (Aj y)).setCell ⟨z,0,none⟩ (Aj x)).setCell ⟨mb,40,none⟩ v:=by
 have l:=h.sk;rw[f]at l;obtain⟨g,c,i,V,E,X,b2,j,B⟩:=l.aK (by simp);have d0:=j r.length (Aj y) (Pf r x y);have d1:=j (r.length+1) (Aj x) (Kt (y::r) x);have dY:=h.aG.cell 40;rw[h.c.dY,i]at dY;have h2:=h.aG.frozen 40;have hM:=h.aG.lt;have N:=q.cell 0;have W:=q.cell 1;have x1:=q.lt;have M:=b.cell 0;have y1:=b.frozen 0;have y2:=b.lt;have A:=p.cell 0;have z1:=p.frozen 0;have z2:=p.lt;simp only[Az,Ay,Bc]at N W M A;have n1:u≠mb:=fun e=>H (e ▸ h.ew)
 have hs:=n1.symm;have n2:u≠g:=fun e=>H (e ▸ X)
 have hv:=n2.symm;have Q:z≠mb:=fun e=>n (e ▸ h.ew)
 have b1:=Q.symm;have n4:z≠g:=fun e=>n (e ▸ X)
 have h1:=n4.symm;have n5:sb≠u:=q.dF b (by decide);have n6:sb≠z:=q.dF p (by decide);have T:=R.symm;have P:=h.ok.dg;rw[f]at P;simp only[Bo]at P dY;have d:∀k,O k→((w.setCell ⟨u,0,none⟩ (Aj y)).setCell ⟨z,0,none⟩ (Aj x)).heap[k]?=w.heap[k]?:=fun k d=>(Bp _ _ _ _ (fun (e:k=z)=>n (e ▸ d))).trans (Bp _ _ _ _ (fun (e:k=u)=>H (e ▸ d)))
 have K:=h.ld (a:=[x,y]) (r:=r) (by rw[f];rfl) i d (by simp[World.setCell]);have Y:aH (((w.setCell ⟨u,0,none⟩ (Aj y)).setCell ⟨z,0,none⟩ (Aj x)).setCell ⟨mb,40,none⟩ (.slice (some ⟨g,0,none⟩) r.length c)) u 3 #[Aj y]:=((b.aZ 0 _).dE R _).dE n1 _;have Z:aH (((w.setCell ⟨u,0,none⟩ (Aj y)).setCell ⟨z,0,none⟩ (Aj x)).setCell ⟨mb,40,none⟩ (.slice (some ⟨g,0,none⟩) r.length c)) z 3 #[Aj x]:=((p.dE T _).aZ 0 _).dE Q _;have U:Fr (fun k=>O k∨k=u∨k=z) w (((w.setCell ⟨u,0,none⟩ (Aj y)).setCell ⟨z,0,none⟩ (Aj x)).setCell ⟨mb,40,none⟩ (.slice (some ⟨g,0,none⟩) r.length c)):=(((qu _ _).setCell (.inl (.inr (.inl rfl))) _).setCell (.inl (.inr (.inr rfl))) _).setCell (.inl (.inl h.ew)) _;have G:=Aq K;have C:=Aq Y;have D:=Aq Z;have J:=Aq U;clear K Y Z U d j B l h q b p f i E;generalize S:r.length=m at *;have hk:m≤c:=by simp at V;omega
 clear V S;go_enter Tryz.func169,Tryz.ntmps169;go_wp2;refine wp_loop_rounds 3 ?_;rw[rounds_succ];go_wp2;rw[rounds_succ];go_wp2;rw[rounds_succ];go_wp2;go_end0;exact⟨rfl,G.o,C.o,D.o,J.o,_,rfl⟩
end
section
open Go.RowKit Mc
theorem Gq (w:World)(A:Option Addr)(n c B:Nat)(xs:List Value)(s:aE w B 1 A n xs)(d:∀u∈xs,u.oneCell'=true)(k:n≤1000000000000) :
  Calls Tryz.prog 42 #[.slice A n c] w (Zdp w 3 1 n xs):=by
 obtain⟨Y,H,P,F,S⟩:=Eu Hp;have q0:∀(w:World) (a:Option Addr) (n c n' z:Nat),(binOp .eql 22 (.slice a n c) (.slice none n' z)).run Tryz.prog w=.ok (.bool a.isNone) w:=fun w a n c n' z=>Lib.run_eql_slice_nil w _ _ a n c n' z Tryz.underlying22
 have x:=Aq s;have H1:=Aq d;have f:=Aq k;clear s d k;rcases A with _|X
 ·have D:n=0:=by
   rcases oG n with h|h
   ·exact h
   ·obtain⟨b,off,e,_⟩:=x.o.2 h;cases e
  subst D;have y:xs=[]:=oX (by simpa using x.o.1);subst y;go_enter Tryz.func42,Tryz.ntmps42;go_wp2;go_ret;exact⟨_,rfl,Eh _ _ _ _,qu _ _⟩
 ·have q:Hid (∃B,aE (w.alloc (.cells #[] 3)) B 1 (some X) n xs):=Aq (by
   rcases oG n with h|h
   ·subst h;have y:xs=[]:=oX (by simpa using x.o.1);subst y;exact⟨0,qy⟩
   ·obtain⟨b,off,e,R,v⟩:=x.o.2 h;have V:b<w.heap.size:=by
     have K:0<xs.length:=by rw[x.o.1];exact Nat.mul_pos h (by decide)
     have:=v 0 xs[0] (Bg K);rcases le b w.heap.size with E|Z
     ·exact E
     ·rw[oq]at this;simp[World.cell?,qc Z]at this
    exact⟨B,x.o.1,fun _=>⟨b,off,e,R,fun j u l=>(Cb w _ _ V).trans (v j u l)⟩⟩)
  have r:(w.alloc (.cells #[] 3)).ownsRow w.heap.size 3 1 (.slice (some ⟨w.heap.size,0,none⟩) 0 0) 0 []:=Kf (qv _ _ _) Aw;have U:=Aq r;clear r;obtain⟨Q,p⟩:=q.o;have C:=Aq p;clear p q x;go_enter Tryz.func42,Tryz.ntmps42;go_wp2_with (at_builtin;refine Cm _ rfl (.tmp 5) (.tmp 6) _ rfl w.heap.size 3 Y _ 1 8 Tryz.underlying22 H P F S rfl (show 0<1 by decide) (.slice (some ⟨w.heap.size,0,none⟩) 0 0) 0 [] rfl U.o Q _ n _ xs rfl C.o H1.o (by have:=f.o;unfold maxLen;omega) (by have:=f.o;omega) (by simp) ?_;intro v' w' i m _)
  go_ret;refine⟨_,rfl,by simpa using i,Hq ((qu _ w).alloc _) m (fun g e=>?_)⟩;simp only[Value.ownBlock,Bv]at e;omega
theorem Vv (w:World)(A:Option Addr)(n c B:Nat)(xs:List Value)(s:aE w B 2 A n xs)(d:∀u∈xs,u.oneCell'=true)(k:n≤1000000000000) :
  Calls Tryz.prog 101 #[.slice A n c] w (Zdp w 76 2 n xs):=by
 obtain⟨Y,H,P,F,S⟩:=Eu Tk;have q0:∀(w:World) (a:Option Addr) (n c n' z:Nat),(binOp .eql 28 (.slice a n c) (.slice none n' z)).run Tryz.prog w=.ok (.bool a.isNone) w:=fun w a n c n' z=>Lib.run_eql_slice_nil w _ _ a n c n' z Tryz.underlying28
 have x:=Aq s;have H1:=Aq d;have f:=Aq k;clear s d k;rcases A with _|X
 ·have D:n=0:=by
   rcases oG n with h|h
   ·exact h
   ·obtain⟨b,off,e,_⟩:=x.o.2 h;cases e
  subst D;have y:xs=[]:=oX (by simpa using x.o.1);subst y;go_enter Tryz.func101,Tryz.ntmps101;go_wp2;go_ret;exact⟨_,rfl,Eh _ _ _ _,qu _ _⟩
 ·have q:Hid (∃B,aE (w.alloc (.cells #[] 76)) B 2 (some X) n xs):=Aq (by
   rcases oG n with h|h
   ·subst h;have y:xs=[]:=oX (by simpa using x.o.1);subst y;exact⟨0,qy⟩
   ·obtain⟨b,off,e,R,v⟩:=x.o.2 h;have V:b<w.heap.size:=by
     have K:0<xs.length:=by rw[x.o.1];exact Nat.mul_pos h (by decide)
     have:=v 0 xs[0] (Bg K);rcases le b w.heap.size with E|Z
     ·exact E
     ·rw[oq]at this;simp[World.cell?,qc Z]at this
    exact⟨B,x.o.1,fun _=>⟨b,off,e,R,fun j u l=>(Cb w _ _ V).trans (v j u l)⟩⟩)
  have r:(w.alloc (.cells #[] 76)).ownsRow w.heap.size 76 2 (.slice (some ⟨w.heap.size,0,none⟩) 0 0) 0 []:=Kf (qv _ _ _) Aw;have U:=Aq r;clear r;obtain⟨Q,p⟩:=q.o;have C:=Aq p;clear p q x;go_enter Tryz.func101,Tryz.ntmps101;go_wp2_with (at_builtin;refine Cm _ rfl (.tmp 5) (.tmp 6) _ rfl w.heap.size 76 Y _ 2 16 Tryz.underlying28 H P F S rfl (show 0<2 by decide) (.slice (some ⟨w.heap.size,0,none⟩) 0 0) 0 [] rfl U.o Q _ n _ xs rfl C.o H1.o (by have:=f.o;unfold maxLen;omega) (by have:=f.o;omega) (by simp) ?_;intro v' w' i m _)
  go_ret;refine⟨_,rfl,by simpa using i,Hq ((qu _ w).alloc _) m (fun g e=>?_)⟩;simp only[Value.ownBlock,Bv]at e;omega
theorem Rk (w:World)(A:Option Addr)(n c B:Nat)(xs:List Value)(s:aE w B 2 A n xs)(d:∀u∈xs,u.oneCell'=true)(k:n≤1000000000000) :
  Calls Tryz.prog 97 #[.slice A n c] w (Zdp w 96 2 n xs):=by
 obtain⟨Y,H,P,F,S⟩:=Eu Zfv;have q0:∀(w:World) (a:Option Addr) (n c n' z:Nat),(binOp .eql 24 (.slice a n c) (.slice none n' z)).run Tryz.prog w=.ok (.bool a.isNone) w:=fun w a n c n' z=>Lib.run_eql_slice_nil w _ _ a n c n' z Tryz.underlying24
 have x:=Aq s;have H1:=Aq d;have f:=Aq k;clear s d k;rcases A with _|X
 ·have D:n=0:=by
   rcases oG n with h|h
   ·exact h
   ·obtain⟨b,off,e,_⟩:=x.o.2 h;cases e
  subst D;have y:xs=[]:=oX (by simpa using x.o.1);subst y;go_enter Tryz.func97,Tryz.ntmps97;go_wp2;go_ret;exact⟨_,rfl,Eh _ _ _ _,qu _ _⟩
 ·have q:Hid (∃B,aE (w.alloc (.cells #[] 96)) B 2 (some X) n xs):=Aq (by
   rcases oG n with h|h
   ·subst h;have y:xs=[]:=oX (by simpa using x.o.1);subst y;exact⟨0,qy⟩
   ·obtain⟨b,off,e,R,v⟩:=x.o.2 h;have V:b<w.heap.size:=by
     have K:0<xs.length:=by rw[x.o.1];exact Nat.mul_pos h (by decide)
     have:=v 0 xs[0] (Bg K);rcases le b w.heap.size with E|Z
     ·exact E
     ·rw[oq]at this;simp[World.cell?,qc Z]at this
    exact⟨B,x.o.1,fun _=>⟨b,off,e,R,fun j u l=>(Cb w _ _ V).trans (v j u l)⟩⟩)
  have r:(w.alloc (.cells #[] 96)).ownsRow w.heap.size 96 2 (.slice (some ⟨w.heap.size,0,none⟩) 0 0) 0 []:=Kf (qv _ _ _) Aw;have U:=Aq r;clear r;obtain⟨Q,p⟩:=q.o;have C:=Aq p;clear p q x;go_enter Tryz.func97,Tryz.ntmps97;go_wp2_with (at_builtin;refine Cm _ rfl (.tmp 5) (.tmp 6) _ rfl w.heap.size 96 Y _ 2 16 Tryz.underlying24 H P F S rfl (show 0<2 by decide) (.slice (some ⟨w.heap.size,0,none⟩) 0 0) 0 [] rfl U.o Q _ n _ xs rfl C.o H1.o (by have:=f.o;unfold maxLen;omega) (by have:=f.o;omega) (by simp) ?_;intro v' w' i m _)
  go_ret;refine⟨_,rfl,by simpa using i,Hq ((qu _ w).alloc _) m (fun g e=>?_)⟩;simp only[Value.ownBlock,Bv]at e;omega
theorem Fc {W:World}{B size n:Nat}{t:TypeId}{xs:List Value}(x:xs.length=n*size)(z:B≤W.heap.size)(y:n≤maxLen):(W.alloc (.cells xs.toArray t)).ownsRow B t size (.slice (some ⟨W.heap.size,0,none⟩) n n) n xs :=
 ⟨x,.inr ⟨W.heap.size,n,xs.toArray,rfl,z,qv _ _ _,Aw,y,by simpa using x,by simp[←x]⟩⟩
theorem Mw {W:World}{B size n m:Nat}{t:TypeId}{v u:Value}{xs:List Value}(h:W.ownsRow B t size v n xs) (x:u=.slice (some ⟨W.heap.size,0,none⟩) m m):ar u v:=by
 intro g z y;subst x;simp only[Value.ownBlock,Bv]at z;have:=(h.lt g y).2;omega
theorem Eg {W W':World}{B size size' n m:Nat}{t t':TypeId}{v u:Value}{xs y:List Value}(h:W.ownsRow B t size v n xs)(x:W'.ownsRow W.heap.size t' size' u m y):ar u v:=by
 intro g k z;have:=(h.lt g z).2;have:=(x.lt g k).1;omega
theorem Zfk (n:Nat):madeCells #[Value.int .i64 0,Aj 0] (n*2)=(bq (List.replicate n (0,0))).toArray:=by
 unfold madeCells;apply Array.toList_inj.1;simp only[py,pB]
 induction n with
 |zero=>rfl
 |succ n ih =>
  have z:bq (List.replicate n ((0:Int),(0:Int))++[(0,0)])=bq (List.replicate n (0,0))++[Aj 0,Aj 0]:=by simp[bq]
  rw[qd,z,←ih,show (n+1)*2=n*2+1+1 by omega,ge,ge];simp only[nt,ol,oH,nz,oa,gs];have x:n*2 % 2=0:=by omega
  have y:(n*2+1) % 2=1:=by omega
  simp[x,y]
theorem Zbg (n:Nat):madeCells #[Value.int .i64 0] n=(ae (List.replicate n 0)).toArray:=by
 unfold madeCells;apply Array.toList_inj.1;simp only[py,pB,ae,qf];rw[qg];exact⟨by simp,by intro b x;simp at x;obtain⟨a,y,rfl⟩:=x;rw[show a % 1=0 by omega];rfl⟩
theorem Ju {P:Program}(t e:TypeId)(i:TypeInfo)(z:Value) (u:P.underlying t=some (.slice e)) (hi:P.info? e=some i) (v:i.zero=some z)
  (n:Nat) (k:i.bytes*n≤281474976710656) (p:n≤9223372036854775807) (w:World) :
  (Instr.makeSlice t (Aj (n:Int)) (Aj (n:Int))).run P w=.ok (.slice (some ⟨w.heap.size,0,none⟩) n n) (w.alloc (.cells (madeCells z.cells (n*i.size)) e)):=by
 have y:(i.bytes:Int)*(n:Int)≤281474976710656:=by
  have h:((i.bytes*n:Nat):Int)≤281474976710656:=by omega
  rwa [Int.natCast_mul]at h
 have x:=run_make (P:=P) w t e i z u hi v .i64 .i64 n n (by omega) (by omega) y (by omega);simp only[Cw]at x;exact x
theorem Zfj (n:Nat)(u:n≤1000000)(w:World):(Instr.makeSlice 28 (Aj (n:Int)) (Aj (n:Int))).run Tryz.prog w=.ok (.slice (some ⟨w.heap.size,0,none⟩) n n) (w.alloc (.cells (bq (List.replicate n (0,0))).toArray 76)):=by
 obtain⟨i,hi,x,z,y⟩:=Eu Tk;have:=Ju (P:=Tryz.prog) 28 76 i _ Tryz.underlying28 hi x n (by rw[y];omega) (by omega) w;rw[z,show (Value.agg #[Aj 0,Aj 0]).cells = #[Aj 0,Aj 0] from rfl,Zfk]at this;exact this
theorem Jv (n:Nat)(u:n≤1000000)(w:World):(Instr.makeSlice 22 (Aj (n:Int)) (Aj (n:Int))).run Tryz.prog w=.ok (.slice (some ⟨w.heap.size,0,none⟩) n n) (w.alloc (.cells (ae (List.replicate n 0)).toArray 3)):=by
 obtain⟨i,hi,x,z,y⟩:=Eu Hp;have:=Ju (P:=Tryz.prog) 22 3 i _ Tryz.underlying22 hi x n (by rw[y];omega) (by omega) w;rw[z,ox,show (Value.int .i64 0).cells = #[Aj 0] from rfl,Zbg]at this;exact this
theorem Nw (l:List Int):l.flatMap (fun x=>[Value.int .i64 x])=ae l:=by
 unfold ae
 induction l with
 |nil=>rfl
 |cons a r ih=>rw[pa,ih];rfl
end
end Go.Proofs.YtnhebmgibiomnaaGreat

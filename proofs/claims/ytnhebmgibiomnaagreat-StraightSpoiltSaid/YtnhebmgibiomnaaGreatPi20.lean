import Derived.Test.YtnhebmgibiomnaaGreatPi14
import Derived.Test.YtnhebmgibiomnaaGreatPi19
set_option linter.unusedVariables false
set_option linter.unusedSimpArgs false
set_option maxRecDepth 100000
set_option maxHeartbeats 8000000
namespace Go.Proofs.YtnhebmgibiomnaaGreat
section
namespace Sm
open Mc Hd
theorem At.piece {aA:List Sr.bE}{g:Nat→List Sr.bE} {ls:List (List Sr.bE)} (u:∀k,(g k).length=(ls.getD k []).length):∀(n pc:Nat),n≤ls.length→At aA pc ((List.range n).flatMap g)→((List.range n).flatMap g).length=Bu.aZ ls n∧∀k,k<n→At aA (pc+Bu.aZ ls k) (g k):=by
 intro n
 induction n with
 |zero=>intro pc _ _;exact⟨by simp[Bu.aZ],fun k z=>by omega⟩
 |succ n ih =>
  intro pc q h;rw[od,pF,List.flatMap_singleton]at h ⊢;obtain⟨x,v⟩:=ih pc (by omega) h.left;have p:=(Bu.dO ls (i:=n) (l:=ls.getD n []) (by rw[Bo,Bf (by omega)];rfl)).1;refine⟨by rw[Ca,x,p,u n],fun k z=>?_⟩;by_cases y:k<n
  ·exact v k y
  ·obtain rfl:k=n:=by omega
   rw[←x];exact h.right
theorem Vn {op:Int} (h:¬ (op=35∨op=36)):Bu.cR op=false:=by unfold Bu.cR;simpa using h
theorem Rh (body:List Sr.bE)(bm loops:Int):(Bu.eJ body bm loops).length=1+16*(1+body.length):=by
 unfold Bu.eJ;rw[Bp,List.length_flatMap,show List.range 16=[0,1,2,3,4,5,6,7,8,9,10,11,12,13,14,15] from rfl];simp;omega
theorem Vi {fl:List (List (Int×Int))} {l:List (Int×Int)} {fs:List Bd.aa} {ps:List Bu.aq} {p:Bu.aq} {c:Bd.aa} {P:List Bd.Place} {es:List Bu.cU} {aA:List Sr.bE} (o3:jL l.length fs l c P) (hS:Bu.ky fs ps l p P) (hF:fs.length≤fl.length)
  (hg:∀j H,fs[j]?=some H→Zea fl aA es j H∧0≤H.steps∧0≤H.aM) (hz:∀j:Nat,j<fs.length→0≤(Bu.pl ps j).size∧((Bu.pl ps j).size≤0→∀aC loops,Bu.em es j aC loops=[]))
  (aN:Nat) (z:Int) (loops:Nat) (z9:At aA aN (Bu.cG es p z loops)) :
  ∀(d aL:Nat) (s:St) (m:Nat) (r:List Fm) (q:Sr.St),aL+d=l.length→s.aD=⟨l,aL,m⟩::r→s.ai=false→s.br=0→s.funcs=fl→Bu.kn fs ps l aL=true→(s.stack.length:Int)=z+(Bd.bk P aL).aC→c.aU≤z→z+c.aM≤32→r.length+1+fs.length≤21→loops≤r.length→s.stack.length≤32→dh s q→q.pc=aN+Bu.aZ (Bu.bZ es p z loops) (Bu.eI fs ps l aL) →
  ∃k t n v,Goes k s t∧fv s t k (⟨l,l.length,m⟩::r) (z+c.aM)∧(t.stack.length:Int)=z+c.delta∧(Bd.bk P aL).steps+k≤c.steps∧dI aA n q v∧v.pc=aN+(Bu.cG es p z loops).length∧dh t v∧dy loops q v:=by
 have c8:(Bu.bZ es p z loops).length=p.steps.length:=Bu.eB es p z loops;have v7:∀(i:Nat) s,p.steps[i]?=some s→(Bu.bZ es p z loops)[i]?=some (Bu.bD es (s.op,s.a) (z+s.aC) loops):=fun i s hs=>by
  unfold Bu.bZ;rw[Cd,hs];rfl
 obtain⟨o1,a4⟩:=At.piece (Bu.gQ (Bu.bZ es p z loops) p.steps) p.steps.length aN (by omega) z9;have o1:(Bu.cG es p z loops).length=Bu.aZ (Bu.bZ es p z loops) p.steps.length:=o1;rw[o1];generalize Bu.bZ es p z loops=ls at *;intro d
 induction d using Nat.strongRecOn with
 |_ d ih =>
 intro aL s m r q hd y2 hq v2 I hk x2 hn hp hr a8 v3 V C;by_cases c3:d=0
 ·have v8:aL=l.length:=by omega
  subst v8;refine⟨0,s,0,q,⟨s,rfl,jz.refl hq⟩,⟨y2,hq,v2,rfl,rfl,by omega⟩,?_,?_,dI.refl _ _,by rw[C,hS.lT],V,dy.refl _ _⟩
  ·rw[x2,o3.de]
  ·rw[o3.st];omega
 ·have x1:aL<l.length:=by omega
  obtain⟨x,hx⟩:∃x,l[aL]?=some x:=⟨l[aL],Bf x1⟩;have s2:=o3.ok aL x hx;have z3:=hS.aR aL (by omega) hk;obtain⟨y8,x9⟩:=hS.step aL x hx hk;obtain⟨a1,a2,a3⟩:=cE s2.al;obtain⟨F,U,b3,b4⟩:=s2.kn z3;have ht:=Oy x.1;have hl:=Mw x.1;have hw:=fw s2.al x1;have c1:aO x.1≤s.stack.length:=by
   by_cases y:x.1=37∨x.1=38
   ·rw[bT y]at F;simp only at F;omega
   ·rw[bR y]at F;simp only at F;omega
  have c2:s.stack.length+aV x.1≤32+aO x.1:=by
   by_cases y:x.1=37∨x.1=38
   ·rw[bT y]at U;simp only at U;omega
   ·rw[bR y]at U;simp only at U;omega
  have z7:=Vk y2 hq hx a1 c1 c2 a2 (fun q=>by have:=a3 q;rw[I];omega);have z4:=Ku x.1 x.2 { s with aD:=⟨l,aL+1,m⟩::r,br:=0,ai:=false } a1.1 a1.2;have z0:=Nb x.1 x.2 { s with aD:=⟨l,aL+1,m⟩::r,br:=0,ai:=false };obtain⟨m1,m2,m3,m4,m5⟩:=z0;simp only at z4 m1 m2 m3 m4 m5;have e1:dh { s with aD:=⟨l,aL+1,m⟩::r,br:=0,ai:=false } q:=V.iS s.funcs (⟨l,aL+1,m⟩::r) s.steps s.aM false 0;generalize J:deed x.1 x.2 { s with aD:=⟨l,aL+1,m⟩::r,br:=0,ai:=false } = t at *;have q':=Goes.du z7 m2;have b1:∀q2,dh t q2→dh { t with steps:=t.steps+1,aM:=max t.aM t.stack.length } q2:=fun q2 h=>h.iS t.funcs t.aD (t.steps+1) (max t.aM t.stack.length) t.ai t.br
  generalize B:({ t with steps:=t.steps+1,aM:=max t.aM t.stack.length }:St)=s1 at *;have E:s1.aD=t.aD:=by rw[←B]
  have w:s1.stack=t.stack:=by rw[←B]
  have e3:s1.ai=false:=by rw[←B];exact m2
  have e4:s1.br=0:=by rw[←B];exact m3
  have e5:s1.funcs=fl:=by rw[←B];exact m1.trans I
  have e6:s1.steps=s.steps+1:=by rw[←B,←m4]
  have e7:s1.aM=max s.aM t.stack.length:=by rw[←B,←m5]
  have hO:∀X,s1.aD=X→fv s s1 1 X (z+c.aM):=fun X hX=>by
   refine⟨hX,e3,e4,e5.trans I.symm,e6,?_⟩;have:(t.stack.length:Int)≤z+c.aM:=by
    by_cases y:x.1=37∨x.1=38
    ·rw[bT y]at U;simp only at U;omega
    ·rw[bR y]at U;simp only at U;omega
   omega
  have a6:(Bd.ay fs (Bd.bk P aL) x).aC≤(Bd.ay fs (Bd.bk P aL) x).aM:=by
   by_cases y:x.1=37∨x.1=38
   ·rw[bT y];simp only;omega
   ·rw[bR y];exact pJ _
  have on:∀(k:Nat) (Z:St) (u:Nat) (n:Nat) (q2:Sr.St),Goes k s Z→fv s Z k (⟨l,u,m⟩::r) (z+c.aM)→(u:Int)∈Bd.ways aL x→(Z.stack.length:Int)=z+(Bd.ay fs (Bd.bk P aL) x).aC→(Bd.bk P aL).steps+k≤(Bd.ay fs (Bd.bk P aL) x).steps→dI aA n q q2→q2.pc=aN+Bu.aZ ls (Bu.eI fs ps l u)→dh Z q2→dy loops q q2 →
    ∃k t n v,Goes k s t∧fv s t k (⟨l,l.length,m⟩::r) (z+c.aM)∧(t.stack.length:Int)=z+c.delta∧(Bd.bk P aL).steps+k≤c.steps∧dI aA n q v∧v.pc=aN+Bu.aZ ls p.steps.length∧dh t v∧dy loops q v:=by
   intro k Z u n q2 g o hu z1 b7 rg v0 v5 a0;obtain⟨u',b8,q1,c7⟩:=hw u hu;obtain⟨w1,w2,w3⟩:=b4 u hu;obtain⟨k',t',n',v,g',o',f1,f2,f3,f4,f5,f6⟩:=ih (l.length-u) (by omega) u Z m r q2 (by omega) o.fr o.en o.er (o.fu.trans I) (y8 u hu) (by rw[z1,w2]) hn hp hr a8 (by have:=a6;omega) v5 v0;exact⟨k+k',t',_,v,g.trans g',o.trans o' (pJ _) (pJ _),f1,by omega,rg.trans f3,f4,f5,a0.trans f6⟩
  have A:x.1≠35→((aL+1:Nat):Int)∈Bd.ways aL x:=fun h=>by
   unfold Bd.ways;rw[if_neg h];simp
  have f_:0<Bu.sizeOf x ps→p.steps[Bu.eI fs ps l aL]?=some ⟨x.1,x.2,(Bd.bk P aL).aC,Bu.eI fs ps l (aL+1+Bu.jump x)⟩∧Bu.eI fs ps l (aL+1)=Bu.eI fs ps l aL+1∧At aA q.pc (Bu.fixed ls p.steps (Bu.eI fs ps l aL))∧ls[Bu.eI fs ps l aL]?=some (Bu.bD es x s.stack.length loops)∧(¬ (x.1=35∨x.1=36)→Bu.fixed ls p.steps (Bu.eI fs ps l aL)=Bu.bD es x s.stack.length loops∧aN+Bu.aZ ls (Bu.eI fs ps l (aL+1))=q.pc+(Bu.bD es x s.stack.length loops).length):=by
   intro G;rcases x9 with⟨_,Z,s3⟩|⟨h,_⟩
   ·have W:=v7 _ _ Z;simp only at W;rw[←x2,show (x.1,x.2)=x from rfl]at W;have y5:=(aS.1 Z).1;refine⟨Z,s3,by rw[C];exact a4 _ y5,W,fun e=>⟨?_,?_⟩⟩
    ·unfold Bu.fixed;simp only[Z,Vn e,pN,if_false];rw[Bo,W];rfl
    ·rw[s3,(Bu.dO ls W).1,C];omega
   ·omega
  by_cases y:x.1=37∨x.1=38
  ·obtain⟨q1,q2⟩:=a3 y;obtain⟨j,e⟩:∃j:Nat,x.2=j:=⟨x.2.toNat,by omega⟩;have e2:j<fs.length:=by omega
   obtain⟨H,x0⟩:∃H,fs[j]?=some H:=⟨fs[j],Bf e2⟩;obtain⟨hG,z5,c6⟩:=hg j H x0;have x8:Bd.fn fs x.2=H:=by unfold Bd.fn;rw[e,Bo,Da,x0];rfl
   have A:=A (by omega);have K:=bT (fs:=fs) (p:=Bd.bk P aL) y;rw[x8]at K;rw[K]at F U;simp only at F U;rcases y with y|y
   ·have y3:aO x.1=0∧aV x.1=0:=by rw[y];exact⟨rfl,rfl⟩
    have b:t = { s with aD:=⟨fl.getD j [],0,0⟩::⟨l,aL+1,m⟩::r,br:=0,ai:=false } := by
     rw[←J,y,e]
     show call _ (j:Int) 1=_
     unfold call;rw[if_pos (by omega)];simp only[Da,I];rfl
    have M:s1.aD=⟨fl.getD j [],0,0⟩::⟨l,aL+1,m⟩::r:=by rw[E,b]
    have a5:dh s1 q:=b1 q (by rw[b];exact e1.iS s.funcs (⟨fl.getD j [],0,0⟩::⟨l,aL+1,m⟩::r) s.steps s.aM false 0);have o5:At aA q.pc (Bu.em es j s1.stack.length loops)∧aN+Bu.aZ ls (Bu.eI fs ps l (aL+1))=q.pc+(Bu.em es j s1.stack.length loops).length:=by
     have y9:(s1.stack.length:Int)=s.stack.length:=by rw[w];omega
     rw[y9];have hc:Bu.bD es x s.stack.length loops=Bu.em es j s.stack.length loops:=by
      unfold Bu.bD;rw[y,e];simp
     by_cases G:0<Bu.sizeOf x ps
     ·obtain⟨_,_,f,_,T⟩:=f_ G;obtain⟨o6,Q⟩:=T (by omega);rw[o6,hc]at f;rw[hc]at Q;exact⟨f,Q⟩
     ·have b5:Bu.sizeOf x ps=(Bu.pl ps j).size:=by
       unfold Bu.sizeOf;rw[y,e];simp
      have he:=(hz j e2).2 (by omega) s.stack.length loops;rw[he];rcases x9 with⟨h,_⟩|⟨_,h⟩
      ·omega
      ·rw[h,C];exact⟨fun i r hr=>by simp at hr,rfl⟩
    obtain⟨k1,N,n1,b2,O,S,f1,f2,f3,f4,f5,f6⟩:=hG s1 0 _ q loops M e3 e4 e5 (by rw[w];omega) (by rw[w];omega) (by simp only[Bp];omega) (by simp only[Bp];omega) a5 o5.1;obtain⟨l1,l2⟩:=S.left (Y:=⟨l,aL+1,m⟩::r) dg.symm;refine on (1+k1) _ (aL+1) n1 b2 (q'.trans (O.iS l1)) ((hO _ rfl).trans l2 (pJ _) (by rw[w];omega)) A (by rw[K];simp only;rw[f1,w];omega) ?_ f3 (by rw[f4,o5.2]) (f5.iS N.funcs (⟨l,aL+1,m⟩::r) N.steps N.aM N.ai N.br) f6;rw[K];simp only;rw[if_neg (by omega)];omega
   ·have y3:aO x.1=1∧aV x.1=0:=by rw[y];exact⟨rfl,rfl⟩
    have y7:H.delta=0:=by have:=b3 y;rwa [x8]at this
    have v6:1≤s.stack.length:=by omega
    have hX:Sr.get q ((s.stack.length:Int)-1)=s.stack.getD 0 0:=V.bm rfl v6;have y6:=Vu V.kp.stack 0;have b:t = { s with stack:=s.stack.drop 1,aD:=if 0<min (s.stack.getD 0 0) 16 then⟨fl.getD j [],0,(min (s.stack.getD 0 0) 16-1).toNat⟩::⟨l,aL+1,m⟩::r else⟨l,aL+1,m⟩::r,br:=0,ai:=false } := by
     rw[←J,y,e]
     show call _ (j:Int) (min (s.stack.getD 0 0) 16)=_
     unfold call;split
     ·simp only[Da,I]
     ·rfl
    have M:s1.aD=if 0<min (s.stack.getD 0 0) 16 then⟨fl.getD j [],0,(min (s.stack.getD 0 0) 16-1).toNat⟩::⟨l,aL+1,m⟩::r else⟨l,aL+1,m⟩::r:=by rw[E,b]
    generalize c0:s.stack.getD 0 0=X at *;have G:0<Bu.sizeOf x ps:=by
     have h1:=(hz j e2).1;have:Bu.sizeOf x ps=1+16*(1+(Bu.pl ps j).size):=by
      unfold Bu.sizeOf;rw[y,e];simp
     omega
    obtain⟨_,_,f,_,T⟩:=f_ G;obtain⟨o6,Q⟩:=T (by omega);have y1:((s1.stack.length:Nat):Int)=(s.stack.length:Int)-1:=by rw[w];omega
    have hc:Bu.bD es x s.stack.length loops=Bu.eJ (Bu.em es j s1.stack.length ((loops:Int)+1)) s1.stack.length loops:=by
     unfold Bu.bD;rw[y,e,y1];simp
    rw[o6,hc]at f;rw[hc,Rh]at Q;have o7:=f;unfold Bu.eJ at o7;obtain⟨g0,p0⟩:=Zcn (q:=q) o7.head (by simp) (Fp (by simp));have x4:Sr.deed ⟨40,32+(loops:Int),s1.stack.length,0,0⟩ { q with pc:=q.pc+1,steps:=q.steps+1 } = Sr.put { q with pc:=q.pc+1,steps:=q.steps+1 } (32+(loops:Int)) X:=by
     show Sr.put _ (32+(loops:Int)) (bA (Sr.get q (s1.stack.length:Int)))=_
     rw[y1,hX,y6]
    rw[x4]at g0 p0;have x6:dy loops q (Sr.put { q with pc:=q.pc+1,steps:=q.steps+1 } (32+(loops:Int)) X):=by
     rw[←x4];exact Il (.inr (by show 32+loops≤(32+(loops:Int)).toNat;omega)) q _ _
    have x3:dh s1 (Sr.put { q with pc:=q.pc+1,steps:=q.steps+1 } (32+(loops:Int)) X):=by
     refine(dh.go ?_ _ _).lr X (by rw[w];omega);refine b1 q ?_;rw[b];exact(V.drop 1).iS s.funcs _ s.steps s.aM false 0
    have g1:(Sr.put { q with pc:=q.pc+1,steps:=q.steps+1 } (32+(loops:Int)) X).aW.getD (32+loops) 0=X:=by
     simp only[Sr.put,Bo,Jc];rw[if_pos (by omega),if_pos (by rw[V.rl];omega)];rfl
    have x5:∀i:Nat,i<16→At aA (q.pc+1+i*(1+(Bu.em es j s1.stack.length ((loops:Int)+1)).length)) (⟨41,0,32+(loops:Int),(i:Int),(16-(i:Int))*(1+((Bu.em es j s1.stack.length ((loops:Int)+1)).length:Int))-1⟩::Bu.em es j s1.stack.length ((loops:Int)+1)):=by
     intro i hi;have:=At.kV (aA:=aA) (L:=1+(Bu.em es j s1.stack.length ((loops:Int)+1)).length) (fun k=>by rw[Bp];omega) 16 (q.pc+1) o7.tail i hi;exact this
    generalize b6:Sr.put { q with pc:=q.pc+1,steps:=q.steps+1 } (32+(loops:Int)) X=qe at *;generalize a7:(Bu.em es j s1.stack.length ((loops:Int)+1)).length=L at *;by_cases hm:0<min X 16
    ·rw[if_pos hm]at M;generalize c4:(min X 16-1).toNat=mm at *;have a9:mm≤15:=by omega
     obtain⟨k1,N,n1,b2,O,S,f1,f2,f3,f4,f5,f6⟩:=Zga hG y7 loops X (q.pc+1) L s1.stack.length a7 x5 mm 0 s1 _ qe (by omega) rfl M e3 e4 e5 (by rw[w];omega) (by rw[w];omega) (by simp only[Bp];omega) (by simp only[Bp];omega) x3 (by rw[p0];omega) g1;have b0:((mm:Int)+1)*H.steps≤16*H.steps:=qE (by omega) z5;refine on (1+k1) _ (aL+1) _ b2 (q'.trans O) ((hO _ rfl).trans S (pJ _) (by rw[w];omega)) A (by rw[K];simp only;rw[f1,w];omega) ?_ (g0.trans f3) (by rw[f4,Q];omega) f5 (x6.trans f6);rw[K];simp only;rw[if_pos y];omega
    ·rw[if_neg hm]at M;have y4:=x5 0 (by omega);rw[Nat.zero_mul,oh,←p0]at y4;have O:=Ki y4.head;have z2:Sr.get qe (32+(loops:Int))=X:=by unfold Sr.get;rw[show (32+(loops:Int)).toNat=32+loops by omega];exact g1
     rw[z2,if_pos (by omega)]at O;refine on 1 s1 (aL+1) _ _ q' (hO _ M) A (by rw[K];simp only;rw[w];omega) ?_ (g0.trans O) ?_ (x3.go _ _) x6
     ·rw[K];simp only;rw[if_pos y];omega
     ·have c5:=Zcu 0 L (by omega);simp only;rw[p0,Q];omega
  ·have K:=bR (fs:=fs) (p:=Bd.bk P aL) y;have G:0<Bu.sizeOf x ps:=by
    unfold Bu.sizeOf;split
    ·omega
    ·rw[if_neg (by omega),if_neg (by omega)];omega
   obtain⟨S,o2,f,o4,T⟩:=f_ G;have h0:∀(u n:Nat) (q2:Sr.St),s1.aD=⟨l,u,m⟩::r→(u:Int)∈Bd.ways aL x→dI aA n q q2→q2.pc=aN+Bu.aZ ls (Bu.eI fs ps l u)→dh t q2→dy loops q q2→∃k t n v,Goes k s t∧fv s t k (⟨l,l.length,m⟩::r) (z+c.aM)∧(t.stack.length:Int)=z+c.delta∧(Bd.bk P aL).steps+k≤c.steps∧dI aA n q v∧v.pc=aN+Bu.aZ ls p.steps.length∧dh t v∧dy loops q v:=fun u n q2 h1 h2 h3 h4 h5 h6 =>
    on 1 s1 u n q2 q' (hO _ h1) h2 (by rw[K];simp only;rw[w];omega) (by rw[K];simp only;omega) h3 h4 (b1 q2 h5) h6
   by_cases R:x.1=35∨x.1=36
   ·obtain⟨j,e⟩:∃j:Nat,x.2=j:=⟨x.2.toNat,by have:=a2 R;omega⟩;have z6:Bu.jump x=j:=by unfold Bu.jump;rw[if_pos R,e,Da]
    have v9:aL+1+j≤l.length:=by have:=a2 R;omega
    have v1:=Bu.fE fs ps l (i:=aL+1) (j:=aL+1+j) (by omega) v9;have b9:=Bu.gH ls _ _ v1;rw[z6]at S;have D:=(Bu.dO ls o4).1;rw[←o2]at D;have y5:=(aS.1 S).1;have z8:Bu.fixed ls p.steps (Bu.eI fs ps l aL)=Bu.iy (Bu.bD es x s.stack.length loops) ((Bu.aZ ls (Bu.eI fs ps l (aL+1+j)):Int)-Bu.aZ ls (Bu.eI fs ps l aL)-1):=by
     unfold Bu.fixed;simp only[S];rw[if_pos (by unfold Bu.cR;simpa using R),Bo,o4];rfl
    rw[z8]at f;have t1:((aL+1+j:Nat):Int)∈Bd.ways aL x:=by
     unfold Bd.ways;rw[if_pos (c:=Bd.az x.1=true) (by simpa [Bd.az]using R),e];simp
    rcases R with y0|hj
    ·have cj:Bu.bD es x s.stack.length loops=[⟨35,0,0,0,0⟩]:=by
      unfold Bu.bD;rw[y0];simp
     rw[cj]at f D;simp only[Bp,Bx]at D;have g:=Zcm (f.head);have b:t = { s with aD:=⟨l,aL+1+j,m⟩::r,br:=0,ai:=false } := by
      rw[←J,y0,e];rfl
     refine h0 (aL+1+j) _ _ (by rw[E,b]) t1 g ?_ ?_ (fun _ _=>rfl)
     ·simp only;rw[C];omega
     ·rw[b];exact(e1.iS s.funcs (⟨l,aL+1+j,m⟩::r) s.steps s.aM false 0).go _ _
    ·have cj:Bu.bD es x s.stack.length loops=[⟨36,0,(s.stack.length:Int)-1,0,0⟩]:=by
      unfold Bu.bD;rw[hj];simp
     rw[cj]at f D;simp only[Bp,Bx]at D;have y3:aO x.1=1:=by rw[hj];rfl
     have g:=Yg (f.head);rw[V.bm rfl (by omega)]at g;have b:t=if s.stack.getD 0 0=0 then { s with stack:=s.stack.drop 1,aD:=⟨l,aL+1+j,m⟩::r,br:=0,ai:=false } else { s with stack:=s.stack.drop 1,aD:=⟨l,aL+1,m⟩::r,br:=0,ai:=false } := by
      rw[←J,hj,e]
      show (ite (s.stack.getD 0 0=0) _ _:St)=_
      split <;> rfl
     by_cases x7:s.stack.getD 0 0=0
     ·rw[if_pos x7]at b g;refine h0 (aL+1+j) _ _ (by rw[E,b]) t1 g ?_ ?_ (fun _ _=>rfl)
      ·simp only;rw[C];omega
      ·rw[b];exact((V.drop 1).iS s.funcs (⟨l,aL+1+j,m⟩::r) s.steps s.aM false 0).go _ _
     ·rw[if_neg x7]at b g;refine h0 (aL+1) _ _ (by rw[E,b]) (A (by omega)) g ?_ ?_ (fun _ _=>rfl)
      ·simp only;rw[C,D];omega
      ·rw[b];exact((V.drop 1).iS s.funcs (⟨l,aL+1,m⟩::r) s.steps s.aM false 0).go _ _
   ·obtain⟨o6,Q⟩:=T R;rw[o6]at f;obtain⟨n,q2,g,e8,e9,v4⟩:=Zau (es:=es) (aA:=aA) e1 (op:=x.1) (a:=x.2) a1 ⟨by omega,by omega,by omega,by omega⟩ c1 c2 v3 loops (by omega) (next:=(s.stack.length:Int)) rfl f;rw[J]at e9;refine h0 (aL+1) n q2 ?_ (A (by omega)) g (by rw[e8,Q]) e9 v4;rw[E,←J,Nc x.1 x.2 _ a1.1 (by omega)]
end Sm
namespace Bu
theorem fJ {l:List (Int×Int)} {cs:List Bd.aa} (h:(Bd.aA l cs).2.2=0):Bd.aA l cs=((Bd.aA l cs).1,0,0):=by
 have key:∀(n:Nat) (z:List (Int×Int)) (aL:Int) (s:Bd.St),(Bd.rest n cs z aL s).2.2=0→(Bd.rest n cs z aL s).2.1=0:=by
  intro n z
  induction z with
  |nil=>intro aL s _;rfl
  |cons y z ih2 =>
   intro aL s x;unfold Bd.rest at x ⊢;split at x
   ·rename_i u;simp only at x;exact absurd x u
   ·rename_i u;rw[if_neg u];exact ih2 _ _ x
 have k:(Bd.aA l cs).2.1=0:=by
  unfold Bd.aA at h ⊢;split at h
  ·rename_i v;rw[if_pos v];exact key _ _ _ _ h
  ·simp at h
 exact Prod.ext rfl (Prod.ext k h)
theorem Pw:∀(r:List (List (Int×Int))) (i:Int) (cs:List Bd.aa),(Bd.funcsGo r i cs).2.2=0→∃aY,(Bd.funcsGo r i cs).1=cs++aY∧aY.length=r.length∧∀j x,r[j]?=some x→∃y,aY[j]?=some y∧Bd.aA x (cs++aY.take j)=(y,0,0):=by
 intro r
 induction r with
 |nil=>intro i cs _;exact⟨[],by simp[Bd.funcsGo],rfl,fun j x h=>by simp at h⟩
 |cons l r ih =>
  intro i cs h;unfold Bd.funcsGo at h ⊢;split at h
  ·rename_i v;simp only at h;exact absurd h v
  ·rename_i z;rw[if_neg z];have z:(Bd.aA l cs).2.2=0:=by omega
   obtain⟨aY,q,k,a⟩:=ih (i+1) (cs++[(Bd.aA l cs).1]) h;refine⟨(Bd.aA l cs).1::aY,by rw[q,ox];rfl,by simp[k],fun j x u=>?_⟩;cases j with
   |zero =>
    simp only[Ay,Bw]at u;subst u;exact⟨_,rfl,by rw[List.take_zero,oO];exact fJ z⟩
   |succ j =>
    obtain⟨y,p,s⟩:=a j x (by simpa using u);refine⟨y,by simpa using p,?_⟩;rw[pP,←s,ox];rfl
theorem Ty {ll:List (List (Int×Int))} (h:(Bd.funcs ll).2.2=0):ll.length≤20∧(Bd.funcs ll).1.length=ll.length∧∀j x,ll[j]?=some x→∃y,(Bd.funcs ll).1[j]?=some y∧Bd.aA x ((Bd.funcs ll).1.take j)=(y,0,0):=by
 unfold Bd.funcs at h ⊢;split at h
 ·simp at h
 ·rename_i z;rw[if_neg z];obtain⟨aY,k,v,p⟩:=Pw ll 0 [] h;rw[k,le];exact⟨by omega,v,fun j x u=>by simpa using p j x u⟩
theorem Tb (fs:List Bd.aa):∀(r:List (List (Int×Int))) (ps:List aq),∃aY,dZ fs r ps=ps++aY∧aY.length=r.length∧∀j x,r[j]?=some x→aY[j]?=some (a_ x fs (ps++aY.take j)):=by
 intro r
 induction r with
 |nil=>intro ps;exact⟨[],by simp[dZ],rfl,fun j x h=>by simp at h⟩
 |cons l r ih =>
  intro ps;obtain⟨aY,u,z,v⟩:=ih (ps++[a_ l fs ps]);refine⟨a_ l fs ps::aY,by rw[dZ,u,ox];rfl,by simp[z],fun j x y=>?_⟩;cases j with
  |zero =>
   simp only[Ay,Bw]at y;subst y;simp
  |succ j =>
   have:=v j x (by simpa using y);rw[Ba,this,pP,ox];rfl
theorem Uc:∀(r:List aq)(es:List cU),∃aY,ej r es=es++aY∧aY.length=r.length∧∀j y,r[j]?=some y→aY[j]?=some (cG (es++aY.take j) y):=by
 intro r
 induction r with
 |nil=>intro ps;exact⟨[],by simp[ej],rfl,fun j z h=>by simp at h⟩
 |cons l r ih =>
  intro es;obtain⟨aY,v,u,k⟩:=ih (es++[cG es l]);refine⟨cG es l::aY,by rw[ej,v,ox];rfl,by simp[u],fun j z x=>?_⟩;cases j with
  |zero =>
   simp only[Ay,Bw]at x;subst x;simp
  |succ j =>
   have:=k j z (by simpa using x);rw[Ba,this,pP,ox];rfl
theorem Rk {fs u:List Bd.aa}(x:Int×Int) (h:(x.1=37∨x.1=38)→Bd.fn fs x.2=Bd.fn u x.2):bc x fs=bc x u:=by
 unfold bc;by_cases y:x.1=37
 ·rw[h (.inl y)]
 ·by_cases z:x.1=38
  ·rw[h (.inr z)]
  ·simp only[y,z,if_false]
theorem Qo {ps z:List aq}(x:Int×Int) (h:(x.1=37∨x.1=38)→pl ps x.2=pl z x.2):sizeOf x ps=sizeOf x z:=by
 unfold sizeOf;by_cases y:x.1=37
 ·rw[h (.inl y)]
 ·by_cases u:x.1=38
  ·rw[h (.inr u)]
  ·simp only[y,u,if_false]
theorem La {fs u:List Bd.aa}{ps z:List aq}:∀(l:List (Int×Int)) (i:Nat) (s:gj),(∀x∈l,bc x fs=bc x u∧sizeOf x ps=sizeOf x z)→bL fs ps l i s=bL u z l i s
 | [],_,_,_=>rfl
 |x::l,i,s,h=>by
  obtain⟨p,v⟩:=h x (by simp);rw[bL,bL,show bz fs ps i x s=bz u z i x s by unfold bz;rw[p,v]];exact La l _ _ fun y k=>h y (by simp[k])
theorem Pk {fs z:List Bd.aa}{ps y:List aq} {l:List (Int×Int)} (h:∀x∈l,bc x fs=bc x z∧sizeOf x ps=sizeOf x y):a_ l fs ps=a_ l z y:=by
 unfold a_;rw[La l 0 _ h]
theorem Sn {es u:List cU}(x:Int×Int) (h:(x.1=37∨x.1=38)→em es x.2=em u x.2) (next loops:Int):bD es x next loops=bD u x next loops:=by
 unfold bD;by_cases y:x.1=37
 ·rw[h (.inl y)]
 ·by_cases z:x.1=38
  ·rw[h (.inr z)]
  ·simp only[y,z,if_false]
theorem Ud {es x:List cU}{p:aq} (h:∀s∈p.steps,(s.op=37∨s.op=38)→em es s.a=em x s.a):cG es p=cG x p:=by
 funext aC y
 have:bZ es p aC y=bZ x p aC y:=by
  unfold bZ;refine pE fun s z=>Sn _ (h s z) _ _
 unfold cG;simp only[this]
def eR (ps:List aq)(l:List PS):Int:=(l.map fun s=>sizeOf (s.op,s.a) ps).sum
theorem Zhi (fs:List Bd.aa)(ps:List aq) (l:List (Int×Int)):∀i,i≤l.length→(∀k s,(st fs ps l i).steps[k]?=some s→∃y x,y<i∧l[y]?=some x∧kn fs ps l y=true∧eI fs ps l y=k∧0<sizeOf x ps∧s=⟨x.1,x.2,(st fs ps l y).aC.getD y 0,y+1+jump x⟩) ∧
  (st fs ps l i).size=min 20001 (eR ps (st fs ps l i).steps):=by
 intro i
 induction i with
 |zero=>intro _;exact⟨fun k s h=>by simp[st,bL,start]at h,by simp only[st,bL,start,eR,List.take_zero,oR,List.sum_nil];omega⟩
 |succ i ih =>
  intro hi;obtain⟨x,e⟩:∃x,l[i]?=some x:=⟨_,Bf (by omega)⟩;obtain⟨c,a⟩:=ih (by omega);have u:=dJ fs ps e;by_cases b:kn fs ps l i=true
  ·have v:=b;unfold kn at v;unfold bz at u;rw[if_neg (by simpa using v)]at u;by_cases q:0<sizeOf x ps
   ·have r:(st fs ps l (i+1)).steps=(st fs ps l i).steps++[⟨x.1,x.2,(st fs ps l i).aC.getD i 0,i+1+jump x⟩]:=by rw[u];dsimp only;rw[if_pos q]
    have d:(st fs ps l (i+1)).size=min ((st fs ps l i).size+sizeOf x ps) 20001:=by rw[u];dsimp only;rw[if_pos q]
    refine⟨fun k s z=>?_,?_⟩
    ·rw[r]at z;by_cases f:k<(st fs ps l i).steps.length
     ·rw[Ez f]at z;obtain⟨y,p,q1,q2⟩:=c k s z;exact⟨y,p,by omega,q2⟩
     ·rw[Dv (by omega)]at z;have g:k-(st fs ps l i).steps.length=0:=by
       have:=(aS.1 z).1;simp only[Bp,Bx]at this;omega
      rw[g]at z;simp only[Ay,Bw]at z;exact⟨i,x,by omega,e,b,by unfold eI;omega,q,z.symm⟩
    ·rw[d,r,a];have:eR ps ((st fs ps l i).steps++[⟨x.1,x.2,(st fs ps l i).aC.getD i 0,i+1+jump x⟩])=eR ps (st fs ps l i).steps+sizeOf x ps:=by
      unfold eR;simp
     rw[this];omega
   ·have r:(st fs ps l (i+1)).steps=(st fs ps l i).steps:=by rw[u];dsimp only;rw[if_neg q]
    have d:(st fs ps l (i+1)).size=(st fs ps l i).size:=by rw[u];dsimp only;rw[if_neg q]
    rw[r,d];exact⟨fun k s z=>by obtain⟨y,p,q1,q2⟩:=c k s z;exact⟨y,p,by omega,q2⟩,a⟩
  ·have v:=b;unfold kn at v;unfold bz at u;rw[if_pos (by simpa using v)]at u;rw[u];exact⟨fun k s z=>by obtain⟨y,p,q1,q2⟩:=c k s z;exact⟨y,p,by omega,q2⟩,a⟩
theorem Zer (ps:List aq)(l:List PS)(f:PS→Nat):eR ps (l.map fun p => { p with go:=f p })=eR ps l:=by
 unfold eR;rw[qa];rfl
theorem fH (ps:List aq):∀(l:List PS),(∀s∈l,0<sizeOf (s.op,s.a) ps)→0≤eR ps l∧(∀s∈l,sizeOf (s.op,s.a) ps≤eR ps l)
 | [],_=>⟨by simp[eR],fun s h=>by simp at h⟩
 |x::l,h=>by
  obtain⟨u,z⟩:=fH ps l fun s y=>h s (by simp[y])
  have v:=h x (by simp);have e:eR ps (x::l)=sizeOf (x.op,x.a) ps+eR ps l:=by unfold eR;simp
  refine⟨by omega,fun s y=>?_⟩;simp only[If]at y;rcases y with rfl|y
  ·omega
  ·have:=z s y;omega
theorem fB {fs:List Bd.aa}(ps:List aq) {l:List (Int×Int)} {c:Bd.aa} {P:List Bd.Place} (h:Hd.jL l.length fs l c P):∀k s,(a_ l fs ps).steps[k]?=some s→∃i x,l[i]?=some x∧kn fs ps l i=true∧eI fs ps l i=k∧0<sizeOf x ps∧s=⟨x.1,x.2,(Bd.bk P i).aC,eI fs ps l (i+1+jump x)⟩:=by
 intro k s r;have d:=dc ps h;have z:k<(a_ l fs ps).steps.length:=(aS.1 r).1;have a:(a_ l fs ps).steps=(st fs ps l l.length).steps.map fun p => { p with go:=((st fs ps l l.length).index.set l.length (st fs ps l l.length).steps.length).getD p.go 0 } := by
  unfold a_ st;rw[pB]
 rw[a,Gc]at z;obtain⟨i,x,e,y,v,u,b,_⟩:=(Zhi fs ps l l.length Aw).1 k _ (Bf z);refine⟨i,x,y,v,u,b,?_⟩;rcases(d.step i x y v).2 with⟨_,q,_⟩|⟨q,_⟩
 ·rw[u,r]at q;exact oU q
 ·omega
theorem ef (fs:List Bd.aa)(ps:List aq) (l:List (Int×Int)):(a_ l fs ps).size=min 20001 (eR ps (a_ l fs ps).steps)∧(∀s∈(a_ l fs ps).steps,0<sizeOf (s.op,s.a) ps∧(s.op,s.a)∈l):=by
 have d:(a_ l fs ps).steps=(st fs ps l l.length).steps.map fun p => { p with go:=((st fs ps l l.length).index.set l.length (st fs ps l l.length).steps.length).getD p.go 0 } := by
  unfold a_ st;rw[pB]
 have r:(a_ l fs ps).size=(st fs ps l l.length).size:=by
  unfold a_ st;rw[pB]
 obtain⟨q,z⟩:=Zhi fs ps l l.length Aw;rw[r,z,d,Zer];refine⟨rfl,fun s c=>?_⟩;obtain⟨y,u,rfl⟩:=List.mem_map.1 c;obtain⟨k,v⟩:=List.mem_iff_getElem?.1 u;obtain⟨i,x,_,q2,_,_,b,rfl⟩:=q k y v;exact⟨b,Bz q2⟩
theorem dP (fs:List Bd.aa)(ps:List aq) (l:List (Int×Int)):0≤(a_ l fs ps).size∧(a_ l fs ps).size≤20001∧((a_ l fs ps).size≤0→(a_ l fs ps).steps=[]):=by
 obtain⟨v,y⟩:=ef fs ps l;obtain⟨k,z⟩:=fH ps _ fun s u=>(y s u).1
 refine⟨by omega,by omega,fun p=>?_⟩;cases x:(a_ l fs ps).steps with
 |nil=>rfl
 |cons s r =>
  exfalso;have q1:=z s (by rw[x];simp);have q2:=(y s (by rw[x];simp)).1;omega
structure All (ll:List (List (Int×Int))) (fs:List Bd.aa) (ps:List aq) (es:List cU):Prop where
 l20:ll.length≤20
 fl:fs.length=ll.length
 pn:ps.length=ll.length
 el:es.length=ll.length
 fn:∀j lj,ll[j]?=some lj→∃cj P,fs[j]?=some cj∧Bd.aA lj (fs.take j)=(cj,0,0)∧Hd.jL lj.length (fs.take j) lj cj P∧pl ps j=a_ lj (fs.take j) ps∧ps[j]?=some (a_ lj (fs.take j) ps)∧em es j=cG es (a_ lj (fs.take j) ps)∧ps[j]?=some (a_ lj fs (ps.take j))
theorem Zkv (fs:List Bd.aa){j:Nat}{a:Int}(h:a<j)(x:0≤a):Bd.fn (fs.take j) a=Bd.fn fs a:=by
 unfold Bd.fn;rw[Bo,Bo,oB,if_pos (by omega)]
theorem Zkh (ps:List aq){j:Nat}{a:Int}(h:a<j)(x:0≤a):pl (ps.take j) a=pl ps a:=by
 unfold pl;rw[Bo,Bo,oB,if_pos (by omega)]
theorem Zkx (es:List cU){j:Nat}{a:Int}(h:a<j)(x:0≤a):em (es.take j) a=em es a:=by
 unfold em;rw[Bo,Bo,oB,if_pos (by omega)]
theorem eS {n:Nat}{fs:List Bd.aa} {l:List (Int×Int)} {c:Bd.aa} {P:List Bd.Place} (h:Hd.jL n fs l c P) (x:Int×Int) (z:x∈l) (y:x.1=37∨x.1=38):0≤x.2∧x.2<fs.length:=by
 obtain⟨i,hi⟩:=List.mem_iff_getElem?.1 z;exact(Hd.cE (h.ok i x hi).al).2.2 y
theorem jQ {ll:List (List (Int×Int))} (h:(Bd.funcs ll).2.2=0):All ll (Bd.funcs ll).1 (dZ (Bd.funcs ll).1 ll []) (ej (dZ (Bd.funcs ll).1 ll []) []):=by
 obtain⟨n,w,o⟩:=Ty h;generalize (Bd.funcs ll).1=fs at *;obtain⟨ps,b,q,H⟩:=Tb fs ll [];rw[le]at b;rw[b];obtain⟨es,r,m,X⟩:=Uc ps [];rw[le]at r;rw[r];refine⟨n,w,q,m.trans q,fun j y p=>?_⟩;obtain⟨l,i,d⟩:=o j y p;obtain⟨P,v⟩:=Hd.eU d;have Z:=(aS.1 p).1;have Y:(fs.take j).length=j:=by rw[Du];omega
 have k:=H j y p;rw[le]at k;have g:a_ y fs (ps.take j)=a_ y (fs.take j) ps:=Pk fun x c=>by
  refine⟨(Rk x fun z=>?_),Qo x fun z=>?_⟩
  ·obtain⟨q1,q2⟩:=eS v x c z;exact(Zkv fs (by omega) q1).symm
  ·obtain⟨q1,q2⟩:=eS v x c z;exact Zkh ps (by omega) q1
 have u:=k;rw[g]at u;have f:Bu.pl ps j=a_ y (fs.take j) ps:=by
  unfold Bu.pl;rw[Da,Bo,u];rfl
 have e:=X j _ u;rw[le]at e;refine⟨l,P,i,d,v,f,u,?_,k⟩;unfold em;rw[Da,Bo,e];refine Ud fun s K z=>?_
 obtain⟨q1,q2⟩:=eS v (s.op,s.a) ((ef (fs.take j) ps y).2 s K).2 z;exact Zkx es (by simp only at q2;omega) q1
end Bu
namespace Sm
open Mc Hd
theorem Zcj {ll:List (List (Int×Int))} {fs:List Bd.aa} {ps:List Bu.aq} {es:List Bu.cU} (h:Bu.All ll fs ps es) (aA:List Sr.bE):∀(j:Nat) y,ll[j]?=some y→∃x,fs[j]?=some x∧Zea ll aA es j x∧0≤x.steps∧0≤x.aM:=by
 intro j
 induction j using Nat.strongRecOn with
 |_ j ih =>
 intro y b;obtain⟨x,P,Z,C,z,M,W,Y,_⟩:=h.fn j y b;have O:=(aS.1 b).1;have cj:=h.fl;have c:(fs.take j).length=j:=by rw[Du];omega
 have L:ll.getD j []=y:=by rw[Bo,b];rfl
 have X:∀i ci,(fs.take j)[i]?=some ci→Zea ll aA es i ci∧0≤ci.steps∧0≤ci.aM:=fun i ci hi=>by
  have v:=(aS.1 hi).1;rw[c]at v;rw[oB,if_pos v]at hi;obtain⟨N,q1,q2⟩:=ih i v _ (Bf (by omega));rw[hi]at q1
  injection q1 with q1
  subst q1;exact q2
 have a:∀i:Nat,i<(fs.take j).length→0≤(Bu.pl ps i).size∧((Bu.pl ps i).size≤0→∀aC u,Bu.em es i aC u=[]):=fun i hi=>by
  rw[c]at hi;obtain⟨_,_,_,_,_,q1,_,q2,_⟩:=h.fn i _ (Bf (show i<ll.length by omega));obtain⟨l,_,K⟩:=Bu.dP (fs.take i) ps ll[i];rw[q1,q2];refine⟨l,fun a aC u=>?_⟩;unfold Bu.cG;rw[K a];rfl
 refine⟨x,Z,fun s m r q u e o A V Q D T S E d=>?_,Lu C,z.k0⟩;rw[L]at e ⊢;rw[Y]at d ⊢;have p:=Bu.dc ps z;obtain⟨p1,w,f⟩:=z.p0;obtain⟨k,t,n,J,F,R,G,I,g,U,H,B⟩:=Vi z p (by omega) X a q.pc s.stack.length u d y.length 0 s m r q (by omega) e o A V p.k0 (by rw[show ((0:Nat):Int)=0 from rfl,w];omega) Q D (by omega) S (by have:=z.k0;omega) E (by rw[p.c0];simp[Bu.aZ]);rw[show ((0:Nat):Int)=0 from rfl,f]at I;exact⟨k,t,n,J,F,R,G,by omega,g,U,H,B⟩
theorem Zgx (p:Pg)(z:Zn):Kp (ah p z):=by
 refine⟨fun x u=>by simp[ah]at u,fun x u=>?_,fun x u=>?_,fun x u=>?_,fun x u=>?_,Ln _⟩
 ·simp only[ah,List.mem_map]at u;obtain⟨y,_,rfl⟩:=u;exact Ln _
 ·rw[oW u];exact F0
 ·simp only[ah,List.mem_map]at u;obtain⟨y,_,rfl⟩:=u;exact⟨Ln _,Ln _⟩
 ·simp only[ah,List.mem_map]at u;obtain⟨y,_,rfl⟩:=u;exact⟨Ln _,Ln _⟩
theorem Zdp (ll:List (List (Int×Int))) (l:List (Int×Int)) (aP:List Int) (size:Int) (z:Zn):dh (ah ⟨ll,l,aP,size⟩ z) (Sr.ah aP size z) :=
 ⟨⟨(Sr.ah aP size z).m,rfl⟩,by simp[Sr.ah],fun i hi=>by simp[ah]at hi,Zgx _ _⟩
theorem iM {ll:List (List (Int×Int))} {l:List (Int×Int)} {c:Bd.aa} (h:Bd.program ll l=(c,0)) {aA:List Sr.bE} (x:Bu.build ll l=(aA,0)) (aP:List Int) (size:Int) (z:Zn) :
  dh (Mc.run c.steps.toNat (ah ⟨ll,l,aP,size⟩ z)) (Sr.run aA aP size z)∧(Mc.run c.steps.toNat (ah ⟨ll,l,aP,size⟩ z)).br=0∧((Mc.run c.steps.toNat (ah ⟨ll,l,aP,size⟩ z)).stack.length:Int)=c.delta∧(Sr.run aA aP size z).steps<aA.length∧0≤c.delta∧c.delta≤32:=by
 unfold Bu.build at x;rw[h]at x;simp only[ne_eq,not_true_eq_false,if_false]at x;unfold Bd.program at h;split at h
 ·rename_i a;simp at h;exact absurd h.2 a
 ·rename_i f;have q:=Bu.jQ (ll:=ll) (by omega);generalize (Bd.funcs ll).1=fs at *;generalize Bu.dZ fs ll []=ps at *;generalize Bu.ej ps []=es at *;split at x
  ·simp at x
  ·rename_i b3
   injection x with x _
   unfold Bd.fp at h;split at h
   ·rename_i a;simp at h;exact absurd h.2 a
   ·rename_i hj;split at h
    ·simp at h
    ·rename_i p3
     injection h with g1 _
     have y:=Bu.fJ (l:=l) (cs:=fs) (by omega);rw[g1]at y p3;obtain⟨P,p⟩:=eU y;have h0:=Lu y;obtain⟨p1,Q,V⟩:=p.p0;have e1:=q.fl;have u1:=q.l20;have J:∀i ci,fs[i]?=some ci→Zea ll aA es i ci∧0≤ci.steps∧0≤ci.aM:=fun i ci hi=>by
      have hX:=(aS.1 hi).1;obtain⟨b1,q1,q2⟩:=Zcj q aA i _ (Bf (by omega));rw[hi]at q1
      injection q1 with q1
      subst q1;exact q2
     have q':∀i:Nat,i<fs.length→0≤(Bu.pl ps i).size∧((Bu.pl ps i).size≤0→∀aC m,Bu.em es i aC m=[]):=fun i hi=>by
      obtain⟨_,_,_,_,_,q1,_,q2,_⟩:=q.fn i _ (Bf (show i<ll.length by omega));obtain⟨F,_,S⟩:=Bu.dP (fs.take i) ps ll[i];rw[q1,q2];refine⟨F,fun f aC m=>?_⟩;unfold Bu.cG;rw[S f];rfl
     have b:=Bu.dc ps p;have w:(Sr.ah aP size z).pc=0:=rfl;have o1:At aA 0 (Bu.cG es (Bu.a_ l fs ps) 0 ((0:Nat):Int)):=by
      rw[←x];intro i r U;rw[nz];exact(Ez (aS.1 U).1).trans U
     generalize v:ah ⟨ll,l,aP,size⟩ z=s at *;have hz:s.aD=[⟨l,0,0⟩]:=by rw[←v];rfl
     have hr:s.ai=false:=by rw[←v];rfl
     have hs:s.br=0:=by rw[←v];rfl
     have O:s.funcs=ll:=by rw[←v];rfl
     have e:s.stack=[]:=by rw[←v];rfl
     have g:=Zdp ll l aP size z;rw[v]at g;obtain⟨k,t,n,d,⟨u,Z,g2⟩,o,D,e2,T,L,I,_⟩:=Vi p b (by omega) J q' 0 0 0 o1 l.length 0 s 0 [] (Sr.ah aP size z) (by omega) hz hr hs O b.k0 (by rw[show ((0:Nat):Int)=0 from rfl,Q,e];rfl) (by omega) (by have:=p.k1;omega) (by simp only[Bx];omega) Aw (by rw[e];simp) g (by rw[b.c0,w];simp[Bu.aZ]);rw[show ((0:Nat):Int)=0 from rfl,V]at e2;obtain⟨B,X,rfl,R⟩:=g2;have Y:=o.fr;simp only at Y;subst Y;have M:Mc.settle u.aD=[]:=by rw[←R,dg];rfl
     have K:=Vo B M;have hA:Mc.run c.steps.toNat s = { u with aD:=[],ai:=true } := by
      have hk:k≤c.steps.toNat:=by omega
      by_cases A:k=c.steps.toNat
      ·unfold Mc.run;rw[←A,Z];simp only;rw[K]
      ·obtain⟨j,E⟩:∃j,c.steps.toNat=k+(j+1):=⟨c.steps.toNat-k-1,by omega⟩;unfold Mc.run;rw[E,Ju k (j+1) s u Z,Mc.steps];have:Mc.step u=({ u with aD:=[],ai:=true },false):=by unfold Mc.step;rw[K]
       rw[this]
     have p2:aA.length=(Bu.cG es (Bu.a_ l fs ps) 0 ((0:Nat):Int)).length+1:=by
      rw[←x,Ca,om];rfl
     have hb:aA.getD d.pc Sr.kK=⟨42,0,0,0,c.delta⟩:=by
      rw[L,nz,Bo,←x]
      show ((Bu.cG es (Bu.a_ l fs ps) 0 ((0:Nat):Int)++[⟨42,0,0,0,c.delta⟩]:List Sr.bE)[_]?).getD _=_
      rw[Dv Aw,qo];rfl
     obtain⟨r1,r2,W⟩:=T;rw[w,nz]at W;have C:(Sr.ah aP size z).steps=0:=rfl;have hR:Sr.run aA aP size z=d:=by
      obtain⟨m',G⟩:∃m',aA.length=n+(m'+1):=⟨aA.length-n-1,by omega⟩;unfold Sr.run;rw[G,r1,Sr.runs,hb];rfl
     have e7:=p.k1;rw[hA,hR];have H:=o.er;simp only at H D;have hP:dh { u with aD:=[],ai:=true } d:=I.iS u.funcs [] u.steps u.aM true u.br;refine⟨hP,H,by simp only;omega,by rw[r2,C];omega,by omega,?_⟩;unfold Bd.aA at y;split at y
     ·rename_i N;exact(Hd.gq l.length fs N l 0 (Bd.start l.length) c y (Bd.eX _)).2.2.2.2
     ·simp at y
end Sm
namespace Sm
open Mc Hd
def iI (c:List Sr.bE)(e:Nat):Prop:=∀(i:Nat) r,c[i]?=some r→r.op≠42∧(Sr.cS r.op).2=true∧Sr.eV r (Sr.cS r.op).1=true∧(Sr.cP r.op=true→0≤r.n∧(i:Int)+1+r.n≤c.length+e)
theorem iI.mono {c:List Sr.bE}{e x:Nat}(h:iI c e)(q:e≤x):iI c x:=fun i r v=>by
 obtain⟨k,z,p,u⟩:=h i r v;exact⟨k,z,p,fun y=>by have:=u y;omega⟩
theorem Zbf (e:Nat):iI [] e:=fun i r h=>by simp at h
theorem Fl {r:Sr.bE}{e:Nat}(y:r.op≠42) (u:(Sr.cS r.op).2=true) (v:Sr.eV r (Sr.cS r.op).1=true) (z:Sr.cP r.op=true→0≤r.n∧r.n≤e):iI [r] e:=fun i k x=>by
 have:i=0:=by
  have:=(aS.1 x).1;simp only[Bp,Bx]at this;omega
 subst this;simp only[Ay,Bw]at x;subst x;exact⟨y,u,v,fun h=>by have:=z h;simp only[Bp,Bx];omega⟩
theorem iI.append {a b:List Sr.bE}{e:Nat} (h:iI a (b.length+e)) (k:iI b e):iI (a++b) e:=fun i r x=>by
 by_cases hi:i<a.length
 ·rw[Ez hi]at x;obtain⟨v,z,p,u⟩:=h i r x;exact⟨v,z,p,fun y=>by have:=u y;rw[Ca];omega⟩
 ·rw[Dv (by omega)]at x;obtain⟨v,z,p,u⟩:=k (i-a.length) r x;exact⟨v,z,p,fun y=>by have:=u y;rw[Ca];omega⟩
theorem Vl {g:Nat→List Sr.bE}{off:Nat→Nat}(q:off 0=0):∀(n:Nat) (e:Nat),(∀k,k<n→off (k+1)=off k+(g k).length)→(∀k,k<n→iI (g k) (off n-off (k+1)+e))→iI ((List.range n).flatMap g) e∧((List.range n).flatMap g).length=off n:=by
 intro n
 induction n with
 |zero=>intro e _ _;exact⟨Zbf _,by simp[q]⟩
 |succ n ih =>
  intro e y h;have p:∀d k,k+d≤n+1→off k≤off (k+d):=by
   intro d
   induction d with
   |zero=>intro k _;exact Aw
   |succ d ih=>intro k z;have:=ih k (by omega);have:=y (k+d) (by omega);rw[←mt];omega
  have r:=y n (by omega);obtain⟨v,u⟩:=ih ((g n).length+e) (fun k z=>y k (by omega)) fun k z=>by
   have:=h k (by omega);have x:=p (n-(k+1)) (k+1) (by omega);rw[show k+1+(n-(k+1))=n by omega]at x;exact this.mono (by omega)
  rw[od,pF,List.flatMap_singleton];have x:=h n (by omega);rw[qo,nz]at x;exact⟨v.append x,by rw[Ca,u,r]⟩
theorem Zkc {n:Int}(h:0≤n∧n<64):Sr.rg n=true:=by unfold Sr.rg;simpa using h
theorem Ej {r:Sr.bE}(u:Int) (x:u % 2=0∨(0≤r.d∧r.d<64)) (y:u / 2 % 2=0∨(0≤r.a∧r.a<64)) (z:u / 4 % 2=0∨(0≤r.b∧r.b<64)):Sr.eV r u=true:=by
 unfold Sr.eV;simp only[Fa,Bool.or_eq_true,decide_eq_true_eq];exact⟨⟨x.imp id Zkc,y.imp id Zkc⟩,z.imp id Zkc⟩
theorem Zig {op:Int}(h:1≤op∧op≤39)(x:op≠1∧op≠2∧op≠3∧op≠4∧op≠35∧op≠36∧op≠37∧op≠38∧op≠39):(Sr.cS op).2=true:=by
 have y:op=5∨op=6∨op=7∨op=8∨op=9∨op=10∨op=11∨op=12∨op=13∨op=14∨op=15∨op=16∨op=17∨op=18∨op=19∨op=20∨op=21∨op=22∨op=23∨op=24∨op=25∨op=26∨op=27∨op=28∨op=29∨op=30∨op=31∨op=32∨op=33∨op=34:=by omega
 clear h x;rcases y with rfl|rfl|rfl|rfl|rfl|rfl|rfl|rfl|rfl|rfl|rfl|rfl|rfl|rfl|rfl|rfl|rfl|rfl|rfl|rfl|rfl|rfl|rfl|rfl|rfl|rfl|rfl|rfl|rfl|rfl
 all_goals decide
theorem Gs {op:Int}(h:Sr.cP op=false){P:Prop}:Sr.cP op=true→P:=fun e=>by rw[h]at e;cases e
theorem Zeu (es:List Bu.cU){op a next:Int}(loops:Nat)(e:Nat)(r:1≤op∧op≤39)(c:op≠35∧op≠36∧op≠37∧op≠38) (i:(aO op:Int)≤next) (f:next+aV op≤32+aO op):iI (Bu.bD es (op,a) next loops) e:=by
 obtain⟨g,d,l,m⟩:=c;by_cases s:op=1∨op=2∨op=3∨op=4∨op=39
 ·rcases s with rfl|rfl|rfl|rfl|rfl
  ·have k:aO 1=0:=rfl;have u:aV 1=1:=rfl;exact Fl (by simp) rfl (Ej 1 (.inr (by simp only;omega)) (.inl (by decide)) (.inl (by decide))) (Gs rfl)
  ·exact Zbf _
  ·have k:aO 3=1:=rfl;have u:aV 3=2:=rfl;exact Fl (by simp) rfl (Ej 3 (.inr (by simp only;omega)) (.inr (by simp only;omega)) (.inl (by decide))) (Gs rfl)
  ·have k:aO 4=2:=rfl;have u:aV 4=2:=rfl;refine iI.append (a:=[⟨40,63,next-1,0,0⟩]) (Fl (by simp) rfl (Ej 3 (.inr (by simp only;omega)) (.inr (by simp only;omega)) (.inl (by decide))) (Gs rfl)) (iI.append (a:=[⟨40,next-1,next-2,0,0⟩]) (b:=[⟨40,next-2,63,0,0⟩]) (Fl (by simp) rfl (Ej 3 (.inr (by simp only;omega)) (.inr (by simp only;omega)) (.inl (by decide))) (Gs rfl)) (Fl (by simp) rfl (Ej 3 (.inr (by simp only;omega)) (.inr (by simp only;omega)) (.inl (by decide))) (Gs rfl)))
  ·have k:aO 39=0:=rfl;have u:aV 39=1:=rfl;exact Fl (by simp) rfl (Ej 1 (.inr (by simp only;omega)) (.inl (by decide)) (.inl (by decide))) (Gs rfl)
 ·have q:op≠1∧op≠2∧op≠3∧op≠4∧op≠35∧op≠36∧op≠37∧op≠38∧op≠39:=by omega
  have z:Sr.cP op=false:=Fp (by omega);have y:=Zig r q;rw[Me es a next loops q];unfold Bu.cx;simp only;rcases Zd r q with⟨x,v,p⟩|⟨x,v,p⟩|⟨x,v,p⟩|⟨j,x,v,p⟩
  ·rw[if_pos x];exact Fl (by show op≠42;omega) y (by simp only;rw[x];exact Ej 3 (.inr (by simp only;omega)) (.inr (by simp only;omega)) (.inl (by decide))) (Gs z)
  ·rw[if_neg (by omega),if_pos x];exact Fl (by show op≠42;omega) y (by simp only;rw[x];exact Ej 7 (.inr (by simp only;omega)) (.inr (by simp only;omega)) (.inr (by simp only;omega))) (Gs z)
  ·rw[if_neg (by omega),if_neg (by omega),if_pos x];exact Fl (by show op≠42;omega) y (by simp only;rw[x];exact Ej 6 (.inl (by decide)) (.inr (by simp only;omega)) (.inr (by simp only;omega))) (Gs z)
  ·rw[if_neg (by omega),if_neg (by omega),if_neg (by omega)];exact Fl (by show op≠42;omega) y (by simp only;rw[x];exact Ej 0 (.inl (by decide)) (.inl (by decide)) (.inl (by decide))) (Gs z)
theorem Zgc {body:List Sr.bE}(h:iI body 0)(loops:Nat)(z:loops≤20){bm:Int}(u:0≤bm∧bm<64)(e:Nat):iI (Bu.eJ body bm loops) e:=by
 unfold Bu.eJ;refine iI.append (a:=[⟨40,32+(loops:Int),bm,0,0⟩]) (Fl (by simp) rfl (Ej 3 (.inr (by simp only;omega)) (.inr (by simp only;omega)) (.inl (by decide))) (Gs rfl)) ?_;refine(Vl (off:=fun k=>k*(1+body.length)) (by simp) 16 e (fun k _=>by simp only[Bp,oZ];omega) fun k y=>?_).1;refine iI.append (a:=[⟨41,0,32+(loops:Int),(k:Int),(16-(k:Int))*(1+(body.length:Int))-1⟩]) (Fl (by simp) rfl (Ej 2 (.inl (by decide)) (.inr (by simp only;omega)) (.inl (by decide))) fun _=>?_) (h.mono (by omega));have x:k=0∨k=1∨k=2∨k=3∨k=4∨k=5∨k=6∨k=7∨k=8∨k=9∨k=10∨k=11∨k=12∨k=13∨k=14∨k=15:=by omega
 simp only;rcases x with rfl|rfl|rfl|rfl|rfl|rfl|rfl|rfl|rfl|rfl|rfl|rfl|rfl|rfl|rfl|rfl <;> omega
def GoodC (es:List Bu.cU)(j:Nat)(c:Bd.aa):Prop:=∀(h:Int) (loops:Nat),c.aU≤h→h+c.aM≤32→loops+j≤20→iI (Bu.em es j h loops) 0
theorem Wd {l:List (Int×Int)} {fs:List Bd.aa} {ps:List Bu.aq} {c:Bd.aa} {P:List Bd.Place} {es:List Bu.cU} (o:jL l.length fs l c P) (C:∀i ci,fs[i]?=some ci→GoodC es i ci) (y:Int) (loops:Nat) (hn:c.aU≤y) (hp:y+c.aM≤32) (hl:loops+fs.length≤20):iI (Bu.cG es (Bu.a_ l fs ps) y loops) 0:=by
 have h0:=Bu.fB ps o;have n:=Bu.dc ps o;generalize Bu.a_ l fs ps=p at *;have cj:(Bu.bZ es p y loops).length=p.steps.length:=Bu.eB es p y loops;have L:∀(i:Nat) s,p.steps[i]?=some s→(Bu.bZ es p y loops)[i]?=some (Bu.bD es (s.op,s.a) (y+s.aC) loops):=fun i s d=>by
  unfold Bu.bZ;rw[Cd,d];rfl
 have J:=Bu.gQ (Bu.bZ es p y loops) p.steps;unfold Bu.cG;simp only;generalize Bu.bZ es p y loops=ls at *;refine(Vl (off:=Bu.aZ ls) (by simp[Bu.aZ]) p.steps.length 0 (fun k Y=>?_) fun k Y=>?_).1
 ·rw[J];exact(Bu.dO ls (by rw[Bo,Bf (by omega)];rfl)).1
 ·obtain⟨s,d⟩:∃s,p.steps[k]?=some s:=⟨_,Bf Y⟩;have R:=L k s d;obtain⟨i,x,w,H,hs,hz,rfl⟩:=h0 k s d;have hc:=(aS.1 w).1;have V:=o.ok i x w;obtain⟨N,T,E⟩:=cE V.al;obtain⟨v,r,b3,b4⟩:=V.kn (n.aR i (by omega) H);have ht:=Oy x.1;have hj:=Mw x.1;have G:(aO x.1:Int)≤y+(Bd.bk P i).aC:=by
   by_cases z:x.1=37∨x.1=38
   ·rw[bT z]at v;simp only at v;omega
   ·rw[bR z]at v;simp only at v;omega
  have I:y+(Bd.bk P i).aC+aV x.1≤32+aO x.1:=by
   by_cases z:x.1=37∨x.1=38
   ·rw[bT z]at r;simp only at r;omega
   ·rw[bR z]at r;simp only at r;omega
  have e:=(Bu.dO ls R).1;have M:Bu.fixed ls p.steps k=if Bu.cR x.1 then Bu.iy (Bu.bD es x (y+(Bd.bk P i).aC) loops) ((Bu.aZ ls (Bu.eI fs ps l (i+1+Bu.jump x)):Int)-Bu.aZ ls k-1) else Bu.bD es x (y+(Bd.bk P i).aC) loops:=by
   unfold Bu.fixed;simp only[d];rw[Bo,R];rfl
  rw[M];by_cases b:x.1=35∨x.1=36
  ·rw[if_pos (by unfold Bu.cR;simpa using b)];have g:Bu.jump x=x.2.toNat:=by unfold Bu.jump;rw[if_pos b]
   have X:i+1+Bu.jump x≤l.length:=by have:=T b;omega
   have S:=(n.step i x w H).2;have F:Bu.eI fs ps l (i+1)=k+1:=by
    rcases S with⟨_,_,q⟩|⟨q,_⟩
    ·omega
    ·omega
   have B:=Bu.fE fs ps l (i:=i+1) (j:=i+1+Bu.jump x) (by omega) X;have Q:=Bu.fE fs ps l (i:=i+1+Bu.jump x) (j:=l.length) X Aw;rw[n.lT]at Q;have W:=Bu.gH ls _ _ B;have b2:=Bu.gH ls _ _ Q;rw[F]at W;rcases b with A|m
   ·have u:Bu.bD es x (y+(Bd.bk P i).aC) loops=[⟨35,0,0,0,0⟩]:=by
     unfold Bu.bD;rw[A];simp
    have e:Bu.aZ ls (k+1)=Bu.aZ ls k+1:=by
     rw[e]
     show _+(Bu.bD es x (y+(Bd.bk P i).aC) loops).length=_
     rw[u];rfl
    rw[u];exact Fl (by show (35:Int)≠42;omega) rfl (Ej 0 (.inl (by decide)) (.inl (by decide)) (.inl (by decide))) fun _=>by
     show 0≤(Bu.aZ ls (Bu.eI fs ps l (i+1+Bu.jump x)):Int)-Bu.aZ ls k-1∧(Bu.aZ ls (Bu.eI fs ps l (i+1+Bu.jump x)):Int)-Bu.aZ ls k-1≤_
     omega
   ·have K:aO x.1=1:=by rw[m];rfl
    have b1:aV x.1=0:=by rw[m];rfl
    have u:Bu.bD es x (y+(Bd.bk P i).aC) loops=[⟨36,0,y+(Bd.bk P i).aC-1,0,0⟩]:=by
     unfold Bu.bD;rw[m];simp
    have e:Bu.aZ ls (k+1)=Bu.aZ ls k+1:=by
     rw[e]
     show _+(Bu.bD es x (y+(Bd.bk P i).aC) loops).length=_
     rw[u];rfl
    rw[u];exact Fl (by show (36:Int)≠42;omega) rfl (Ej 2 (.inl (by decide)) (.inr (by show 0≤y+(Bd.bk P i).aC-1∧y+(Bd.bk P i).aC-1<64;omega)) (.inl (by decide))) fun _=>by
     show 0≤(Bu.aZ ls (Bu.eI fs ps l (i+1+Bu.jump x)):Int)-Bu.aZ ls k-1∧(Bu.aZ ls (Bu.eI fs ps l (i+1+Bu.jump x)):Int)-Bu.aZ ls k-1≤_
     omega
  ·rw[if_neg (by rw[Vn b];decide)];by_cases z:x.1=37∨x.1=38
   ·obtain⟨q1,q2⟩:=E z;obtain⟨j,g⟩:∃j:Nat,x.2=j:=⟨x.2.toNat,by omega⟩;have D:j<fs.length:=by omega
    obtain⟨f,Z⟩:∃f,fs[j]?=some f:=⟨fs[j],Bf D⟩;have U:=C j f Z;have O:Bd.fn fs x.2=f:=by unfold Bd.fn;rw[g,Bo,Da,Z];rfl
    rw[bT z,O]at v r;simp only at v r;rcases z with z|z
    ·have K:aO x.1=0∧aV x.1=0:=by rw[z];exact⟨rfl,rfl⟩
     have u:Bu.bD es x (y+(Bd.bk P i).aC) loops=Bu.em es j (y+(Bd.bk P i).aC) loops:=by
      unfold Bu.bD;rw[z,g];simp
     rw[u];exact(U _ loops (by omega) (by omega) (by omega)).mono (by omega)
    ·have K:aO x.1=1∧aV x.1=0:=by rw[z];exact⟨rfl,rfl⟩
     have u:Bu.bD es x (y+(Bd.bk P i).aC) loops=Bu.eJ (Bu.em es j (y+(Bd.bk P i).aC-1) ((loops+1:Nat):Int)) (y+(Bd.bk P i).aC-1) loops:=by
      unfold Bu.bD;rw[z,g];simp
     rw[u];exact Zgc (U _ (loops+1) (by omega) (by omega) (by omega)) loops (by omega) (by omega) _
   ·exact Zeu es loops _ N ⟨by omega,by omega,by omega,by omega⟩ G I
theorem Zkk {ll:List (List (Int×Int))} {fs:List Bd.aa} {ps:List Bu.aq} {es:List Bu.cU} (h:Bu.All ll fs ps es):∀(j:Nat) z,ll[j]?=some z→∃x,fs[j]?=some x∧GoodC es j x:=by
 intro j
 induction j using Nat.strongRecOn with
 |_ j ih =>
 intro z u;obtain⟨x,P,r,m,a,c,f,q,_⟩:=h.fn j z u;have e:=(aS.1 u).1;have g:=h.fl;have p:(fs.take j).length=j:=by rw[Du];omega
 refine⟨x,r,fun k b s v l=>?_⟩;rw[q];refine Wd a (fun i ci hi=>?_) k b s v (by omega);have y:=(aS.1 hi).1;rw[p]at y;rw[oB,if_pos y]at hi;obtain⟨d,q1,q2⟩:=ih i y _ (Bf (by omega));rw[hi]at q1
 injection q1 with q1
 subst q1;exact q2
theorem Zp {es:List Bu.cU}{ps:List Bu.aq}{x:Int×Int}(k:0<Bu.sizeOf x ps) (u:(x.1=37∨x.1=38)→∀aC loops,((Bu.em es x.2 aC loops).length:Int)≤(Bu.pl ps x.2).size) (next loops:Int):((Bu.bD es x next loops).length:Int)≤Bu.sizeOf x ps:=by
 unfold Bu.bD;split
 ·simp only[Bx];omega
 ·split
  ·simp only[Bp,Bx];omega
  ·split
   ·simp only[Bp,Bx];omega
   ·split
    ·simp only[Bp,Bx];omega
    ·split
     ·rename_i y;unfold Bu.sizeOf;rw[if_pos y];simp
     ·split
      ·simp only[Bp,Bx];omega
      ·split
       ·simp only[Bp,Bx];omega
       ·split
        ·rename_i y _ _ z;have:=u (.inl z) next loops;unfold Bu.sizeOf;rw[if_neg y,if_pos z];exact this
        ·split
         ·rename_i y _ _ z v;have:=u (.inr v) (next-1) (loops+1);unfold Bu.sizeOf;rw[if_neg y,if_neg z,if_pos v,Rh];omega
         ·unfold Bu.cx
          (repeat' split) <;> (simp only[Bp,Bx];omega)
theorem Vx (es:List Bu.cU)(ps:List Bu.aq)(aC loops:Int):∀(l:List Bu.PS),(∀s∈l,((Bu.bD es (s.op,s.a) (aC+s.aC) loops).length:Int)≤Bu.sizeOf (s.op,s.a) ps)→(((l.map fun s=>Bu.bD es (s.op,s.a) (aC+s.aC) loops).flatten.length:Nat):Int)≤Bu.eR ps l
 | [],_=>by simp[Bu.eR]
 |s::l,h=>by
  have z:=Vx es ps aC loops l fun t x=>h t (by simp[x])
  have y:=h s (by simp);have e:Bu.eR ps (s::l)=Bu.sizeOf (s.op,s.a) ps+Bu.eR ps l:=by unfold Bu.eR;simp
  rw[oD,oY,Ca,e];omega
theorem ey {fs:List Bd.aa}{ps:List Bu.aq}{es:List Bu.cU} {l:List (Int×Int)} {c:Bd.aa} {P:List Bd.Place} (h:jL l.length fs l c P) (q:∀j:Nat,j<fs.length→(Bu.pl ps j).size≤20000→∀aC loops,((Bu.em es j aC loops).length:Int)≤(Bu.pl ps j).size) (v:(Bu.a_ l fs ps).size≤20000) (p:∀j:Nat,j<fs.length→0≤(Bu.pl ps j).size) (aC loops:Int):((Bu.cG es (Bu.a_ l fs ps) aC loops).length:Int)≤(Bu.a_ l fs ps).size:=by
 obtain⟨d,z⟩:=Bu.ef fs ps l;obtain⟨_,b⟩:=Bu.fH ps _ fun s v=>(z s v).1
 rw[Bu.iY];refine Int.le_trans (Vx es ps aC loops _ fun s u=>Zp (z s u).1 (fun x hi r=>?_) _ _) (by omega);obtain⟨q1,q2⟩:=Bu.eS h _ (z s u).2 x;simp only at q1 q2 x;obtain⟨j,k⟩:∃j:Nat,s.a=j:=⟨s.a.toNat,by omega⟩;have y:=b s u;have e:=p j (by omega);simp only;rw[k];refine q j (by omega) ?_ hi r;rw[k]at y;unfold Bu.sizeOf at y;rcases x with x|x
 ·rw[if_neg (by simp only;omega),if_pos x]at y;simp only at y;omega
 ·rw[if_neg (by simp only;omega),if_neg (by simp only;omega),if_pos x]at y;simp only at y;omega
theorem gi {ll:List (List (Int×Int))} {fs:List Bd.aa} {ps:List Bu.aq} {es:List Bu.cU} (h:Bu.All ll fs ps es):∀(j:Nat),j<ll.length→0≤(Bu.pl ps j).size∧(Bu.pl ps j).size≤20001∧((Bu.pl ps j).size≤20000→∀aC loops,((Bu.em es j aC loops).length:Int)≤(Bu.pl ps j).size):=by
 intro j
 induction j using Nat.strongRecOn with
 |_ j ih =>
 intro u;obtain⟨a,P,s,d,p,y,b,z,_⟩:=h.fn j _ (Bf u);have c:=h.fl;have r:(fs.take j).length=j:=by rw[Du];omega
 obtain⟨x,v,_⟩:=Bu.dP (fs.take j) ps ll[j];rw[y,z];exact⟨x,v,fun k hi q=>ey p (fun i hi=>(ih i (by omega) (by omega)).2.2) k (fun i hi=>(ih i (by omega) (by omega)).1) hi q⟩
theorem eE:∀(aA:List Sr.bE),(∀(i:Nat) r,aA[i]?=some r→Sr.dm r ((aA.length:Int)-1-i)=true)→Sr.fitsAll aA=true
 | [],_=>rfl
 |x::l,h=>by
  have y:=h 0 x rfl;rw[show (((x::l).length:Nat):Int)-1-(0:Nat)=l.length by rw[Bp];omega]at y;unfold Sr.fitsAll;rw[y,Bool.true_and];refine eE l fun i r z=>?_
  have:=h (i+1) r (by simpa using z)
  rwa [show (((x::l).length:Nat):Int)-1-((i+1:Nat):Int)=(l.length:Int)-1-i by rw[Bp];omega]at this
theorem Zaj {T:List Sr.bE}{n:Int}(h:iI T 0)(c:T.length≤79999)(q:0≤n∧n≤64):Sr.right (T++[⟨42,0,0,0,n⟩])=true:=by
 unfold Sr.right;rw[List.getLast?_concat];simp only[Fa,decide_eq_true_eq,Ca,om];refine⟨⟨by omega,eE _ fun i r x=>?_⟩,q⟩;rw[Ca,om];by_cases hi:i<T.length
 ·rw[Ez hi]at x;obtain⟨k,z,p,u⟩:=h i r x;unfold Sr.dm;rw[z,p];have s:decide (r.op=42)=false:=by simpa using k
  have y:decide (((T.length+1:Nat):Int)-1-i=0)=false:=by simp;omega
  rw[s,y];cases b:Sr.cP r.op with
  |false=>rfl
  |true =>
   have:=u b;have a:decide (0≤r.n∧r.n<((T.length+1:Nat):Int)-1-i)=true:=by simp;omega
   rw[a];rfl
 ·have v:i-T.length=0:=by
   rw[Dv (by omega)]at x;have:=(aS.1 x).1;simp only[Bp,Bx]at this;omega
  rw[Dv (by omega),v]at x;simp only[Ay,Bw]at x;subst x;obtain rfl:i=T.length:=by omega
  unfold Sr.dm;have y:decide (((T.length+1:Nat):Int)-1-(T.length:Int)=0)=true:=by simp
  rw[y];rfl
theorem jE {ll:List (List (Int×Int))} {l:List (Int×Int)} {aA:List Sr.bE} (x:Bu.build ll l=(aA,0)):Sr.right aA=true∧aA.length≤20000:=by
 have s:=x;unfold Bu.build at x;simp only at x;split at x
 ·rename_i y
  injection x with _ x
  exact absurd x y
 ·rename_i u;rcases v:Bd.program ll l with⟨c,e⟩
  rw[v]at u x;simp only[ne_eq,Classical.not_not]at u;subst u;split at x
  ·simp at x
  ·rename_i j
   injection x with x _
   have h:=v;unfold Bd.program at h;split at h
   ·rename_i y;simp at h;exact absurd h.2 y
   ·rename_i m;have z:=Bu.jQ (ll:=ll) (by omega);generalize (Bd.funcs ll).1=fs at *;generalize Bu.dZ fs ll []=ps at *;generalize Bu.ej ps []=es at *;unfold Bd.fp at h;split at h
    ·rename_i y;simp at h;exact absurd h.2 y
    ·rename_i n;split at h
     ·simp at h
     ·rename_i a
      injection h with q _
      have p:=Bu.fJ (l:=l) (cs:=fs) (by omega);rw[q]at p a;obtain⟨P,k⟩:=eU p;have w:=z.fl;have o:=z.l20;have H:=k.k1;have r:=ey k (fun i hi=>(gi z i (by omega)).2.2) (by omega) (fun i hi=>(gi z i (by omega)).1) 0 0;have b:iI (Bu.cG es (Bu.a_ l fs ps) 0 ((0:Nat):Int)) 0:=Wd k (fun i ci hi=>by
       have f:=(aS.1 hi).1;obtain⟨g,q1,q2⟩:=Zkk z i _ (Bf (by omega));rw[hi]at q1
       injection q1 with q1
       subst q1;exact q2) 0 0 (by omega) (by omega) (by omega)
      have d:=(iM v s [] 0 ⟨[],[],[],[]⟩).2.2.2.2;rw[←x];exact⟨Zaj b (by have:=r;omega) (by simp only;omega),by rw[Ca,om];omega⟩
end Sm
end
end Go.Proofs.YtnhebmgibiomnaaGreat

import Derived.Test.YtnhebmgibiomnaaGreatPh14
import Derived.Test.YtnhebmgibiomnaaGreatPh19
set_option linter.unusedVariables false
set_option linter.unusedSimpArgs false
set_option maxRecDepth 100000
set_option maxHeartbeats 8000000
namespace Go.Proofs.YtnhebmgibiomnaaGreat
section
namespace Sm
open Mc Hd
theorem At.piece {aA:List Sr.bE}{g:Nat→List Sr.bE} {ls:List (List Sr.bE)} (u:∀k,(g k).length=(ls.getD k []).length):∀(n pc:Nat),n≤ls.length→At aA pc ((List.range n).flatMap g)→((List.range n).flatMap g).length=Bu.aX ls n∧∀k,k<n→At aA (pc+Bu.aX ls k) (g k):=by
 intro n
 induction n with
 |zero=>intro pc _ _;exact⟨by simp[Bu.aX],fun k v=>by omega⟩
 |succ n ih =>
  intro pc q h;rw[ge,po,List.flatMap_singleton]at h ⊢;obtain⟨x,p⟩:=ih pc (by omega) h.left;have z:=(Bu.dQ ls (i:=n) (l:=ls.getD n []) (by rw[Bn,Bg (by omega)];rfl)).1;refine⟨by rw[Bz,x,z,u n],fun k v=>?_⟩;by_cases y:k<n
  ·exact p k y
  ·obtain rfl:k=n:=by omega
   rw[←x];exact h.right
theorem Vd {op:Int} (h:¬ (op=35∨op=36)):Bu.cQ op=false:=by unfold Bu.cQ;simpa using h
theorem Qu (body:List Sr.bE)(bk loops:Int):(Bu.eL body bk loops).length=1+16*(1+body.length):=by
 unfold Bu.eL;rw[Bo,List.length_flatMap,show List.range 16=[0,1,2,3,4,5,6,7,8,9,10,11,12,13,14,15] from rfl];simp;omega
theorem Uy {fl:List (List (Int×Int))} {l:List (Int×Int)} {fs:List Bd.aa} {ps:List Bu.aq} {p:Bu.aq} {c:Bd.aa} {P:List Bd.Place} {es:List Bu.cV} {aA:List Sr.bE} (s2:jI l.length fs l c P) (b1:Bu.kw fs ps l p P) (hF:fs.length≤fl.length)
  (hg:∀j H,fs[j]?=some H→Zdn fl aA es j H∧0≤H.steps∧0≤H.aL) (hz:∀j:Nat,j<fs.length→0≤(Bu.pl ps j).size∧((Bu.pl ps j).size≤0→∀aC loops,Bu.em es j aC loops=[]))
  (aN:Nat) (z:Int) (loops:Nat) (z5:At aA aN (Bu.cC es p z loops)) :
  ∀(d aK:Nat) (s:St) (m:Nat) (r:List Fm) (q:Sr.St),aK+d=l.length→s.aD=⟨l,aK,m⟩::r→s.ai=false→s.bp=0→s.funcs=fl→Bu.kn fs ps l aK=true→(s.stack.length:Int)=z+(Bd.bj P aK).aC→c.aU≤z→z+c.aL≤32→r.length+1+fs.length≤21→loops≤r.length→s.stack.length≤32→dh s q→q.pc=aN+Bu.aX (Bu.b_ es p z loops) (Bu.eI fs ps l aK) →
  ∃k t n v,Goes k s t∧fv s t k (⟨l,l.length,m⟩::r) (z+c.aL)∧(t.stack.length:Int)=z+c.delta∧(Bd.bj P aK).steps+k≤c.steps∧dG aA n q v∧v.pc=aN+(Bu.cC es p z loops).length∧dh t v∧eF loops q v:=by
 have a7:(Bu.b_ es p z loops).length=p.steps.length:=Bu.eD es p z loops;have z1:∀(i:Nat) s,p.steps[i]?=some s→(Bu.b_ es p z loops)[i]?=some (Bu.bD es (s.op,s.a) (z+s.aC) loops):=fun i s hs=>by
  unfold Bu.b_;rw[Cc,hs];rfl
 obtain⟨e1,y6⟩:=At.piece (Bu.gC (Bu.b_ es p z loops) p.steps) p.steps.length aN (by omega) z5;have e1:(Bu.cC es p z loops).length=Bu.aX (Bu.b_ es p z loops) p.steps.length:=e1;rw[e1];generalize Bu.b_ es p z loops=ls at *;intro d
 induction d using Nat.strongRecOn with
 |_ d ih =>
 intro aK s m r q hd x1 o7 z7 G hk x7 hn hp hr u1 z0 V R;by_cases a0:d=0
 ·have u5:aK=l.length:=by omega
  subst u5;refine⟨0,s,0,q,⟨s,rfl,jq.refl o7⟩,⟨x1,o7,z7,rfl,rfl,by omega⟩,?_,?_,dG.refl _ _,by rw[R,b1.lK],V,eF.refl _ _⟩
  ·rw[x7,s2.de]
  ·rw[s2.st];omega
 ·have o5:aK<l.length:=by omega
  obtain⟨x,hx⟩:∃x,l[aK]?=some x:=⟨l[aK],Bg o5⟩;have hS:=s2.ok aK x hx;have y3:=b1.aR aK (by omega) hk;obtain⟨v2,h9⟩:=b1.step aK x hx hk;obtain⟨T,a2,a3⟩:=cB hS.al;obtain⟨F,U,b3,b4⟩:=hS.kn y3;have ht:=Oj x.1;have hl:=Mh x.1;have hw:=fm hS.al o5;have c1:aO x.1≤s.stack.length:=by
   by_cases y:x.1=37∨x.1=38
   ·rw[bR y]at F;simp only at F;omega
   ·rw[bO y]at F;simp only at F;omega
  have c2:s.stack.length+aV x.1≤32+aO x.1:=by
   by_cases y:x.1=37∨x.1=38
   ·rw[bR y]at U;simp only at U;omega
   ·rw[bO y]at U;simp only at U;omega
  have u7:=Va x1 o7 hx T c1 c2 a2 (fun q=>by have:=a3 q;rw[G];omega);have z6:=Ki x.1 x.2 { s with aD:=⟨l,aK+1,m⟩::r,bp:=0,ai:=false } T.1 T.2;have u9:=Mo x.1 x.2 { s with aD:=⟨l,aK+1,m⟩::r,bp:=0,ai:=false };obtain⟨m1,m2,m3,m4,m5⟩:=u9;simp only at z6 m1 m2 m3 m4 m5;have g1:dh { s with aD:=⟨l,aK+1,m⟩::r,bp:=0,ai:=false } q:=V.iT s.funcs (⟨l,aK+1,m⟩::r) s.steps s.aL false 0;generalize I:deed x.1 x.2 { s with aD:=⟨l,aK+1,m⟩::r,bp:=0,ai:=false } = t at *;have hj:=Goes.eB u7 m2;have hq:∀q2,dh t q2→dh { t with steps:=t.steps+1,aL:=max t.aL t.stack.length } q2:=fun q2 h=>h.iT t.funcs t.aD (t.steps+1) (max t.aL t.stack.length) t.ai t.bp
  generalize B:({ t with steps:=t.steps+1,aL:=max t.aL t.stack.length }:St)=s1 at *;have N:s1.aD=t.aD:=by rw[←B]
  have f:s1.stack=t.stack:=by rw[←B]
  have e3:s1.ai=false:=by rw[←B];exact m2
  have e4:s1.bp=0:=by rw[←B];exact m3
  have e5:s1.funcs=fl:=by rw[←B];exact m1.trans G
  have e6:s1.steps=s.steps+1:=by rw[←B,←m4]
  have e7:s1.aL=max s.aL t.stack.length:=by rw[←B,←m5]
  have hO:∀X,s1.aD=X→fv s s1 1 X (z+c.aL):=fun X hX=>by
   refine⟨hX,e3,e4,e5.trans G.symm,e6,?_⟩;have:(t.stack.length:Int)≤z+c.aL:=by
    by_cases y:x.1=37∨x.1=38
    ·rw[bR y]at U;simp only at U;omega
    ·rw[bO y]at U;simp only at U;omega
   omega
  have y9:(Bd.ay fs (Bd.bj P aK) x).aC≤(Bd.ay fs (Bd.bj P aK) x).aL:=by
   by_cases y:x.1=37∨x.1=38
   ·rw[bR y];simp only;omega
   ·rw[bO y];exact pw _
  have on:∀(k:Nat) (K:St) (u:Nat) (n:Nat) (q2:Sr.St),Goes k s K→fv s K k (⟨l,u,m⟩::r) (z+c.aL)→(u:Int)∈Bd.ways aK x→(K.stack.length:Int)=z+(Bd.ay fs (Bd.bj P aK) x).aC→(Bd.bj P aK).steps+k≤(Bd.ay fs (Bd.bj P aK) x).steps→dG aA n q q2→q2.pc=aN+Bu.aX ls (Bu.eI fs ps l u)→dh K q2→eF loops q q2 →
    ∃k t n v,Goes k s t∧fv s t k (⟨l,l.length,m⟩::r) (z+c.aL)∧(t.stack.length:Int)=z+c.delta∧(Bd.bj P aK).steps+k≤c.steps∧dG aA n q v∧v.pc=aN+Bu.aX ls p.steps.length∧dh t v∧eF loops q v:=by
   intro k K u n q2 g o hu y4 v9 rg z2 u6 z3;obtain⟨u',a6,q1,v5⟩:=hw u hu;obtain⟨w1,w2,w3⟩:=b4 u hu;obtain⟨k',t',n',v,g',o',f1,f2,f3,f4,f5,f6⟩:=ih (l.length-u) (by omega) u K m r q2 (by omega) o.fr o.en o.er (o.fu.trans G) (v2 u hu) (by rw[y4,w2]) hn hp hr u1 (by have:=y9;omega) u6 z2;exact⟨k+k',t',_,v,g.trans g',o.trans o' (pw _) (pw _),f1,by omega,rg.trans f3,f4,f5,z3.trans f6⟩
  have A:x.1≠35→((aK+1:Nat):Int)∈Bd.ways aK x:=fun h=>by
   unfold Bd.ways;rw[if_neg h];simp
  have fd:0<Bu.sizeOf x ps→p.steps[Bu.eI fs ps l aK]?=some ⟨x.1,x.2,(Bd.bj P aK).aC,Bu.eI fs ps l (aK+1+Bu.jump x)⟩∧Bu.eI fs ps l (aK+1)=Bu.eI fs ps l aK+1∧At aA q.pc (Bu.fixed ls p.steps (Bu.eI fs ps l aK))∧ls[Bu.eI fs ps l aK]?=some (Bu.bD es x s.stack.length loops)∧(¬ (x.1=35∨x.1=36)→Bu.fixed ls p.steps (Bu.eI fs ps l aK)=Bu.bD es x s.stack.length loops∧aN+Bu.aX ls (Bu.eI fs ps l (aK+1))=q.pc+(Bu.bD es x s.stack.length loops).length):=by
   intro E;rcases h9 with⟨_,K,s3⟩|⟨h,_⟩
   ·have hc:=z1 _ _ K;simp only at hc;rw[←x7,show (x.1,x.2)=x from rfl]at hc;have y1:=(aS.1 K).1;refine⟨K,s3,by rw[R];exact y6 _ y1,hc,fun e=>⟨?_,?_⟩⟩
    ·unfold Bu.fixed;simp only[K,Vd e,pC,if_false];rw[Bn,hc];rfl
    ·rw[s3,(Bu.dQ ls hc).1,R];omega
   ·omega
  by_cases y:x.1=37∨x.1=38
  ·obtain⟨q1,q2⟩:=a3 y;obtain⟨j,e⟩:∃j:Nat,x.2=j:=⟨x.2.toNat,by omega⟩;have cj:j<fs.length:=by omega
   obtain⟨H,h8⟩:∃H,fs[j]?=some H:=⟨fs[j],Bg cj⟩;obtain⟨hG,v1,v6⟩:=hg j H h8;have x0:Bd.fn fs x.2=H:=by unfold Bd.fn;rw[e,Bn,Cw,h8];rfl
   have A:=A (by omega);have Z:=bR (fs:=fs) (p:=Bd.bj P aK) y;rw[x0]at Z;rw[Z]at F U;simp only at F U;rcases y with y|y
   ·have h7:aO x.1=0∧aV x.1=0:=by rw[y];exact⟨rfl,rfl⟩
    have b:t = { s with aD:=⟨fl.getD j [],0,0⟩::⟨l,aK+1,m⟩::r,bp:=0,ai:=false } := by
     rw[←I,y,e]
     show call _ (j:Int) 1=_
     unfold call;rw[if_pos (by omega)];simp only[Cw,G];rfl
    have D:s1.aD=⟨fl.getD j [],0,0⟩::⟨l,aK+1,m⟩::r:=by rw[N,b]
    have z9:dh s1 q:=hq q (by rw[b];exact g1.iT s.funcs (⟨fl.getD j [],0,0⟩::⟨l,aK+1,m⟩::r) s.steps s.aL false 0);have x3:At aA q.pc (Bu.em es j s1.stack.length loops)∧aN+Bu.aX ls (Bu.eI fs ps l (aK+1))=q.pc+(Bu.em es j s1.stack.length loops).length:=by
     have u4:(s1.stack.length:Int)=s.stack.length:=by rw[f];omega
     rw[u4];have h0:Bu.bD es x s.stack.length loops=Bu.em es j s.stack.length loops:=by
      unfold Bu.bD;rw[y,e];simp
     by_cases E:0<Bu.sizeOf x ps
     ·obtain⟨_,_,w,_,W⟩:=fd E;obtain⟨o6,Q⟩:=W (by omega);rw[o6,h0]at w;rw[h0]at Q;exact⟨w,Q⟩
     ·have a9:Bu.sizeOf x ps=(Bu.pl ps j).size:=by
       unfold Bu.sizeOf;rw[y,e];simp
      have he:=(hz j cj).2 (by omega) s.stack.length loops;rw[he];rcases h9 with⟨h,_⟩|⟨_,h⟩
      ·omega
      ·rw[h,R];exact⟨fun i r hr=>by simp at hr,rfl⟩
    obtain⟨k1,O,n1,e2,M,C,f1,f2,f3,f4,f5,f6⟩:=hG s1 0 _ q loops D e3 e4 e5 (by rw[f];omega) (by rw[f];omega) (by simp only[Bo];omega) (by simp only[Bo];omega) z9 x3.1;obtain⟨l1,l2⟩:=C.left (Y:=⟨l,aK+1,m⟩::r) da.symm;refine on (1+k1) _ (aK+1) n1 e2 (hj.trans (M.iT l1)) ((hO _ rfl).trans l2 (pw _) (by rw[f];omega)) A (by rw[Z];simp only;rw[f1,f];omega) ?_ f3 (by rw[f4,x3.2]) (f5.iT O.funcs (⟨l,aK+1,m⟩::r) O.steps O.aL O.ai O.bp) f6;rw[Z];simp only;rw[if_neg (by omega)];omega
   ·have h7:aO x.1=1∧aV x.1=0:=by rw[y];exact⟨rfl,rfl⟩
    have y5:H.delta=0:=by have:=b3 y;rwa [x0]at this
    have v0:1≤s.stack.length:=by omega
    have hX:Sr.get q ((s.stack.length:Int)-1)=s.stack.getD 0 0:=V.bk rfl v0;have u8:=Vj V.kp.stack 0;have b:t = { s with stack:=s.stack.drop 1,aD:=if 0<min (s.stack.getD 0 0) 16 then⟨fl.getD j [],0,(min (s.stack.getD 0 0) 16-1).toNat⟩::⟨l,aK+1,m⟩::r else⟨l,aK+1,m⟩::r,bp:=0,ai:=false } := by
     rw[←I,y,e]
     show call _ (j:Int) (min (s.stack.getD 0 0) 16)=_
     unfold call;split
     ·simp only[Cw,G]
     ·rfl
    have D:s1.aD=if 0<min (s.stack.getD 0 0) 16 then⟨fl.getD j [],0,(min (s.stack.getD 0 0) 16-1).toNat⟩::⟨l,aK+1,m⟩::r else⟨l,aK+1,m⟩::r:=by rw[N,b]
    generalize v4:s.stack.getD 0 0=X at *;have E:0<Bu.sizeOf x ps:=by
     have h1:=(hz j cj).1;have:Bu.sizeOf x ps=1+16*(1+(Bu.pl ps j).size):=by
      unfold Bu.sizeOf;rw[y,e];simp
     omega
    obtain⟨_,_,w,_,W⟩:=fd E;obtain⟨o6,Q⟩:=W (by omega);have y0:((s1.stack.length:Nat):Int)=(s.stack.length:Int)-1:=by rw[f];omega
    have h0:Bu.bD es x s.stack.length loops=Bu.eL (Bu.em es j s1.stack.length ((loops:Int)+1)) s1.stack.length loops:=by
     unfold Bu.bD;rw[y,e,y0];simp
    rw[o6,h0]at w;rw[h0,Qu]at Q;have o1:=w;unfold Bu.eL at o1;obtain⟨g0,p0⟩:=Zca (q:=q) o1.head (by simp) (Ff (by simp));have y2:Sr.deed ⟨40,32+(loops:Int),s1.stack.length,0,0⟩ { q with pc:=q.pc+1,steps:=q.steps+1 } = Sr.put { q with pc:=q.pc+1,steps:=q.steps+1 } (32+(loops:Int)) X:=by
     show Sr.put _ (32+(loops:Int)) (bA (Sr.get q (s1.stack.length:Int)))=_
     rw[y0,hX,u8]
    rw[y2]at g0 p0;have a1:eF loops q (Sr.put { q with pc:=q.pc+1,steps:=q.steps+1 } (32+(loops:Int)) X):=by
     rw[←y2];exact Ic (.inr (by show 32+loops≤(32+(loops:Int)).toNat;omega)) q _ _
    have x8:dh s1 (Sr.put { q with pc:=q.pc+1,steps:=q.steps+1 } (32+(loops:Int)) X):=by
     refine(dh.go ?_ _ _).mK X (by rw[f];omega);refine hq q ?_;rw[b];exact(V.drop 1).iT s.funcs _ s.steps s.aL false 0
    have x5:(Sr.put { q with pc:=q.pc+1,steps:=q.steps+1 } (32+(loops:Int)) X).aW.getD (32+loops) 0=X:=by
     simp only[Sr.put,Bn,Iu];rw[if_pos (by omega),if_pos (by rw[V.rl];omega)];rfl
    have x2:∀i:Nat,i<16→At aA (q.pc+1+i*(1+(Bu.em es j s1.stack.length ((loops:Int)+1)).length)) (⟨41,0,32+(loops:Int),(i:Int),(16-(i:Int))*(1+((Bu.em es j s1.stack.length ((loops:Int)+1)).length:Int))-1⟩::Bu.em es j s1.stack.length ((loops:Int)+1)):=by
     intro i hi;have:=At.kS (aA:=aA) (L:=1+(Bu.em es j s1.stack.length ((loops:Int)+1)).length) (fun k=>by rw[Bo];omega) 16 (q.pc+1) o1.tail i hi;exact this
    generalize a4:Sr.put { q with pc:=q.pc+1,steps:=q.steps+1 } (32+(loops:Int)) X=qe at *;generalize u3:(Bu.em es j s1.stack.length ((loops:Int)+1)).length=L at *;by_cases hm:0<min X 16
    ·rw[if_pos hm]at D;generalize v3:(min X 16-1).toNat=mm at *;have v7:mm≤15:=by omega
     obtain⟨k1,O,n1,e2,M,C,f1,f2,f3,f4,f5,f6⟩:=Zfn hG y5 loops X (q.pc+1) L s1.stack.length u3 x2 mm 0 s1 _ qe (by omega) rfl D e3 e4 e5 (by rw[f];omega) (by rw[f];omega) (by simp only[Bo];omega) (by simp only[Bo];omega) x8 (by rw[p0];omega) x5;have a5:((mm:Int)+1)*H.steps≤16*H.steps:=qt (by omega) v1;refine on (1+k1) _ (aK+1) _ e2 (hj.trans M) ((hO _ rfl).trans C (pw _) (by rw[f];omega)) A (by rw[Z];simp only;rw[f1,f];omega) ?_ (g0.trans f3) (by rw[f4,Q];omega) f5 (a1.trans f6);rw[Z];simp only;rw[if_pos y];omega
    ·rw[if_neg hm]at D;have t1:=x2 0 (by omega);rw[Nat.zero_mul,oq,←p0]at t1;have M:=Jy t1.head;have z4:Sr.get qe (32+(loops:Int))=X:=by unfold Sr.get;rw[show (32+(loops:Int)).toNat=32+loops by omega];exact x5
     rw[z4,if_pos (by omega)]at M;refine on 1 s1 (aK+1) _ _ hj (hO _ D) A (by rw[Z];simp only;rw[f];omega) ?_ (g0.trans M) ?_ (x8.go _ _) a1
     ·rw[Z];simp only;rw[if_pos y];omega
     ·have a8:=Zch 0 L (by omega);simp only;rw[p0,Q];omega
  ·have Z:=bO (fs:=fs) (p:=Bd.bj P aK) y;have E:0<Bu.sizeOf x ps:=by
    unfold Bu.sizeOf;split
    ·omega
    ·rw[if_neg (by omega),if_neg (by omega)];omega
   obtain⟨C,o2,w,o4,W⟩:=fd E;have q':∀(u n:Nat) (q2:Sr.St),s1.aD=⟨l,u,m⟩::r→(u:Int)∈Bd.ways aK x→dG aA n q q2→q2.pc=aN+Bu.aX ls (Bu.eI fs ps l u)→dh t q2→eF loops q q2→∃k t n v,Goes k s t∧fv s t k (⟨l,l.length,m⟩::r) (z+c.aL)∧(t.stack.length:Int)=z+c.delta∧(Bd.bj P aK).steps+k≤c.steps∧dG aA n q v∧v.pc=aN+Bu.aX ls p.steps.length∧dh t v∧eF loops q v:=fun u n q2 h1 h2 h3 h4 h5 h6 =>
    on 1 s1 u n q2 hj (hO _ h1) h2 (by rw[Z];simp only;rw[f];omega) (by rw[Z];simp only;omega) h3 h4 (hq q2 h5) h6
   by_cases S:x.1=35∨x.1=36
   ·obtain⟨j,e⟩:∃j:Nat,x.2=j:=⟨x.2.toNat,by have:=a2 S;omega⟩;have z8:Bu.jump x=j:=by unfold Bu.jump;rw[if_pos S,e,Cw]
    have u0:aK+1+j≤l.length:=by have:=a2 S;omega
    have u2:=Bu.fI fs ps l (i:=aK+1) (j:=aK+1+j) (by omega) u0;have v8:=Bu.gJ ls _ _ u2;rw[z8]at C;have J:=(Bu.dQ ls o4).1;rw[←o2]at J;have y1:=(aS.1 C).1;have y7:Bu.fixed ls p.steps (Bu.eI fs ps l aK)=Bu.jF (Bu.bD es x s.stack.length loops) ((Bu.aX ls (Bu.eI fs ps l (aK+1+j)):Int)-Bu.aX ls (Bu.eI fs ps l aK)-1):=by
     unfold Bu.fixed;simp only[C];rw[if_pos (by unfold Bu.cQ;simpa using S),Bn,o4];rfl
    rw[y7]at w;have x4:((aK+1+j:Nat):Int)∈Bd.ways aK x:=by
     unfold Bd.ways;rw[if_pos (c:=Bd.az x.1=true) (by simpa [Bd.az]using S),e];simp
    rcases S with x9|b2
    ·have o3:Bu.bD es x s.stack.length loops=[⟨35,0,0,0,0⟩]:=by
      unfold Bu.bD;rw[x9];simp
     rw[o3]at w J;simp only[Bo,Bw]at J;have g:=Zbz (w.head);have b:t = { s with aD:=⟨l,aK+1+j,m⟩::r,bp:=0,ai:=false } := by
      rw[←I,x9,e];rfl
     refine q' (aK+1+j) _ _ (by rw[N,b]) x4 g ?_ ?_ (fun _ _=>rfl)
     ·simp only;rw[R];omega
     ·rw[b];exact(g1.iT s.funcs (⟨l,aK+1+j,m⟩::r) s.steps s.aL false 0).go _ _
    ·have o3:Bu.bD es x s.stack.length loops=[⟨36,0,(s.stack.length:Int)-1,0,0⟩]:=by
      unfold Bu.bD;rw[b2];simp
     rw[o3]at w J;simp only[Bo,Bw]at J;have h7:aO x.1=1:=by rw[b2];rfl
     have g:=Xv (w.head);rw[V.bk rfl (by omega)]at g;have b:t=if s.stack.getD 0 0=0 then { s with stack:=s.stack.drop 1,aD:=⟨l,aK+1+j,m⟩::r,bp:=0,ai:=false } else { s with stack:=s.stack.drop 1,aD:=⟨l,aK+1,m⟩::r,bp:=0,ai:=false } := by
      rw[←I,b2,e]
      show (ite (s.stack.getD 0 0=0) _ _:St)=_
      split <;> rfl
     by_cases x6:s.stack.getD 0 0=0
     ·rw[if_pos x6]at b g;refine q' (aK+1+j) _ _ (by rw[N,b]) x4 g ?_ ?_ (fun _ _=>rfl)
      ·simp only;rw[R];omega
      ·rw[b];exact((V.drop 1).iT s.funcs (⟨l,aK+1+j,m⟩::r) s.steps s.aL false 0).go _ _
     ·rw[if_neg x6]at b g;refine q' (aK+1) _ _ (by rw[N,b]) (A (by omega)) g ?_ ?_ (fun _ _=>rfl)
      ·simp only;rw[R,J];omega
      ·rw[b];exact((V.drop 1).iT s.funcs (⟨l,aK+1,m⟩::r) s.steps s.aL false 0).go _ _
   ·obtain⟨o6,Q⟩:=W S;rw[o6]at w;obtain⟨n,q2,g,e8,e9,y8⟩:=Zaj (es:=es) (aA:=aA) g1 (op:=x.1) (a:=x.2) T ⟨by omega,by omega,by omega,by omega⟩ c1 c2 z0 loops (by omega) (next:=(s.stack.length:Int)) rfl w;rw[I]at e9;refine q' (aK+1) n q2 ?_ (A (by omega)) g (by rw[e8,Q]) e9 y8;rw[N,←I,Mp x.1 x.2 _ T.1 (by omega)]
end Sm
namespace Bu
theorem fL {l:List (Int×Int)} {cs:List Bd.aa} (h:(Bd.aA l cs).2.2=0):Bd.aA l cs=((Bd.aA l cs).1,0,0):=by
 have key:∀(n:Nat) (z:List (Int×Int)) (aK:Int) (s:Bd.St),(Bd.rest n cs z aK s).2.2=0→(Bd.rest n cs z aK s).2.1=0:=by
  intro n z
  induction z with
  |nil=>intro aK s _;rfl
  |cons y z ih2 =>
   intro aK s x;unfold Bd.rest at x ⊢;split at x
   ·rename_i u;simp only at x;exact absurd x u
   ·rename_i u;rw[if_neg u];exact ih2 _ _ x
 have k:(Bd.aA l cs).2.1=0:=by
  unfold Bd.aA at h ⊢;split at h
  ·rename_i v;rw[if_pos v];exact key _ _ _ _ h
  ·simp at h
 exact Prod.ext rfl (Prod.ext k h)
theorem Pj:∀(r:List (List (Int×Int))) (i:Int) (cs:List Bd.aa),(Bd.funcsGo r i cs).2.2=0→∃a_,(Bd.funcsGo r i cs).1=cs++a_∧a_.length=r.length∧∀j x,r[j]?=some x→∃y,a_[j]?=some y∧Bd.aA x (cs++a_.take j)=(y,0,0):=by
 intro r
 induction r with
 |nil=>intro i cs _;exact⟨[],by simp[Bd.funcsGo],rfl,fun j x h=>by simp at h⟩
 |cons l r ih =>
  intro i cs h;unfold Bd.funcsGo at h ⊢;split at h
  ·rename_i v;simp only at h;exact absurd h v
  ·rename_i z;rw[if_neg z];have z:(Bd.aA l cs).2.2=0:=by omega
   obtain⟨a_,a,k,q⟩:=ih (i+1) (cs++[(Bd.aA l cs).1]) h;refine⟨(Bd.aA l cs).1::a_,by rw[a,nz];rfl,by simp[k],fun j x u=>?_⟩;cases j with
   |zero =>
    simp only[Ay,Bv]at u;subst u;exact⟨_,rfl,by rw[List.take_zero,oC];exact fL z⟩
   |succ j =>
    obtain⟨y,p,s⟩:=q j x (by simpa using u);refine⟨y,by simpa using p,?_⟩;rw[pE,←s,nz];rfl
theorem Tm {ll:List (List (Int×Int))} (h:(Bd.funcs ll).2.2=0):ll.length≤20∧(Bd.funcs ll).1.length=ll.length∧∀j x,ll[j]?=some x→∃y,(Bd.funcs ll).1[j]?=some y∧Bd.aA x ((Bd.funcs ll).1.take j)=(y,0,0):=by
 unfold Bd.funcs at h ⊢;split at h
 ·simp at h
 ·rename_i v;rw[if_neg v];obtain⟨a_,p,k,u⟩:=Pj ll 0 [] h;rw[p,gs];exact⟨by omega,k,fun j x z=>by simpa using u j x z⟩
theorem So (fs:List Bd.aa):∀(r:List (List (Int×Int))) (ps:List aq),∃a_,d_ fs r ps=ps++a_∧a_.length=r.length∧∀j x,r[j]?=some x→a_[j]?=some (aY x fs (ps++a_.take j)):=by
 intro r
 induction r with
 |nil=>intro ps;exact⟨[],by simp[d_],rfl,fun j x h=>by simp at h⟩
 |cons l r ih =>
  intro ps;obtain⟨a_,v,u,z⟩:=ih (ps++[aY l fs ps]);refine⟨aY l fs ps::a_,by rw[d_,v,nz];rfl,by simp[u],fun j x y=>?_⟩;cases j with
  |zero =>
   simp only[Ay,Bv]at y;subst y;simp
  |succ j =>
   have:=z j x (by simpa using y);rw[Bc,this,pE,nz];rfl
theorem Tr:∀(r:List aq)(es:List cV),∃a_,ek r es=es++a_∧a_.length=r.length∧∀j y,r[j]?=some y→a_[j]?=some (cC (es++a_.take j) y):=by
 intro r
 induction r with
 |nil=>intro ps;exact⟨[],by simp[ek],rfl,fun j z h=>by simp at h⟩
 |cons l r ih =>
  intro es;obtain⟨a_,k,v,u⟩:=ih (es++[cC es l]);refine⟨cC es l::a_,by rw[ek,k,nz];rfl,by simp[v],fun j z x=>?_⟩;cases j with
  |zero =>
   simp only[Ay,Bv]at x;subst x;simp
  |succ j =>
   have:=u j z (by simpa using x);rw[Bc,this,pE,nz];rfl
theorem Qy {fs y:List Bd.aa}(x:Int×Int) (h:(x.1=37∨x.1=38)→Bd.fn fs x.2=Bd.fn y x.2):bZ x fs=bZ x y:=by
 unfold bZ;by_cases u:x.1=37
 ·rw[h (.inl u)]
 ·by_cases z:x.1=38
  ·rw[h (.inr z)]
  ·simp only[u,z,if_false]
theorem Qc {ps y:List aq}(x:Int×Int) (h:(x.1=37∨x.1=38)→pl ps x.2=pl y x.2):sizeOf x ps=sizeOf x y:=by
 unfold sizeOf;by_cases u:x.1=37
 ·rw[h (.inl u)]
 ·by_cases z:x.1=38
  ·rw[h (.inr z)]
  ·simp only[u,z,if_false]
theorem Ko {fs u:List Bd.aa}{ps z:List aq}:∀(l:List (Int×Int)) (i:Nat) (s:gh),(∀x∈l,bZ x fs=bZ x u∧sizeOf x ps=sizeOf x z)→bJ fs ps l i s=bJ u z l i s
 | [],_,_,_=>rfl
 |x::l,i,s,h=>by
  obtain⟨p,k⟩:=h x (by simp);rw[bJ,bJ,show bu fs ps i x s=bu u z i x s by unfold bu;rw[p,k]];exact Ko l _ _ fun y v=>h y (by simp[v])
theorem Ox {fs z:List Bd.aa}{ps y:List aq} {l:List (Int×Int)} (h:∀x∈l,bZ x fs=bZ x z∧sizeOf x ps=sizeOf x y):aY l fs ps=aY l z y:=by
 unfold aY;rw[Ko l 0 _ h]
theorem Sc {es y:List cV}(x:Int×Int) (h:(x.1=37∨x.1=38)→em es x.2=em y x.2) (next loops:Int):bD es x next loops=bD y x next loops:=by
 unfold bD;by_cases u:x.1=37
 ·rw[h (.inl u)]
 ·by_cases z:x.1=38
  ·rw[h (.inr z)]
  ·simp only[u,z,if_false]
theorem Ts {es x:List cV}{p:aq} (h:∀s∈p.steps,(s.op=37∨s.op=38)→em es s.a=em x s.a):cC es p=cC x p:=by
 funext aC y
 have:b_ es p aC y=b_ x p aC y:=by
  unfold b_;refine pm fun s z=>Sc _ (h s z) _ _
 unfold cC;simp only[this]
def eS (ps:List aq)(l:List PS):Int:=(l.map fun s=>sizeOf (s.op,s.a) ps).sum
theorem Zgv (fs:List Bd.aa)(ps:List aq) (l:List (Int×Int)):∀i,i≤l.length→(∀k s,(st fs ps l i).steps[k]?=some s→∃y x,y<i∧l[y]?=some x∧kn fs ps l y=true∧eI fs ps l y=k∧0<sizeOf x ps∧s=⟨x.1,x.2,(st fs ps l y).aC.getD y 0,y+1+jump x⟩) ∧
  (st fs ps l i).size=min 20001 (eS ps (st fs ps l i).steps):=by
 intro i
 induction i with
 |zero=>intro _;exact⟨fun k s h=>by simp[st,bJ,start]at h,by simp only[st,bJ,start,eS,List.take_zero,oH,List.sum_nil];omega⟩
 |succ i ih =>
  intro hi;obtain⟨x,e⟩:∃x,l[i]?=some x:=⟨_,Bg (by omega)⟩;obtain⟨c,a⟩:=ih (by omega);have u:=dJ fs ps e;by_cases b:kn fs ps l i=true
  ·have q:=b;unfold kn at q;unfold bu at u;rw[if_neg (by simpa using q)]at u;by_cases p:0<sizeOf x ps
   ·have r:(st fs ps l (i+1)).steps=(st fs ps l i).steps++[⟨x.1,x.2,(st fs ps l i).aC.getD i 0,i+1+jump x⟩]:=by rw[u];dsimp only;rw[if_pos p]
    have d:(st fs ps l (i+1)).size=min ((st fs ps l i).size+sizeOf x ps) 20001:=by rw[u];dsimp only;rw[if_pos p]
    refine⟨fun k s z=>?_,?_⟩
    ·rw[r]at z;by_cases f:k<(st fs ps l i).steps.length
     ·rw[En f]at z;obtain⟨y,v,q1,q2⟩:=c k s z;exact⟨y,v,by omega,q2⟩
     ·rw[Dp (by omega)]at z;have g:k-(st fs ps l i).steps.length=0:=by
       have:=(aS.1 z).1;simp only[Bo,Bw]at this;omega
      rw[g]at z;simp only[Ay,Bv]at z;exact⟨i,x,by omega,e,b,by unfold eI;omega,p,z.symm⟩
    ·rw[d,r,a];have:eS ps ((st fs ps l i).steps++[⟨x.1,x.2,(st fs ps l i).aC.getD i 0,i+1+jump x⟩])=eS ps (st fs ps l i).steps+sizeOf x ps:=by
      unfold eS;simp
     rw[this];omega
   ·have r:(st fs ps l (i+1)).steps=(st fs ps l i).steps:=by rw[u];dsimp only;rw[if_neg p]
    have d:(st fs ps l (i+1)).size=(st fs ps l i).size:=by rw[u];dsimp only;rw[if_neg p]
    rw[r,d];exact⟨fun k s z=>by obtain⟨y,v,q1,q2⟩:=c k s z;exact⟨y,v,by omega,q2⟩,a⟩
  ·have q:=b;unfold kn at q;unfold bu at u;rw[if_pos (by simpa using q)]at u;rw[u];exact⟨fun k s z=>by obtain⟨y,v,q1,q2⟩:=c k s z;exact⟨y,v,by omega,q2⟩,a⟩
theorem Zee (ps:List aq)(l:List PS)(f:PS→Nat):eS ps (l.map fun p => { p with go:=f p })=eS ps l:=by
 unfold eS;rw[pR];rfl
theorem fH (ps:List aq):∀(l:List PS),(∀s∈l,0<sizeOf (s.op,s.a) ps)→0≤eS ps l∧(∀s∈l,sizeOf (s.op,s.a) ps≤eS ps l)
 | [],_=>⟨by simp[eS],fun s h=>by simp at h⟩
 |x::l,h=>by
  obtain⟨v,z⟩:=fH ps l fun s y=>h s (by simp[y])
  have u:=h x (by simp);have e:eS ps (x::l)=sizeOf (x.op,x.a) ps+eS ps l:=by unfold eS;simp
  refine⟨by omega,fun s y=>?_⟩;simp only[Ga]at y;rcases y with rfl|y
  ·omega
  ·have:=z s y;omega
theorem fE {fs:List Bd.aa}(ps:List aq) {l:List (Int×Int)} {c:Bd.aa} {P:List Bd.Place} (h:Hd.jI l.length fs l c P):∀k s,(aY l fs ps).steps[k]?=some s→∃i x,l[i]?=some x∧kn fs ps l i=true∧eI fs ps l i=k∧0<sizeOf x ps∧s=⟨x.1,x.2,(Bd.bj P i).aC,eI fs ps l (i+1+jump x)⟩:=by
 intro k s y;have d:=dc ps h;have r:k<(aY l fs ps).steps.length:=(aS.1 y).1;have a:(aY l fs ps).steps=(st fs ps l l.length).steps.map fun p => { p with go:=((st fs ps l l.length).index.set l.length (st fs ps l l.length).steps.length).getD p.go 0 } := by
  unfold aY st;rw[o_]
 rw[a,Fu]at r;obtain⟨i,x,e,z,v,u,b,_⟩:=(Zgv fs ps l l.length Aw).1 k _ (Bg r);refine⟨i,x,z,v,u,b,?_⟩;rcases(d.step i x z v).2 with⟨_,q,_⟩|⟨q,_⟩
 ·rw[u,y]at q;exact oK q
 ·omega
theorem eg (fs:List Bd.aa)(ps:List aq) (l:List (Int×Int)):(aY l fs ps).size=min 20001 (eS ps (aY l fs ps).steps)∧(∀s∈(aY l fs ps).steps,0<sizeOf (s.op,s.a) ps∧(s.op,s.a)∈l):=by
 have c:(aY l fs ps).steps=(st fs ps l l.length).steps.map fun p => { p with go:=((st fs ps l l.length).index.set l.length (st fs ps l l.length).steps.length).getD p.go 0 } := by
  unfold aY st;rw[o_]
 have b:(aY l fs ps).size=(st fs ps l l.length).size:=by
  unfold aY st;rw[o_]
 obtain⟨r,z⟩:=Zgv fs ps l l.length Aw;rw[b,z,c,Zee];refine⟨rfl,fun s y=>?_⟩;obtain⟨u,d,rfl⟩:=List.mem_map.1 y;obtain⟨k,q⟩:=List.mem_iff_getElem?.1 d;obtain⟨i,x,_,q2,_,_,v,rfl⟩:=r k u q;exact⟨v,Bx q2⟩
theorem dN (fs:List Bd.aa)(ps:List aq) (l:List (Int×Int)):0≤(aY l fs ps).size∧(aY l fs ps).size≤20001∧((aY l fs ps).size≤0→(aY l fs ps).steps=[]):=by
 obtain⟨p,y⟩:=eg fs ps l;obtain⟨v,u⟩:=fH ps _ fun s z=>(y s z).1
 refine⟨by omega,by omega,fun k=>?_⟩;cases x:(aY l fs ps).steps with
 |nil=>rfl
 |cons s r =>
  exfalso;have q1:=u s (by rw[x];simp);have q2:=(y s (by rw[x];simp)).1;omega
structure All (ll:List (List (Int×Int))) (fs:List Bd.aa) (ps:List aq) (es:List cV):Prop where
 l20:ll.length≤20
 fl:fs.length=ll.length
 pn:ps.length=ll.length
 el:es.length=ll.length
 fn:∀j lj,ll[j]?=some lj→∃cj P,fs[j]?=some cj∧Bd.aA lj (fs.take j)=(cj,0,0)∧Hd.jI lj.length (fs.take j) lj cj P∧pl ps j=aY lj (fs.take j) ps∧ps[j]?=some (aY lj (fs.take j) ps)∧em es j=cC es (aY lj (fs.take j) ps)∧ps[j]?=some (aY lj fs (ps.take j))
theorem Zkk (fs:List Bd.aa){j:Nat}{a:Int}(h:a<j)(x:0≤a):Bd.fn (fs.take j) a=Bd.fn fs a:=by
 unfold Bd.fn;rw[Bn,Bn,oe,if_pos (by omega)]
theorem Zju (ps:List aq){j:Nat}{a:Int}(h:a<j)(x:0≤a):pl (ps.take j) a=pl ps a:=by
 unfold pl;rw[Bn,Bn,oe,if_pos (by omega)]
theorem Zkm (es:List cV){j:Nat}{a:Int}(h:a<j)(x:0≤a):em (es.take j) a=em es a:=by
 unfold em;rw[Bn,Bn,oe,if_pos (by omega)]
theorem eU {n:Nat}{fs:List Bd.aa} {l:List (Int×Int)} {c:Bd.aa} {P:List Bd.Place} (h:Hd.jI n fs l c P) (x:Int×Int) (z:x∈l) (y:x.1=37∨x.1=38):0≤x.2∧x.2<fs.length:=by
 obtain⟨i,hi⟩:=List.mem_iff_getElem?.1 z;exact(Hd.cB (h.ok i x hi).al).2.2 y
theorem jN {ll:List (List (Int×Int))} (h:(Bd.funcs ll).2.2=0):All ll (Bd.funcs ll).1 (d_ (Bd.funcs ll).1 ll []) (ek (d_ (Bd.funcs ll).1 ll []) []):=by
 obtain⟨i,m,K⟩:=Tm h;generalize (Bd.funcs ll).1=fs at *;obtain⟨ps,e,r,o⟩:=So fs ll [];rw[gs]at e;rw[e];obtain⟨es,b,w,H⟩:=Tr ps [];rw[gs]at b;rw[b];refine⟨i,m,r,w.trans r,fun j y p=>?_⟩;obtain⟨g,n,c⟩:=K j y p;obtain⟨P,u⟩:=Hd.eX c;have Y:=(aS.1 p).1;have Z:(fs.take j).length=j:=by rw[Dn];omega
 have k:=o j y p;rw[gs]at k;have X:aY y fs (ps.take j)=aY y (fs.take j) ps:=Ox fun x q=>by
  refine⟨(Qy x fun z=>?_),Qc x fun z=>?_⟩
  ·obtain⟨q1,q2⟩:=eU u x q z;exact(Zkk fs (by omega) q1).symm
  ·obtain⟨q1,q2⟩:=eU u x q z;exact Zju ps (by omega) q1
 have v:=k;rw[X]at v;have l:Bu.pl ps j=aY y (fs.take j) ps:=by
  unfold Bu.pl;rw[Cw,Bn,v];rfl
 have d:=H j _ v;rw[gs]at d;refine⟨g,P,n,c,u,l,v,?_,k⟩;unfold em;rw[Cw,Bn,d];refine Ts fun s f z=>?_
 obtain⟨q1,q2⟩:=eU u (s.op,s.a) ((eg (fs.take j) ps y).2 s f).2 z;exact Zkm es (by simp only at q2;omega) q1
end Bu
namespace Sm
open Mc Hd
theorem Zbw {ll:List (List (Int×Int))} {fs:List Bd.aa} {ps:List Bu.aq} {es:List Bu.cV} (h:Bu.All ll fs ps es) (aA:List Sr.bE):∀(j:Nat) y,ll[j]?=some y→∃x,fs[j]?=some x∧Zdn ll aA es j x∧0≤x.steps∧0≤x.aL:=by
 intro j
 induction j using Nat.strongRecOn with
 |_ j ih =>
 intro y p;obtain⟨x,P,H,Z,z,M,T,f,_⟩:=h.fn j y p;have cj:=(aS.1 p).1;have N:=h.fl;have e:(fs.take j).length=j:=by rw[Dn];omega
 have g:ll.getD j []=y:=by rw[Bn,p];rfl
 have l:∀i ci,(fs.take j)[i]?=some ci→Zdn ll aA es i ci∧0≤ci.steps∧0≤ci.aL:=fun i ci hi=>by
  have a:=(aS.1 hi).1;rw[e]at a;rw[oe,if_pos a]at hi;obtain⟨W,q1,q2⟩:=ih i a _ (Bg (by omega));rw[hi]at q1
  injection q1 with q1
  subst q1;exact q2
 have v:∀i:Nat,i<(fs.take j).length→0≤(Bu.pl ps i).size∧((Bu.pl ps i).size≤0→∀aC u,Bu.em es i aC u=[]):=fun i hi=>by
  rw[e]at hi;obtain⟨_,_,_,_,_,q1,_,q2,_⟩:=h.fn i _ (Bg (show i<ll.length by omega));obtain⟨L,_,C⟩:=Bu.dN (fs.take i) ps ll[i];rw[q1,q2];refine⟨L,fun v aC u=>?_⟩;unfold Bu.cC;rw[C v];rfl
 refine⟨x,H,fun s m r q u d w Y K U E O I Q c=>?_,Li Z,z.k0⟩;rw[g]at d ⊢;rw[f]at c ⊢;have b:=Bu.dc ps z;obtain⟨p1,R,X⟩:=z.p0;obtain⟨k,t,n,A,J,F,D,B,o,G,S,V⟩:=Uy z b (by omega) l v q.pc s.stack.length u c y.length 0 s m r q (by omega) d w Y K b.k0 (by rw[show ((0:Nat):Int)=0 from rfl,R];omega) U E (by omega) I (by have:=z.k0;omega) Q (by rw[b.c0];simp[Bu.aX]);rw[show ((0:Nat):Int)=0 from rfl,X]at B;exact⟨k,t,n,A,J,F,D,by omega,o,G,S,V⟩
theorem Zgk (p:Pg)(z:Zn):Kp (ah p z):=by
 refine⟨fun x u=>by simp[ah]at u,fun x u=>?_,fun x u=>?_,fun x u=>?_,fun x u=>?_,Lc _⟩
 ·simp only[ah,List.mem_map]at u;obtain⟨y,_,rfl⟩:=u;exact Lc _
 ·rw[oM u];exact F0
 ·simp only[ah,List.mem_map]at u;obtain⟨y,_,rfl⟩:=u;exact⟨Lc _,Lc _⟩
 ·simp only[ah,List.mem_map]at u;obtain⟨y,_,rfl⟩:=u;exact⟨Lc _,Lc _⟩
theorem Zdc (ll:List (List (Int×Int))) (l:List (Int×Int)) (aP:List Int) (size:Int) (z:Zn):dh (ah ⟨ll,l,aP,size⟩ z) (Sr.ah aP size z) :=
 ⟨⟨(Sr.ah aP size z).m,rfl⟩,by simp[Sr.ah],fun i hi=>by simp[ah]at hi,Zgk _ _⟩
theorem iK {ll:List (List (Int×Int))} {l:List (Int×Int)} {c:Bd.aa} (h:Bd.program ll l=(c,0)) {aA:List Sr.bE} (x:Bu.build ll l=(aA,0)) (aP:List Int) (size:Int) (z:Zn) :
  dh (Mc.run c.steps.toNat (ah ⟨ll,l,aP,size⟩ z)) (Sr.run aA aP size z)∧(Mc.run c.steps.toNat (ah ⟨ll,l,aP,size⟩ z)).bp=0∧((Mc.run c.steps.toNat (ah ⟨ll,l,aP,size⟩ z)).stack.length:Int)=c.delta∧(Sr.run aA aP size z).steps<aA.length∧0≤c.delta∧c.delta≤32:=by
 unfold Bu.build at x;rw[h]at x;simp only[ne_eq,not_true_eq_false,if_false]at x;unfold Bd.program at h;split at h
 ·rename_i b;simp at h;exact absurd h.2 b
 ·rename_i g;have q:=Bu.jN (ll:=ll) (by omega);generalize (Bd.funcs ll).1=fs at *;generalize Bu.d_ fs ll []=ps at *;generalize Bu.ek ps []=es at *;split at x
  ·simp at x
  ·rename_i e2
   injection x with x _
   unfold Bd.fw at h;split at h
   ·rename_i b;simp at h;exact absurd h.2 b
   ·rename_i r1;split at h
    ·simp at h
    ·rename_i hz
     injection h with F _
     have y:=Bu.fL (l:=l) (cs:=fs) (by omega);rw[F]at y hz;obtain⟨P,p⟩:=eX y;have h0:=Li y;obtain⟨p1,p2,J⟩:=p.p0;have hm:=q.fl;have e5:=q.l20;have G:∀i ci,fs[i]?=some ci→Zdn ll aA es i ci∧0≤ci.steps∧0≤ci.aL:=fun i ci hi=>by
      have hr:=(aS.1 hi).1;obtain⟨g1,q1,q2⟩:=Zbw q aA i _ (Bg (by omega));rw[hi]at q1
      injection q1 with q1
      subst q1;exact q2
     have hs:∀i:Nat,i<fs.length→0≤(Bu.pl ps i).size∧((Bu.pl ps i).size≤0→∀aC m,Bu.em es i aC m=[]):=fun i hi=>by
      obtain⟨_,_,_,_,_,q1,_,q2,_⟩:=q.fn i _ (Bg (show i<ll.length by omega));obtain⟨C,_,b3⟩:=Bu.dN (fs.take i) ps ll[i];rw[q1,q2];refine⟨C,fun g aC m=>?_⟩;unfold Bu.cC;rw[b3 g];rfl
     have d:=Bu.dc ps p;have Y:(Sr.ah aP size z).pc=0:=rfl;have hA:At aA 0 (Bu.cC es (Bu.aY l fs ps) 0 ((0:Nat):Int)):=by
      rw[←x];intro i r Z;rw[ns];exact(En (aS.1 Z).1).trans Z
     generalize v:ah ⟨ll,l,aP,size⟩ z=s at *;have W:s.aD=[⟨l,0,0⟩]:=by rw[←v];rfl
     have hb:s.ai=false:=by rw[←v];rfl
     have O:s.bp=0:=by rw[←v];rfl
     have I:s.funcs=ll:=by rw[←v];rfl
     have w:s.stack=[]:=by rw[←v];rfl
     have H:=Zdc ll l aP size z;rw[v]at H;obtain⟨k,t,n,a,⟨u,U,g2⟩,o,e1,S,V,e6,M,_⟩:=Uy p d (by omega) G hs 0 0 0 hA l.length 0 s 0 [] (Sr.ah aP size z) (by omega) W hb O I d.k0 (by rw[show ((0:Nat):Int)=0 from rfl,p2,w];rfl) (by omega) (by have:=p.k1;omega) (by simp only[Bw];omega) Aw (by rw[w];simp) H (by rw[d.c0,Y];simp[Bu.aX]);rw[show ((0:Nat):Int)=0 from rfl,J]at S;obtain⟨N,X,rfl,hX⟩:=g2;have e:=o.fr;simp only at e;subst e;have E:Mc.settle u.aD=[]:=by rw[←hX,da];rfl
     have f:=Ve N E;have hP:Mc.run c.steps.toNat s = { u with aD:=[],ai:=true } := by
      have hk:k≤c.steps.toNat:=by omega
      by_cases R:k=c.steps.toNat
      ·unfold Mc.run;rw[←R,U];simp only;rw[f]
      ·obtain⟨j,hj⟩:∃j,c.steps.toNat=k+(j+1):=⟨c.steps.toNat-k-1,by omega⟩;unfold Mc.run;rw[hj,Jk k (j+1) s u U,Mc.steps];have:Mc.step u=({ u with aD:=[],ai:=true },false):=by unfold Mc.step;rw[f]
       rw[this]
     have b1:aA.length=(Bu.cC es (Bu.aY l fs ps) 0 ((0:Nat):Int)).length+1:=by
      rw[←x,Bz,nr];rfl
     have A:aA.getD a.pc Sr.jz=⟨42,0,0,0,c.delta⟩:=by
      rw[e6,ns,Bn,←x]
      show ((Bu.cC es (Bu.aY l fs ps) 0 ((0:Nat):Int)++[⟨42,0,0,0,c.delta⟩]:List Sr.bE)[_]?).getD _=_
      rw[Dp Aw,pZ];rfl
     obtain⟨B,L,r3⟩:=V;rw[Y,ns]at r3;have D:(Sr.ah aP size z).steps=0:=rfl;have hR:Sr.run aA aP size z=a:=by
      obtain⟨m',T⟩:∃m',aA.length=n+(m'+1):=⟨aA.length-n-1,by omega⟩;unfold Sr.run;rw[T,B,Sr.runs,A];rfl
     have o1:=p.k1;rw[hP,hR];have K:=o.er;simp only at K e1;have q':dh { u with aD:=[],ai:=true } a:=M.iT u.funcs [] u.steps u.aL true u.bp;refine⟨q',K,by simp only;omega,by rw[L,D];omega,by omega,?_⟩;unfold Bd.aA at y;split at y
     ·rename_i Q;exact(Hd.hH l.length fs Q l 0 (Bd.start l.length) c y (Bd.eW _)).2.2.2.2
     ·simp at y
end Sm
namespace Sm
open Mc Hd
def iE (c:List Sr.bE)(e:Nat):Prop:=∀(i:Nat) r,c[i]?=some r→r.op≠42∧(Sr.cP r.op).2=true∧Sr.eY r (Sr.cP r.op).1=true∧(Sr.cN r.op=true→0≤r.n∧(i:Int)+1+r.n≤c.length+e)
theorem iE.mono {c:List Sr.bE}{e x:Nat}(h:iE c e)(q:e≤x):iE c x:=fun i r v=>by
 obtain⟨p,k,u,y⟩:=h i r v;exact⟨p,k,u,fun z=>by have:=y z;omega⟩
theorem Zat (e:Nat):iE [] e:=fun i r h=>by simp at h
theorem Fd {r:Sr.bE}{e:Nat}(v:r.op≠42) (y:(Sr.cP r.op).2=true) (u:Sr.eY r (Sr.cP r.op).1=true) (z:Sr.cN r.op=true→0≤r.n∧r.n≤e):iE [r] e:=fun i k x=>by
 have:i=0:=by
  have:=(aS.1 x).1;simp only[Bo,Bw]at this;omega
 subst this;simp only[Ay,Bv]at x;subst x;exact⟨v,y,u,fun h=>by have:=z h;simp only[Bo,Bw];omega⟩
theorem iE.append {a b:List Sr.bE}{e:Nat} (h:iE a (b.length+e)) (k:iE b e):iE (a++b) e:=fun i r x=>by
 by_cases hi:i<a.length
 ·rw[En hi]at x;obtain⟨p,v,u,y⟩:=h i r x;exact⟨p,v,u,fun z=>by have:=y z;rw[Bz];omega⟩
 ·rw[Dp (by omega)]at x;obtain⟨p,v,u,y⟩:=k (i-a.length) r x;exact⟨p,v,u,fun z=>by have:=y z;rw[Bz];omega⟩
theorem Vb {g:Nat→List Sr.bE}{off:Nat→Nat}(p:off 0=0):∀(n:Nat) (e:Nat),(∀k,k<n→off (k+1)=off k+(g k).length)→(∀k,k<n→iE (g k) (off n-off (k+1)+e))→iE ((List.range n).flatMap g) e∧((List.range n).flatMap g).length=off n:=by
 intro n
 induction n with
 |zero=>intro e _ _;exact⟨Zat _,by simp[p]⟩
 |succ n ih =>
  intro e y h;have v:∀d k,k+d≤n+1→off k≤off (k+d):=by
   intro d
   induction d with
   |zero=>intro k _;exact Aw
   |succ d ih=>intro k z;have:=ih k (by omega);have:=y (k+d) (by omega);rw[←Lb];omega
  have u:=y n (by omega);obtain⟨r,q⟩:=ih ((g n).length+e) (fun k z=>y k (by omega)) fun k z=>by
   have:=h k (by omega);have x:=v (n-(k+1)) (k+1) (by omega);rw[show k+1+(n-(k+1))=n by omega]at x;exact this.mono (by omega)
  rw[ge,po,List.flatMap_singleton];have x:=h n (by omega);rw[pZ,ns]at x;exact⟨r.append x,by rw[Bz,q,u]⟩
theorem Zjp {n:Int}(h:0≤n∧n<64):Sr.rg n=true:=by unfold Sr.rg;simpa using h
theorem Ed {r:Sr.bE}(u:Int) (x:u % 2=0∨(0≤r.d∧r.d<64)) (z:u / 2 % 2=0∨(0≤r.a∧r.a<64)) (y:u / 4 % 2=0∨(0≤r.b∧r.b<64)):Sr.eY r u=true:=by
 unfold Sr.eY;simp only[Eo,Bool.or_eq_true,decide_eq_true_eq];exact⟨⟨x.imp id Zjp,z.imp id Zjp⟩,y.imp id Zjp⟩
theorem Zht {op:Int}(h:1≤op∧op≤39)(x:op≠1∧op≠2∧op≠3∧op≠4∧op≠35∧op≠36∧op≠37∧op≠38∧op≠39):(Sr.cP op).2=true:=by
 have y:op=5∨op=6∨op=7∨op=8∨op=9∨op=10∨op=11∨op=12∨op=13∨op=14∨op=15∨op=16∨op=17∨op=18∨op=19∨op=20∨op=21∨op=22∨op=23∨op=24∨op=25∨op=26∨op=27∨op=28∨op=29∨op=30∨op=31∨op=32∨op=33∨op=34:=by omega
 clear h x;rcases y with rfl|rfl|rfl|rfl|rfl|rfl|rfl|rfl|rfl|rfl|rfl|rfl|rfl|rfl|rfl|rfl|rfl|rfl|rfl|rfl|rfl|rfl|rfl|rfl|rfl|rfl|rfl|rfl|rfl|rfl
 all_goals decide
theorem Gl {op:Int}(h:Sr.cN op=false){P:Prop}:Sr.cN op=true→P:=fun e=>by rw[h]at e;cases e
theorem Zeh (es:List Bu.cV){op a next:Int}(loops:Nat)(e:Nat)(r:1≤op∧op≤39)(s:op≠35∧op≠36∧op≠37∧op≠38) (j:(aO op:Int)≤next) (f:next+aV op≤32+aO op):iE (Bu.bD es (op,a) next loops) e:=by
 obtain⟨g,l,m,i⟩:=s;by_cases c:op=1∨op=2∨op=3∨op=4∨op=39
 ·rcases c with rfl|rfl|rfl|rfl|rfl
  ·have p:aO 1=0:=rfl;have v:aV 1=1:=rfl;exact Fd (by simp) rfl (Ed 1 (.inr (by simp only;omega)) (.inl (by decide)) (.inl (by decide))) (Gl rfl)
  ·exact Zat _
  ·have p:aO 3=1:=rfl;have v:aV 3=2:=rfl;exact Fd (by simp) rfl (Ed 3 (.inr (by simp only;omega)) (.inr (by simp only;omega)) (.inl (by decide))) (Gl rfl)
  ·have p:aO 4=2:=rfl;have v:aV 4=2:=rfl;refine iE.append (a:=[⟨40,63,next-1,0,0⟩]) (Fd (by simp) rfl (Ed 3 (.inr (by simp only;omega)) (.inr (by simp only;omega)) (.inl (by decide))) (Gl rfl)) (iE.append (a:=[⟨40,next-1,next-2,0,0⟩]) (b:=[⟨40,next-2,63,0,0⟩]) (Fd (by simp) rfl (Ed 3 (.inr (by simp only;omega)) (.inr (by simp only;omega)) (.inl (by decide))) (Gl rfl)) (Fd (by simp) rfl (Ed 3 (.inr (by simp only;omega)) (.inr (by simp only;omega)) (.inl (by decide))) (Gl rfl)))
  ·have p:aO 39=0:=rfl;have v:aV 39=1:=rfl;exact Fd (by simp) rfl (Ed 1 (.inr (by simp only;omega)) (.inl (by decide)) (.inl (by decide))) (Gl rfl)
 ·have k:op≠1∧op≠2∧op≠3∧op≠4∧op≠35∧op≠36∧op≠37∧op≠38∧op≠39:=by omega
  have y:Sr.cN op=false:=Ff (by omega);have z:=Zht r k;rw[Lq es a next loops k];unfold Bu.cg;simp only;rcases Ys r k with⟨x,q,u⟩|⟨x,q,u⟩|⟨x,q,u⟩|⟨d,x,q,u⟩
  ·rw[if_pos x];exact Fd (by show op≠42;omega) z (by simp only;rw[x];exact Ed 3 (.inr (by simp only;omega)) (.inr (by simp only;omega)) (.inl (by decide))) (Gl y)
  ·rw[if_neg (by omega),if_pos x];exact Fd (by show op≠42;omega) z (by simp only;rw[x];exact Ed 7 (.inr (by simp only;omega)) (.inr (by simp only;omega)) (.inr (by simp only;omega))) (Gl y)
  ·rw[if_neg (by omega),if_neg (by omega),if_pos x];exact Fd (by show op≠42;omega) z (by simp only;rw[x];exact Ed 6 (.inl (by decide)) (.inr (by simp only;omega)) (.inr (by simp only;omega))) (Gl y)
  ·rw[if_neg (by omega),if_neg (by omega),if_neg (by omega)];exact Fd (by show op≠42;omega) z (by simp only;rw[x];exact Ed 0 (.inl (by decide)) (.inl (by decide)) (.inl (by decide))) (Gl y)
theorem Zfp {body:List Sr.bE}(h:iE body 0)(loops:Nat)(y:loops≤20){bk:Int}(z:0≤bk∧bk<64)(e:Nat):iE (Bu.eL body bk loops) e:=by
 unfold Bu.eL;refine iE.append (a:=[⟨40,32+(loops:Int),bk,0,0⟩]) (Fd (by simp) rfl (Ed 3 (.inr (by simp only;omega)) (.inr (by simp only;omega)) (.inl (by decide))) (Gl rfl)) ?_;refine(Vb (off:=fun k=>k*(1+body.length)) (by simp) 16 e (fun k _=>by simp only[Bo,oP];omega) fun k u=>?_).1;refine iE.append (a:=[⟨41,0,32+(loops:Int),(k:Int),(16-(k:Int))*(1+(body.length:Int))-1⟩]) (Fd (by simp) rfl (Ed 2 (.inl (by decide)) (.inr (by simp only;omega)) (.inl (by decide))) fun _=>?_) (h.mono (by omega));have x:k=0∨k=1∨k=2∨k=3∨k=4∨k=5∨k=6∨k=7∨k=8∨k=9∨k=10∨k=11∨k=12∨k=13∨k=14∨k=15:=by omega
 simp only;rcases x with rfl|rfl|rfl|rfl|rfl|rfl|rfl|rfl|rfl|rfl|rfl|rfl|rfl|rfl|rfl|rfl <;> omega
def GoodC (es:List Bu.cV)(j:Nat)(c:Bd.aa):Prop:=∀(h:Int) (loops:Nat),c.aU≤h→h+c.aL≤32→loops+j≤20→iE (Bu.em es j h loops) 0
theorem Vs {l:List (Int×Int)} {fs:List Bd.aa} {ps:List Bu.aq} {c:Bd.aa} {P:List Bd.Place} {es:List Bu.cV} (n:jI l.length fs l c P) (B:∀i ci,fs[i]?=some ci→GoodC es i ci) (y:Int) (loops:Nat) (hn:c.aU≤y) (hp:y+c.aL≤32) (hl:loops+fs.length≤20):iE (Bu.cC es (Bu.aY l fs ps) y loops) 0:=by
 have F:=Bu.fE ps n;have o:=Bu.dc ps n;generalize Bu.aY l fs ps=p at *;have hc:(Bu.b_ es p y loops).length=p.steps.length:=Bu.eD es p y loops;have W:∀(i:Nat) s,p.steps[i]?=some s→(Bu.b_ es p y loops)[i]?=some (Bu.bD es (s.op,s.a) (y+s.aC) loops):=fun i s b=>by
  unfold Bu.b_;rw[Cc,b];rfl
 have D:=Bu.gC (Bu.b_ es p y loops) p.steps;unfold Bu.cC;simp only;generalize Bu.b_ es p y loops=ls at *;refine(Vb (off:=Bu.aX ls) (by simp[Bu.aX]) p.steps.length 0 (fun k V=>?_) fun k V=>?_).1
 ·rw[D];exact(Bu.dQ ls (by rw[Bn,Bg (by omega)];rfl)).1
 ·obtain⟨s,b⟩:∃s,p.steps[k]?=some s:=⟨_,Bg V⟩;have X:=W k s b;obtain⟨i,x,m,Z,hj,hz,rfl⟩:=F k s b;have b2:=(aS.1 m).1;have Q:=n.ok i x m;obtain⟨N,E,T⟩:=cB Q.al;obtain⟨r,v,b3,b4⟩:=Q.kn (o.aR i (by omega) Z);have ht:=Oj x.1;have cj:=Mh x.1;have C:(aO x.1:Int)≤y+(Bd.bj P i).aC:=by
   by_cases z:x.1=37∨x.1=38
   ·rw[bR z]at r;simp only at r;omega
   ·rw[bO z]at r;simp only at r;omega
  have A:y+(Bd.bj P i).aC+aV x.1≤32+aO x.1:=by
   by_cases z:x.1=37∨x.1=38
   ·rw[bR z]at v;simp only at v;omega
   ·rw[bO z]at v;simp only at v;omega
  have f:=(Bu.dQ ls X).1;have M:Bu.fixed ls p.steps k=if Bu.cQ x.1 then Bu.jF (Bu.bD es x (y+(Bd.bj P i).aC) loops) ((Bu.aX ls (Bu.eI fs ps l (i+1+Bu.jump x)):Int)-Bu.aX ls k-1) else Bu.bD es x (y+(Bd.bj P i).aC) loops:=by
   unfold Bu.fixed;simp only[b];rw[Bn,X];rfl
  rw[M];by_cases d:x.1=35∨x.1=36
  ·rw[if_pos (by unfold Bu.cQ;simpa using d)];have g:Bu.jump x=x.2.toNat:=by unfold Bu.jump;rw[if_pos d]
   have U:i+1+Bu.jump x≤l.length:=by have:=E d;omega
   have G:=(o.step i x m Z).2;have L:Bu.eI fs ps l (i+1)=k+1:=by
    rcases G with⟨_,_,q⟩|⟨q,_⟩
    ·omega
    ·omega
   have I:=Bu.fI fs ps l (i:=i+1) (j:=i+1+Bu.jump x) (by omega) U;have H:=Bu.fI fs ps l (i:=i+1+Bu.jump x) (j:=l.length) U Aw;rw[o.lK]at H;have O:=Bu.gJ ls _ _ I;have hs:=Bu.gJ ls _ _ H;rw[L]at O;rcases d with S|w
   ·have u:Bu.bD es x (y+(Bd.bj P i).aC) loops=[⟨35,0,0,0,0⟩]:=by
     unfold Bu.bD;rw[S];simp
    have f:Bu.aX ls (k+1)=Bu.aX ls k+1:=by
     rw[f]
     show _+(Bu.bD es x (y+(Bd.bj P i).aC) loops).length=_
     rw[u];rfl
    rw[u];exact Fd (by show (35:Int)≠42;omega) rfl (Ed 0 (.inl (by decide)) (.inl (by decide)) (.inl (by decide))) fun _=>by
     show 0≤(Bu.aX ls (Bu.eI fs ps l (i+1+Bu.jump x)):Int)-Bu.aX ls k-1∧(Bu.aX ls (Bu.eI fs ps l (i+1+Bu.jump x)):Int)-Bu.aX ls k-1≤_
     omega
   ·have K:aO x.1=1:=by rw[w];rfl
    have b1:aV x.1=0:=by rw[w];rfl
    have u:Bu.bD es x (y+(Bd.bj P i).aC) loops=[⟨36,0,y+(Bd.bj P i).aC-1,0,0⟩]:=by
     unfold Bu.bD;rw[w];simp
    have f:Bu.aX ls (k+1)=Bu.aX ls k+1:=by
     rw[f]
     show _+(Bu.bD es x (y+(Bd.bj P i).aC) loops).length=_
     rw[u];rfl
    rw[u];exact Fd (by show (36:Int)≠42;omega) rfl (Ed 2 (.inl (by decide)) (.inr (by show 0≤y+(Bd.bj P i).aC-1∧y+(Bd.bj P i).aC-1<64;omega)) (.inl (by decide))) fun _=>by
     show 0≤(Bu.aX ls (Bu.eI fs ps l (i+1+Bu.jump x)):Int)-Bu.aX ls k-1∧(Bu.aX ls (Bu.eI fs ps l (i+1+Bu.jump x)):Int)-Bu.aX ls k-1≤_
     omega
  ·rw[if_neg (by rw[Vd d];decide)];by_cases z:x.1=37∨x.1=38
   ·obtain⟨q1,q2⟩:=T z;obtain⟨j,g⟩:∃j:Nat,x.2=j:=⟨x.2.toNat,by omega⟩;have h0:j<fs.length:=by omega
    obtain⟨e,Y⟩:∃e,fs[j]?=some e:=⟨fs[j],Bg h0⟩;have R:=B j e Y;have J:Bd.fn fs x.2=e:=by unfold Bd.fn;rw[g,Bn,Cw,Y];rfl
    rw[bR z,J]at r v;simp only at r v;rcases z with z|z
    ·have K:aO x.1=0∧aV x.1=0:=by rw[z];exact⟨rfl,rfl⟩
     have u:Bu.bD es x (y+(Bd.bj P i).aC) loops=Bu.em es j (y+(Bd.bj P i).aC) loops:=by
      unfold Bu.bD;rw[z,g];simp
     rw[u];exact(R _ loops (by omega) (by omega) (by omega)).mono (by omega)
    ·have K:aO x.1=1∧aV x.1=0:=by rw[z];exact⟨rfl,rfl⟩
     have u:Bu.bD es x (y+(Bd.bj P i).aC) loops=Bu.eL (Bu.em es j (y+(Bd.bj P i).aC-1) ((loops+1:Nat):Int)) (y+(Bd.bj P i).aC-1) loops:=by
      unfold Bu.bD;rw[z,g];simp
     rw[u];exact Zfp (R _ (loops+1) (by omega) (by omega) (by omega)) loops (by omega) (by omega) _
   ·exact Zeh es loops _ N ⟨by omega,by omega,by omega,by omega⟩ C A
theorem Zjx {ll:List (List (Int×Int))} {fs:List Bd.aa} {ps:List Bu.aq} {es:List Bu.cV} (h:Bu.All ll fs ps es):∀(j:Nat) y,ll[j]?=some y→∃x,fs[j]?=some x∧GoodC es j x:=by
 intro j
 induction j using Nat.strongRecOn with
 |_ j ih =>
 intro y u;obtain⟨x,P,r,f,s,c,g,k,_⟩:=h.fn j y u;have m:=(aS.1 u).1;have d:=h.fl;have b:(fs.take j).length=j:=by rw[Dn];omega
 refine⟨x,r,fun p v a q e=>?_⟩;rw[k];refine Vs s (fun i ci hi=>?_) p v a q (by omega);have z:=(aS.1 hi).1;rw[b]at z;rw[oe,if_pos z]at hi;obtain⟨l,q1,q2⟩:=ih i z _ (Bg (by omega));rw[hi]at q1
 injection q1 with q1
 subst q1;exact q2
theorem Zd {es:List Bu.cV}{ps:List Bu.aq}{x:Int×Int}(k:0<Bu.sizeOf x ps) (v:(x.1=37∨x.1=38)→∀aC loops,((Bu.em es x.2 aC loops).length:Int)≤(Bu.pl ps x.2).size) (next loops:Int):((Bu.bD es x next loops).length:Int)≤Bu.sizeOf x ps:=by
 unfold Bu.bD;split
 ·simp only[Bw];omega
 ·split
  ·simp only[Bo,Bw];omega
  ·split
   ·simp only[Bo,Bw];omega
   ·split
    ·simp only[Bo,Bw];omega
    ·split
     ·rename_i y;unfold Bu.sizeOf;rw[if_pos y];simp
     ·split
      ·simp only[Bo,Bw];omega
      ·split
       ·simp only[Bo,Bw];omega
       ·split
        ·rename_i y _ _ z;have:=v (.inl z) next loops;unfold Bu.sizeOf;rw[if_neg y,if_pos z];exact this
        ·split
         ·rename_i y _ _ z u;have:=v (.inr u) (next-1) (loops+1);unfold Bu.sizeOf;rw[if_neg y,if_neg z,if_pos u,Qu];omega
         ·unfold Bu.cg
          (repeat' split) <;> (simp only[Bo,Bw];omega)
theorem Vm (es:List Bu.cV)(ps:List Bu.aq)(aC loops:Int):∀(l:List Bu.PS),(∀s∈l,((Bu.bD es (s.op,s.a) (aC+s.aC) loops).length:Int)≤Bu.sizeOf (s.op,s.a) ps)→(((l.map fun s=>Bu.bD es (s.op,s.a) (aC+s.aC) loops).flatten.length:Nat):Int)≤Bu.eS ps l
 | [],_=>by simp[Bu.eS]
 |s::l,h=>by
  have z:=Vm es ps aC loops l fun t x=>h t (by simp[x])
  have y:=h s (by simp);have e:Bu.eS ps (s::l)=Bu.sizeOf (s.op,s.a) ps+Bu.eS ps l:=by unfold Bu.eS;simp
  rw[ol,oO,Bz,e];omega
theorem fD {fs:List Bd.aa}{ps:List Bu.aq}{es:List Bu.cV} {l:List (Int×Int)} {c:Bd.aa} {P:List Bd.Place} (h:jI l.length fs l c P) (q:∀j:Nat,j<fs.length→(Bu.pl ps j).size≤20000→∀aC loops,((Bu.em es j aC loops).length:Int)≤(Bu.pl ps j).size) (v:(Bu.aY l fs ps).size≤20000) (b:∀j:Nat,j<fs.length→0≤(Bu.pl ps j).size) (aC loops:Int):((Bu.cC es (Bu.aY l fs ps) aC loops).length:Int)≤(Bu.aY l fs ps).size:=by
 obtain⟨e,z⟩:=Bu.eg fs ps l;obtain⟨_,r⟩:=Bu.fH ps _ fun s v=>(z s v).1
 rw[Bu.iU];refine Int.le_trans (Vm es ps aC loops _ fun s u=>Zd (z s u).1 (fun x hi p=>?_) _ _) (by omega);obtain⟨q1,q2⟩:=Bu.eU h _ (z s u).2 x;simp only at q1 q2 x;obtain⟨j,k⟩:∃j:Nat,s.a=j:=⟨s.a.toNat,by omega⟩;have y:=r s u;have d:=b j (by omega);simp only;rw[k];refine q j (by omega) ?_ hi p;rw[k]at y;unfold Bu.sizeOf at y;rcases x with x|x
 ·rw[if_neg (by simp only;omega),if_pos x]at y;simp only at y;omega
 ·rw[if_neg (by simp only;omega),if_neg (by simp only;omega),if_pos x]at y;simp only at y;omega
theorem gk {ll:List (List (Int×Int))} {fs:List Bd.aa} {ps:List Bu.aq} {es:List Bu.cV} (h:Bu.All ll fs ps es):∀(j:Nat),j<ll.length→0≤(Bu.pl ps j).size∧(Bu.pl ps j).size≤20001∧((Bu.pl ps j).size≤20000→∀aC loops,((Bu.em es j aC loops).length:Int)≤(Bu.pl ps j).size):=by
 intro j
 induction j using Nat.strongRecOn with
 |_ j ih =>
 intro q;obtain⟨r,P,a,b,k,v,c,y,_⟩:=h.fn j _ (Bg q);have s:=h.fl;have d:(fs.take j).length=j:=by rw[Dn];omega
 obtain⟨p,u,_⟩:=Bu.dN (fs.take j) ps ll[j];rw[v,y];exact⟨p,u,fun x hi z=>fD k (fun i hi=>(ih i (by omega) (by omega)).2.2) x (fun i hi=>(ih i (by omega) (by omega)).1) hi z⟩
theorem dy:∀(aA:List Sr.bE),(∀(i:Nat) r,aA[i]?=some r→Sr.dm r ((aA.length:Int)-1-i)=true)→Sr.fitsAll aA=true
 | [],_=>rfl
 |x::l,h=>by
  have y:=h 0 x rfl;rw[show (((x::l).length:Nat):Int)-1-(0:Nat)=l.length by rw[Bo];omega]at y;unfold Sr.fitsAll;rw[y,Bool.true_and];refine dy l fun i r z=>?_
  have:=h (i+1) r (by simpa using z)
  rwa [show (((x::l).length:Nat):Int)-1-((i+1:Nat):Int)=(l.length:Int)-1-i by rw[Bo];omega]at this
theorem Zy {T:List Sr.bE}{n:Int}(h:iE T 0)(c:T.length≤79999)(p:0≤n∧n≤64):Sr.right (T++[⟨42,0,0,0,n⟩])=true:=by
 unfold Sr.right;rw[List.getLast?_concat];simp only[Eo,decide_eq_true_eq,Bz,nr];refine⟨⟨by omega,dy _ fun i r x=>?_⟩,p⟩;rw[Bz,nr];by_cases hi:i<T.length
 ·rw[En hi]at x;obtain⟨s,u,k,v⟩:=h i r x;unfold Sr.dm;rw[u,k];have a:decide (r.op=42)=false:=by simpa using s
  have y:decide (((T.length+1:Nat):Int)-1-i=0)=false:=by simp;omega
  rw[a,y];cases z:Sr.cN r.op with
  |false=>rfl
  |true =>
   have:=v z;have q:decide (0≤r.n∧r.n<((T.length+1:Nat):Int)-1-i)=true:=by simp;omega
   rw[q];rfl
 ·have b:i-T.length=0:=by
   rw[Dp (by omega)]at x;have:=(aS.1 x).1;simp only[Bo,Bw]at this;omega
  rw[Dp (by omega),b]at x;simp only[Ay,Bv]at x;subst x;obtain rfl:i=T.length:=by omega
  unfold Sr.dm;have y:decide (((T.length+1:Nat):Int)-1-(T.length:Int)=0)=true:=by simp
  rw[y];rfl
theorem jD {ll:List (List (Int×Int))} {l:List (Int×Int)} {aA:List Sr.bE} (x:Bu.build ll l=(aA,0)):Sr.right aA=true∧aA.length≤20000:=by
 have r:=x;unfold Bu.build at x;simp only at x;split at x
 ·rename_i y
  injection x with _ x
  exact absurd x y
 ·rename_i u;rcases v:Bd.program ll l with⟨c,e⟩
  rw[v]at u x;simp only[ne_eq,Classical.not_not]at u;subst u;split at x
  ·simp at x
  ·rename_i j
   injection x with x _
   have h:=v;unfold Bd.program at h;split at h
   ·rename_i y;simp at h;exact absurd h.2 y
   ·rename_i n;have z:=Bu.jN (ll:=ll) (by omega);generalize (Bd.funcs ll).1=fs at *;generalize Bu.d_ fs ll []=ps at *;generalize Bu.ek ps []=es at *;unfold Bd.fw at h;split at h
    ·rename_i y;simp at h;exact absurd h.2 y
    ·rename_i m;split at h
     ·simp at h
     ·rename_i a
      injection h with q _
      have p:=Bu.fL (l:=l) (cs:=fs) (by omega);rw[q]at p a;obtain⟨P,k⟩:=eX p;have g:=z.fl;have f:=z.l20;have d:=k.k1;have s:=fD k (fun i hi=>(gk z i (by omega)).2.2) (by omega) (fun i hi=>(gk z i (by omega)).1) 0 0;have b:iE (Bu.cC es (Bu.aY l fs ps) 0 ((0:Nat):Int)) 0:=Vs k (fun i ci hi=>by
       have w:=(aS.1 hi).1;obtain⟨H,q1,q2⟩:=Zjx z i _ (Bg (by omega));rw[hi]at q1
       injection q1 with q1
       subst q1;exact q2) 0 0 (by omega) (by omega) (by omega)
      have o:=(iK v r [] 0 ⟨[],[],[],[]⟩).2.2.2.2;rw[←x];exact⟨Zy b (by have:=s;omega) (by simp only;omega),by rw[Bz,nr];omega⟩
end Sm
end
end Go.Proofs.YtnhebmgibiomnaaGreat

import Derived.Deep.CutBlock
import Derived.ScopeJumps
import Derived.WalkMore
import Derived.Test.YtnhebmgibiomnaaGreatPh13
set_option linter.unusedVariables false
set_option linter.unusedSimpArgs false
set_option maxRecDepth 100000
set_option maxHeartbeats 8000000
namespace Go.Proofs.YtnhebmgibiomnaaGreat
section
open Go.RowKit Mc
def SrB (B:Nat)(L:bK)(sb:Nat):Prop:=∀k,(k=sb∨L.og.ownBlock=some k∨L.cu.ownBlock=some k∨L.tq.ownBlock=some k∨L.en.ownBlock=some k∨L.co.ownBlock=some k∨L.cv.ownBlock=some k∨L.st.ownBlock=some k)→B≤k
theorem au.ms {w w1:World}{sb:Nat}{L:bK}{s:Sr.St}(h:au w sb L s){v':Value}{c:Nat×Nat}(a:c.1≤c.2∧c.2<s.m.aF.length)(d:s.m.bH.length<1000000)
  (p:w1.ownsRow 0 157 2 v' (s.m.bH.length+1) (ir s.m.bH++[Aj c.1,Aj c.2])) (u:w.grownBy w1 L.co.ownBlock) :
  aH w1 sb 104 (Ej L s)∧au (w1.setCell ⟨sb,68,none⟩ v') sb { L with co:=v' } { s with m := { s.m with bH:=s.m.bH++[c] } } := by
 have z:aH w1 sb 104 (Ej L s):=h.aG.grown u fun e=>by
  obtain⟨_,_,_,q⟩:=Bf h.co e.symm;exact h.aG.dF q (by decide) rfl
 refine⟨z,?_⟩;have ap:∀{t:TypeId} {size n:Nat} {v:Value} {xs:List Value},w.ownsRow 0 t size v n xs→t≠157→t≠104→(w1.setCell ⟨sb,68,none⟩ v').ownsRow 0 t size v n xs:=fun k b r =>
  Ci (Ct k u (Dl k h.co b)) z (fun e=>r e.symm) 68 v'
 refine⟨?_,ap h.og (by decide) (by decide),ap h.cu (by decide) (by decide),ap h.tq (by decide) (by decide),ap h.en (by decide) (by decide),?_,ap h.cv (by decide) (by decide),ap h.st (by decide) (by decide),h.bQ,h.dk,h.dT,h.dV,h.bW,h.dj,h.dU,⟨h.ok.rl,h.ok.rk,h.ok.m.jn (fun y x=>?_) (by simp;omega)⟩⟩
 ·rw[←Kc (L:=L) (L' := { L with co:=v' }) (s:=s) (s' := { s with m := { s.m with bH:=s.m.bH++[c] } }) h.ok.rl rfl 4 v' rfl];exact z.aZ 68 v'
 ·have:=Ci p z (by decide) 68 v'
  simpa [ir]using this
 ·rcases List.mem_append.1 x with x|x
  ·exact h.ok.m.bH y x
  ·simp only[oZ]at x;subst x;exact a
theorem cz.mor {w:World}{B B':Nat}{z:Zn}{oA uA tA eA:Option Addr}(h:cz w B z oA uA tA eA)(x:B≤B'):cz w B' z oA uA tA eA:=⟨h.aT.a_ x,h.aF.a_ x,h.aB.a_ x,h.aJ.a_ x⟩
theorem gZ.kQ {w:World}{B:Nat}{aP:List Int}{cA:Option Addr} (h:aE w B 1 cA aP.length (ae aP)):gZ w B ⟨[],[],aP,0⟩ none none cA:=⟨⟨[],qy,fun i c x=>by simp at x⟩,qy,h⟩
theorem Xr:(Tryz.prog.info? 157).map (fun i=>(i.zero,i.size,i.bytes))=some (some (.agg #[Aj 0,Aj 0]),2,16):=by kernel_rfl
def s0 (aP:List Int)(size:Int)(z:Zn) (cs:List (Nat×Nat)):Sr.St := { Sr.ah aP size z with m := { (Sr.ah aP size z).m with bH:=cs } }
def nc (w:World)(sb:Nat)(aP:List Int)(size:Int)(z:Zn)(eA:Option Addr)(l i:Value)(wr:World):Prop :=
 ∃(j:Nat) (la:Int) (L:bK) (cs:List (Nat×Nat)),j≤z.aJ.length∧i=Aj j∧l=Aj la∧-1≤la∧la≤z.aF.length∧au wr sb L (s0 aP size z cs)∧SrB w.heap.size L sb∧Below w.heap.size w wr∧aE wr w.heap.size 1 eA z.aJ.length (ae z.aJ)∧cs++Mc.eK z.aF.length la (z.aJ.drop j)=Mc.eK z.aF.length (-1) z.aJ∧cs.length≤j
def Zdr (w:World)(aP:List Int)(size:Int)(z:Zn)(e:Ending)(w':World):Prop:=∃sb L,e=.returned (.pointer (some ⟨sb,0,none⟩))∧au w' sb L (Sr.ah aP size z)∧SrB w.heap.size L sb∧Below w.heap.size w w'
theorem Zdd (w:World)(aP:List Int)(size:Int)(z:Zn)(u1:aP.length≤1000000)(hz:eu z)(fA mA cA oA tA eA uA:Option Addr)(fn fc mn mc cc oc tc ec uc:Nat) (y1:aE w w.heap.size 1 cA aP.length (ae aP)) (x0:cz w w.heap.size z oA uA tA eA) :
  Calls Tryz.prog 40 #[.agg #[.slice fA fn fc,.slice mA mn mc,.slice cA aP.length cc,Aj size],.agg #[.slice oA z.aT.length oc,.slice uA z.aF.length uc,.slice tA z.aB.length tc,.slice eA z.aJ.length ec]] w (Zdr w aP size z):=by
 obtain⟨X,T⟩:∃X,X=(w.alloc (.cells #[.slice fA fn fc,.slice mA mn mc,.slice cA aP.length cc,Aj size] 26)).alloc (.cells #[.slice oA z.aT.length oc,.slice uA z.aF.length uc,.slice tA z.aB.length tc,.slice eA z.aJ.length ec] 30):=⟨_,rfl⟩;have a4:X.heap.size=w.heap.size+1+1:=by rw[T];simp
 have I:bT w X:=by rw[T];exact((qu _ w).alloc _).alloc _
 have c4:aH X w.heap.size 26 #[.slice fA fn fc,.slice mA mn mc,.slice cA aP.length cc,Aj size]:=by rw[T];exact(qv _ _ _).alloc _
 have J:aH X (w.heap.size+1) 30 #[.slice oA z.aT.length oc,.slice uA z.aF.length uc,.slice tA z.aB.length tc,.slice eA z.aJ.length ec]:=by rw[T];exact qw _ _ _ (by simp)
 have hS:=y1.aQ (w':=X) fun q A=>I.cell A (fun x=>x)
 have c3:=x0.aQ (W':=X) fun q A=>I.cell A (fun x=>x)
 have y5:=Zav X ⟨[],[],aP,0⟩ z ⟨by simp,by simp,by simp,by simpa using u1⟩ hz none none cA oA tA eA uA 0 0 cc oc tc ec uc (gZ.kQ (hS.a_ I.size)) (c3.mor I.size);have x9:=Aq y5;have A4:=Aq I;have HX:=Aq T;have h4:=Aq hz;have b3:=Aq hS;have u2:=Aq c3;have h3:=Aq c4;have y7:=Aq J;have p2:=c4.cell 2;have q0:=J.cell 0;have q1:=J.cell 1;have q2:=J.cell 2;have q3:=J.cell 3;simp only[Az,Ay,Bc]at p2 q0 q1 q2 q3;clear T y5 y1 x0 I c4 J hS c3 hz;go_enter Tryz.func40,Tryz.ntmps40;go_upto_region 1 with fail
 rw[←HX.o];go_wp2_with fail
 refine x9.o.mono ?_;rintro e w1⟨mb,O1,L1,rfl,A5,u5,y6⟩;have HC:=Aq (Us w1 mb O1 L1 _ A5);have y0:=Aq A5.ok;have A6:=Aq y6;clear A5 u5 y6 x9 p2 q0 q1 q2 q3;go_wp2_with fail
 refine HC.o.mono ?_;rintro e w2⟨og,cu,tq,en,cv,st,sk,rfl,C,h6,F⟩;clear HC;have Q:=Aq C;have x3:=Aq F;have v3:=Aq A6.o.size;have y2:=Aq ((A6.o).trans (h6.mono A6.o.size));obtain⟨a,n,u7,_⟩:=Ba C.og;obtain⟨f,d,z7,_⟩:=Ba C.cu;obtain⟨g,Y,u0,_⟩:=Ba C.to;obtain⟨V,H,v1,_⟩:=Ba C.en;obtain⟨Z,U,z9,_⟩:=Ba C.cv;obtain⟨s,r,y8,_⟩:=Ba C.st;obtain⟨A7,c7,y9,_⟩:=Ba C.sk;subst u7 z7 u0 v1 z9 y8 y9;clear C h6 F A6;generalize x5:ah ⟨[],[],aP,0⟩ z=y at *;have h8:=Aq x5;clear x5;have x2:X.heap.size≤w2.heap.size:=y2.o.size;have C:=((Q.o.cr ((qu _ _).alloc (.cells #[.slice a y.aT.length n,.slice f y.aF.length d,.slice g y.aB.length Y,.slice V y.aJ.length H,.slice Z y.aP.length U,.slice s 32 r,.slice A7 y.stack.length c7,Aj y.steps,Aj y.aL,Aj y.bp] 39))).mono v3.o);have S:=y2.o.alloc x2 (.cells #[.slice a y.aT.length n,.slice f y.aF.length d,.slice g y.aB.length Y,.slice V y.aJ.length H,.slice Z y.aP.length U,.slice s 32 r,.slice A7 y.stack.length c7,Aj y.steps,Aj y.aL,Aj y.bp] 39);have B:=qv w2 39 #[.slice a y.aT.length n,.slice f y.aF.length d,.slice g y.aB.length Y,.slice V y.aJ.length H,.slice Z y.aP.length U,.slice s 32 r,.slice A7 y.stack.length c7,Aj y.steps,Aj y.aL,Aj y.bp]
 have v6:X.heap.size≤(w2.alloc (.cells #[.slice a y.aT.length n,.slice f y.aF.length d,.slice g y.aB.length Y,.slice V y.aJ.length H,.slice Z y.aP.length U,.slice s 32 r,.slice A7 y.stack.length c7,Aj y.steps,Aj y.aL,Aj y.bp] 39)).heap.size:=by simp;omega
 have Q:=Aq C;have sB:=Aq S;have k0:=B.cell 0;have k1:=B.cell 1;have k2:=B.cell 2;have k3:=B.cell 3;have k4:=B.cell 4;have k5:=B.cell 5;simp only[Az,Ay,Bc]at k0 k1 k2 k3 k4 k5;have A2:=(h3.o.below S h3.o.lt).cell 3;simp only[Az,Ay,Bc]at A2;clear C S B;go_wp2_with fail
 generalize (w2.alloc (.cells #[.slice a y.aT.length n,.slice f y.aF.length d,.slice g y.aB.length Y,.slice V y.aJ.length H,.slice Z y.aP.length U,.slice s 32 r,.slice A7 y.stack.length c7,Aj y.steps,Aj y.aL,Aj y.bp] 39))=W at *;have P:W.drew.cell? ⟨w2.heap.size,0,none⟩=some (.slice a y.aT.length n)∧W.drew.cell? ⟨w2.heap.size,1,none⟩=some (.slice f y.aF.length d)∧W.drew.cell? ⟨w2.heap.size,2,none⟩=some (.slice g y.aB.length Y)∧W.drew.cell? ⟨w2.heap.size,3,none⟩=some (.slice V y.aJ.length H)∧W.drew.cell? ⟨w2.heap.size,4,none⟩=some (.slice Z y.aP.length U)∧W.drew.cell? ⟨w2.heap.size,5,none⟩=some (.slice s 32 r)∧W.drew.cell? ⟨w.heap.size,3,none⟩=some (Aj size):=⟨k0,k1,k2,k3,k4,k5,A2⟩;refine Cr [8,10] [1,3,5,7] [8] 12 (fun wq:World=>wq.cell? ⟨w2.heap.size,0,none⟩=some (.slice a y.aT.length n)∧wq.cell? ⟨w2.heap.size,1,none⟩=some (.slice f y.aF.length d)∧wq.cell? ⟨w2.heap.size,2,none⟩=some (.slice g y.aB.length Y)∧wq.cell? ⟨w2.heap.size,3,none⟩=some (.slice V y.aJ.length H)∧wq.cell? ⟨w2.heap.size,4,none⟩=some (.slice Z y.aP.length U)∧wq.cell? ⟨w2.heap.size,5,none⟩=some (.slice s 32 r)∧wq.cell? ⟨w.heap.size,3,none⟩=some (Aj size)) ?_
 iterate 8 (first|refine Be ?_|refine Bj P ?_)
 refine Bi fun K hK=>?_;go_simp
 refine(Dy _ _).mono ?_;rintro e w5⟨rfl,rfl⟩;dsimp only;refine hK _ _ (fun _=>P) ?_;clear hK K
 iterate 1 (first|refine Be ?_|refine Bj P ?_)
 refine Bi fun K hK=>?_;go_simp
 refine Bh hK ?_;clear hK K
 iterate 1 (first|refine Be ?_|refine Bj P ?_)
 refine Bb ?_;clear P k0 k1 k2 k3 k4 k5 A2;have HS:Hid (au (W.alloc (.cells ((((((((Tryz.zeroCells104.setIfInBounds 64 (.slice a y.aT.length n)).setIfInBounds 65 (.slice f y.aF.length d)).setIfInBounds 66 (.slice g y.aB.length Y)).setIfInBounds 67 (.slice V y.aJ.length H)).setIfInBounds 69 (.slice Z y.aP.length U)).setIfInBounds 70 (.slice s 32 r)).setIfInBounds 71 (Aj (bA size))).setIfInBounds 74 (Aj 1)) 104)).drew W.heap.size ⟨.slice a y.aT.length n,.slice f y.aF.length d,.slice g y.aB.length Y,.slice V y.aJ.length H,.slice none 0 0,.slice Z y.aP.length U,.slice s 32 r⟩ (s0 aP size z [])):=Aq (by
  have es:s0 aP size z []=⟨List.replicate 64 0,{ y with size:=bA size,look:=0,move:=0,bG:=1,bH:=[] },0,0⟩:=by
   rw[←h8.o];rfl
  rw[es];have M:bT W (W.alloc (.cells ((((((((Tryz.zeroCells104.setIfInBounds 64 (.slice a y.aT.length n)).setIfInBounds 65 (.slice f y.aF.length d)).setIfInBounds 66 (.slice g y.aB.length Y)).setIfInBounds 67 (.slice V y.aJ.length H)).setIfInBounds 69 (.slice Z y.aP.length U)).setIfInBounds 70 (.slice s 32 r)).setIfInBounds 71 (Aj (bA size))).setIfInBounds 74 (Aj 1)) 104)).drew:=((qu _ _).alloc _).drew;have F:=x3.o;have h9:=y0.o;refine⟨?_,Cj (Ca Q.o.og M) (By _),Cj (Ca Q.o.cu M) (By _),Cj (Ca Q.o.to M) (By _),Cj (Ca Q.o.en M) (By _),Eh _ _ _ _,Cj (Ca Q.o.cv M) (By _),?_,F.p1.symm,F.p2,F.p3,F.p4,F.p6,F.p7,F.p9,⟨rfl,fun x hx=>?_,{ h9 with size:=Fg _,bG:=(show (0:Int)≤1∧(1:Int)≤5 by decide),look:=(show (0:Int)≤0∧(0:Int)≤1 by decide),move:=(show (0:Int)≤0∧(0:Int)≤1 by decide),bH:=fun c hc=>by simp at hc,ej:=by simp }⟩⟩
  ·have hc:((((((((Tryz.zeroCells104.setIfInBounds 64 (.slice a y.aT.length n)).setIfInBounds 65 (.slice f y.aF.length d)).setIfInBounds 66 (.slice g y.aB.length Y)).setIfInBounds 67 (.slice V y.aJ.length H)).setIfInBounds 69 (.slice Z y.aP.length U)).setIfInBounds 70 (.slice s 32 r)).setIfInBounds 71 (Aj (bA size))).setIfInBounds 74 (Aj 1))=Ej ⟨.slice a y.aT.length n,.slice f y.aF.length d,.slice g y.aB.length Y,.slice V y.aJ.length H,.slice none 0 0,.slice Z y.aP.length U,.slice s 32 r⟩ ⟨List.replicate 64 0,{ y with size:=bA size,look:=0,move:=0,bG:=1,bH:=[] },0,0⟩:=rfl;rw[hc];exact(qv W 104 _).drew
  ·show World.ownsRow _ 0 3 1 (.slice s 32 r) y.store.length (ae y.store)
   rw[h9.dR];exact Cj (Ca Q.o.st M) (By _)
  ·have:x∈List.replicate 64 (0:Int):=hx;rw[oM this];exact⟨by decide,by decide⟩)
 have y4:Hid (SrB w.heap.size ⟨.slice a y.aT.length n,.slice f y.aF.length d,.slice g y.aB.length Y,.slice V y.aJ.length H,.slice none 0 0,.slice Z y.aP.length U,.slice s 32 r⟩ W.heap.size):=Aq (fun k v=>by
  have hx:=A4.o.size;rcases v with e|e|e|e|e|e|e|e
  ·omega
  ·have:=(Bf Q.o.og e).1;omega
  ·have:=(Bf Q.o.cu e).1;omega
  ·have:=(Bf Q.o.to e).1;omega
  ·have:=(Bf Q.o.en e).1;omega
  ·simp[Value.ownBlock]at e
  ·have:=(Bf Q.o.cv e).1;omega
  ·have:=(Bf Q.o.st e).1;omega)
 have HB:Below w.heap.size w (W.alloc (.cells ((((((((Tryz.zeroCells104.setIfInBounds 64 (.slice a y.aT.length n)).setIfInBounds 65 (.slice f y.aF.length d)).setIfInBounds 66 (.slice g y.aB.length Y)).setIfInBounds 67 (.slice V y.aJ.length H)).setIfInBounds 69 (.slice Z y.aP.length U)).setIfInBounds 70 (.slice s 32 r)).setIfInBounds 71 (Aj (bA size))).setIfInBounds 74 (Aj 1)) 104)).drew:=(((qG A4.o Aw).trans (sB.o.mono (by omega))).alloc (by omega) _).drew;have N:=Aq HB;have h2:=Aq ((u2.o.aJ).aQ (w':=(W.alloc (.cells ((((((((Tryz.zeroCells104.setIfInBounds 64 (.slice a y.aT.length n)).setIfInBounds 65 (.slice f y.aF.length d)).setIfInBounds 66 (.slice g y.aB.length Y)).setIfInBounds 67 (.slice V y.aJ.length H)).setIfInBounds 69 (.slice Z y.aP.length U)).setIfInBounds 70 (.slice s 32 r)).setIfInBounds 71 (Aj (bA size))).setIfInBounds 74 (Aj 1)) 104)).drew) fun q A=>(HB.cell A).trans (A4.o.cell A (fun x=>x)).symm);have y3:=((y7.o.below sB.o y7.o.lt).alloc (.cells ((((((((Tryz.zeroCells104.setIfInBounds 64 (.slice a y.aT.length n)).setIfInBounds 65 (.slice f y.aF.length d)).setIfInBounds 66 (.slice g y.aB.length Y)).setIfInBounds 67 (.slice V y.aJ.length H)).setIfInBounds 69 (.slice Z y.aP.length U)).setIfInBounds 70 (.slice s 32 r)).setIfInBounds 71 (Aj (bA size))).setIfInBounds 74 (Aj 1)) 104)).drew.cell 3;simp only[Az,Ay,Bc]at y3
 have yl:w.heap.size+1<(W.alloc (.cells ((((((((Tryz.zeroCells104.setIfInBounds 64 (.slice a y.aT.length n)).setIfInBounds 65 (.slice f y.aF.length d)).setIfInBounds 66 (.slice g y.aB.length Y)).setIfInBounds 67 (.slice V y.aJ.length H)).setIfInBounds 69 (.slice Z y.aP.length U)).setIfInBounds 70 (.slice s 32 r)).setIfInBounds 71 (Aj (bA size))).setIfInBounds 74 (Aj 1)) 104)).drew.heap.size:=by simp;omega
 clear HB;generalize (W.alloc (.cells ((((((((Tryz.zeroCells104.setIfInBounds 64 (.slice a y.aT.length n)).setIfInBounds 65 (.slice f y.aF.length d)).setIfInBounds 66 (.slice g y.aB.length Y)).setIfInBounds 67 (.slice V y.aJ.length H)).setIfInBounds 69 (.slice Z y.aP.length U)).setIfInBounds 70 (.slice s 32 r)).setIfInBounds 71 (Aj (bA size))).setIfInBounds 74 (Aj 1)) 104)).drew=W2 at *;generalize W.heap.size=sb at *;generalize (⟨.slice a y.aT.length n,.slice f y.aF.length d,.slice g y.aB.length Y,.slice V y.aJ.length H,.slice none 0 0,.slice Z y.aP.length U,.slice s 32 r⟩:bK)=L0 at *;have H0:Hid (nc w sb aP size z eA (Aj (-1)) (Aj 0) W2):=Aq ⟨0,-1,L0,[],By _,rfl,rfl,by omega,by omega,HS.o,y4.o,N.o,h2.o,by simp,Aw⟩;have a2:=h4.o.aJ;have b2:=h4.o.aF;clear HS y4 N h2 sB Q x3 h8 y0 v6 x2;go_wp2_with fail
 clear y3 yl;go_loopw [7,30] (fun R i wr=>nc w sb aP size z eA R i wr) (fun _ i _=>z.aJ.length-(intOf i).toNat)
 case atStart=>exact H0.o
 case round =>
  clear H0;obtain⟨j,R,L,cs,hj,rfl,rfl,v2,z6,P,O,S,G,D,v4⟩:=hrel;have a7:=Aq P;have E:=Aq O;have sB:=Aq S;have a1:=Aq G;have z3:=Aq v4;by_cases a3:(j:Int)<z.aJ.length
  ·obtain⟨e,he⟩:∃e,z.aJ[j]?=some e:=⟨_,Bg (by omega)⟩;obtain⟨eb,eo,u4,b4,c1⟩:=G.aK (by omega);subst u4;have x6:=c1 _ _ (Ck he);have a8:eb<wr.heap.size:=by have:=S.size;omega
   have gr:z.aJ.drop j=e::z.aJ.drop (j+1):=by rw[pD (by omega)];congr 1;have:=Bg (l:=z.aJ) (i:=j) (by omega);rw[this]at he;exact oK he
   rw[gr,Mc.eK]at D;have hk:(s0 aP size z cs).m.aF.length=z.aF.length:=by simp[s0,Sr.ah,ah]
   obtain⟨Au,cu,c2,_,_⟩:=Ba P.cu;have h_:=P.h_;rw[c2,hk]at h_;have b0:=P.aG.lt;by_cases h0:R<e∧e<(z.aF.length:Int)
   ·obtain⟨A1,x1⟩:=h0;rw[if_pos ⟨A1,x1⟩]at D;obtain⟨Ac,kc,c6,_,_⟩:=Ba P.co;have c68:=P.c68;rw[c6]at c68;have hB:=Aq (P.alloc (.cells #[Aj (R+1),Aj e] 157));have z1:=Aq (G.aQ (w':=wr.alloc (.cells #[Aj (R+1),Aj e] 157)) fun q A=>by have:=S.size;exact Cb _ _ _ (by omega));have N:=Aq (S.alloc S.size (.cells #[Aj (R+1),Aj e] 157));have la:=Aq c6;have z0:=Aq D;have v8:=Aq hk;have hX:=hB.o.co;rw[c6]at hX;have z4:=Aq hX;have z8:=Aq (qB (cs:=[Aj (R+1),Aj e]) (qv wr 157 #[Aj (R+1),Aj e]) 2 1 rfl);have a6:IntKind.i64.wrap (R+1)=R+1:=by rw[Do _ (by omega)]
    obtain⟨i0,u8,z2,z5,v7⟩:=Eu Xr;have hq:(s0 aP size z cs).m.bH.length=cs.length:=rfl;have h7:=Aq hq;rw[hq]at c68;clear P O S G D he gr c1 c2 hk hX c6 hq;go_wp2_with (at_builtin;refine Cm _ rfl (.tmp 51) (.tmp 56) _ rfl 0 157 i0 _ 2 16 Tryz.underlying102 u8 z2 z5 v7 rfl (show 0<2 by decide) (.slice Ac cs.length kc) cs.length (ir cs) rfl z4.o _ _ 1 1 [Aj (R+1),Aj e] rfl z8.o (by simp[Value.oneCell']) (by unfold maxLen;omega) (by omega) (By _) ?_;intro v' w1 A3 c5 x8;obtain⟨B,h1⟩:=hB.o.ms (c:=((R+1).toNat,e.toNat)) (v':=v') (w1:=w1) (by simp only[v8.o];omega) (by simp only[h7.o];omega) (by simp only[h7.o];rw[pP (by omega),pP (by omega)];exact A3) (by rw[la.o];exact c5);have u6:=Aq h1;have u9:=Aq c5;have v0:=Aq x8;have a5:=Aq B;obtain⟨Av,cv,v5,_⟩:=Ba A3;subst v5;have a9:=B.frozen 68;have x7:∃u,w1.cell? ⟨sb,68,none⟩=some u:=⟨_,(B.cell 68).trans (Gs hB.o.ok.rl 4)⟩;obtain⟨v9,x7⟩:=x7;have b1:=B.lt;clear h1 c5 x8 B A3)
    have h5:Below w.heap.size w (w1.setCell ⟨sb,68,none⟩ (.slice Av (cs.length+1) cv)):=(N.o.grown u9.o (by have:=N.o.size;exact this) (fun b hb=>by
     exact E.o b (.inr (.inr (.inr (.inr (.inr (.inl (by rw[la.o];exact hb))))))))).setCell (p:=⟨sb,68,none⟩) (E.o sb (.inl rfl)) _
    have a0:=sB.o.size;refine⟨⟨j+1,e,_,_,by omega,by simp,rfl,by omega,by omega,u6.o,fun k v=>?_,h5,z1.o.aQ fun q A=>(h5.cell A).trans ((N.o.cell A).symm),by rw[nz];exact z0.o,by rw[Bz];exact Nat.succ_le_succ z3.o⟩,by simp[intOf];omega⟩;rcases v with v|v|v|v|v|v|v|v
    ·exact E.o k (.inl v)
    ·exact E.o k (.inr (.inl v))
    ·exact E.o k (.inr (.inr (.inl v)))
    ·exact E.o k (.inr (.inr (.inr (.inl v))))
    ·exact E.o k (.inr (.inr (.inr (.inr (.inl v)))))
    ·rcases v0.o with h|h
     ·exact E.o k (.inr (.inr (.inr (.inr (.inr (.inl (by rw[la.o];exact h ▸ v)))))))
     ·rw[h]at v
      injection v with v
      simp at v;omega
    ·exact E.o k (.inr (.inr (.inr (.inr (.inr (.inr (.inl v)))))))
    ·exact E.o k (.inr (.inr (.inr (.inr (.inr (.inr (.inr v)))))))
   ·rw[if_neg h0]at D;have x4:Hid (nc w sb aP size z (some ⟨eb,eo,none⟩) (Aj R) (Aj ((j:Int)+1)) wr):=Aq ⟨j+1,R,L,cs,by omega,by simp,rfl,v2,z6,P,O,S,G,D,by omega⟩;clear P O S G D he gr c1 c2 hk;by_cases A1:R<e
    ·have x1:¬ e<(z.aF.length:Int):=fun h=>h0 ⟨A1,h⟩
     go_wp2_with fail
     refine⟨x4.o,by simp[intOf];omega⟩
    ·go_wp2_with fail
     refine⟨x4.o,by simp[intOf];omega⟩
  ·have u3:j=z.aJ.length:=by omega
   subst u3;have A:s0 aP size z cs=Sr.ah aP size z:=by
    rw[List.drop_length,Mc.eK,oC]at D;unfold s0;rw[D];rfl
   have HE:Hid (Zdr w aP size z (.returned (.pointer (some ⟨sb,0,none⟩))) wr):=Aq ⟨sb,L,rfl,A ▸ P,O,S⟩;clear P O S G D A;go_wp2;go_ret;exact HE.o
namespace Sr
theorem gy {op:Int} (h:(cP op).2=true):∃k:Nat,op=k∧k<43:=by
 unfold cP at h;have:0≤op∧op<43:=by
  repeat' split at h
  all_goals first|omega|cases h
 exact⟨op.toNat,by omega,by omega⟩
theorem Zz {n:Int}(h:rg n=true):∃d:Nat,n=d∧d<64:=by
 unfold rg at h;simp only[decide_eq_true_eq]at h;exact⟨n.toNat,by omega,by omega⟩
theorem kW {r:bE}{s:St}{b:Int}(h:dm r b=true) (k:(s.pc:Int)+b≤1000000):r.Can s:=by
 unfold dm eY at h;simp only[Eo,Bool.or_eq_true,decide_eq_true_eq,Bool.not_eq_eq_eq_not,Bool.not_true]at h;obtain⟨⟨_,⟨z,u⟩,y⟩,x⟩:=h;refine⟨fun e=>Zz (z.resolve_left (by omega)),fun e=>Zz (u.resolve_left (by omega)),fun e=>Zz (y.resolve_left (by omega)),fun e=>?_⟩;obtain⟨v,p⟩:=x.resolve_left (by rw[e];decide);exact⟨r.n.toNat,by omega,by omega⟩
theorem ip {aA:List bE}{s:St}(p:fitsAll aA=true){r:bE} (x:aA[s.pc]?=some r) (b:r.op≠42):(step aA s).steps=s.steps+1∧s.pc<(step aA s).pc∧(step aA s).pc<aA.length∧step aA s=deed r { s with pc:=s.pc+1,steps:=s.steps+1 } := by
 have h:=dx p x;have d:=(aS.1 x).1;have a:aA.getD s.pc jz=r:=by rw[Bn,x];rfl
 have v:step aA s=deed r { s with pc:=s.pc+1,steps:=s.steps+1 } := by unfold step;rw[a]
 obtain⟨y,k,u⟩:=Zko (s := { s with pc:=s.pc+1,steps:=s.steps+1 }) h;rw[v];simp only at y k u;have f:s.pc+1<aA.length:=by
  unfold dm at h;simp only[Eo]at h;have z:=h.1.1.2;rw[decide_eq_false b]at z;have e:¬ ((aA.length:Int)-1-s.pc=0):=by simpa using z
  omega
 have c:(if cN r.op=true then r.n else 0)<(aA.length:Int)-1-s.pc:=by
  split
  ·rename_i q;unfold dm at h;simp only[q,Eo,Bool.not_true,Bool.false_or,decide_eq_true_eq]at h;exact h.2.2
  ·omega
 exact⟨y,by omega,by omega,rfl⟩
theorem gz {aA:List bE}{s:St}{n:Nat} (h:(aA.getD s.pc jz).op=42):runs n aA s=s:=by
 cases n with
 |zero=>rfl
 |succ n=>unfold runs;rw[if_pos h]
theorem gP {aA:List bE}{s:St}{n:Nat} (h:(aA.getD s.pc jz).op≠42):runs (n+1) aA s=runs n aA (step aA s):=by
 conv=>lhs;unfold runs
 rw[if_neg h]
end Sr
def jE (mb:Nat)(W:World):Prop:=∃bs clock,W.heap[mb]?=some (.map (Vq bs 36).toArray clock)∧∀i,i<36→DoBox W (fun k=>mb<k∧k<W.heap.size) bs i
theorem eZ.all {L:bK}{sb k:Nat}(x:eZ L sb k):k=sb∨L.og.ownBlock=some k∨L.cu.ownBlock=some k∨L.tq.ownBlock=some k∨L.en.ownBlock=some k∨L.co.ownBlock=some k∨L.cv.ownBlock=some k∨L.st.ownBlock=some k:=by
 rcases x with e|e|e|e|e
 ·exact .inl e
 ·exact .inr (.inr (.inl e))
 ·exact .inr (.inr (.inr (.inl e)))
 ·exact .inr (.inr (.inr (.inr (.inr (.inr (.inl e))))))
 ·exact .inr (.inr (.inr (.inr (.inr (.inr (.inr e))))))
structure l_ (w:World) (B sb mb:Nat) (L:bK) (aA:List Sr.bE) (A:Option Addr) (T:Sr.St) (s:Sr.St) (W:World):Prop where
 run:au W sb L s
 fd:SrB B L sb
 map:jE mb W
 mb:w.heap.size≤mb
 rd:aE W B 5 A aA.length (Cg aA)
 fr:Fr (eZ L sb) w W
 pc:s.pc<aA.length
 steps:s.steps≤s.pc
 fp:∃n,aA.length≤n+s.pc∧Sr.runs n aA s=T
def Ua (w:World)(sb:Nat)(L:bK)(T:Sr.St)(e:Ending)(w':World):Prop:=e=.returned (.tuple #[])∧au w' sb L T∧Fr (eZ L sb) w w'
theorem Vn {mb:Nat}{W:World}(h:jE mb W){i:Nat}(hi:i<36):∃bs,DoBox W (fun k=>mb<k∧k<W.heap.size) bs i∧Sem.run Tryz.prog (Instr.lookup 158 (.map (some mb)) (Aj (Iv i:Int)) false) W=.ok (kJ bs i) W:=by
 obtain⟨bs,clock,z,cY⟩:=h;refine⟨bs,cY i hi,?_⟩;have u:(Vq bs 36).toArray.toList[i]?=some ⟨Aj (Iv i:Int),kJ bs i,i⟩:=by
  unfold Vq;rw[pO,Cc,eq hi];rfl
 refine Jo (P:=Tryz.prog) Tryz.underlying158 Tryz.underlying3 z u rfl fun v p y x=>?_
 unfold Vq at x;rw[pO,Cc,eq (by omega)]at x;simp only[ou,Bv]at x;subst x;exact⟨_,rfl,by have:=Vo i hi v y;omega⟩
theorem jE.fr {mb:Nat}{S:Nat→Prop}{W W':World}(h:jE mb W)(u:Fr S W W')(p:∀k,S k→k<mb):jE mb W':=by
 obtain⟨bs,clock,z,y⟩:=h;have r:mb<W.heap.size:=(bN.1 z).1;have s:=u.size;have x:∀k,mb≤k→k<W.heap.size→W'.heap[k]?=W.heap[k]?:=fun k z y=>u.block k y (fun e=>by have:=p k e;omega)
 exact⟨bs,clock,(x _ Aw r).trans z,fun i hi=>(y i hi).aQ rfl (fun g t cs q v=>(x g (by omega) v.2).trans q) (fun k x=>⟨x.1,by omega⟩)⟩
def RunJ (w:World)(B sb:Nat)(L:bK)(aA:List Sr.bE)(A:Option Addr)(c:Nat)(T:Sr.St)(a:Act)(W:World):Prop :=
 ∃(s1:Sr.St) (mb:Nat) (o m Q u8 H Z v p r U q u16 u s g P y K x j Y i n l e k z u32 V b f X d:Value),a = { tmps:=#[.pointer (some ⟨sb,0,none⟩),.slice A aA.length c,undef,undef,.map (some mb),o,m,Q,u8,H,Z,v,p,r,U,q,u16,u,s,g,P,y,K,x,j,Y,i,n,l,e,k,z,u32,V,b,f,X,d],defers:=[] }∧l_ w B sb mb L aA A T s1 W
def kV (sb:Nat)(aA:List Sr.bE)(W:World):Nat:=aA.length-(intOf ((W.cell? ⟨sb,75,none⟩).getD undef)).toNat
theorem Zem (w:World)(sb:Nat)(L:bK)(s:Sr.St)(h:au w sb L s)(B:Nat)(aA:List Sr.bE)(A:Option Addr)(c:Nat)(hB:SrB B L sb)(z3:B≤w.heap.size) (h8:aE w B 5 A aA.length (Cg aA)) (f:Sr.right aA=true) (C:s.pc=0) (D:s.steps=0) :
  Calls Tryz.prog 41 #[.pointer (some ⟨sb,0,none⟩),.slice A aA.length c] w (Ua w sb L (Sr.runs aA.length aA s)):=by
 go_enter Tryz.func41,Tryz.ntmps41;generalize hT:Sr.runs aA.length aA s=T at *;have x0:Sr.fitsAll aA=true:=by
  unfold Sr.right at f;simp only[Eo]at f;exact f.1.2
 have y1:1≤aA.length∧aA.length≤80000:=by
  unfold Sr.right at f;simp only[Eo,decide_eq_true_eq]at f;exact f.1.1
 obtain⟨v1,z9⟩:=y1;have d3:=Aq x0;have H0:Hid (∀W,iV w 36 W→l_ w B sb w.heap.size L aA A T s W):=Aq fun W hW=>by
  have hg:bT w W:=by
   obtain⟨_,_,_,hb⟩:=hW;exact qC hb (fun _ u _=>u)
  have hf:Fr (eZ L sb) w W:=by
   obtain⟨_,_,_,hb⟩:=hW;exact qC hb (fun _ u _=>u)
  exact⟨h.cr hg,hB,(by obtain⟨bs,h1,h2,_⟩:=hW;exact⟨bs,36,h1,h2⟩),Aw,h8.aQ (fun q U=>hg.cell (by omega) (fun x=>x)),hf,by omega,by omega,⟨aA.length,by omega,hT⟩⟩
 have x1:=hB;have d1:=Aq (fun k (u:eZ L sb k)=>h.eQ u);have h9:=Aq x1;clear h hB h8 f C D hT x0 x1;go_wp2_with fail
 refine wp_scope_jumps 0 (RunJ w B sb L aA A c T) (fun _ W=>kV sb aA W) rfl ?_ ?_
 ·go_wp2_with fail
  refine(Xz w).mono ?_;rintro e W⟨rfl,hd⟩;have y:=Aq (H0.o W hd);clear H0 hd;generalize x6:s=s1 at y;clear x6;generalize w.heap.size=mb at y ⊢;go_wp2_with fail
  go_step3;have C:=y.o.pc;have D:=y.o.steps;obtain⟨⟨op,d,a,b,n⟩,f⟩:∃r,aA[s1.pc]?=some r:=⟨_,Bg C⟩;have Z:=Aq f;obtain⟨cb,off,w9,y0,l⟩:=y.o.rd.2 (by omega);obtain⟨g0,g1,g2,g3,g4⟩:=Fq aA s1.pc _ f;have d0:=l _ _ g0;have S:=l _ _ g1;have J:=l _ _ g2;have Q:=l _ _ g3;have F:=l _ _ g4;rw[←Lb]at S J Q F;simp only at d0 S J Q F;have jP:=y.o.run.jP;have mj:=y.o.run.mj;have x5:=y.o.run.aG.frozen 75;have x7:=y.o.run.aG.frozen 76;have x9:=y.o.run.aG.lt;have x4:cb<W.heap.size:=by have:=y.o.fr.size;omega
  have h5:=Aq w9;subst w9;have hv:=Aq (show kV sb aA W=aA.length-s1.pc by unfold kV;rw[jP];simp[intOf]);generalize z:s1.pc=pc at d0 S J Q F jP C D;have Y:=Aq z;generalize hs:s1.steps=st at mj D;have HS:=Aq hs;clear f l g0 g1 g2 g3 g4 z hs;have R:=y.o.run.alloc (.cells #[Aj op,Aj d,Aj a,Aj b,Aj n] 50);by_cases g:op=42
  ·subst g;have HE:Hid (Ua w sb L T (.returned (.tuple #[])) (W.alloc (.cells #[Aj 42,Aj d,Aj a,Aj b,Aj n] 50))):=Aq (by
    obtain⟨m,_,O⟩:=y.o.fp;rw[Sr.gz (by rw[Bn,Z.o];rfl)]at O;exact⟨rfl,O ▸ R,y.o.fr.alloc _⟩)
   clear R;go_wp2_with fail
   simp only[Exit.jump];go_end0;exact HE.o
  ·have x8:(op==42)=false:=by simpa using g
   clear R;have e1:((pc+1:Nat):Int)=(pc:Int)+1:=by omega
   have e2:((st+1:Nat):Int)=(st:Int)+1:=by omega
   have M:=((y.o.run.jp (pc+1)).fC (st+1)).alloc (.cells #[Aj op,Aj d,Aj a,Aj b,Aj n] 50);have X:=(((qu (eZ L sb) W).setCell (p:=⟨sb,75,none⟩) (.inl (.inl rfl)) (Aj ((pc+1:Nat):Int))).setCell (p:=⟨sb,76,none⟩) (.inl (.inl rfl)) (Aj ((st+1:Nat):Int))).alloc (.cells #[Aj op,Aj d,Aj a,Aj b,Aj n] 50);rw[e1,e2]at M X;have hq:=Sr.ip d3.o Z.o g;rw[Y.o,HS.o]at hq;obtain⟨q1,q2,q3,P⟩:=hq;have H:=Sr.dx d3.o Z.o;have q4:=Sr.kW (s := { s1 with pc:=pc+1,steps:=st+1 }) H (by simp only;rw[Y.o];omega);have V:(Sr.cP op).2=true:=by
    unfold Sr.dm at H;simp only[Eo]at H;exact H.1.1.1
   obtain⟨k,u,d4⟩:=Sr.gy V;obtain⟨i,hi,h3⟩:=Vp k d4 (u ▸ V) (fun e=>g (by omega));have E:op=(Iv i:Int):=by omega
   have hr:=y.o.map.fr X (fun k u=>by have:=d1.o k u;have:=y.o.mb;omega);obtain⟨bs,cY,HR⟩:=Vn hr hi;obtain⟨id,hk,y2,v⟩:=Zhd (i:=i) (r:=⟨op,d,a,b,n⟩) M hi E q4 cY;rw[←E]at HR;have h0:∃K,kJ bs i=.func (.func id) #[] K∧(K = #[]∨∃p,K = #[p])∧Calls Tryz.prog id (#[.pointer (some ⟨sb,0,none⟩),Ew ⟨op,d,a,b,n⟩]++K) (((W.setCell ⟨sb,75,none⟩ (Aj ((pc:Int)+1))).setCell ⟨sb,76,none⟩ (Aj ((st:Int)+1))).alloc (.cells #[Aj op,Aj d,Aj a,Aj b,Aj n] 50)) (bB (((W.setCell ⟨sb,75,none⟩ (Aj ((pc:Int)+1))).setCell ⟨sb,76,none⟩ (Aj ((st:Int)+1))).alloc (.cells #[Aj op,Aj d,Aj a,Aj b,Aj n] 50)) sb L (Sr.deed ⟨op,d,a,b,n⟩ { s1 with pc:=pc+1,steps:=st+1 })):=by
    unfold kJ;rw[hk];cases U:(m_ i).2 with
    |none=>rw[U]at v;exact⟨_,rfl,.inl rfl,v⟩
    |some q=>rw[U]at v;exact⟨_,rfl,.inr ⟨_,rfl⟩,v⟩
   obtain⟨K,N,s2,v⟩:=h0;rw[N]at HR;have hm:Hid (∀j,bB (((W.setCell ⟨sb,75,none⟩ (Aj ((pc:Int)+1))).setCell ⟨sb,76,none⟩ (Aj ((st:Int)+1))).alloc (.cells #[Aj op,Aj d,Aj a,Aj b,Aj n] 50)) sb L (Sr.deed ⟨op,d,a,b,n⟩ { s1 with pc:=pc+1,steps:=st+1 }) (.returned (.tuple #[])) j→∃I,l_ w B sb mb L aA (some ⟨cb,off,none⟩) T I j∧kV sb aA j<kV sb aA W):=Aq fun j z=>by
    have G:=X.trans z.2.2;refine⟨Sr.step aA s1,⟨by rw[P];exact z.2.1,y.o.fd,y.o.map.fr G (fun k u=>by have:=d1.o k u;have:=y.o.mb;omega),y.o.mb,?_,y.o.fr.trans G,q3,by omega,?_⟩,?_⟩
    ·have:=y.o.rd;rw[h5.o]at this;exact this.aQ (fun q U=>G.cell (by have:=y.o.fr.size;omega) (fun e=>by have:=h9.o _ (eZ.all e);omega))
    ·obtain⟨m,x3,h6⟩:=y.o.fp;have d2:=Y.o;have x2:m≠0:=by omega
     obtain⟨m,rfl⟩:∃m',m=m'+1:=⟨m-1,by omega⟩;refine⟨m,by omega,?_⟩;rw[←h6,Sr.gP (by rw[Bn,Z.o];exact g)]
    ·have d2:=Y.o;rw[hv.o];have:=z.2.1.jP;unfold kV;rw[this];rw[←P];simp only[ow,intOf,Cw];omega
   clear M X H q4 V u h3 E hr cY hk N q1 q2 q3 P e1 e2 g;unfold Ew at v;rcases s2 with rfl|⟨p,rfl⟩
   all_goals
    go_wp2_with fail
    refine v.mono ?_;intro e j z;obtain⟨I,HP,hp⟩:=hm.o j (by rw[←z.1];exact z);have h4:=Aq HP;have h7:=Aq hp;obtain⟨rfl,_⟩:=z;clear HP hp;go_wp2_with fail
    go_step3;exact⟨rfl,I,mb,_,_,_,_,_,_,_,_,_,_,_,_,_,_,_,_,_,_,_,_,_,_,_,_,_,_,_,_,_,_,_,_,_,rfl,h4.o⟩
 ·rintro a' W⟨s1,mb,u5,u6,u7,u8,u9,v5,v0,y6,y7,v6,u1,u16,u0,z6,z8,z5,u4,z1,y3,v3,z2,v2,v4,z0,y9,y5,y4,u32,z4,z7,u2,u3,y8,rfl,hR⟩;have y:=Aq hR;clear hR H0;have C:=y.o.pc;have D:=y.o.steps;obtain⟨⟨op,d,a,b,n⟩,f⟩:∃r,aA[s1.pc]?=some r:=⟨_,Bg C⟩;have Z:=Aq f;obtain⟨cb,off,w9,y0,l⟩:=y.o.rd.2 (by omega);obtain⟨g0,g1,g2,g3,g4⟩:=Fq aA s1.pc _ f;have d0:=l _ _ g0;have S:=l _ _ g1;have J:=l _ _ g2;have Q:=l _ _ g3;have F:=l _ _ g4;rw[←Lb]at S J Q F;simp only at d0 S J Q F;have jP:=y.o.run.jP;have mj:=y.o.run.mj;have x5:=y.o.run.aG.frozen 75;have x7:=y.o.run.aG.frozen 76;have x9:=y.o.run.aG.lt;have x4:cb<W.heap.size:=by have:=y.o.fr.size;omega
  have h5:=Aq w9;subst w9;have hv:=Aq (show kV sb aA W=aA.length-s1.pc by unfold kV;rw[jP];simp[intOf]);generalize z:s1.pc=pc at d0 S J Q F jP C D;have Y:=Aq z;generalize hs:s1.steps=st at mj D;have HS:=Aq hs;clear f l g0 g1 g2 g3 g4 z hs;have R:=y.o.run.alloc (.cells #[Aj op,Aj d,Aj a,Aj b,Aj n] 50);by_cases g:op=42
  ·subst g;have HE:Hid (Ua w sb L T (.returned (.tuple #[])) (W.alloc (.cells #[Aj 42,Aj d,Aj a,Aj b,Aj n] 50))):=Aq (by
    obtain⟨m,_,O⟩:=y.o.fp;rw[Sr.gz (by rw[Bn,Z.o];rfl)]at O;exact⟨rfl,O ▸ R,y.o.fr.alloc _⟩)
   clear R;go_wp2_with fail
   simp only[Exit.jump];go_end0;exact HE.o
  ·have x8:(op==42)=false:=by simpa using g
   clear R;have e1:((pc+1:Nat):Int)=(pc:Int)+1:=by omega
   have e2:((st+1:Nat):Int)=(st:Int)+1:=by omega
   have M:=((y.o.run.jp (pc+1)).fC (st+1)).alloc (.cells #[Aj op,Aj d,Aj a,Aj b,Aj n] 50);have X:=(((qu (eZ L sb) W).setCell (p:=⟨sb,75,none⟩) (.inl (.inl rfl)) (Aj ((pc+1:Nat):Int))).setCell (p:=⟨sb,76,none⟩) (.inl (.inl rfl)) (Aj ((st+1:Nat):Int))).alloc (.cells #[Aj op,Aj d,Aj a,Aj b,Aj n] 50);rw[e1,e2]at M X;have hq:=Sr.ip d3.o Z.o g;rw[Y.o,HS.o]at hq;obtain⟨q1,q2,q3,P⟩:=hq;have H:=Sr.dx d3.o Z.o;have q4:=Sr.kW (s := { s1 with pc:=pc+1,steps:=st+1 }) H (by simp only;rw[Y.o];omega);have V:(Sr.cP op).2=true:=by
    unfold Sr.dm at H;simp only[Eo]at H;exact H.1.1.1
   obtain⟨k,u,d4⟩:=Sr.gy V;obtain⟨i,hi,h3⟩:=Vp k d4 (u ▸ V) (fun e=>g (by omega));have E:op=(Iv i:Int):=by omega
   have hr:=y.o.map.fr X (fun k u=>by have:=d1.o k u;have:=y.o.mb;omega);obtain⟨bs,cY,HR⟩:=Vn hr hi;obtain⟨id,hk,y2,v⟩:=Zhd (i:=i) (r:=⟨op,d,a,b,n⟩) M hi E q4 cY;rw[←E]at HR;have h0:∃K,kJ bs i=.func (.func id) #[] K∧(K = #[]∨∃p,K = #[p])∧Calls Tryz.prog id (#[.pointer (some ⟨sb,0,none⟩),Ew ⟨op,d,a,b,n⟩]++K) (((W.setCell ⟨sb,75,none⟩ (Aj ((pc:Int)+1))).setCell ⟨sb,76,none⟩ (Aj ((st:Int)+1))).alloc (.cells #[Aj op,Aj d,Aj a,Aj b,Aj n] 50)) (bB (((W.setCell ⟨sb,75,none⟩ (Aj ((pc:Int)+1))).setCell ⟨sb,76,none⟩ (Aj ((st:Int)+1))).alloc (.cells #[Aj op,Aj d,Aj a,Aj b,Aj n] 50)) sb L (Sr.deed ⟨op,d,a,b,n⟩ { s1 with pc:=pc+1,steps:=st+1 })):=by
    unfold kJ;rw[hk];cases U:(m_ i).2 with
    |none=>rw[U]at v;exact⟨_,rfl,.inl rfl,v⟩
    |some q=>rw[U]at v;exact⟨_,rfl,.inr ⟨_,rfl⟩,v⟩
   obtain⟨K,N,s2,v⟩:=h0;rw[N]at HR;have hm:Hid (∀j,bB (((W.setCell ⟨sb,75,none⟩ (Aj ((pc:Int)+1))).setCell ⟨sb,76,none⟩ (Aj ((st:Int)+1))).alloc (.cells #[Aj op,Aj d,Aj a,Aj b,Aj n] 50)) sb L (Sr.deed ⟨op,d,a,b,n⟩ { s1 with pc:=pc+1,steps:=st+1 }) (.returned (.tuple #[])) j→∃I,l_ w B sb mb L aA (some ⟨cb,off,none⟩) T I j∧kV sb aA j<kV sb aA W):=Aq fun j z=>by
    have G:=X.trans z.2.2;refine⟨Sr.step aA s1,⟨by rw[P];exact z.2.1,y.o.fd,y.o.map.fr G (fun k u=>by have:=d1.o k u;have:=y.o.mb;omega),y.o.mb,?_,y.o.fr.trans G,q3,by omega,?_⟩,?_⟩
    ·have:=y.o.rd;rw[h5.o]at this;exact this.aQ (fun q U=>G.cell (by have:=y.o.fr.size;omega) (fun e=>by have:=h9.o _ (eZ.all e);omega))
    ·obtain⟨m,x3,h6⟩:=y.o.fp;have d2:=Y.o;have x2:m≠0:=by omega
     obtain⟨m,rfl⟩:∃m',m=m'+1:=⟨m-1,by omega⟩;refine⟨m,by omega,?_⟩;rw[←h6,Sr.gP (by rw[Bn,Z.o];exact g)]
    ·have d2:=Y.o;rw[hv.o];have:=z.2.1.jP;unfold kV;rw[this];rw[←P];simp only[ow,intOf,Cw];omega
   clear M X H q4 V u h3 E hr cY hk N q1 q2 q3 P e1 e2 g;unfold Ew at v;rcases s2 with rfl|⟨p,rfl⟩
   all_goals
    go_wp2_with fail
    refine v.mono ?_;intro e j z;obtain⟨I,HP,hp⟩:=hm.o j (by rw[←z.1];exact z);have h4:=Aq HP;have h7:=Aq hp;obtain⟨rfl,_⟩:=z;clear HP hp;go_wp2_with fail
    go_step3;exact⟨rfl,⟨I,mb,_,_,_,_,_,_,_,_,_,_,_,_,_,_,_,_,_,_,_,_,_,_,_,_,_,_,_,_,_,_,_,_,_,rfl,h4.o⟩,h7.o⟩
theorem Ww {w W:World}{B b:Nat}{v0 v1 e v3 v4 j v6 m g v9:Value} (l:aH W b 39 #[v0,v1,e,v3,v4,j,v6,m,g,v9]) (d:B≤b) (f:Below B w W) (y v q x z r k a u8 s:Value) :
  Below B w (di W b y v q x z r k a u8 s)∧aH (di W b y v q x z r k a u8 s) b 39 #[y,v,q,x,z,r,k,a,u8,s]:=by
 have step:∀{W:World} {cs:Array Value} (i:Nat) (u:Value),(Below B w W∧aH W b 39 cs)→Below B w (W.setCell ⟨b,i,none⟩ u)∧aH (W.setCell ⟨b,i,none⟩ u) b 39 (cs.setIfInBounds i u) :=
  fun i u c=>⟨c.1.setCell (p:=⟨b,i,none⟩) d u,c.2.aZ i u⟩
 have h:=step 9 s (step 8 u8 (step 7 a (step 6 k (step 5 r (step 4 z (step 3 x (step 2 q (step 1 v (step 0 y ⟨f,l⟩)))))))));clear step;simp only[oz,oL,om]at h;exact h
def Sr.eN (t:Sr.St)(n:Nat):Mc.St := { t.m with stack:=(t.aW.take n).reverse,steps:=t.steps,aL:=0,bp:=0 }
def mD (w:World)(e:Ending)(w':World):Prop:=e=.returned (.agg #[.slice none 0 0,.slice none 0 0,.slice none 0 0,.slice none 0 0,.slice none 0 0,.slice none 0 0,.slice none 0 0,Aj 0,Aj 0,Aj 50])∧Below w.heap.size w w'
theorem Zo (w:World)(aA:List Sr.bE)(A:Option Addr)(c:Nat)(aP:List Int)(size:Int)(z:Zn)(F:aP.length≤1000000)(C:eu z)(D:aA.length≤1000000000000)(fA mA cA oA tA eA uA:Option Addr)(fn fc mn mc cc oc tc ec uc:Nat) (j:aE w w.heap.size 5 A aA.length (Cg aA)) (B:aE w w.heap.size 1 cA aP.length (ae aP)) (G:cz w w.heap.size z oA uA tA eA) (Y:Sr.right aA=false) :
  Calls Tryz.prog 17 #[.slice A aA.length c,.agg #[.slice fA fn fc,.slice mA mn mc,.slice cA aP.length cc,Aj size],.agg #[.slice oA z.aT.length oc,.slice uA z.aF.length uc,.slice tA z.aB.length tc,.slice eA z.aJ.length ec]] w (mD w):=by
 obtain⟨X,u⟩:∃X,X=((w.alloc (.cells #[.slice fA fn fc,.slice mA mn mc,.slice cA aP.length cc,Aj size] 26)).alloc (.cells #[.slice oA z.aT.length oc,.slice uA z.aF.length uc,.slice tA z.aB.length tc,.slice eA z.aJ.length ec] 30)).alloc (.cells #[.slice none 0 0,.slice none 0 0,.slice none 0 0,.slice none 0 0,.slice none 0 0,.slice none 0 0,.slice none 0 0,Aj 0,Aj 0,Aj 0] 39):=⟨_,rfl⟩;have I:X.heap.size=w.heap.size+1+1+1:=by rw[u];simp
 have r:bT w X:=by rw[u];exact(((qu _ w).alloc _).alloc _).alloc _
 have l:aH X (w.heap.size+1+1) 39 #[.slice none 0 0,.slice none 0 0,.slice none 0 0,.slice none 0 0,.slice none 0 0,.slice none 0 0,.slice none 0 0,Aj 0,Aj 0,Aj 0]:=by rw[u];exact qw _ _ _ (by simp)
 have s:=Aq (Gj A c w.heap.size aA X (j.aQ (w':=X) fun q Q=>r.cell Q (fun x=>x)) r.size D);rw[Y]at s;have R:=Aq r;have P:=Aq l;have E:=Aq u;clear u r l j B G C F Y;go_enter Tryz.func17,Tryz.ntmps17;go_upto_region 1 with fail
 rw[←E.o];go_wp2_with fail
 refine s.o.mono ?_;rintro e w1⟨rfl,a⟩;have k:=P.o.below a P.o.lt;have S:=Aq ((qG R.o Aw).trans (a.mono (by omega)));have L:=k.cell;have M:=k.frozen;have J:=k.lt;obtain⟨m,d⟩:=Ww k (show w.heap.size≤w.heap.size+1+1 by omega) S.o (.slice none 0 0) (.slice none 0 0) (.slice none 0 0) (.slice none 0 0) (.slice none 0 0) (.slice none 0 0) (.slice none 0 0) (Aj 0) (Aj 0) (Aj 50);clear a k s;go_wp2_with fail
 obtain⟨W,p⟩:∃W,W=di w1 (w.heap.size+1+1) (.slice none 0 0) (.slice none 0 0) (.slice none 0 0) (.slice none 0 0) (.slice none 0 0) (.slice none 0 0) (.slice none 0 0) (Aj 0) (Aj 0) (Aj 50):=⟨_,rfl⟩;rw[←p]at m d;unfold di at p;rw[←p];clear p;have y:=d.cell;have U:=y 0;have f:=y 1;have K:=y 2;have b:=y 3;have V:=y 4;have i:=y 5;have Z:=y 6;have g:=y 7;have H:=y 8;have n:=y 9;simp only[Az,Ay,Bc]at U f K b V i Z g H n;refine bodyPost_ret (v:=.agg #[.slice none 0 0,.slice none 0 0,.slice none 0 0,.slice none 0 0,.slice none 0 0,.slice none 0 0,.slice none 0 0,Aj 0,Aj 0,Aj 50]) (by simp[results,Tryz.results17,go_sem,U,f,K,b,V,i,Z,g,H,n]) rfl ?_;exact⟨rfl,m⟩
def Sr.bk (aA:List Sr.bE):Nat:=(aA.getD (aA.length-1) Sr.jz).n.toNat
theorem Sr.gL {aA:List Sr.bE}(h:Sr.right aA=true):∃r,aA[aA.length-1]?=some r∧r.n=(Sr.bk aA:Int)∧Sr.bk aA≤64:=by
 unfold Sr.right at h;simp only[Eo,decide_eq_true_eq]at h;obtain⟨⟨⟨u,_⟩,_⟩,x⟩:=h;rw[qm]at x;obtain⟨r,y⟩:∃r,aA[aA.length-1]?=some r:=⟨_,Bg (by omega)⟩;rw[y]at x;simp only[decide_eq_true_eq]at x;have z:Sr.bk aA=r.n.toNat:=by unfold Sr.bk;rw[Bn,y];rfl
 exact⟨r,y,by omega,by omega⟩
theorem Sw {W:World}{B size n:Nat}{t:TypeId}{v:Value}{xs:List Value}(h:W.ownsRow 0 t size v n xs)(y:∀g,v.ownBlock=some g→B≤g):W.ownsRow B t size v n xs:=by
 refine⟨h.1,?_⟩;rcases h.2 with u|⟨g,dA,aF,x,_,z⟩
 ·exact .inl u
 ·exact .inr ⟨g,dA,aF,x,y g (by rw[x];rfl),z⟩
theorem Ws (sb n:Nat)(y:n≤64)(wq:World):Sem.run Tryz.prog (Instr.sliceAt 101 (.pointer (some ⟨sb,0,none⟩)) none (some (Aj (n:Int))) none) wq=.ok (.slice (some ⟨sb,0,none⟩) n 64) wq:=by
 have x:Tryz.prog.arrayLen 101=64:=by kernel_rfl
 have h:=run_sliceAt_array_h (P:=Tryz.prog) wq 101 ⟨sb,0,none⟩ Tryz.underlying101 .i64 (n:Int) (by omega) (by rw[x];omega);rw[h,x];rw[show (sizeOf (Tryz.prog.elem 101)).run Tryz.prog wq=.ok 1 wq by kernel_rfl];simp[Result.andThen,slicedAt,Addr.add]
theorem Uo (w:World)(aA:List Sr.bE)(A:Option Addr)(c:Nat)(aP:List Int)(size:Int)(z:Zn)(u6:aP.length≤1000000)(hz:eu z)(v7:aA.length≤1000000000000)(fA mA cA oA tA eA uA:Option Addr)(fn fc mn mc cc oc tc ec uc:Nat) (x0:aE w w.heap.size 5 A aA.length (Cg aA)) (z3:aE w w.heap.size 1 cA aP.length (ae aP)) (x3:cz w w.heap.size z oA uA tA eA) (hr:Sr.right aA=true) :
  Calls Tryz.prog 17 #[.slice A aA.length c,.agg #[.slice fA fn fc,.slice mA mn mc,.slice cA aP.length cc,Aj size],.agg #[.slice oA z.aT.length oc,.slice uA z.aF.length uc,.slice tA z.aB.length tc,.slice eA z.aJ.length ec]] w (Ub w (Sr.eN (Sr.run aA aP size z) (Sr.bk aA))):=by
 obtain⟨X,Z⟩:∃X,X=((w.alloc (.cells #[.slice fA fn fc,.slice mA mn mc,.slice cA aP.length cc,Aj size] 26)).alloc (.cells #[.slice oA z.aT.length oc,.slice uA z.aF.length uc,.slice tA z.aB.length tc,.slice eA z.aJ.length ec] 30)).alloc (.cells #[.slice none 0 0,.slice none 0 0,.slice none 0 0,.slice none 0 0,.slice none 0 0,.slice none 0 0,.slice none 0 0,Aj 0,Aj 0,Aj 0] 39):=⟨_,rfl⟩;have a1:X.heap.size=w.heap.size+1+1+1:=by rw[Z];simp
 have Q:bT w X:=by rw[Z];exact(((qu _ w).alloc _).alloc _).alloc _
 have h3:aH X w.heap.size 26 #[.slice fA fn fc,.slice mA mn mc,.slice cA aP.length cc,Aj size]:=by rw[Z];exact((qv _ _ _).alloc _).alloc _
 have h4:aH X (w.heap.size+1) 30 #[.slice oA z.aT.length oc,.slice uA z.aF.length uc,.slice tA z.aB.length tc,.slice eA z.aJ.length ec]:=by rw[Z];exact(qw _ _ _ (by simp)).alloc _
 have x6:aH X (w.heap.size+1+1) 39 #[.slice none 0 0,.slice none 0 0,.slice none 0 0,.slice none 0 0,.slice none 0 0,.slice none 0 0,.slice none 0 0,Aj 0,Aj 0,Aj 0]:=by rw[Z];exact qw _ _ _ (by simp)
 have c1:=x0.aQ (w':=X) fun q s=>Q.cell s (fun x=>x)
 have HC:=Aq (Gj A c w.heap.size aA X c1 Q.size v7);rw[hr]at HC;have h8:=Aq Q;have b:=Aq h3;have d:=Aq h4;have z0:=Aq x6;have HX:=Aq Z;have z4:=Aq c1;have x8:=Aq (z3.aQ (w':=X) fun q s=>Q.cell s (fun x=>x));have x2:=Aq (x3.aQ (W':=X) fun q s=>Q.cell s (fun x=>x));have hW:=Aq hr;have z9:=Aq hz;clear Z Q h3 h4 x6 x0 z3 x3 hz hr c1;go_enter Tryz.func17,Tryz.ntmps17;go_upto_region 1 with fail
 rw[←HX.o];go_wp2_with fail
 refine HC.o.mono ?_;rintro e w1⟨rfl,j⟩;have a2:=j.size;have p0:=(b.o.below j b.o.lt).cell 0;have p1:=(b.o.below j b.o.lt).cell 1;have p2:=(b.o.below j b.o.lt).cell 2;have p3:=(b.o.below j b.o.lt).cell 3;have q0:=(d.o.below j d.o.lt).cell 0;have q1:=(d.o.below j d.o.lt).cell 1;have q2:=(d.o.below j d.o.lt).cell 2;have q3:=(d.o.below j d.o.lt).cell 3;simp only[Az,Ay,Bc]at p0 p1 p2 p3 q0 q1 q2 q3;have w3:∀q:Addr,q.block<w.heap.size→w1.cell? q=X.cell? q:=fun q s=>j.cell (by have:=h8.o.size;omega)
 have N:w.heap.size≤w1.heap.size:=by omega
 have h0:=Aq (Zdd w1 aP size z u6 z9.o fA mA cA oA tA eA uA fn fc mn mc cc oc tc ec uc ((x8.o.aQ w3).a_ N) ((x2.o.aQ w3).mor N));have h9:=Aq ((z4.o.aQ w3).a_ N);have u9:=Aq ((qG h8.o Aw).trans (j.mono (show w.heap.size≤X.heap.size by omega)));have A6:=Aq (z0.o.below j z0.o.lt);clear j w3 HC x8 x2 z4;go_wp2_with fail
 refine h0.o.mono ?_;rintro e w2⟨sb,L,rfl,i,hB,P⟩;have l:=Aq hB;have v6:=Aq (u9.o.trans (P.mono N));have h5:=Aq (A6.o.below P A6.o.lt);have c2:=h9.o.aQ (w':=w2) fun q s=>P.cell s
 have u1:=Aq c2;have v1:=Aq (Zem w2 sb L _ i w1.heap.size aA A c hB P.size c2 hW.o rfl rfl);have a3:=P.size;clear i hB P h0 h9 A6 c2 p0 p1 p2 p3 q0 q1 q2 q3;go_wp2_with fail
 refine v1.o.mono ?_;rintro e p⟨rfl,i,Y⟩;have hT:Sr.runs aA.length aA (Sr.ah aP size z)=Sr.run aA aP size z:=rfl;rw[hT]at i;generalize Sr.run aA aP size z=T at *;have a5:=Y.size;have A2:Below w1.heap.size w2 p:=⟨Y.os,Y.tape,Y.output,Y.size,fun k hk=>Y.block k (by omega) (fun e=>by have:=l.o k (eZ.all e);omega)⟩;have u7:=Aq (v6.o.trans (A2.mono N));have u4:=Aq (h5.o.below A2 (by have:=h5.o.lt;omega));obtain⟨r,w5,x9,v0⟩:=Sr.gL hW.o;generalize Sr.bk aA=n at *;obtain⟨cb,off,v2,a4,z2⟩:=(u1.o.aQ (w':=p) fun q s=>A2.cell s).2 (by have:=(aS.1 w5).1;omega);have g4:=z2 _ _ (Fq aA _ r w5).2.2.2.2;rw[←Lb,x9]at g4;subst v2;obtain⟨U,D,A5,_⟩:=Ba i.og;obtain⟨R,V,A3,_⟩:=Ba i.cu;obtain⟨C,G,c3,_⟩:=Ba i.tq;obtain⟨M,F,c5,_⟩:=Ba i.en;obtain⟨I,J,c4,_⟩:=Ba i.cv;obtain⟨E,S,hF,_⟩:=Ba i.st;have HL:=Aq i;have A4:Hid (∀y:World,au y sb L T→y.cell? ⟨cb,off+(aA.length-1)*5+4,none⟩=some (Aj (n:Int))→((y.cell? ⟨sb,64,none⟩=some (.slice U T.m.aT.length D)∧y.cell? ⟨sb,65,none⟩=some (.slice R T.m.aF.length V)∧y.cell? ⟨sb,66,none⟩=some (.slice C T.m.aB.length G)∧y.cell? ⟨sb,67,none⟩=some (.slice M T.m.aJ.length F))∧y.cell? ⟨sb,69,none⟩=some (.slice I T.m.aP.length J)∧y.cell? ⟨sb,70,none⟩=some (.slice E T.m.store.length S)∧y.cell? ⟨cb,off+(aA.length-1)*5+4,none⟩=some (Aj (n:Int))∧y.cell? ⟨sb,76,none⟩=some (Aj (T.steps:Int)))):=Aq fun y h hc =>
  ⟨⟨A5 ▸ h.c64,A3 ▸ h.h_,c3 ▸ h.c66,c5 ▸ h.c67⟩,c4 ▸ h.kj,hF ▸ h.lN,hc,h.mj⟩
 have x7:1≤aA.length∧aA.length≤80000:=by
  have:=hW.o;unfold Sr.right at this;simp only[Eo,decide_eq_true_eq]at this;exact this.1.1
 obtain⟨x7,a6⟩:=x7;have hw:IntKind.i64.wrap ((aA.length:Int)-1)=((aA.length-1:Nat):Int):=by rw[Do _ (by omega)];omega
 have u3:aA.length-1<aA.length:=by omega
 have hS:=A4.o p.drew i.drew g4;have u0:=Aq g4;have h7:=Aq (show aE p.drew p.heap.size 1 (some ⟨sb,0,none⟩) n (ae (T.aW.take n)) from⟨by rw[Dc,Dn,i.ok.rl];omega,fun _=>⟨sb,0,rfl,i.aG.lt,fun hX u hu=>by
  have hj:hX<n:=by
   have:=(aS.1 hu).1;rw[Dc,Dn]at this;omega
  unfold ae at hu;rw[Cc,List.getElem?_take_of_lt hj,Bg (by rw[i.ok.rl];omega)]at hu;rw[ns,show p.drew.cell? ⟨sb,hX,none⟩=p.cell? ⟨sb,hX,none⟩ from rfl,i.fR (by omega),Bn,Bg (by rw[i.ok.rl];omega)];exact hu⟩⟩)
 generalize aA.length-1=m at *;have a0:=Aq A5;have u2:=Aq A3;have v9:=Aq c3;have z6:=Aq c5;have z8:=Aq c4;have z7:=Aq hF;clear w5 x9 z2 A5 A3 c3 c5 c4 hF g4 i Y hT;have v3:=HL.o.aG.lt;have u8:=Ws sb n v0;go_wp2_with fail
 refine Bq (fun hL=>!([23,29]:List Nat).contains hL) (fun hL=>([3,7,11,21,27]:List Nat).contains hL) (fun hL=>([23]:List Nat).contains hL) [0,1,2,3,4,5,6,7,8,9,10,11,12,13,14,15,16,17,18,19,20,21,22,24,25,26,27,23,28,29] (fun wq:World=>((wq.cell? ⟨sb,64,none⟩=some (.slice U T.m.aT.length D)∧wq.cell? ⟨sb,65,none⟩=some (.slice R T.m.aF.length V)∧wq.cell? ⟨sb,66,none⟩=some (.slice C T.m.aB.length G)∧wq.cell? ⟨sb,67,none⟩=some (.slice M T.m.aJ.length F))∧wq.cell? ⟨sb,69,none⟩=some (.slice I T.m.aP.length J)∧wq.cell? ⟨sb,70,none⟩=some (.slice E T.m.store.length S)∧wq.cell? ⟨cb,off+m*5+4,none⟩=some (Aj (n:Int))∧wq.cell? ⟨sb,76,none⟩=some (Aj (T.steps:Int)))) (by kernel_rfl) (by kernel_rfl) (by kernel_rfl) (by kernel_rfl) ?_
 iterate 27 (first|refine Be ?_|refine Bj hS ?_)
 refine Bi fun K hK=>?_;go_simp
 refine(Gq p.drew _ n 64 p.heap.size _ h7.o (Ho _) (by omega)).mono ?_;rintro e B⟨v5,rfl,c6,hq⟩;have v8:=A4.o B (HL.o.drew.cr hq) ((hq.cell (by simp;omega) (fun x=>x)).trans u0.o);have e1:=Aq hq;have v4:=Aq c6;obtain⟨A7,c7,u5,_⟩:=Ba c6;have w7:=e1.o.aG (u4.o.drew) (fun x=>x);have b0:=w7.cell;have b1:=w7.frozen;have b2:=w7.lt;have h6:=Aq w7;clear w7;subst u5;clear c6 hq;dsimp only;refine hK _ _ (fun _=>v8) ?_;clear hK K
 iterate 1 (first|refine Be ?_|refine Bj hS ?_)
 refine Bi fun K hK=>?_;go_simp
 refine Bh hK ?_;clear hK K;refine Bb ?_;have f:=HL.o.drew.cr e1.o;have H:∀{t:TypeId} {size k:Nat} {v:Value} {xs:List Value},B.ownsRow 0 t size v k xs→(∀g,v.ownBlock=some g→w1.heap.size≤g)→B.ownsRow w.heap.size t size v k xs:=fun h1 h2=>Sw h1 (fun g e=>by have:=h2 g e;omega)
 have x4:(Sr.eN T n).stack.length=n:=by unfold Sr.eN;simp only[oN,Dn,HL.o.ok.rl];omega
 have z1:dZ w.heap.size (Sr.eN T n) B (.slice U T.m.aT.length D) (.slice R T.m.aF.length V) (.slice C T.m.aB.length G) (.slice M T.m.aJ.length F) (.slice I T.m.aP.length J) (.slice E T.m.store.length S) (.slice A7 n c7):=by
  refine⟨?_,?_,?_,?_,?_,?_,?_⟩
  ·exact a0.o ▸ H f.og (fun g e=>l.o g (.inr (.inl e)))
  ·exact u2.o ▸ H f.cu (fun g e=>l.o g (.inr (.inr (.inl e))))
  ·exact v9.o ▸ H f.tq (fun g e=>l.o g (.inr (.inr (.inr (.inl e)))))
  ·exact z6.o ▸ H f.en (fun g e=>l.o g (.inr (.inr (.inr (.inr (.inl e))))))
  ·exact z8.o ▸ H f.cv (fun g e=>l.o g (.inr (.inr (.inr (.inr (.inr (.inr (.inl e))))))))
  ·have h:=z7.o ▸ H f.st (fun g e=>l.o g (.inr (.inr (.inr (.inr (.inr (.inr (.inr e))))))));have e:(32:Nat)=T.m.store.length:=HL.o.ok.m.dR.symm;rw[e];exact h
  ·rw[x4];have:(Sr.eN T n).stack.reverse=T.aW.take n:=by unfold Sr.eN;simp
   rw[this];exact Cj v4.o (by have:=e1.o.size;show w.heap.size≤p.heap.size;omega)
 have x5:Below w.heap.size w B:=u7.o.drew.trans (qG e1.o (by show w.heap.size≤p.heap.size;omega));obtain⟨z5,x1,A1⟩:=He h6.o z1 (show w.heap.size≤w.heap.size+1+1 by omega) x5 (.slice U T.m.aT.length D) (.slice R T.m.aF.length V) (.slice C T.m.aB.length G) (.slice M T.m.aJ.length F) (.slice I T.m.aP.length J) (.slice E T.m.store.length S) (.slice A7 n c7) (Aj (T.steps:Int)) (Aj 0) (Aj 0);simp only[oz,oL,om]at A1;clear hS u8 f H x4 z1 x5 b0 b1 b2 A4 h7 h6 v3 hw u3;go_wp2_with fail
 obtain⟨W,O⟩:∃W,W=di B (w.heap.size+1+1) (.slice U T.m.aT.length D) (.slice R T.m.aF.length V) (.slice C T.m.aB.length G) (.slice M T.m.aJ.length F) (.slice I T.m.aP.length J) (.slice E T.m.store.length S) (.slice A7 n c7) (Aj (T.steps:Int)) (Aj 0) (Aj 0):=⟨_,rfl⟩;rw[←O]at x1 A1
 try rw[←O]at z5
 unfold di at O;rw[←O];clear O;have a:=A1.cell;have y0:=a 0;have y1:=a 1;have y2:=a 2;have y3:=a 3;have y4:=a 4;have y5:=a 5;have y6:=a 6;have y7:=a 7;have y8:=a 8;have y9:=a 9;simp only[Az,Ay,Bc]at y0 y1 y2 y3 y4 y5 y6 y7 y8 y9;refine bodyPost_ret (v:=.agg #[.slice U T.m.aT.length D,.slice R T.m.aF.length V,.slice C T.m.aB.length G,.slice M T.m.aJ.length F,.slice I T.m.aP.length J,.slice E T.m.store.length S,.slice A7 n c7,Aj (T.steps:Int),Aj 0,Aj 0]) (by simp[results,Tryz.results17,go_sem,y0,y1,y2,y3,y4,y5,y6,y7,y8,y9]) rfl ?_;exact⟨_,_,_,_,_,_,_,rfl,z5,x1⟩
def kZ (N0:Nat):Repr N0 Bu.PS:=Repr.map (fun s=>(s.op,s.a,s.aC,(s.go:Int))) (Repr.bi Repr.int (Repr.bi Repr.int (Repr.bi Repr.int Repr.int)))
def Kz (N0:Nat):Repr N0 Bu.aq:=Repr.map (fun p=>(p.steps,p.size)) (Repr.bi (Repr.row 145 (kZ N0)) Repr.int)
theorem Zfu:(Tryz.prog.info? 50).map (fun i=>(i.zero,i.size,i.bytes))=some (some (.agg #[Aj 0,Aj 0,Aj 0,Aj 0,Aj 0]),5,40):=by kernel_rfl
def fy (w:World)(v:Value)(ps:List Bu.aq):Prop:=∃A c,v=.slice A ps.length c∧af (Kz 0) 89 w w.heap.size A ps
structure eG (B:Nat) (w w':World):Prop where
 below:Below B w w'
 aQ:∀(k:Nat) (t:TypeId) (cs:Array Value) (fz:Nat×Nat),w.heap[k]?=some (.cells cs t fz)→t≠86→t≠50→w'.heap[k]?=some (.cells cs t fz)
theorem eG.refl (B:Nat)(w:World):eG B w w:=⟨aI,fun _ _ _ _ h _ _=>h⟩
abbrev qD:=@eG.refl
theorem eG.trans {B:Nat}{w w1 w2:World}(h:eG B w w1)(k:eG B w1 w2):eG B w w2:=⟨h.below.trans k.below,fun i t cs x e z y=>k.aQ i t cs x (h.aQ i t cs x e z y) z y⟩
theorem eG.alloc {B:Nat}{w w1:World}(h:eG B w w1)(u:B≤w1.heap.size)(o:Obj):eG B w (w1.alloc o) :=
 ⟨h.below.alloc u o,fun i t cs x e z y=>(oW _ _ _ (bN.1 (h.aQ i t cs x e z y)).1).trans (h.aQ i t cs x e z y)⟩
theorem eG.drew {B:Nat}{w w1:World}(h:eG B w w1):eG B w w1.drew:=⟨h.below.drew,fun i t cs x e z y=>h.aQ i t cs x e z y⟩
theorem eG.aG {B:Nat}{w w':World}(h:eG B w w'){k:Nat}{t:TypeId}{cs:Array Value}(x:aH w k t cs)(z:t≠86)(y:t≠50):aH w' k t cs:=h.aQ k t cs (0,0) x z y
theorem fy.fr {B:Nat}{w w':World}{v:Value}{ps:List Bu.aq}(h:fy w v ps)(y:eG B w w'):fy w' v ps:=by
 obtain⟨A,c,e,k⟩:=h;refine⟨A,c,e,(k.aQ fun g t xs z _ x u=>y.aQ g t xs z u ?_ ?_).a_ y.below.size⟩
 all_goals
  rcases x with x|x
  ·omega
  ·rintro rfl
   revert x
   decide
structure fQ (w:World) (B bb:Nat) (pv cv:Value) (ps:List Bu.aq) (aA:List Sr.bE):Prop where
 aG:aH w bb 86 #[pv,cv]
 ps:fy w pv ps
 aA:w.ownsRow 0 50 5 cv aA.length (Cg aA)
 aN:B≤bb
 fd:∀g,cv.ownBlock=some g→B≤g
section
variable {w w' : World} {B bb : Nat} {pv cv : Value} {ps : List Bu.aq} {aA : List Sr.bE}
theorem fQ.cr (h:fQ w B bb pv cv ps aA)(y:bT w w'):fQ w' B bb pv cv ps aA:=by
 refine⟨y.aG h.aG (fun x=>x),?_,Ca h.aA y,h.aN,h.fd⟩;obtain⟨A,c,e,u⟩:=h.ps;exact⟨A,c,e,(u.aQ fun g t xs v _ _ z=>(y.block g (bN.1 z).1 (fun x=>x)).trans z).a_ y.size⟩
theorem fQ.alloc (h:fQ w B bb pv cv ps aA)(o:Obj):fQ (w.alloc o) B bb pv cv ps aA:=h.cr ((qu _ _).alloc _)
theorem fQ.drew (h:fQ w B bb pv cv ps aA):fQ w.drew B bb pv cv ps aA:=h.cr (qu _ _).drew
end
def cG (w:World)(B bb:Nat)(pv:Value)(ps:List Bu.aq)(aA:List Sr.bE)(e:Ending)(w':World):Prop:=e=.returned (.tuple #[])∧(∃cv,fQ w' B bb pv cv ps aA)∧eG B w w'
theorem fQ.fZ {w w1:World}{B bb:Nat}{pv cv v':Value}{ps:List Bu.aq}{aA q:List Sr.bE}(h:fQ w B bb pv cv ps aA) (a:w1.ownsRow 0 50 5 v' q.length (Cg q)) (v:w.grownBy w1 cv.ownBlock) (c:B≤w.heap.size) (z:v'.ownBlock=cv.ownBlock∨v'.ownBlock=some w.heap.size) :
  aH w1 bb 86 #[pv,cv]∧fQ (w1.setCell ⟨bb,1,none⟩ v') B bb pv v' ps q∧eG B w (w1.setCell ⟨bb,1,none⟩ v'):=by
 have r:∀g,cv.ownBlock=some g→∃cs,aH w g 50 cs:=fun g e=>(Bf h.aA e).2.2
 have u:aH w1 bb 86 #[pv,cv]:=h.aG.grown v fun e=>by
  obtain⟨cs,x⟩:=r bb e.symm;exact h.aG.dF x (by decide) rfl
 have b:∀(k:Nat) (t:TypeId) (cs:Array Value) (y:Nat×Nat),w.heap[k]?=some (.cells cs t y)→t≠86→t≠50→(w1.setCell ⟨bb,1,none⟩ v').heap[k]?=some (.cells cs t y):=fun k t cs y e f d=>by
  have j:w1.heap[k]?=some (.cells cs t y):=by
   rw[v.block k (bN.1 e).1 (fun i=>by
    obtain⟨m,x⟩:=r k i.symm;unfold aH at x;rw[e]at x
    injection x with x
    injection x with _ l
    exact d l)]
   exact e
  exact Hg u 1 v' k t cs y (fun e=>f e.symm) j
 have s:eG B w (w1.setCell ⟨bb,1,none⟩ v'):=⟨((ds B w).grown v c (fun g e=>h.fd g e)).setCell (p:=⟨bb,1,none⟩) h.aN _,b⟩;refine⟨u,⟨?_,h.ps.fr s,Ci a u (by decide) 1 v',h.aN,fun g e=>?_⟩,s⟩
 ·have:=u.aZ 1 v'
  simpa using this
 ·rcases z with z|z
  ·exact h.fd g (z ▸ e)
  ·rw[z]at e
   injection e with e
   omega
theorem Hf {P:Program}(w:World){ops:Array Oper}{o:Oper}{a:Act}{K:Act→World→Prop}{Q:Exit→Act→World→Prop}{E:Prop}(k:o.guard=none)(s x:Operand)(t:TypeId)
  (p:o.op=.call { callee:=.builtin .append,args:=#[s,x],argTypes:=#[t,t] }) (e:TypeId) (i:TypeInfo) (z:Value) (size bytes:Nat) (V:P.underlying t=some (.slice e)) (hi:P.info? e=some i) (l:i.zero=some z)
  (f:i.size=size) (j:i.bytes=bytes) (g:z.cells.size=size) (Y:0<size)
  (aN:Nat) (v:Value) (n:Nat) (xs:List Value) (q:a.eval s=v) (R:w.ownsRow aN e size v n xs) (r:aN≤w.heap.size)
  (B:Nat) (A:Option Addr) (m c:Nat) (y:List Value) (d:a.eval x=.slice A m c) (H:aE w B size A m y) (X:∀u∈y,u.oneCell'=true)
  (b:n+m≤maxLen) (Z:(n+m)*bytes≤140737488355328)
  (h:∀v' w',w'.ownsRow aN e size v' (n+m) (xs++y)→w.grownBy w' v.ownBlock→(v'.ownBlock=v.ownBlock∨v'.ownBlock=some w.heap.size)→K (a.put o.dst v') w') :
  if Region.wanted o (yielded ops a.tmps)=true then Oper.wp P o a w K Q else E:=by
 have U:Region.wanted o (yielded ops a.tmps)=true:=by simp[Region.wanted,k]
 rw[if_pos U];exact Ey w s x t p aN e i z size bytes V hi l f j g Y v n xs q R B A m c y d H X b Z r h
theorem Em (w:World)(B bb:Nat)(pv cv:Value)(ps:List Bu.aq)(aA:List Sr.bE)(h:fQ w B bb pv cv ps aA)(Z:B≤w.heap.size)(N:aA.length<1000000)(r:Sr.bE) :
  Calls Tryz.prog 36 #[.pointer (some ⟨bb,0,none⟩),Ew r] w (cG w B bb pv ps (aA++[r])):=by
 obtain⟨op,d,a,b,n⟩:=r;unfold Ew;obtain⟨k,cc,D,I,_⟩:=Ba h.aA;subst D;have H:=Aq h;have T:=h.aG.lt;have C:Hid (Cg (aA++[⟨op,d,a,b,n⟩])=Cg aA++[Aj op,Aj d,Aj a,Aj b,Aj n]):=Aq (Ql aA [⟨op,d,a,b,n⟩]);obtain⟨Q,V,A,G,E⟩:=Eu Zfu;clear h;go_enter Tryz.func36,Tryz.ntmps36;go_wp2_with fail
 have c:(w.alloc (.cells #[Aj op,Aj d,Aj a,Aj b,Aj n] 50)).cell? ⟨w.heap.size,0,none⟩=some (Aj op):=(qv w _ _).cell 0;have l:(w.alloc (.cells #[Aj op,Aj d,Aj a,Aj b,Aj n] 50)).cell? ⟨w.heap.size,1,none⟩=some (Aj d):=(qv w _ _).cell 1;have q:(w.alloc (.cells #[Aj op,Aj d,Aj a,Aj b,Aj n] 50)).cell? ⟨w.heap.size,2,none⟩=some (Aj a):=(qv w _ _).cell 2;have i:(w.alloc (.cells #[Aj op,Aj d,Aj a,Aj b,Aj n] 50)).cell? ⟨w.heap.size,3,none⟩=some (Aj b):=(qv w _ _).cell 3;have e:(w.alloc (.cells #[Aj op,Aj d,Aj a,Aj b,Aj n] 50)).cell? ⟨w.heap.size,4,none⟩=some (Aj n):=(qv w _ _).cell 4;have H1:=Aq (H.o.alloc (.cells #[Aj op,Aj d,Aj a,Aj b,Aj n] 50));have S:=Aq ((qD B w).alloc Z (.cells #[Aj op,Aj d,Aj a,Aj b,Aj n] 50));have y:w.heap.size<(w.alloc (.cells #[Aj op,Aj d,Aj a,Aj b,Aj n] 50)).heap.size:=by simp
 generalize (w.alloc (.cells #[Aj op,Aj d,Aj a,Aj b,Aj n] 50))=W at *;have v:=H1.o.aG.cell 1;simp only[Az,Ay,Bc]at v;have f:=Aq (H1.o.drew.alloc (.cells #[Aj op,Aj d,Aj a,Aj b,Aj n] 50));have g:=Aq (S.o.drew.alloc (by show B≤W.heap.size;omega) (.cells #[Aj op,Aj d,Aj a,Aj b,Aj n] 50));have U:(W.drew.alloc (.cells #[Aj op,Aj d,Aj a,Aj b,Aj n] 50)).cell? ⟨bb,1,none⟩=some (.slice k aA.length cc)∧(W.drew.alloc (.cells #[Aj op,Aj d,Aj a,Aj b,Aj n] 50)).cell? ⟨w.heap.size,0,none⟩=some (Aj op)∧(W.drew.alloc (.cells #[Aj op,Aj d,Aj a,Aj b,Aj n] 50)).cell? ⟨w.heap.size,1,none⟩=some (Aj d)∧(W.drew.alloc (.cells #[Aj op,Aj d,Aj a,Aj b,Aj n] 50)).cell? ⟨w.heap.size,2,none⟩=some (Aj a)∧(W.drew.alloc (.cells #[Aj op,Aj d,Aj a,Aj b,Aj n] 50)).cell? ⟨w.heap.size,3,none⟩=some (Aj b)∧(W.drew.alloc (.cells #[Aj op,Aj d,Aj a,Aj b,Aj n] 50)).cell? ⟨w.heap.size,4,none⟩=some (Aj n) :=
  ⟨(Cb _ _ _ (by show bb<W.heap.size;omega)).trans v,(Cb _ _ _ y).trans c,(Cb _ _ _ y).trans l,(Cb _ _ _ y).trans q,(Cb _ _ _ y).trans i,(Cb _ _ _ y).trans e⟩
 have s:W.drew.cell? ⟨bb,1,none⟩=some (.slice k aA.length cc)∧W.drew.cell? ⟨w.heap.size,0,none⟩=some (Aj op)∧W.drew.cell? ⟨w.heap.size,1,none⟩=some (Aj d)∧W.drew.cell? ⟨w.heap.size,2,none⟩=some (Aj a)∧W.drew.cell? ⟨w.heap.size,3,none⟩=some (Aj b)∧W.drew.cell? ⟨w.heap.size,4,none⟩=some (Aj n):=⟨v,c,l,q,i,e⟩;refine Cr [6,7,10] [4,5] [6] 11 (fun wq:World=>wq.cell? ⟨bb,1,none⟩=some (.slice k aA.length cc)∧wq.cell? ⟨w.heap.size,0,none⟩=some (Aj op)∧wq.cell? ⟨w.heap.size,1,none⟩=some (Aj d)∧wq.cell? ⟨w.heap.size,2,none⟩=some (Aj a)∧wq.cell? ⟨w.heap.size,3,none⟩=some (Aj b)∧wq.cell? ⟨w.heap.size,4,none⟩=some (Aj n)) ?_
 iterate 6 (first|refine Be ?_|refine Bj s ?_)
 refine Bi fun K x=>?_;go_simp
 refine x _ _ (fun _=>U) ?_;clear x K;refine Bi fun K x=>?_
 refine Hf _ rfl (.tmp 8) (.tmp 10) _ rfl 50 Q _ 5 40 Tryz.underlying32 V A G E rfl (by decide) 0 _ _ _ rfl f.o.aA (By _) _ _ 1 1 [Aj op,Aj d,Aj a,Aj b,Aj n] rfl (qB (cs:=[Aj op,Aj d,Aj a,Aj b,Aj n]) (qv _ _ _) 5 1 rfl) (by simp[Value.oneCell']) (by unfold maxLen;omega) (by omega) ?_;intro v' R z p j;rw[←C.o,show aA.length+1=(aA++[⟨op,d,a,b,n⟩]:List Sr.bE).length by simp]at z;obtain⟨u,m,X⟩:=f.o.fZ z p (by have:=g.o.below.size;omega) j;have P:Hid (cG w B bb pv ps (aA++[⟨op,d,a,b,n⟩]) (.returned (.tuple #[])) (R.setCell ⟨bb,1,none⟩ v')):=Aq ⟨rfl,⟨_,m⟩,g.o.trans X⟩;obtain⟨O,J,Y,_⟩:=Ba z;rw[Bz,nr]at Y;have F:=u.cell 1;have M:=u.frozen 1;have L:=u.lt;simp only[Az,Ay,Bc]at F;subst Y;clear u m X z p j;refine Bh x ?_;clear x K
 iterate 2 (first|refine Be ?_|refine Bj s ?_)
 refine Bi fun K x=>?_;go_simp
 refine Bh x ?_;clear x K;refine Bb ?_;go_wp2;go_end0;exact P.o
end
section
open Go.RowKit Mc
theorem cG.bL {w w1 w2:World}{B bb:Nat}{pv:Value}{ps:List Bu.aq}{aA:List Sr.bE}{e:Ending}(x:eG B w w1)(h:cG w1 B bb pv ps aA e w2):cG w B bb pv ps aA e w2:=⟨h.1,h.2.1,x.trans h.2.2⟩
theorem Yd (w:World)(B bb:Nat)(pv cv:Value)(ps:List Bu.aq)(aA:List Sr.bE)(h:fQ w B bb pv cv ps aA)(d:B≤w.heap.size)(f:aA.length<1000000)(op x bk cL:Int) :
  Calls Tryz.prog 90 #[.pointer (some ⟨bb,0,none⟩),.agg #[Aj op,Aj x],Aj bk,Aj cL] w (cG w B bb pv ps (aA++Bu.cg (op,x) bk cL)):=by
 have g:=Aq (h.alloc (.cells #[Aj op,Aj x] 96));have i:=Aq ((qD B w).alloc d (.cells #[Aj op,Aj x] 96));have q:=Aq (fun r=>(Em _ B bb pv cv ps aA g.o (by simp;omega) f r).mono fun _ _ y=>cG.bL i.o y);have l:=h.aG.lt;clear h;generalize c:Sr.cP op=u at *;obtain⟨u,ok⟩:=u;have z:=Aq c;clear c;by_cases s:u=3
 ·subst s;have v:=Aq (show Bu.cg (op,x) bk cL=[⟨op,bk,bk,0,0⟩] by unfold Bu.cg;simp only[z.o];rfl);rw[v.o];go_enter Tryz.func90,Tryz.ntmps90;go_wp2_with fail
  refine(Im _ _).mono ?_;rintro e p⟨rfl,rfl⟩;rw[z.o];go_wp2_with fail
  refine(q.o ⟨op,bk,bk,0,0⟩).mono ?_;intro e p y;have k:=Aq y;obtain⟨rfl,_⟩:=y;go_wp2;go_end0;exact k.o
 ·by_cases a:u=7
  ·subst a;have v:=Aq (show Bu.cg (op,x) bk cL=[⟨op,cL,cL,bk,0⟩] by unfold Bu.cg;simp only[z.o];rfl);rw[v.o];go_enter Tryz.func90,Tryz.ntmps90;go_wp2_with fail
   refine(Im _ _).mono ?_;rintro e p⟨rfl,rfl⟩;rw[z.o];go_wp2_with fail
   refine(q.o ⟨op,cL,cL,bk,0⟩).mono ?_;intro e p y;have k:=Aq y;obtain⟨rfl,_⟩:=y;go_wp2;go_end0;exact k.o
  ·by_cases b:u=6
   ·subst b;have v:=Aq (show Bu.cg (op,x) bk cL=[⟨op,0,cL,bk,0⟩] by unfold Bu.cg;simp only[z.o];rfl);rw[v.o];go_enter Tryz.func90,Tryz.ntmps90;go_wp2_with fail
    refine(Im _ _).mono ?_;rintro e p⟨rfl,rfl⟩;rw[z.o];go_wp2_with fail
    refine(q.o ⟨op,0,cL,bk,0⟩).mono ?_;intro e p y;have k:=Aq y;obtain⟨rfl,_⟩:=y;go_wp2;go_end0;exact k.o
   ·have v:=Aq (show Bu.cg (op,x) bk cL=[⟨op,0,0,0,x⟩] by unfold Bu.cg;simp only[z.o];rw[if_neg s,if_neg a,if_neg b]);rw[v.o];have n:(u==3)=false:=by simpa using s
    have m:(u==7)=false:=by simpa using a
    have j:(u==6)=false:=by simpa using b
    go_enter Tryz.func90,Tryz.ntmps90;go_wp2_with fail
    refine(Im _ _).mono ?_;rintro e p⟨rfl,rfl⟩;rw[z.o];go_wp2_with fail
    refine(q.o ⟨op,0,0,0,x⟩).mono ?_;intro e p y;have k:=Aq y;obtain⟨rfl,_⟩:=y;go_wp2;go_end0;exact k.o
theorem nH {N0:Nat}{w:World}{B:Nat}{s:Bu.PS}{cs:List Value} (h:(kZ N0).rel w B s cs):cs=[Aj s.op,Aj s.a,Aj s.aC,Aj (s.go:Int)]:=by
 obtain⟨x,k,rfl,⟨rfl,_⟩,y,u,rfl,⟨rfl,_⟩,v,z,rfl,⟨rfl,_⟩,rfl,_⟩:=h;rfl
theorem Uv {N0:Nat}{w:World}{B:Nat}{p:Bu.aq}{cs:List Value} (h:(Kz N0).rel w B p cs):∃A c,cs=[.slice A p.steps.length c,Aj p.size]∧af (kZ N0) 145 w B A p.steps:=by
 obtain⟨x,y,rfl,⟨A,c,rfl,_,_,z⟩,rfl,_⟩:=h;exact⟨A,c,rfl,z⟩
def EmB (j:Nat)(aC loops:Int):Prop:=-100000≤aC-100*(j+1)∧aC+100*(j+1)≤100000∧0≤loops∧loops+j≤100000
def EmS (k:Nat)(next loops:Int):Prop:=-100000≤next-1-100*k∧next+1+100*k≤100000∧0≤loops∧loops+k≤100000
def Wf (es:List Bu.cV)(ps:List Bu.aq)(j:Nat):Prop :=
 ∀(w:World) (B bb:Nat) (pv cv:Value) (aA:List Sr.bE) (p:Bu.aq) (A:Option Addr) (c:Nat) (aC loops:Int),ps[j]?=some p→fQ w B bb pv cv ps aA→B≤w.heap.size→af (kZ 0) 145 w w.heap.size A p.steps→EmB j aC loops→aA.length+(Bu.em es j aC loops).length≤1000000 →
  Calls Tryz.prog 35 #[.pointer (some ⟨bb,0,none⟩),.agg #[.slice A p.steps.length c,Aj p.size],Aj aC,Aj loops] w (cG w B bb pv ps (aA++Bu.em es j aC loops))
def Zhg (es:List Bu.cV)(ps:List Bu.aq)(j:Nat):Prop :=
 ∀(w:World) (B bb:Nat) (pv cv:Value) (aA:List Sr.bE) (p:Bu.aq) (A:Option Addr) (c:Nat) (bk loops:Int),ps[j]?=some p→fQ w B bb pv cv ps aA→B≤w.heap.size→af (kZ 0) 145 w w.heap.size A p.steps→EmB j bk (loops+1)→0≤loops→aA.length+(Bu.eL (Bu.em es j bk (loops+1)) bk loops).length≤1000000 →
  Calls Tryz.prog 89 #[.pointer (some ⟨bb,0,none⟩),.agg #[.slice A p.steps.length c,Aj p.size],Aj bk,Aj loops] w (cG w B bb pv ps (aA++Bu.eL (Bu.em es j bk (loops+1)) bk loops))
theorem Zda (w:World)(B bb:Nat)(pv cv:Value)(ps:List Bu.aq)(aA:List Sr.bE)(h:fQ w B bb pv cv ps aA)(l:B≤w.heap.size)(es:List Bu.cV)(op x next loops:Int)(k:Nat)(hk:k≤ps.length)(c:∀j,j<k→Wf es ps j)(d:∀j,j<k→Zhg es ps j) (P:(op=37∨op=38)→0≤x∧x<k) (hb:EmS k next loops) (u:aA.length+(Bu.bD es (op,x) next loops).length≤1000000) :
  Calls Tryz.prog 66 #[.pointer (some ⟨bb,0,none⟩),.agg #[Aj op,Aj x],Aj next,Aj loops] w (cG w B bb pv ps (aA++Bu.bD es (op,x) next loops)):=by
 obtain⟨h0,hc,hL,hq⟩:=hb;have d0:(0:Int)≤k:=by omega
 by_cases a:op=2
 ·subst a;have v:=Aq (show Bu.bD es (2,x) next loops=[] from rfl);rw[v.o,oC]at *;have z:Hid (cG w B bb pv ps aA (.returned (.tuple #[])) (w.alloc (.cells #[Aj 2,Aj x] 96))):=Aq ⟨rfl,⟨_,h.alloc _⟩,(qD B w).alloc l _⟩;clear h c d u;go_enter Tryz.func66,Tryz.ntmps66;go_wp2;go_end0;exact z.o
 by_cases a:op=1
 ·subst a;have v:=Aq (show Bu.bD es (1,x) next loops=[⟨1,next,0,0,x⟩] from rfl);rw[v.o]at u ⊢;simp only[Bo,Bw]at u;have q:=Aq (h.alloc (.cells #[Aj 1,Aj x] 96));have s:=Aq ((qD B w).alloc l (.cells #[Aj 1,Aj x] 96));have f:=Aq (fun r=>(Em _ B bb pv cv ps aA q.o (by simp;omega) (by omega) r).mono fun _ _ y=>cG.bL s.o y);have m:=h.aG.lt;clear h c d;go_enter Tryz.func66,Tryz.ntmps66;go_wp2_with fail
  refine(f.o ⟨1,next,0,0,x⟩).mono ?_;intro e g y;have z:=Aq y;obtain⟨rfl,_⟩:=y;go_wp2;go_end0;exact z.o
 by_cases a:op=39
 ·subst a;have v:=Aq (show Bu.bD es (39,x) next loops=[⟨39,next,0,0,0⟩] from rfl);rw[v.o]at u ⊢;simp only[Bo,Bw]at u;have q:=Aq (h.alloc (.cells #[Aj 39,Aj x] 96));have s:=Aq ((qD B w).alloc l (.cells #[Aj 39,Aj x] 96));have f:=Aq (fun r=>(Em _ B bb pv cv ps aA q.o (by simp;omega) (by omega) r).mono fun _ _ y=>cG.bL s.o y);have m:=h.aG.lt;clear h c d;go_enter Tryz.func66,Tryz.ntmps66;go_wp2_with fail
  refine(f.o ⟨39,next,0,0,0⟩).mono ?_;intro e g y;have z:=Aq y;obtain⟨rfl,_⟩:=y;go_wp2;go_end0;exact z.o
 by_cases a:op=3
 ·subst a;have v:=Aq (show Bu.bD es (3,x) next loops=[⟨40,next,next-1,0,0⟩] from rfl);rw[v.o]at u ⊢;simp only[Bo,Bw]at u;have q:=Aq (h.alloc (.cells #[Aj 3,Aj x] 96));have s:=Aq ((qD B w).alloc l (.cells #[Aj 3,Aj x] 96));have f:=Aq (fun r=>(Em _ B bb pv cv ps aA q.o (by simp;omega) (by omega) r).mono fun _ _ y=>cG.bL s.o y);have m:=h.aG.lt;clear h c d;go_enter Tryz.func66,Tryz.ntmps66;go_wp2_with fail
  refine(f.o ⟨40,next,next-1,0,0⟩).mono ?_;intro e g y;have z:=Aq y;obtain⟨rfl,_⟩:=y;go_wp2;go_end0;exact z.o
 by_cases a:op=35
 ·subst a;have v:=Aq (show Bu.bD es (35,x) next loops=[⟨35,0,0,0,0⟩] from rfl);rw[v.o]at u ⊢;simp only[Bo,Bw]at u;have q:=Aq (h.alloc (.cells #[Aj 35,Aj x] 96));have s:=Aq ((qD B w).alloc l (.cells #[Aj 35,Aj x] 96));have f:=Aq (fun r=>(Em _ B bb pv cv ps aA q.o (by simp;omega) (by omega) r).mono fun _ _ y=>cG.bL s.o y);have m:=h.aG.lt;clear h c d;go_enter Tryz.func66,Tryz.ntmps66;go_wp2_with fail
  refine(f.o ⟨35,0,0,0,0⟩).mono ?_;intro e g y;have z:=Aq y;obtain⟨rfl,_⟩:=y;go_wp2;go_end0;exact z.o
 by_cases a:op=36
 ·subst a;have v:=Aq (show Bu.bD es (36,x) next loops=[⟨36,0,next-1,0,0⟩] from rfl);rw[v.o]at u ⊢;simp only[Bo,Bw]at u;have q:=Aq (h.alloc (.cells #[Aj 36,Aj x] 96));have s:=Aq ((qD B w).alloc l (.cells #[Aj 36,Aj x] 96));have f:=Aq (fun r=>(Em _ B bb pv cv ps aA q.o (by simp;omega) (by omega) r).mono fun _ _ y=>cG.bL s.o y);have m:=h.aG.lt;clear h c d;go_enter Tryz.func66,Tryz.ntmps66;go_wp2_with fail
  refine(f.o ⟨36,0,next-1,0,0⟩).mono ?_;intro e g y;have z:=Aq y;obtain⟨rfl,_⟩:=y;go_wp2;go_end0;exact z.o
 by_cases a:op=4
 ·subst a;have v:=Aq (show Bu.bD es (4,x) next loops=[⟨40,63,next-1,0,0⟩,⟨40,next-1,next-2,0,0⟩,⟨40,next-2,63,0,0⟩] from rfl);rw[v.o]at u ⊢;simp only[Bo,Bw]at u;have H:=Aq (h.alloc (.cells #[Aj 4,Aj x] 96));have F:=Aq ((qD B w).alloc l (.cells #[Aj 4,Aj x] 96));have m:=h.aG.lt;clear h c d;go_enter Tryz.func66,Tryz.ntmps66;go_wp2_with fail
  refine(Em _ B bb pv cv ps aA H.o (by simp;omega) (by omega) ⟨40,63,next-1,0,0⟩).mono ?_;rintro e w7⟨rfl,⟨As,HP⟩,E⟩;have O:=Aq HP;have C:=Aq (F.o.trans E);have F8:=C.o.below.size;clear H F HP E;go_wp2_with fail
  refine(Em _ B bb pv As ps _ O.o (by omega) (by simp;omega) ⟨40,next-1,next-2,0,0⟩).mono ?_;rintro e w8⟨rfl,⟨hB,I⟩,J⟩;have H8:=Aq I;have R:=Aq (C.o.trans J);have H7:=R.o.below.size;clear O C I J;go_wp2_with fail
  refine(Em _ B bb pv hB ps _ H8.o (by omega) (by simp;omega) ⟨40,next-2,63,0,0⟩).mono ?_;rintro e g⟨rfl,⟨hE,HA⟩,hp⟩;have z:Hid (cG w B bb pv ps (aA++[⟨40,63,next-1,0,0⟩,⟨40,next-1,next-2,0,0⟩,⟨40,next-2,63,0,0⟩]) (.returned (.tuple #[])) g):=Aq ⟨rfl,⟨hE,by simpa using HA⟩,R.o.trans hp⟩;clear H8 R HA hp;go_wp2;go_end0;exact z.o
 by_cases X:op=37∨op=38
 ·obtain⟨hK,cp⟩:=P X;obtain⟨i,rfl⟩:∃i:Nat,x=i:=⟨x.toNat,by omega⟩;have N:i<k:=by omega
  obtain⟨p,y⟩:∃p,ps[i]?=some p:=⟨_,Bg (by omega)⟩;obtain⟨Ap,Z,w9,T⟩:=(h.alloc (.cells #[Aj op,Aj (i:Int)] 96)).ps;obtain⟨gb,b,cs,rfl,hS,hrel,A⟩:=T.get y;obtain⟨n,cc,rfl,L⟩:=Uv hrel;have Q:=A 0 _ rfl;have V:=A 1 _ rfl;simp only[Kz,Repr.map,Repr.bi,Repr.row,Repr.int,oq]at Q V;have HQ:(i:Int)<ps.length:=by omega
  have M:=Aq L;have FA:=Aq y;subst w9;have q:=Aq (h.alloc (.cells #[Aj op,Aj (i:Int)] 96));have s:=Aq ((qD B w).alloc l (.cells #[Aj op,Aj (i:Int)] 96));have r0:(w.alloc (.cells #[Aj op,Aj (i:Int)] 96)).cell? ⟨w.heap.size,0,none⟩=some (Aj op):=(qv w _ _).cell 0;have G:(w.alloc (.cells #[Aj op,Aj (i:Int)] 96)).cell? ⟨w.heap.size,1,none⟩=some (Aj (i:Int)):=(qv w _ _).cell 1;have S:=q.o.aG.cell 0;simp only[Az,Ay]at S;have d1:w.heap.size<(w.alloc (.cells #[Aj op,Aj (i:Int)] 96)).heap.size:=by simp
  have r1:=q.o.aG.lt;have HE:=Aq (c i N);have HL:=Aq (d i N);clear h c d y hrel A L P hK cp T;rcases X with rfl|rfl
  ·have v:=Aq (show Bu.bD es (37,(i:Int)) next loops=Bu.em es i next loops from rfl);rw[v.o]at u ⊢;go_enter Tryz.func66,Tryz.ntmps66;go_wp2_with fail
   generalize (w.alloc (.cells #[Aj 37,Aj (i:Int)] 96))=W at *;have U:W.drew.cell? ⟨bb,0,none⟩=some (.slice (some ⟨gb,b,none⟩) ps.length Z)∧W.drew.cell? ⟨w.heap.size,1,none⟩=some (Aj (i:Int))∧W.drew.cell? ⟨gb,b+i*2,none⟩=some (.slice n p.steps.length cc)∧W.drew.cell? ⟨gb,b+i*2+1,none⟩=some (Aj p.size):=⟨S,G,Q,V⟩;refine Cr [11] [4,6,8] [] 12 (fun wq:World=>wq.cell? ⟨bb,0,none⟩=some (.slice (some ⟨gb,b,none⟩) ps.length Z)∧wq.cell? ⟨w.heap.size,1,none⟩=some (Aj (i:Int))∧wq.cell? ⟨gb,b+i*2,none⟩=some (.slice n p.steps.length cc)∧wq.cell? ⟨gb,b+i*2+1,none⟩=some (Aj p.size)) ?_
   iterate 11 (first|refine Be ?_|refine Bj U ?_)
   refine Bi fun K Y=>?_;go_simp
   refine(HE.o W.drew B bb _ cv aA p n cc next loops FA.o q.o.drew (by show B≤W.heap.size;omega) M.o ⟨by omega,by omega,by omega,by omega⟩ u).mono ?_;intro e g y;have z:=Aq (y.bL s.o.drew);obtain⟨rfl,_⟩:=y;dsimp only;refine Bh Y ?_;clear Y K;refine Bb ?_;go_wp2;go_end0;exact z.o
  ·have v:=Aq (show Bu.bD es (38,(i:Int)) next loops=Bu.eL (Bu.em es i (next-1) (loops+1)) (next-1) loops from rfl);rw[v.o]at u ⊢;go_enter Tryz.func66,Tryz.ntmps66;go_wp2_with fail
   generalize (w.alloc (.cells #[Aj 38,Aj (i:Int)] 96))=W at *;have U:W.drew.cell? ⟨bb,0,none⟩=some (.slice (some ⟨gb,b,none⟩) ps.length Z)∧W.drew.cell? ⟨w.heap.size,1,none⟩=some (Aj (i:Int))∧W.drew.cell? ⟨gb,b+i*2,none⟩=some (.slice n p.steps.length cc)∧W.drew.cell? ⟨gb,b+i*2+1,none⟩=some (Aj p.size):=⟨S,G,Q,V⟩;refine Cr [11] [4,6,8] [] 12 (fun wq:World=>wq.cell? ⟨bb,0,none⟩=some (.slice (some ⟨gb,b,none⟩) ps.length Z)∧wq.cell? ⟨w.heap.size,1,none⟩=some (Aj (i:Int))∧wq.cell? ⟨gb,b+i*2,none⟩=some (.slice n p.steps.length cc)∧wq.cell? ⟨gb,b+i*2+1,none⟩=some (Aj p.size)) ?_
   iterate 11 (first|refine Be ?_|refine Bj U ?_)
   refine Bi fun K Y=>?_;go_simp
   refine(HL.o W.drew B bb _ cv aA p n cc (next-1) loops FA.o q.o.drew (by show B≤W.heap.size;omega) M.o ⟨by omega,by omega,by omega,by omega⟩ hL u).mono ?_;intro e g y;have z:=Aq (y.bL s.o.drew);obtain⟨rfl,_⟩:=y;dsimp only;refine Bh Y ?_;clear Y K;refine Bb ?_;go_wp2;go_end0;exact z.o
 ·have F7:¬ op=37:=fun e=>X (.inl e)
  have b0:¬ op=38:=fun e=>X (.inr e)
  have D:Bu.bD es (op,x) next loops=Bu.cg (op,x) (next-1) (next-2):=by
   unfold Bu.bD;simp only
   repeat rw[if_neg ‹_›]
  have HQ:1≤(Bu.cg (op,x) (next-1) (next-2)).length:=by
   unfold Bu.cg
   repeat' split
   all_goals simp
  rw[D]at u ⊢;have q:=Aq (h.alloc (.cells #[Aj op,Aj x] 96));have s:=Aq ((qD B w).alloc l (.cells #[Aj op,Aj x] 96));have hz:=Aq ((Yd _ B bb pv cv ps aA q.o (by simp;omega) (by omega) op x (next-1) (next-2)).mono fun _ _ y=>cG.bL s.o y);have m:=h.aG.lt;clear h c d D HQ P X;go_enter Tryz.func66,Tryz.ntmps66;go_wp2_with fail
  refine hz.o.mono ?_;intro e g y;have z:=Aq y;obtain⟨rfl,_⟩:=y;go_wp2;go_end0;exact z.o
theorem Tq {α:Type}:∀(ls:List (List α)) (u:Nat) (r:α) (q:List α),ls[u]?=some (r::q)→ls.flatten[(ls.take u).flatten.length]?=some r∧∀r',ls.flatten.set (ls.take u).flatten.length r'=(ls.set u (r'::q)).flatten
 | [],u,r,q,h=>by simp at h
 |l::ls,0,r,q,h=>by
  simp only[Ay,Bv]at h;subst h;exact⟨by simp,fun r'=>by simp⟩
 |l::ls,u+1,r,q,h=>by
  simp only[Bc]at h;obtain⟨y,x⟩:=Tq ls u r q h;refine⟨?_,fun r'=>?_⟩
  ·simp only[pE,oO,Bz];rw[Dp (by omega),oY];exact y
  ·simp only[pE,oO,Bz,om];rw[oI _ _ (by omega),oY,x]
theorem Jq:∀(l:List Sr.bE)(i:Nat)(r:Sr.bE)(v:Int),l[i]?=some r→Cg (l.set i { r with n:=v })=(Cg l).set (i*5+4) (Aj v)
 | [],i,r,v,h=>by simp at h
 |x::l,0,r,v,h=>by
  simp only[Ay,Bv]at h;subst h;rfl
 |x::l,i+1,r,v,h=>by
  simp only[Bc]at h;have:=Jq l i r v h;rw[show (i+1)*5+4=(i*5+4)+1+1+1+1+1 by omega];simp only[om,Cg,this]
theorem eG.grown {B:Nat}{w W W':World}{row:Option Nat}(h:eG B w W)(x:W.grownBy W' row)(q:B≤w.heap.size)(y:∀r,row=some r→w.heap.size≤r):eG B w W' :=
 ⟨h.below.grown x (by have:=h.below.size;omega) (fun r e=>by have:=y r e;omega),fun i t cs v e k u=>by
  have z:=h.aQ i t cs v e k u;exact(x.block i (bN.1 z).1 (fun p=>by have:=y i p.symm;have:=(bN.1 e).1;omega)).trans z⟩
theorem af.frT {N0:Nat}{α:Type}{R:Repr N0 α}{t:TypeId}{B:Nat}{w w':World}{A:Option Addr}{l:List α}(h:af R t w w.heap.size A l)(y:eG B w w')(p:N0=0)(v:86 ∉ t::R.df)(z:50 ∉ t::R.df):af R t w' w'.heap.size A l :=
 (h.aQ fun g t' xs u _ x k=>by
  rcases x with x|x
  ·omega
  ·exact y.aQ g t' xs u k (fun e=>v (e ▸ x)) (fun e=>z (e ▸ x))).a_ y.below.size
theorem fQ.grown {w w':World}{B bb:Nat}{pv cv:Value}{ps:List Bu.aq}{aA:List Sr.bE}(h:fQ w B bb pv cv ps aA){v:Value}{n size aN:Nat}{t:TypeId}{xs:List Value}(u:w.ownsRow aN t size v n xs)(z:w.grownBy w' v.ownBlock) (p:t ∉ [86,50,89,145]):fQ w' B bb pv cv ps aA:=by
 simp only[Ga,not_or,If,not_false_eq_true,and_true]at p;obtain⟨b,r,f,d⟩:=p;refine⟨h.aG.grown z fun e=>?_,?_,Ct h.aA z (Dl h.aA u (fun e=>r e.symm)),h.aN,h.fd⟩
 ·obtain⟨_,_,cs,y⟩:=Bf u e.symm;exact h.aG.dF y (fun e=>b e.symm) rfl
 ·obtain⟨A,c,e,s⟩:=h.ps;refine⟨A,c,e,(s.aQ fun g t' xs' i _ x k=>?_).a_ z.size⟩;rw[z.block g (bN.1 k).1 (fun a=>?_)]
  ·exact k
  ·obtain⟨_,_,cs,y⟩:=Bf u a.symm;unfold aH at y;rw[k]at y
   injection y with y
   injection y with _ q
   subst q;rcases x with x|x
   ·omega
   ·simp only[Kz,kZ,Repr.map,Repr.bi,Repr.row,Repr.int,oC,Ga,If,or_false]at x;rcases x with x|x
    ·exact f x
    ·exact d x
theorem fQ.jF {w:World}{B bb:Nat}{pv cv:Value}{ps:List Bu.aq}{aA:List Sr.bE}(h:fQ w B bb pv cv ps aA){g:Nat}(x:cv.ownBlock=some g){i:Nat}{r:Sr.bE} (y:aA[i]?=some r) (v:Int) :
  fQ (w.setCell ⟨g,i*5+4,none⟩ (Aj v)) B bb pv cv ps (aA.set i { r with n:=v })∧eG B w (w.setCell ⟨g,i*5+4,none⟩ (Aj v)):=by
 obtain⟨_,_,cs,z⟩:=Bf h.aA x;have hi:=(aS.1 y).1;have u:eG B w (w.setCell ⟨g,i*5+4,none⟩ (Aj v)):=⟨(ds B w).setCell (p:=⟨g,i*5+4,none⟩) (h.fd g x) _,fun k t a s e b q=>Hg z _ _ k t a s (fun e=>q e.symm) e⟩;refine⟨⟨?_,h.ps.fr u,?_,h.aN,h.fd⟩,u⟩
 ·exact h.aG.dE (p:=⟨g,i*5+4,none⟩) (h.aG.dF z (by decide)) _
 ·have:=Dz h.aA x (j:=i*5+4) (by rw[Kn];omega) (Aj v);rw[←Jq aA i r v y]at this
  simpa using this
namespace Bu
def aG (body:List Sr.bE)(loops:Int)(u k:Nat):List Sr.bE:=⟨41,0,32+loops,(k:Int),if k<u then(16-(k:Int))*(1+body.length)-1 else 0⟩::body
def lp (body:List Sr.bE)(bk loops:Int)(t u:Nat):List Sr.bE:=⟨40,32+loops,bk,0,0⟩::((List.range t).map (aG body loops u)).flatten
theorem jd (body:List Sr.bE)(bk loops:Int):lp body bk loops 16 16=eL body bk loops:=by
 unfold lp eL;rw[qp]
 congr 2
theorem lW (body:List Sr.bE)(bk loops:Int)(t:Nat):lp body bk loops (t+1) 0=lp body bk loops t 0++[⟨41,0,32+loops,(t:Int),0⟩]++body:=by
 unfold lp;rw[ge,nt,pF];simp[aG]
theorem Pq (body:List Sr.bE)(loops:Int)(u:Nat):∀(l:List Nat),((l.map (aG body loops u)).flatten).length=l.length*(1+body.length)
 | []=>by simp
 |k::l=>by
  rw[ol,oO,Bz,Pq body loops u l,Bo,oP];unfold aG;rw[Bo];omega
theorem jS (body:List Sr.bE)(bk loops:Int)(t u:Nat):(lp body bk loops t u).length=1+t*(1+body.length):=by
 unfold lp;rw[Bo,Pq,pS];omega
theorem nP (body:List Sr.bE)(bk loops:Int)(t u:Nat)(h:u<t):(lp body bk loops t u)[1+u*(1+body.length)]?=some ⟨41,0,32+loops,(u:Int),0⟩ ∧
  (lp body bk loops t u).set (1+u*(1+body.length)) ⟨41,0,32+loops,(u:Int),(16-(u:Int))*(1+body.length)-1⟩=lp body bk loops t (u+1):=by
 have s:((List.range t).map (aG body loops u))[u]?=some (⟨41,0,32+loops,(u:Int),0⟩::body):=by
  rw[Cc,eq h];simp[aG]
 obtain⟨p,z⟩:=Tq _ u _ _ s;have r:(((List.range t).map (aG body loops u)).take u).flatten.length=u*(1+body.length):=by
  rw[←px,Pq,Dn,pS,oV (by omega)]
 rw[r]at p z;unfold lp;rw[show 1+u*(1+body.length)=u*(1+body.length)+1 by omega];refine⟨by simpa using p,?_⟩;rw[om,z]
 congr 2
 refine ov fun k=>?_
 rw[Iu];by_cases v:u=k
 ·subst v;rw[if_pos rfl,if_pos (by simpa using h),Cc,eq h];simp[aG]
 ·rw[if_neg v,Cc,Cc];cases x:(List.range t)[k]? with
  |none=>rfl
  |some j =>
   have q:j=k:=by
    have y:=(aS.1 x).1;rw[pS]at y;rw[eq y]at x
    injection x with x
    exact x.symm
   subst q;simp only[ou,Bv,aG];have:(j<u)=(j<u+1):=by
    apply propext;omega
   simp only[this]
def fU (n0 m:Nat)(t:Nat):List Int:=(List.range t).map fun k=>((n0+1+k*(1+m):Nat):Int)
theorem ja (n0 m t:Nat):fU n0 m (t+1)=fU n0 m t++[((n0+1+t*(1+m):Nat):Int)]:=by unfold fU;rw[ge,nt];rfl
theorem kT (n0 m t k:Nat)(h:k<t):(fU n0 m t)[k]?=some ((n0+1+k*(1+m):Nat):Int):=by unfold fU;rw[Cc,eq h];rfl
end Bu
def LoI (w:World)(B bb:Nat)(pv:Value)(ps:List Bu.aq)(aA body:List Sr.bE)(bk loops:Int)(A:Option Addr)(n c:Nat)(z:Int)(v i:Value)(wr:World):Prop :=
 ∃(t:Nat) (cv:Value),t≤16∧i=Aj (t:Int)∧wr.ownsRow w.heap.size 3 1 v t (ae (Bu.fU aA.length body.length t))∧fQ wr B bb pv cv ps (aA++Bu.lp body bk loops t 0)∧eG B w wr∧aH wr w.heap.size 89 #[.slice A n c,Aj z]
def LoJ (w:World)(B bb:Nat)(pv:Value)(ps:List Bu.aq)(aA body:List Sr.bE)(bk loops:Int)(v i:Value)(wr:World):Prop :=
 ∃(u:Nat) (cv:Value),u≤16∧i=Aj (u:Int)∧wr.ownsRow w.heap.size 3 1 v 16 (ae (Bu.fU aA.length body.length 16))∧fQ wr B bb pv cv ps (aA++Bu.lp body bk loops 16 u)∧eG B w wr
theorem Zdb (es:List Bu.cV)(ps:List Bu.aq)(j:Nat)(hE:Wf es ps j):Zhg es ps j:=by
 intro w B bb pv cv aA p A c bk x hp h hB h1 y0 v3 z2;generalize x6:Bu.em es j bk (x+1)=body at *;have s:=Bu.jS body bk x 16 16;rw[Bu.jd]at s;have z7:=Aq (Bu.jd body bk x);have h3:=Aq h1;have HE:=Aq (fun W z4 y3 y9 hW m hl=>hE W B bb pv z4 y3 p A c bk (x+1) hp y9 hW m y0 hl);have h9:=Aq x6;have HA:=Aq (h.alloc (.cells #[.slice A p.steps.length c,Aj p.size] 89));have FA:=Aq ((qD B w).alloc hB (.cells #[.slice A p.steps.length c,Aj p.size] 89));have f:=Aq (qv w 89 #[.slice A p.steps.length c,Aj p.size]);obtain⟨i0,z0,y2,y4,z8⟩:=Eu Hp;obtain⟨v0,u2,u3,u5⟩:=y0;have hz:=h.aG.lt;rw[s]at z2;clear h h1 hE hp x6 s;go_enter Tryz.func89,Tryz.ntmps89;go_wp2_with fail
 refine(Em _ B bb pv cv ps aA HA.o (by simp;omega) (by omega) ⟨40,32+x,bk,0,0⟩).mono ?_;rintro e w1⟨rfl,⟨z9,h4⟩,J⟩;have x3:Hid (LoI w B bb pv ps aA body bk x A p.steps.length c p.size (.slice none 0 0) (Aj 0) w1):=Aq ⟨0,z9,by omega,rfl,Eh _ _ _ _,by simpa [Bu.lp]using h4,FA.o.trans J,J.aG f.o (by decide) (by decide)⟩;clear h4 J HA FA f;go_wp2_with fail
 go_loopw [9,20] (fun v i wr=>LoI w B bb pv ps aA body bk x A p.steps.length c p.size v i wr) (fun _ i _=>16-(intOf i).toNat)
 case atStart=>exact x3.o
 case round =>
  clear x3;obtain⟨t,y1,ht,rfl,z,y,q,D⟩:=hrel;have l:=Bu.jS body bk x t 0;by_cases Y:t<16
  ·obtain⟨Ac,cc,G,y6,_⟩:=Ba y.aA;subst G;obtain⟨At,d,b,_,_⟩:=Ba z;subst b;have s:(aA++Bu.lp body bk x t 0).length=aA.length+1+t*(1+body.length):=by rw[Bz,l];omega
   have R:t*(1+body.length)+(1+body.length)≤16*(1+body.length):=by
    rw[←oP];exact pd _ (by omega)
   have a:=y.aG.cell 1;simp only[Az,Ay,Bc]at a;rw[s]at a;have x4:=y.aG.lt;have n:=Aq (z.alloc (.cells #[Aj ((aA.length+1+t*(1+body.length):Nat):Int)] 3));have HL:=Aq (y.alloc (.cells #[Aj ((aA.length+1+t*(1+body.length):Nat):Int)] 3));have HF:=Aq (q.alloc (by have:=q.below.size;omega) (.cells #[Aj ((aA.length+1+t*(1+body.length):Nat):Int)] 3));have f:=Aq (D.alloc (.cells #[Aj ((aA.length+1+t*(1+body.length):Nat):Int)] 3));have hL:=Aq s;have u7:=q.below.size;generalize hM:aA.length+1+t*(1+body.length)=M at *;have HM:=Aq hM;have u8:M+(1+body.length)≤1000000:=by omega
   clear s z y q D l R hM;go_wp2_with (at_builtin;refine Cm _ rfl (.tmp 23) (.tmp 29) _ rfl w.heap.size 3 i0 _ 1 8 Tryz.underlying22 z0 y2 y4 z8 rfl (show 0<1 by decide) (.slice At t d) t _ rfl n.o _ _ 1 1 [Aj (M:Int)] rfl (qB (cs:=[Aj (M:Int)]) (qv _ _ _) 1 1 rfl) (by simp[Value.oneCell']) (by unfold maxLen;omega) (by omega) (by simp;omega) ?_;intro v' w2 Z P z6)
   have h8:=HL.o.grown n.o P (by decide);have O:=HF.o.grown P hB (fun r e=>(Bf n.o e).1);have hF:=f.o.grown P fun e=>by have:=(Bf n.o e.symm).2.2;obtain⟨cs,k⟩:=this;exact f.o.dF k (by decide) rfl
   obtain⟨Av,h7,z3,_⟩:=Ba Z;subst z3;have h0:(ae (Bu.fU aA.length body.length t)++[Aj (M:Int)]:List Value)=ae (Bu.fU aA.length body.length (t+1)):=by
    rw[Bu.ja,HM.o];unfold ae;simp
   rw[h0]at Z;have L:=Aq Z;have hN:=Aq O;have T:=Aq hF;have v8:=O.below.size;refine(Em _ B bb pv _ ps _ h8 (by omega) (by rw[hL.o];omega) ⟨41,0,32+x,(t:Int),0⟩).mono ?_;rintro e w3⟨rfl,⟨v5,h6⟩,Q⟩;have U:=hN.o.trans Q;have H:=Q.aG T.o (by decide) (by decide);have ct:w3.ownsRow w.heap.size 3 1 (.slice Av (t+1) h7) (t+1) (ae (Bu.fU aA.length body.length (t+1))):=Cz L.o fun g e=>by
    obtain⟨_,_,cs,k⟩:=Bf L.o e;exact(Q.aG k (by decide) (by decide)).trans k.symm
   have HC:=Aq (HE.o w3 _ _ h6 (by have:=U.below.size;omega) (h3.o.frT U rfl (by decide) (by decide)) (by rw[h9.o,Bz,hL.o,nr];omega));have x7:=Aq U;have S:=Aq ct;have x9:=Aq H;have p0:=H.cell 0;have p1:=H.cell 1;simp only[Az,Ay,Bc]at p0 p1;have z5:=H.lt;clear h8 O hF Z P z6 h0 h6 Q U ct H HL HF f n L hN T a x4;go_wp2_with fail
   refine HC.o.mono ?_;rintro e w4⟨rfl,⟨z1,E⟩,V⟩;have HR:Hid (LoI w B bb pv ps aA body bk x A p.steps.length c p.size (.slice Av (t+1) h7) (Aj ((t:Int)+1)) w4):=Aq ⟨t+1,z1,by omega,by simp,Cz S.o fun g e=>by
    obtain⟨_,_,cs,k⟩:=Bf S.o e;exact(V.aG k (by decide) (by decide)).trans k.symm,by
    rw[Bu.lW];rw[h9.o]at E
    simpa using E,x7.o.trans V,V.aG x9.o (by decide) (by decide)⟩
   clear E V HC x7 S x9 p0 p1 z5;go_wp2;go_roundw
   case rel=>exact HR.o
   case measure=>simp[intOf];omega
  ·obtain rfl:t=16:=by omega
   obtain⟨At,d,b,_,_⟩:=Ba z;subst b;have x5:Hid (LoJ w B bb pv ps aA body bk x (.slice At 16 d) (Aj 0) wr):=Aq ⟨0,y1,by omega,rfl,z,y,q⟩;clear z y q D l Y ht HE h3;go_wp2_with fail
   rw[show ((16:Nat):Int)=16 from rfl];go_loopw [45] (fun i wr=>LoJ w B bb pv ps aA body bk x (.slice At 16 d) i wr) (fun i _=>16-(intOf i).toNat)
   case atStart=>exact x5.o
   case round =>
    clear x5;obtain⟨u,y5,hu,rfl,z,y,q⟩:=hrel;by_cases Y:u<16
    ·have l:=Bu.jS body bk x 16 u;obtain⟨h2,hb⟩:=Bu.nP body bk x 16 u Y;have R:u*(1+body.length)+(1+body.length)≤16*(1+body.length):=by
      rw[←oP];exact pd _ (by omega)
     have N:((aA.length+(1+16*(1+body.length)):Nat):Int)-((aA.length+(1+u*(1+body.length)):Nat):Int)-1=(16-(u:Int))*(1+body.length)-1:=by
      have hI:(u:Int)*(1+(body.length:Int))=((u*(1+body.length):Nat):Int):=by simp
      rw[Int.sub_mul,hI];generalize u*(1+body.length)=X;omega
     have s:(aA++Bu.lp body bk x 16 u).length=aA.length+(1+16*(1+body.length)):=by rw[Bz,l]
     obtain⟨g,cc,G,y6,_,u6,x2⟩:=Ce y.aA (by omega);subst G;have m:(aA++Bu.lp body bk x 16 u)[aA.length+(1+u*(1+body.length))]?=some ⟨41,0,32+x,(u:Int),0⟩:=by
      rw[Dp (by omega),oY];exact h2
     obtain⟨I,u0⟩:=y.jF rfl m ((16-(u:Int))*(1+body.length)-1);have C:(aA++Bu.lp body bk x 16 u).set (aA.length+(1+u*(1+body.length))) ⟨41,0,32+x,(u:Int),(16-(u:Int))*(1+body.length)-1⟩=aA++Bu.lp body bk x 16 (u+1):=by
      rw[oI _ _ (by omega),oY,hb]
     simp only at I;rw[C]at I;obtain⟨gt,y7,b,_,_,v1,x8⟩:=Ce z (by omega);have x0:=x8 _ _ (Ck (Bu.kT aA.length body.length 16 u Y));obtain⟨rfl,rfl⟩:At=some ⟨gt,0,none⟩∧d=y7:=by simpa using b
     clear b;have a:=y.aG.cell 1;simp only[Az,Ay,Bc]at a;rw[s]at a;have d4:=x2 _ _ (Fq _ _ _ m).2.2.2.2;have fz:wr.frozen? ⟨g,(aA.length+(1+u*(1+body.length)))*5+4,none⟩=false:=by
      obtain⟨_,_,cs,k⟩:=Bf y.aA (g:=g) rfl;exact k.frozen _
     rw[show aA.length+1+u*(1+body.length)=aA.length+(1+u*(1+body.length)) by omega]at x0;have hr:Hid (LoJ w B bb pv ps aA body bk x (.slice (some ⟨gt,0,none⟩) 16 d) (Aj ((u:Int)+1)) (wr.drew.setCell ⟨g,(aA.length+(1+u*(1+body.length)))*5+4,none⟩ (Aj ((16-(u:Int))*(1+body.length)-1)))):=by
      obtain⟨F,c1⟩:=y.drew.jF rfl m ((16-(u:Int))*(1+body.length)-1);simp only at F;rw[C]at F;refine Aq ⟨u+1,_,by omega,by simp,Cz z fun g' e=>?_,F,q.trans (((qD B wr).drew).trans c1)⟩;obtain⟨_,_,cs,k⟩:=Bf z e;exact(c1.aG (w:=wr.drew) k (by decide) (by decide)).trans k.symm
     have x4:=y.aG.lt;clear I u0 C h2 hb s m x2 x8 z y q l;generalize x1:aA.length+(1+u*(1+body.length))=aK at *;generalize h5:aA.length+(1+16*(1+body.length))=fp at *;have y8:aK<fp∧fp≤1000000:=by omega
     obtain⟨v2,u4⟩:=y8;have v6:=Aq x1;have v7:=Aq h5;clear x1 h5 R;generalize (16-(u:Int))*(1+body.length)-1=vv at *;have v4:=Aq N;have u9:IntKind.i64.wrap ((fp:Int)-(aK:Int))=(fp:Int)-aK:=Do _ (by omega);have u1:IntKind.i64.wrap ((fp:Int)-(aK:Int)-1)=vv:=by rw[Do _ (by omega)];exact N
     clear N;go_wp2_with fail
     have hS:wr.drew.cell? ⟨bb,1,none⟩=some (.slice (some ⟨g,0,none⟩) fp cc):=a;refine Cr [15] [3,8] [] 16 (fun wq:World=>wq.cell? ⟨bb,1,none⟩=some (.slice (some ⟨g,0,none⟩) fp cc)) ?_
     iterate 15 (first|refine Be ?_|refine Bj hS ?_)
     refine Bi fun K hK=>?_;go_simp
     refine Bh hK ?_;clear hK K;refine Bb ?_;go_wp2;go_roundw
     case rel=>first|exact hr.o|((repeat apply Exists.intro);exact⟨hr.o,rfl⟩)
     case measure=>simp[intOf];omega
    ·obtain rfl:u=16:=by omega
     have HP:Hid (cG w B bb pv ps (aA++Bu.eL body bk x) (.returned (.tuple #[])) wr):=Aq ⟨rfl,⟨y5,by rw[←z7.o];exact y⟩,q⟩;clear z y q;go_wp2;go_end0;exact HP.o
end
section
namespace Bu
section
variable (ls : List (List Sr.bE)) (st : List PS)
def fl (P:Nat→Bool):List (List Sr.bE):=(List.range st.length).map fun k=>if P k then fixed ls st k else ls.getD k []
theorem Zer (l:List Sr.bE)(n:Int):(jF l n).length=l.length:=by cases l <;> rfl
theorem gC (k:Nat):(fixed ls st k).length=(ls.getD k []).length:=by
 unfold fixed;simp only;split
 ·split
  ·exact Zer _ _
  ·rfl
 ·rfl
theorem iZ (h:ls.length=st.length):fl ls st (fun _=>false)=ls:=by
 unfold fl;refine ov fun k=>?_
 rw[Cc];by_cases x:k<st.length
 ·rw[eq x,Bg (by omega)];simp[Bn,Bg (show k<ls.length by omega)]
 ·rw[Je (by simpa using x),Je (by omega)];rfl
theorem Zcg (P:Nat→Bool):(fl ls st P).map List.length=(fl ls st fun _=>false).map List.length:=by
 unfold fl;rw[pR,pR];refine pm fun k _=>?_
 simp only[Function.comp];split
 ·rw[gC];rfl
 ·rfl
theorem Fw {α:Type}:∀(a:List (List α)),a.flatten.length=(a.map List.length).sum
 | []=>rfl
 |x::a=>by rw[oO,Bz,ol,List.sum_cons,Fw a]
theorem Zgb (h:ls.length=st.length)(P:Nat→Bool)(u:Nat):((fl ls st P).take u).flatten.length=aX ls u:=by
 unfold aX;rw[Fw,Fw,px,px,Zcg,iZ ls st h]
theorem k_ (h:ls.length=st.length)(P:Nat→Bool):(fl ls st P).flatten.length=ls.flatten.length:=by
 rw[Fw,Fw,Zcg,iZ ls st h]
theorem mz (P:Nat→Bool)(i:Nat)(hi:i<st.length):(fl ls st P).set i (fixed ls st i)=fl ls st fun k=>P k || k==i:=by
 unfold fl;refine ov fun k=>?_
 rw[Iu,Cc];by_cases y:i=k
 ·subst y;rw[if_pos rfl,if_pos (by simpa using hi),Cc,eq hi];simp
 ·rw[if_neg y,Cc];cases x:(List.range st.length)[k]? with
  |none=>rfl
  |some j =>
   have u:j=k:=by
    have z:=(aS.1 x).1;rw[pS]at z;rw[eq z]at x
    injection x with x
    exact x.symm
   subst u;have:¬ j=i:=fun e=>y e.symm
   simp[this]
theorem gJ (a b:Nat)(h:a≤b):aX ls a≤aX ls b:=by
 unfold aX;have:ls.take a=(ls.take b).take a:=by rw[List.take_take,oV h]
 rw[this];have x:=congrArg (fun l=>l.flatten.length) (List.take_append_drop a (ls.take b));simp only[pF,Bz]at x;omega
theorem fX (b:Nat):aX ls b≤ls.flatten.length:=by
 unfold aX;have x:=congrArg (fun l=>l.flatten.length) (List.take_append_drop b ls);simp only[pF,Bz]at x;omega
theorem dQ {i:Nat}{l:List Sr.bE} (h:ls[i]?=some l):aX ls (i+1)=aX ls i+l.length∧(ls.take (i+1)).flatten=(ls.take i).flatten++l:=by
 have e:ls.take (i+1)=ls.take i++[l]:=by rw[oh,h];rfl
 unfold aX;rw[e,pF];exact⟨by simp,by simp⟩
def az (i:Nat):List Nat:=(List.range i).filter fun k=>match st[k]? with|some s=>cQ s.op|none=>false
theorem Xk (i:Nat){s:PS} (h:st[i]?=some s):az st (i+1)=az st i++(if cQ s.op then[i] else[]):=by
 unfold az;rw[ge,List.filter_append];simp only[List.filter_cons,List.filter_nil,h]
theorem gF {i k:Nat}:k∈az st i↔k<i∧∃s,st[k]?=some s∧cQ s.op=true:=by
 unfold az;rw[List.mem_filter,List.mem_range];refine and_congr_right fun _=>?_
 cases st[k]? with
 |none=>simp
 |some s=>simp
theorem iS (i:Nat):(az st i).length≤i:=by
 unfold az;have:=List.length_filter_le (fun k=>match st[k]? with|some s=>cQ s.op|none=>false) (List.range i)
 simpa using this
theorem Ti (i:Nat):(az st i).Nodup:=List.Pairwise.filter _ List.nodup_range
def cE (n0:Nat)(i:Nat):List (Nat×Nat):=(az st i).map fun k=>(n0+aX ls k,(st.getD k ⟨0,0,0,0⟩).go)
theorem gT (n0 i:Nat){s:PS} (h:st[i]?=some s):cE ls st n0 (i+1)=cE ls st n0 i++(if cQ s.op then[(n0+aX ls i,s.go)] else[]):=by
 unfold cE;rw[Xk st i h,nt];split
 ·simp[Bn,h]
 ·simp
theorem jo (h:ls.length=st.length):(fl ls st fun k=>(az st st.length).contains k).flatten=(List.range st.length).flatMap (fixed ls st):=by
 rw[qp]
 congr 1
 unfold fl;refine pm fun k x=>?_
 have x:=List.mem_range.1 x;split
 ·rfl
 ·rename_i z;unfold fixed;rw[Bg x];simp only;have y:¬ cQ (st[k]).op=true:=fun u=>z (by
   rw[List.contains_iff_mem];exact(gF st).2 ⟨x,_,Bg x,u⟩)
  rw[if_neg y]
end
theorem jO {es:List cV}{p:aq}{aC loops:Int}{i:Nat}{s:PS} (h:p.steps[i]?=some s) (x:cQ s.op=true) :
  ∃r,(b_ es p aC loops)[i]?=some [r]∧fixed (b_ es p aC loops) p.steps i=[{ r with n:=(aX (b_ es p aC loops) s.go:Int)-aX (b_ es p aC loops) i-1 }]:=by
 have y:(b_ es p aC loops)[i]?=some (bD es (s.op,s.a) (aC+s.aC) loops):=by
  unfold b_;rw[Cc,h];rfl
 have u:∃r,bD es (s.op,s.a) (aC+s.aC) loops=[r]:=by
  unfold cQ at x;simp only[decide_eq_true_eq]at x;rcases x with x|x
  ·rw[x];exact⟨_,rfl⟩
  ·rw[x];exact⟨_,rfl⟩
 obtain⟨r,z⟩:=u;rw[z]at y;refine⟨r,y,?_⟩;unfold fixed;simp only[h,x,if_true,Bn,y,ow];rfl
theorem eD (es:List cV)(p:aq)(aC loops:Int):(b_ es p aC loops).length=p.steps.length:=by unfold b_;simp
theorem iU (es:List cV)(p:aq)(aC loops:Int):(cC es p aC loops).length=(b_ es p aC loops).flatten.length:=by
 unfold cC;simp only;rw[←jo _ _ (eD es p aC loops)];exact k_ _ _ (eD es p aC loops) _
end Bu
end
end Go.Proofs.YtnhebmgibiomnaaGreat

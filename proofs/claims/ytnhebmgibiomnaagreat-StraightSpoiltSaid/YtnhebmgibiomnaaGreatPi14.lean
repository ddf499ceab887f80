import Derived.Deep.CutBlock
import Derived.ScopeJumps
import Derived.WalkMore
import Derived.Test.YtnhebmgibiomnaaGreatPi13
set_option linter.unusedVariables false
set_option linter.unusedSimpArgs false
set_option maxRecDepth 100000
set_option maxHeartbeats 8000000
namespace Go.Proofs.YtnhebmgibiomnaaGreat
section
open Go.RowKit Mc
def SrB (B:Nat)(L:bN)(sb:Nat):Prop:=∀k,(k=sb∨L.og.ownBlock=some k∨L.cu.ownBlock=some k∨L.tq.ownBlock=some k∨L.en.ownBlock=some k∨L.co.ownBlock=some k∨L.cv.ownBlock=some k∨L.st.ownBlock=some k)→B≤k
theorem ar.nH {w w1:World}{sb:Nat}{L:bN}{s:Sr.St}(h:ar w sb L s){v':Value}{c:Nat×Nat}(b:c.1≤c.2∧c.2<s.m.aF.length)(d:s.m.bH.length<1000000)
  (r:w1.ownsRow 0 157 2 v' (s.m.bH.length+1) (it s.m.bH++[Aj c.1,Aj c.2])) (u:w.grownBy w1 L.co.ownBlock) :
  aH w1 sb 104 (Es L s)∧ar (w1.setCell ⟨sb,68,none⟩ v') sb { L with co:=v' } { s with m := { s.m with bH:=s.m.bH++[c] } } := by
 have z:aH w1 sb 104 (Es L s):=h.aG.grown u fun e=>by
  obtain⟨_,_,_,a⟩:=Bg h.co e.symm;exact h.aG.dF a (by decide) rfl
 refine⟨z,?_⟩;have ap:∀{t:TypeId} {size n:Nat} {v:Value} {xs:List Value},w.ownsRow 0 t size v n xs→t≠157→t≠104→(w1.setCell ⟨sb,68,none⟩ v').ownsRow 0 t size v n xs:=fun k q p =>
  Ck (Cx k u (Ds k h.co q)) z (fun e=>p e.symm) 68 v'
 refine⟨?_,ap h.og (by decide) (by decide),ap h.cu (by decide) (by decide),ap h.tq (by decide) (by decide),ap h.en (by decide) (by decide),?_,ap h.cv (by decide) (by decide),ap h.st (by decide) (by decide),h.bS,h.di,h.dV,h.dT,h.bV,h.dk,h.dW,⟨h.ok.rl,h.ok.rk,h.ok.m.jv (fun y x=>?_) (by simp;omega)⟩⟩
 ·rw[←Kn (L:=L) (L' := { L with co:=v' }) (s:=s) (s' := { s with m := { s.m with bH:=s.m.bH++[c] } }) h.ok.rl rfl 4 v' rfl];exact z.aX 68 v'
 ·have:=Ck r z (by decide) 68 v'
  simpa [it]using this
 ·rcases List.mem_append.1 x with x|x
  ·exact h.ok.m.bH y x
  ·simp only[py]at x;subst x;exact b
theorem dC.mor {w:World}{B B':Nat}{z:Zn}{oA uA tA eA:Option Addr}(h:dC w B z oA uA tA eA)(x:B≤B'):dC w B' z oA uA tA eA:=⟨h.aT.aY x,h.aF.aY x,h.aB.aY x,h.aJ.aY x⟩
theorem gW.kY {w:World}{B:Nat}{aP:List Int}{cA:Option Addr} (h:aE w B 1 cA aP.length (ae aP)):gW w B ⟨[],[],aP,0⟩ none none cA:=⟨⟨[],qK,fun i c x=>by simp at x⟩,qK,h⟩
theorem Yc:(Tryz.prog.info? 157).map (fun i=>(i.zero,i.size,i.bytes))=some (some (.agg #[Aj 0,Aj 0]),2,16):=by kernel_rfl
def s0 (aP:List Int)(size:Int)(z:Zn) (cs:List (Nat×Nat)):Sr.St := { Sr.ah aP size z with m := { (Sr.ah aP size z).m with bH:=cs } }
def mW (w:World)(sb:Nat)(aP:List Int)(size:Int)(z:Zn)(eA:Option Addr)(l i:Value)(wr:World):Prop :=
 ∃(j:Nat) (la:Int) (L:bN) (cs:List (Nat×Nat)),j≤z.aJ.length∧i=Aj j∧l=Aj la∧-1≤la∧la≤z.aF.length∧ar wr sb L (s0 aP size z cs)∧SrB w.heap.size L sb∧Below w.heap.size w wr∧aE wr w.heap.size 1 eA z.aJ.length (ae z.aJ)∧cs++Mc.eK z.aF.length la (z.aJ.drop j)=Mc.eK z.aF.length (-1) z.aJ∧cs.length≤j
def Zee (w:World)(aP:List Int)(size:Int)(z:Zn)(e:Ending)(w':World):Prop:=∃sb L,e=.returned (.pointer (some ⟨sb,0,none⟩))∧ar w' sb L (Sr.ah aP size z)∧SrB w.heap.size L sb∧Below w.heap.size w w'
theorem Zdq (w:World)(aP:List Int)(size:Int)(z:Zn)(a2:aP.length≤1000000)(hz:ek z)(fA mA cA oA tA eA uA:Option Addr)(fn fc mn mc cc oc tc ec uc:Nat) (z6:aE w w.heap.size 1 cA aP.length (ae aP)) (y9:dC w w.heap.size z oA uA tA eA) :
  Calls Tryz.prog 40 #[.agg #[.slice fA fn fc,.slice mA mn mc,.slice cA aP.length cc,Aj size],.agg #[.slice oA z.aT.length oc,.slice uA z.aF.length uc,.slice tA z.aB.length tc,.slice eA z.aJ.length ec]] w (Zee w aP size z):=by
 obtain⟨X,I⟩:∃X,X=(w.alloc (.cells #[.slice fA fn fc,.slice mA mn mc,.slice cA aP.length cc,Aj size] 26)).alloc (.cells #[.slice oA z.aT.length oc,.slice uA z.aF.length uc,.slice tA z.aB.length tc,.slice eA z.aJ.length ec] 30):=⟨_,rfl⟩;have d8:X.heap.size=w.heap.size+1+1:=by rw[I];simp
 have M:bJ w X:=by rw[I];exact((qF _ w).alloc _).alloc _
 have la:aH X w.heap.size 26 #[.slice fA fn fc,.slice mA mn mc,.slice cA aP.length cc,Aj size]:=by rw[I];exact(qG _ _ _).alloc _
 have J:aH X (w.heap.size+1) 30 #[.slice oA z.aT.length oc,.slice uA z.aF.length uc,.slice tA z.aB.length tc,.slice eA z.aJ.length ec]:=by rw[I];exact qH _ _ _ (by simp)
 have hB:=z6.aQ (w':=X) fun q A=>M.cell A (fun x=>x)
 have A2:=y9.aQ (W':=X) fun q A=>M.cell A (fun x=>x)
 have z4:=Zbi X ⟨[],[],aP,0⟩ z ⟨by simp,by simp,by simp,by simpa using a2⟩ hz none none cA oA tA eA uA 0 0 cc oc tc ec uc (gW.kY (hB.aY M.size)) (A2.mor M.size);have y5:=Aq z4;have hX:=Aq M;have HX:=Aq I;have z2:=Aq hz;have b9:=Aq hB;have a6:=Aq A2;have y8:=Aq la;have z0:=Aq J;have p2:=la.cell 2;have q0:=J.cell 0;have q1:=J.cell 1;have q2:=J.cell 2;have q3:=J.cell 3;simp only[Az,Ay,Ba]at p2 q0 q1 q2 q3;clear I z4 z6 y9 M la J hB A2 hz;go_enter Tryz.func40,Tryz.ntmps40;go_upto_region 1 with fail
 rw[←HX.o];go_wp2_with fail
 refine y5.o.mono ?_;rintro e w1⟨mb,O1,L1,rfl,HB,a3,z7⟩;have HC:=Aq (Vc w1 mb O1 L1 _ HB);have y2:=Aq HB.ok;have c6:=Aq z7;clear HB a3 z7 y5 p2 q0 q1 q2 q3;go_wp2_with fail
 refine HC.o.mono ?_;rintro e w2⟨og,cu,tq,en,cv,st,sk,rfl,C,x9,E⟩;clear HC;have R:=Aq C;have z3:=Aq E;have z8:=Aq c6.o.size;have x8:=Aq ((c6.o).trans (x9.mono c6.o.size));obtain⟨a,n,b5,_⟩:=Bc C.og;obtain⟨V,d,a0,_⟩:=Bc C.cu;obtain⟨f,H,v5,_⟩:=Bc C.to;obtain⟨Z,Y,v8,_⟩:=Bc C.en;obtain⟨g,U,v6,_⟩:=Bc C.cv;obtain⟨s,r,b3,_⟩:=Bc C.st;obtain⟨A7,c7,a4,_⟩:=Bc C.sk;subst b5 a0 v5 v8 v6 b3 a4;clear C x9 E c6;generalize y6:ah ⟨[],[],aP,0⟩ z=y at *;have y4:=Aq y6;clear y6;have y7:X.heap.size≤w2.heap.size:=x8.o.size;have C:=((R.o.cW ((qF _ _).alloc (.cells #[.slice a y.aT.length n,.slice V y.aF.length d,.slice f y.aB.length H,.slice Z y.aJ.length Y,.slice g y.aP.length U,.slice s 32 r,.slice A7 y.stack.length c7,Aj y.steps,Aj y.aM,Aj y.br] 39))).mono z8.o);have S:=x8.o.alloc y7 (.cells #[.slice a y.aT.length n,.slice V y.aF.length d,.slice f y.aB.length H,.slice Z y.aJ.length Y,.slice g y.aP.length U,.slice s 32 r,.slice A7 y.stack.length c7,Aj y.steps,Aj y.aM,Aj y.br] 39);have B:=qG w2 39 #[.slice a y.aT.length n,.slice V y.aF.length d,.slice f y.aB.length H,.slice Z y.aJ.length Y,.slice g y.aP.length U,.slice s 32 r,.slice A7 y.stack.length c7,Aj y.steps,Aj y.aM,Aj y.br]
 have a1:X.heap.size≤(w2.alloc (.cells #[.slice a y.aT.length n,.slice V y.aF.length d,.slice f y.aB.length H,.slice Z y.aJ.length Y,.slice g y.aP.length U,.slice s 32 r,.slice A7 y.stack.length c7,Aj y.steps,Aj y.aM,Aj y.br] 39)).heap.size:=by simp;omega
 have R:=Aq C;have sB:=Aq S;have k0:=B.cell 0;have k1:=B.cell 1;have k2:=B.cell 2;have k3:=B.cell 3;have k4:=B.cell 4;have k5:=B.cell 5;simp only[Az,Ay,Ba]at k0 k1 k2 k3 k4 k5;have A1:=(y8.o.below S y8.o.lt).cell 3;simp only[Az,Ay,Ba]at A1;clear C S B;go_wp2_with fail
 generalize (w2.alloc (.cells #[.slice a y.aT.length n,.slice V y.aF.length d,.slice f y.aB.length H,.slice Z y.aJ.length Y,.slice g y.aP.length U,.slice s 32 r,.slice A7 y.stack.length c7,Aj y.steps,Aj y.aM,Aj y.br] 39))=W at *;have P:W.drew.cell? ⟨w2.heap.size,0,none⟩=some (.slice a y.aT.length n)∧W.drew.cell? ⟨w2.heap.size,1,none⟩=some (.slice V y.aF.length d)∧W.drew.cell? ⟨w2.heap.size,2,none⟩=some (.slice f y.aB.length H)∧W.drew.cell? ⟨w2.heap.size,3,none⟩=some (.slice Z y.aJ.length Y)∧W.drew.cell? ⟨w2.heap.size,4,none⟩=some (.slice g y.aP.length U)∧W.drew.cell? ⟨w2.heap.size,5,none⟩=some (.slice s 32 r)∧W.drew.cell? ⟨w.heap.size,3,none⟩=some (Aj size):=⟨k0,k1,k2,k3,k4,k5,A1⟩;refine Cv [8,10] [1,3,5,7] [8] 12 (fun wq:World=>wq.cell? ⟨w2.heap.size,0,none⟩=some (.slice a y.aT.length n)∧wq.cell? ⟨w2.heap.size,1,none⟩=some (.slice V y.aF.length d)∧wq.cell? ⟨w2.heap.size,2,none⟩=some (.slice f y.aB.length H)∧wq.cell? ⟨w2.heap.size,3,none⟩=some (.slice Z y.aJ.length Y)∧wq.cell? ⟨w2.heap.size,4,none⟩=some (.slice g y.aP.length U)∧wq.cell? ⟨w2.heap.size,5,none⟩=some (.slice s 32 r)∧wq.cell? ⟨w.heap.size,3,none⟩=some (Aj size)) ?_
 iterate 8 (first|refine Be ?_|refine Bj P ?_)
 refine Bi fun K hK=>?_;go_simp
 refine(Ed _ _).mono ?_;rintro e w5⟨rfl,rfl⟩;dsimp only;refine hK _ _ (fun _=>P) ?_;clear hK K
 iterate 1 (first|refine Be ?_|refine Bj P ?_)
 refine Bi fun K hK=>?_;go_simp
 refine Bh hK ?_;clear hK K
 iterate 1 (first|refine Be ?_|refine Bj P ?_)
 refine Bb ?_;clear P k0 k1 k2 k3 k4 k5 A1;have HS:Hid (ar (W.alloc (.cells ((((((((Tryz.zeroCells104.setIfInBounds 64 (.slice a y.aT.length n)).setIfInBounds 65 (.slice V y.aF.length d)).setIfInBounds 66 (.slice f y.aB.length H)).setIfInBounds 67 (.slice Z y.aJ.length Y)).setIfInBounds 69 (.slice g y.aP.length U)).setIfInBounds 70 (.slice s 32 r)).setIfInBounds 71 (Aj (bA size))).setIfInBounds 74 (Aj 1)) 104)).drew W.heap.size ⟨.slice a y.aT.length n,.slice V y.aF.length d,.slice f y.aB.length H,.slice Z y.aJ.length Y,.slice none 0 0,.slice g y.aP.length U,.slice s 32 r⟩ (s0 aP size z [])):=Aq (by
  have es:s0 aP size z []=⟨List.replicate 64 0,{ y with size:=bA size,look:=0,move:=0,bG:=1,bH:=[] },0,0⟩:=by
   rw[←y4.o];rfl
  rw[es];have O:bJ W (W.alloc (.cells ((((((((Tryz.zeroCells104.setIfInBounds 64 (.slice a y.aT.length n)).setIfInBounds 65 (.slice V y.aF.length d)).setIfInBounds 66 (.slice f y.aB.length H)).setIfInBounds 67 (.slice Z y.aJ.length Y)).setIfInBounds 69 (.slice g y.aP.length U)).setIfInBounds 70 (.slice s 32 r)).setIfInBounds 71 (Aj (bA size))).setIfInBounds 74 (Aj 1)) 104)).drew:=((qF _ _).alloc _).drew;have E:=z3.o;have x4:=y2.o;refine⟨?_,Cm (Cb R.o.og O) (By _),Cm (Cb R.o.cu O) (By _),Cm (Cb R.o.to O) (By _),Cm (Cb R.o.en O) (By _),Eo _ _ _ _,Cm (Cb R.o.cv O) (By _),?_,E.p1.symm,E.p2,E.p3,E.p4,E.p6,E.p7,E.p9,⟨rfl,fun x hx=>?_,{ x4 with size:=Fq _,bG:=(show (0:Int)≤1∧(1:Int)≤5 by decide),look:=(show (0:Int)≤0∧(0:Int)≤1 by decide),move:=(show (0:Int)≤0∧(0:Int)≤1 by decide),bH:=fun c hc=>by simp at hc,eg:=by simp }⟩⟩
  ·have hc:((((((((Tryz.zeroCells104.setIfInBounds 64 (.slice a y.aT.length n)).setIfInBounds 65 (.slice V y.aF.length d)).setIfInBounds 66 (.slice f y.aB.length H)).setIfInBounds 67 (.slice Z y.aJ.length Y)).setIfInBounds 69 (.slice g y.aP.length U)).setIfInBounds 70 (.slice s 32 r)).setIfInBounds 71 (Aj (bA size))).setIfInBounds 74 (Aj 1))=Es ⟨.slice a y.aT.length n,.slice V y.aF.length d,.slice f y.aB.length H,.slice Z y.aJ.length Y,.slice none 0 0,.slice g y.aP.length U,.slice s 32 r⟩ ⟨List.replicate 64 0,{ y with size:=bA size,look:=0,move:=0,bG:=1,bH:=[] },0,0⟩:=rfl;rw[hc];exact(qG W 104 _).drew
  ·show World.ownsRow _ 0 3 1 (.slice s 32 r) y.store.length (ae y.store)
   rw[x4.dQ];exact Cm (Cb R.o.st O) (By _)
  ·have:x∈List.replicate 64 (0:Int):=hx;rw[oW this];exact⟨by decide,by decide⟩)
 have z1:Hid (SrB w.heap.size ⟨.slice a y.aT.length n,.slice V y.aF.length d,.slice f y.aB.length H,.slice Z y.aJ.length Y,.slice none 0 0,.slice g y.aP.length U,.slice s 32 r⟩ W.heap.size):=Aq (fun k v=>by
  have hx:=hX.o.size;rcases v with e|e|e|e|e|e|e|e
  ·omega
  ·have:=(Bg R.o.og e).1;omega
  ·have:=(Bg R.o.cu e).1;omega
  ·have:=(Bg R.o.to e).1;omega
  ·have:=(Bg R.o.en e).1;omega
  ·simp[Value.ownBlock]at e
  ·have:=(Bg R.o.cv e).1;omega
  ·have:=(Bg R.o.st e).1;omega)
 have c4:Below w.heap.size w (W.alloc (.cells ((((((((Tryz.zeroCells104.setIfInBounds 64 (.slice a y.aT.length n)).setIfInBounds 65 (.slice V y.aF.length d)).setIfInBounds 66 (.slice f y.aB.length H)).setIfInBounds 67 (.slice Z y.aJ.length Y)).setIfInBounds 69 (.slice g y.aP.length U)).setIfInBounds 70 (.slice s 32 r)).setIfInBounds 71 (Aj (bA size))).setIfInBounds 74 (Aj 1)) 104)).drew:=(((qO hX.o Aw).trans (sB.o.mono (by omega))).alloc (by omega) _).drew;have T:=Aq c4;have x7:=Aq ((a6.o.aJ).aQ (w':=(W.alloc (.cells ((((((((Tryz.zeroCells104.setIfInBounds 64 (.slice a y.aT.length n)).setIfInBounds 65 (.slice V y.aF.length d)).setIfInBounds 66 (.slice f y.aB.length H)).setIfInBounds 67 (.slice Z y.aJ.length Y)).setIfInBounds 69 (.slice g y.aP.length U)).setIfInBounds 70 (.slice s 32 r)).setIfInBounds 71 (Aj (bA size))).setIfInBounds 74 (Aj 1)) 104)).drew) fun q A=>(c4.cell A).trans (hX.o.cell A (fun x=>x)).symm);have y3:=((z0.o.below sB.o z0.o.lt).alloc (.cells ((((((((Tryz.zeroCells104.setIfInBounds 64 (.slice a y.aT.length n)).setIfInBounds 65 (.slice V y.aF.length d)).setIfInBounds 66 (.slice f y.aB.length H)).setIfInBounds 67 (.slice Z y.aJ.length Y)).setIfInBounds 69 (.slice g y.aP.length U)).setIfInBounds 70 (.slice s 32 r)).setIfInBounds 71 (Aj (bA size))).setIfInBounds 74 (Aj 1)) 104)).drew.cell 3;simp only[Az,Ay,Ba]at y3
 have yl:w.heap.size+1<(W.alloc (.cells ((((((((Tryz.zeroCells104.setIfInBounds 64 (.slice a y.aT.length n)).setIfInBounds 65 (.slice V y.aF.length d)).setIfInBounds 66 (.slice f y.aB.length H)).setIfInBounds 67 (.slice Z y.aJ.length Y)).setIfInBounds 69 (.slice g y.aP.length U)).setIfInBounds 70 (.slice s 32 r)).setIfInBounds 71 (Aj (bA size))).setIfInBounds 74 (Aj 1)) 104)).drew.heap.size:=by simp;omega
 clear c4;generalize (W.alloc (.cells ((((((((Tryz.zeroCells104.setIfInBounds 64 (.slice a y.aT.length n)).setIfInBounds 65 (.slice V y.aF.length d)).setIfInBounds 66 (.slice f y.aB.length H)).setIfInBounds 67 (.slice Z y.aJ.length Y)).setIfInBounds 69 (.slice g y.aP.length U)).setIfInBounds 70 (.slice s 32 r)).setIfInBounds 71 (Aj (bA size))).setIfInBounds 74 (Aj 1)) 104)).drew=W2 at *;generalize W.heap.size=sb at *;generalize (⟨.slice a y.aT.length n,.slice V y.aF.length d,.slice f y.aB.length H,.slice Z y.aJ.length Y,.slice none 0 0,.slice g y.aP.length U,.slice s 32 r⟩:bN)=L0 at *;have H0:Hid (mW w sb aP size z eA (Aj (-1)) (Aj 0) W2):=Aq ⟨0,-1,L0,[],By _,rfl,rfl,by omega,by omega,HS.o,z1.o,T.o,x7.o,by simp,Aw⟩;have d6:=z2.o.aJ;have e0:=z2.o.aF;clear HS z1 T x7 sB R z3 y4 y2 a1 y7;go_wp2_with fail
 clear y3 yl;go_loopw [7,30] (fun Q i wr=>mW w sb aP size z eA Q i wr) (fun _ i _=>z.aJ.length-(intOf i).toNat)
 case atStart=>exact H0.o
 case round =>
  clear H0;obtain⟨j,Q,L,cs,hj,rfl,rfl,v9,b4,P,N,S,G,D,v0⟩:=hrel;have d9:=Aq P;have F:=Aq N;have sB:=Aq S;have d1:=Aq G;have b1:=Aq v0;by_cases c0:(j:Int)<z.aJ.length
  ·obtain⟨e,he⟩:∃e,z.aJ[j]?=some e:=⟨_,Bf (by omega)⟩;obtain⟨eb,eo,v7,d2,c3⟩:=G.aL (by omega);subst v7;have x6:=c3 _ _ (Cn he);have d5:eb<wr.heap.size:=by have:=S.size;omega
   have gr:z.aJ.drop j=e::z.aJ.drop (j+1):=by rw[pI (by omega)];congr 1;have:=Bf (l:=z.aJ) (i:=j) (by omega);rw[this]at he;exact oU he
   rw[gr,Mc.eK]at D;have A6:(s0 aP size z cs).m.aF.length=z.aF.length:=by simp[s0,Sr.ah,ah]
   obtain⟨Au,cu,x0,_,_⟩:=Bc P.cu;have gw:=P.gw;rw[x0,A6]at gw;have e1:=P.aG.lt;by_cases hq:Q<e∧e<(z.aF.length:Int)
   ·obtain⟨c1,z5⟩:=hq;rw[if_pos ⟨c1,z5⟩]at D;obtain⟨Ac,kc,hk,_,_⟩:=Bc P.co;have c68:=P.c68;rw[hk]at c68;have c2:=Aq (P.alloc (.cells #[Aj (Q+1),Aj e] 157));have v3:=Aq (G.aQ (w':=wr.alloc (.cells #[Aj (Q+1),Aj e] 157)) fun q A=>by have:=S.size;exact Cc _ _ _ (by omega));have T:=Aq (S.alloc S.size (.cells #[Aj (Q+1),Aj e] 157));have hS:=Aq hk;have a7:=Aq D;have v2:=Aq A6;have A3:=c2.o.co;rw[hk]at A3;have a9:=Aq A3;have v1:=Aq (qM (cs:=[Aj (Q+1),Aj e]) (qG wr 157 #[Aj (Q+1),Aj e]) 2 1 rfl);have c8:IntKind.i64.wrap (Q+1)=Q+1:=by rw[Do _ (by omega)]
    obtain⟨i0,b2,v4,z9,b6⟩:=Fe Yc;have A5:(s0 aP size z cs).m.bH.length=cs.length:=rfl;have x2:=Aq A5;rw[A5]at c68;clear P N S G D he gr c3 x0 A6 A3 hk A5;go_wp2_with (at_builtin;refine Cp _ rfl (.tmp 51) (.tmp 56) _ rfl 0 157 i0 _ 2 16 Tryz.underlying102 b2 v4 z9 b6 rfl (show 0<2 by decide) (.slice Ac cs.length kc) cs.length (it cs) rfl a9.o _ _ 1 1 [Aj (Q+1),Aj e] rfl v1.o (by simp[Value.oneCell']) (by unfold maxLen;omega) (by omega) (By _) ?_;intro v' w1 c5 A4 y0;obtain⟨B,x1⟩:=c2.o.nH (c:=((Q+1).toNat,e.toNat)) (v':=v') (w1:=w1) (by simp only[v2.o];omega) (by simp only[x2.o];omega) (by simp only[x2.o];rw[p_ (by omega),p_ (by omega)];exact c5) (by rw[hS.o];exact A4);have a5:=Aq x1;have b7:=Aq A4;have b0:=Aq y0;have d7:=Aq B;obtain⟨Av,cv,b8,_⟩:=Bc c5;subst b8;have d3:=B.frozen 68;have x3:∃u,w1.cell? ⟨sb,68,none⟩=some u:=⟨_,(B.cell 68).trans (Gy c2.o.ok.rl 4)⟩;obtain⟨d0,x3⟩:=x3;have c9:=B.lt;clear x1 A4 y0 B c5)
    have y1:Below w.heap.size w (w1.setCell ⟨sb,68,none⟩ (.slice Av (cs.length+1) cv)):=(T.o.grown b7.o (by have:=T.o.size;exact this) (fun b hb=>by
     exact F.o b (.inr (.inr (.inr (.inr (.inr (.inl (by rw[hS.o];exact hb))))))))).setCell (p:=⟨sb,68,none⟩) (F.o sb (.inl rfl)) _
    have d4:=sB.o.size;refine⟨⟨j+1,e,_,_,by omega,by simp,rfl,by omega,by omega,a5.o,fun k v=>?_,y1,v3.o.aQ fun q A=>(y1.cell A).trans ((T.o.cell A).symm),by rw[ox];exact a7.o,by rw[Ca];exact Nat.succ_le_succ b1.o⟩,by simp[intOf];omega⟩;rcases v with v|v|v|v|v|v|v|v
    ·exact F.o k (.inl v)
    ·exact F.o k (.inr (.inl v))
    ·exact F.o k (.inr (.inr (.inl v)))
    ·exact F.o k (.inr (.inr (.inr (.inl v))))
    ·exact F.o k (.inr (.inr (.inr (.inr (.inl v)))))
    ·rcases b0.o with h|h
     ·exact F.o k (.inr (.inr (.inr (.inr (.inr (.inl (by rw[hS.o];exact h ▸ v)))))))
     ·rw[h]at v
      injection v with v
      simp at v;omega
    ·exact F.o k (.inr (.inr (.inr (.inr (.inr (.inr (.inl v)))))))
    ·exact F.o k (.inr (.inr (.inr (.inr (.inr (.inr (.inr v)))))))
   ·rw[if_neg hq]at D;have x5:Hid (mW w sb aP size z (some ⟨eb,eo,none⟩) (Aj Q) (Aj ((j:Int)+1)) wr):=Aq ⟨j+1,Q,L,cs,by omega,by simp,rfl,v9,b4,P,N,S,G,D,by omega⟩;clear P N S G D he gr c3 x0 A6;by_cases c1:Q<e
    ·have z5:¬ e<(z.aF.length:Int):=fun h=>hq ⟨c1,h⟩
     go_wp2_with fail
     refine⟨x5.o,by simp[intOf];omega⟩
    ·go_wp2_with fail
     refine⟨x5.o,by simp[intOf];omega⟩
  ·have a8:j=z.aJ.length:=by omega
   subst a8;have A:s0 aP size z cs=Sr.ah aP size z:=by
    rw[List.drop_length,Mc.eK,oO]at D;unfold s0;rw[D];rfl
   have HE:Hid (Zee w aP size z (.returned (.pointer (some ⟨sb,0,none⟩))) wr):=Aq ⟨sb,L,rfl,A ▸ P,N,S⟩;clear P N S G D A;go_wp2;go_ret;exact HE.o
namespace Sr
theorem gu {op:Int} (h:(cS op).2=true):∃k:Nat,op=k∧k<43:=by
 unfold cS at h;have:0≤op∧op<43:=by
  repeat' split at h
  all_goals first|omega|cases h
 exact⟨op.toNat,by omega,by omega⟩
theorem Zak {n:Int}(h:rg n=true):∃d:Nat,n=d∧d<64:=by
 unfold rg at h;simp only[decide_eq_true_eq]at h;exact⟨n.toNat,by omega,by omega⟩
theorem kS {r:bE}{s:St}{b:Int}(h:dm r b=true) (p:(s.pc:Int)+b≤1000000):r.Can s:=by
 unfold dm eV at h;simp only[Fa,Bool.or_eq_true,decide_eq_true_eq,Bool.not_eq_eq_eq_not,Bool.not_true]at h;obtain⟨⟨_,⟨z,x⟩,u⟩,y⟩:=h;refine⟨fun e=>Zak (z.resolve_left (by omega)),fun e=>Zak (x.resolve_left (by omega)),fun e=>Zak (u.resolve_left (by omega)),fun e=>?_⟩;obtain⟨k,v⟩:=y.resolve_left (by rw[e];decide);exact⟨r.n.toNat,by omega,by omega⟩
theorem iu {aA:List bE}{s:St}(v:fitsAll aA=true){r:bE} (x:aA[s.pc]?=some r) (q:r.op≠42):(step aA s).steps=s.steps+1∧s.pc<(step aA s).pc∧(step aA s).pc<aA.length∧step aA s=deed r { s with pc:=s.pc+1,steps:=s.steps+1 } := by
 have h:=eD v x;have c:=(aS.1 x).1;have a:aA.getD s.pc kK=r:=by rw[Bo,x];rfl
 have p:step aA s=deed r { s with pc:=s.pc+1,steps:=s.steps+1 } := by unfold step;rw[a]
 obtain⟨z,u,k⟩:=Zkz (s := { s with pc:=s.pc+1,steps:=s.steps+1 }) h;rw[p];simp only at z u k;have d:s.pc+1<aA.length:=by
  unfold dm at h;simp only[Fa]at h;have y:=h.1.1.2;rw[decide_eq_false q]at y;have f:¬ ((aA.length:Int)-1-s.pc=0):=by simpa using y
  omega
 have e:(if cP r.op=true then r.n else 0)<(aA.length:Int)-1-s.pc:=by
  split
  ·rename_i b;unfold dm at h;simp only[b,Fa,Bool.not_true,Bool.false_or,decide_eq_true_eq]at h;exact h.2.2
  ·omega
 exact⟨z,by omega,by omega,rfl⟩
theorem gp {aA:List bE}{s:St}{n:Nat} (h:(aA.getD s.pc kK).op=42):runs n aA s=s:=by
 cases n with
 |zero=>rfl
 |succ n=>unfold runs;rw[if_pos h]
theorem gI {aA:List bE}{s:St}{n:Nat} (h:(aA.getD s.pc kK).op≠42):runs (n+1) aA s=runs n aA (step aA s):=by
 conv=>lhs;unfold runs
 rw[if_neg h]
end Sr
def jB (mb:Nat)(W:World):Prop:=∃bs clock,W.heap[mb]?=some (.map (Wb bs 36).toArray clock)∧∀i,i<36→DoBox W (fun k=>mb<k∧k<W.heap.size) bs i
theorem eY.all {L:bN}{sb k:Nat}(x:eY L sb k):k=sb∨L.og.ownBlock=some k∨L.cu.ownBlock=some k∨L.tq.ownBlock=some k∨L.en.ownBlock=some k∨L.co.ownBlock=some k∨L.cv.ownBlock=some k∨L.st.ownBlock=some k:=by
 rcases x with e|e|e|e|e
 ·exact .inl e
 ·exact .inr (.inr (.inl e))
 ·exact .inr (.inr (.inr (.inl e)))
 ·exact .inr (.inr (.inr (.inr (.inr (.inr (.inl e))))))
 ·exact .inr (.inr (.inr (.inr (.inr (.inr (.inr e))))))
structure lQ (w:World) (B sb mb:Nat) (L:bN) (aA:List Sr.bE) (A:Option Addr) (T:Sr.St) (s:Sr.St) (W:World):Prop where
 run:ar W sb L s
 f_:SrB B L sb
 map:jB mb W
 mb:w.heap.size≤mb
 rd:aE W B 5 A aA.length (Ch aA)
 fr:Fr (eY L sb) w W
 pc:s.pc<aA.length
 steps:s.steps≤s.pc
 fm:∃n,aA.length≤n+s.pc∧Sr.runs n aA s=T
def Ul (w:World)(sb:Nat)(L:bN)(T:Sr.St)(e:Ending)(w':World):Prop:=e=.returned (.tuple #[])∧ar w' sb L T∧Fr (eY L sb) w w'
theorem Vy {mb:Nat}{W:World}(h:jB mb W){i:Nat}(hi:i<36):∃bs,DoBox W (fun k=>mb<k∧k<W.heap.size) bs i∧Sem.run Tryz.prog (Instr.lookup 158 (.map (some mb)) (Aj (Jd i:Int)) false) W=.ok (kO bs i) W:=by
 obtain⟨bs,clock,y,cg⟩:=h;refine⟨bs,cg i hi,?_⟩;have v:(Wb bs 36).toArray.toList[i]?=some ⟨Aj (Jd i:Int),kO bs i,i⟩:=by
  unfold Wb;rw[pZ,Cd,oa hi];rfl
 refine Jy (P:=Tryz.prog) Tryz.underlying158 Tryz.underlying3 y v rfl fun z p u x=>?_
 unfold Wb at x;rw[pZ,Cd,oa (by omega)]at x;simp only[oH,Bw]at x;subst x;exact⟨_,rfl,by have:=Vz i hi z u;omega⟩
theorem jB.fr {mb:Nat}{S:Nat→Prop}{W W':World}(h:jB mb W)(u:Fr S W W')(r:∀k,S k→k<mb):jB mb W':=by
 obtain⟨bs,clock,z,y⟩:=h;have v:mb<W.heap.size:=(bO.1 z).1;have s:=u.size;have x:∀k,mb≤k→k<W.heap.size→W'.heap[k]?=W.heap[k]?:=fun k z y=>u.block k y (fun e=>by have:=r k e;omega)
 exact⟨bs,clock,(x _ Aw v).trans z,fun i hi=>(y i hi).aQ rfl (fun g t cs p q=>(x g (by omega) q.2).trans p) (fun k x=>⟨x.1,by omega⟩)⟩
def RunJ (w:World)(B sb:Nat)(L:bN)(aA:List Sr.bE)(A:Option Addr)(c:Nat)(T:Sr.St)(a:Act)(W:World):Prop :=
 ∃(s1:Sr.St) (mb:Nat) (g H v u8 i z y Q Y X n u16 s j Z u q K m V r P x e b d U u32 l k f p o:Value),a = { tmps:=#[.pointer (some ⟨sb,0,none⟩),.slice A aA.length c,undef,undef,.map (some mb),g,H,v,u8,i,z,y,Q,Y,X,n,u16,s,j,Z,u,q,K,m,V,r,P,x,e,b,d,U,u32,l,k,f,p,o],defers:=[] }∧lQ w B sb mb L aA A T s1 W
def ku (sb:Nat)(aA:List Sr.bE)(W:World):Nat:=aA.length-(intOf ((W.cell? ⟨sb,75,none⟩).getD undef)).toNat
theorem Zez (w:World)(sb:Nat)(L:bN)(s:Sr.St)(h:ar w sb L s)(B:Nat)(aA:List Sr.bE)(A:Option Addr)(c:Nat)(hB:SrB B L sb)(v2:B≤w.heap.size) (x8:aE w B 5 A aA.length (Ch aA)) (f:Sr.right aA=true) (F:s.pc=0) (C:s.steps=0) :
  Calls Tryz.prog 41 #[.pointer (some ⟨sb,0,none⟩),.slice A aA.length c] w (Ul w sb L (Sr.runs aA.length aA s)):=by
 go_enter Tryz.func41,Tryz.ntmps41;generalize hT:Sr.runs aA.length aA s=T at *;have x5:Sr.fitsAll aA=true:=by
  unfold Sr.right at f;simp only[Fa]at f;exact f.1.2
 have y9:1≤aA.length∧aA.length≤80000:=by
  unfold Sr.right at f;simp only[Fa,decide_eq_true_eq]at f;exact f.1.1
 obtain⟨v1,v3⟩:=y9;have d3:=Aq x5;have H0:Hid (∀W,iV w 36 W→lQ w B sb w.heap.size L aA A T s W):=Aq fun W hW=>by
  have hg:bJ w W:=by
   obtain⟨_,_,_,hb⟩:=hW;exact qN hb (fun _ u _=>u)
  have hf:Fr (eY L sb) w W:=by
   obtain⟨_,_,_,hb⟩:=hW;exact qN hb (fun _ u _=>u)
  exact⟨h.cW hg,hB,(by obtain⟨bs,h1,h2,_⟩:=hW;exact⟨bs,36,h1,h2⟩),Aw,x8.aQ (fun q U=>hg.cell (by omega) (fun x=>x)),hf,by omega,by omega,⟨aA.length,by omega,hT⟩⟩
 have x7:=hB;have d2:=Aq (fun k (u:eY L sb k)=>h.eO u);have x6:=Aq x7;clear h hB x8 f F C hT x5 x7;go_wp2_with fail
 refine wp_scope_jumps 0 (RunJ w B sb L aA A c T) (fun _ W=>ku sb aA W) rfl ?_ ?_
 ·go_wp2_with fail
  refine(Yk w).mono ?_;rintro e W⟨rfl,hd⟩;have y:=Aq (H0.o W hd);clear H0 hd;generalize y5:s=s1 at y;clear y5;generalize w.heap.size=mb at y ⊢;go_wp2_with fail
  go_step3;have F:=y.o.pc;have C:=y.o.steps;obtain⟨⟨op,d,a,b,n⟩,f⟩:∃r,aA[s1.pc]?=some r:=⟨_,Bf F⟩;have X:=Aq f;obtain⟨cb,off,N,y8,g⟩:=y.o.rd.2 (by omega);obtain⟨g0,g1,g2,g3,g4⟩:=Ga aA s1.pc _ f;have O:=g _ _ g0;have D:=g _ _ g1;have V:=g _ _ g2;have S:=g _ _ g3;have E:=g _ _ g4;rw[←mt]at D V S E;simp only at O D V S E;have jY:=y.o.run.jY;have nM:=y.o.run.nM;have y6:=y.o.run.aG.frozen 75;have y1:=y.o.run.aG.frozen 76;have z0:=y.o.run.aG.lt;have y3:cb<W.heap.size:=by have:=y.o.fr.size;omega
  have d4:=Aq N;subst N;have x3:=Aq (show ku sb aA W=aA.length-s1.pc by unfold ku;rw[jY];simp[intOf]);generalize z:s1.pc=pc at O D V S E jY F C;have Z:=Aq z;generalize hs:s1.steps=st at nM C;have HS:=Aq hs;clear f g g0 g1 g2 g3 g4 z hs;have R:=y.o.run.alloc (.cells #[Aj op,Aj d,Aj a,Aj b,Aj n] 50);by_cases l:op=42
  ·subst l;have HE:Hid (Ul w sb L T (.returned (.tuple #[])) (W.alloc (.cells #[Aj 42,Aj d,Aj a,Aj b,Aj n] 50))):=Aq (by
    obtain⟨m,_,hm⟩:=y.o.fm;rw[Sr.gp (by rw[Bo,X.o];rfl)]at hm;exact⟨rfl,hm ▸ R,y.o.fr.alloc _⟩)
   clear R;go_wp2_with fail
   simp only[Exit.jump];go_end0;exact HE.o
  ·have y0:(op==42)=false:=by simpa using l
   clear R;have e1:((pc+1:Nat):Int)=(pc:Int)+1:=by omega
   have e2:((st+1:Nat):Int)=(st:Int)+1:=by omega
   have Q:=((y.o.run.jq (pc+1)).fD (st+1)).alloc (.cells #[Aj op,Aj d,Aj a,Aj b,Aj n] 50);have Y:=(((qF (eY L sb) W).setCell (p:=⟨sb,75,none⟩) (.inl (.inl rfl)) (Aj ((pc+1:Nat):Int))).setCell (p:=⟨sb,76,none⟩) (.inl (.inl rfl)) (Aj ((st+1:Nat):Int))).alloc (.cells #[Aj op,Aj d,Aj a,Aj b,Aj n] 50);rw[e1,e2]at Q Y;have hk:=Sr.iu d3.o X.o l;rw[Z.o,HS.o]at hk;obtain⟨q1,q2,q3,J⟩:=hk;have H:=Sr.eD d3.o X.o;have HP:=Sr.kS (s := { s1 with pc:=pc+1,steps:=st+1 }) H (by simp only;rw[Z.o];omega);have M:(Sr.cS op).2=true:=by
    unfold Sr.dm at H;simp only[Fa]at H;exact H.1.1.1
   obtain⟨k,u,x2⟩:=Sr.gu M;obtain⟨i,hi,s2⟩:=Wa k x2 (u ▸ M) (fun e=>l (by omega));have G:op=(Jd i:Int):=by omega
   have hr:=y.o.map.fr Y (fun k u=>by have:=d2.o k u;have:=y.o.mb;omega);obtain⟨bs,cg,hp⟩:=Vy hr hi;obtain⟨id,HR,y4,v⟩:=Zhq (i:=i) (r:=⟨op,d,a,b,n⟩) Q hi G HP cg;rw[←G]at hp;have d1:∃K,kO bs i=.func (.func id) #[] K∧(K = #[]∨∃p,K = #[p])∧Calls Tryz.prog id (#[.pointer (some ⟨sb,0,none⟩),Ff ⟨op,d,a,b,n⟩]++K) (((W.setCell ⟨sb,75,none⟩ (Aj ((pc:Int)+1))).setCell ⟨sb,76,none⟩ (Aj ((st:Int)+1))).alloc (.cells #[Aj op,Aj d,Aj a,Aj b,Aj n] 50)) (bB (((W.setCell ⟨sb,75,none⟩ (Aj ((pc:Int)+1))).setCell ⟨sb,76,none⟩ (Aj ((st:Int)+1))).alloc (.cells #[Aj op,Aj d,Aj a,Aj b,Aj n] 50)) sb L (Sr.deed ⟨op,d,a,b,n⟩ { s1 with pc:=pc+1,steps:=st+1 })):=by
    unfold kO;rw[HR];cases U:(nc i).2 with
    |none=>rw[U]at v;exact⟨_,rfl,.inl rfl,v⟩
    |some q=>rw[U]at v;exact⟨_,rfl,.inr ⟨_,rfl⟩,v⟩
   obtain⟨K,hv,x0,v⟩:=d1;rw[hv]at hp;have x1:Hid (∀j,bB (((W.setCell ⟨sb,75,none⟩ (Aj ((pc:Int)+1))).setCell ⟨sb,76,none⟩ (Aj ((st:Int)+1))).alloc (.cells #[Aj op,Aj d,Aj a,Aj b,Aj n] 50)) sb L (Sr.deed ⟨op,d,a,b,n⟩ { s1 with pc:=pc+1,steps:=st+1 }) (.returned (.tuple #[])) j→∃I,lQ w B sb mb L aA (some ⟨cb,off,none⟩) T I j∧ku sb aA j<ku sb aA W):=Aq fun j z=>by
    have P:=Y.trans z.2.2;refine⟨Sr.step aA s1,⟨by rw[J];exact z.2.1,y.o.f_,y.o.map.fr P (fun k u=>by have:=d2.o k u;have:=y.o.mb;omega),y.o.mb,?_,y.o.fr.trans P,q3,by omega,?_⟩,?_⟩
    ·have:=y.o.rd;rw[d4.o]at this;exact this.aQ (fun q U=>P.cell (by have:=y.o.fr.size;omega) (fun e=>by have:=x6.o _ (eY.all e);omega))
    ·obtain⟨m,y7,d0⟩:=y.o.fm;have x4:=Z.o;have y2:m≠0:=by omega
     obtain⟨m,rfl⟩:∃m',m=m'+1:=⟨m-1,by omega⟩;refine⟨m,by omega,?_⟩;rw[←d0,Sr.gI (by rw[Bo,X.o];exact l)]
    ·have x4:=Z.o;rw[x3.o];have:=z.2.1.jY;unfold ku;rw[this];rw[←J];simp only[oK,intOf,Da];omega
   clear Q Y H HP M u s2 G hr cg HR hv q1 q2 q3 J e1 e2 l;unfold Ff at v;rcases x0 with rfl|⟨p,rfl⟩
   all_goals
    go_wp2_with fail
    refine v.mono ?_;intro e j z;obtain⟨I,w9,hq⟩:=x1.o j (by rw[←z.1];exact z);have q4:=Aq w9;have x9:=Aq hq;obtain⟨rfl,_⟩:=z;clear w9 hq;go_wp2_with fail
    go_step3;exact⟨rfl,I,mb,_,_,_,_,_,_,_,_,_,_,_,_,_,_,_,_,_,_,_,_,_,_,_,_,_,_,_,_,_,_,_,_,_,rfl,q4.o⟩
 ·rintro a' W⟨s1,mb,u5,u6,u7,u8,u9,z8,a5,z7,v6,a2,v9,u16,a0,z3,z6,z9,a7,z5,z4,v8,z1,a3,a4,a8,z2,a9,v7,u32,v4,v0,a1,a6,v5,rfl,hR⟩;have y:=Aq hR;clear hR H0;have F:=y.o.pc;have C:=y.o.steps;obtain⟨⟨op,d,a,b,n⟩,f⟩:∃r,aA[s1.pc]?=some r:=⟨_,Bf F⟩;have X:=Aq f;obtain⟨cb,off,N,y8,g⟩:=y.o.rd.2 (by omega);obtain⟨g0,g1,g2,g3,g4⟩:=Ga aA s1.pc _ f;have O:=g _ _ g0;have D:=g _ _ g1;have V:=g _ _ g2;have S:=g _ _ g3;have E:=g _ _ g4;rw[←mt]at D V S E;simp only at O D V S E;have jY:=y.o.run.jY;have nM:=y.o.run.nM;have y6:=y.o.run.aG.frozen 75;have y1:=y.o.run.aG.frozen 76;have z0:=y.o.run.aG.lt;have y3:cb<W.heap.size:=by have:=y.o.fr.size;omega
  have d4:=Aq N;subst N;have x3:=Aq (show ku sb aA W=aA.length-s1.pc by unfold ku;rw[jY];simp[intOf]);generalize z:s1.pc=pc at O D V S E jY F C;have Z:=Aq z;generalize hs:s1.steps=st at nM C;have HS:=Aq hs;clear f g g0 g1 g2 g3 g4 z hs;have R:=y.o.run.alloc (.cells #[Aj op,Aj d,Aj a,Aj b,Aj n] 50);by_cases l:op=42
  ·subst l;have HE:Hid (Ul w sb L T (.returned (.tuple #[])) (W.alloc (.cells #[Aj 42,Aj d,Aj a,Aj b,Aj n] 50))):=Aq (by
    obtain⟨m,_,hm⟩:=y.o.fm;rw[Sr.gp (by rw[Bo,X.o];rfl)]at hm;exact⟨rfl,hm ▸ R,y.o.fr.alloc _⟩)
   clear R;go_wp2_with fail
   simp only[Exit.jump];go_end0;exact HE.o
  ·have y0:(op==42)=false:=by simpa using l
   clear R;have e1:((pc+1:Nat):Int)=(pc:Int)+1:=by omega
   have e2:((st+1:Nat):Int)=(st:Int)+1:=by omega
   have Q:=((y.o.run.jq (pc+1)).fD (st+1)).alloc (.cells #[Aj op,Aj d,Aj a,Aj b,Aj n] 50);have Y:=(((qF (eY L sb) W).setCell (p:=⟨sb,75,none⟩) (.inl (.inl rfl)) (Aj ((pc+1:Nat):Int))).setCell (p:=⟨sb,76,none⟩) (.inl (.inl rfl)) (Aj ((st+1:Nat):Int))).alloc (.cells #[Aj op,Aj d,Aj a,Aj b,Aj n] 50);rw[e1,e2]at Q Y;have hk:=Sr.iu d3.o X.o l;rw[Z.o,HS.o]at hk;obtain⟨q1,q2,q3,J⟩:=hk;have H:=Sr.eD d3.o X.o;have HP:=Sr.kS (s := { s1 with pc:=pc+1,steps:=st+1 }) H (by simp only;rw[Z.o];omega);have M:(Sr.cS op).2=true:=by
    unfold Sr.dm at H;simp only[Fa]at H;exact H.1.1.1
   obtain⟨k,u,x2⟩:=Sr.gu M;obtain⟨i,hi,s2⟩:=Wa k x2 (u ▸ M) (fun e=>l (by omega));have G:op=(Jd i:Int):=by omega
   have hr:=y.o.map.fr Y (fun k u=>by have:=d2.o k u;have:=y.o.mb;omega);obtain⟨bs,cg,hp⟩:=Vy hr hi;obtain⟨id,HR,y4,v⟩:=Zhq (i:=i) (r:=⟨op,d,a,b,n⟩) Q hi G HP cg;rw[←G]at hp;have d1:∃K,kO bs i=.func (.func id) #[] K∧(K = #[]∨∃p,K = #[p])∧Calls Tryz.prog id (#[.pointer (some ⟨sb,0,none⟩),Ff ⟨op,d,a,b,n⟩]++K) (((W.setCell ⟨sb,75,none⟩ (Aj ((pc:Int)+1))).setCell ⟨sb,76,none⟩ (Aj ((st:Int)+1))).alloc (.cells #[Aj op,Aj d,Aj a,Aj b,Aj n] 50)) (bB (((W.setCell ⟨sb,75,none⟩ (Aj ((pc:Int)+1))).setCell ⟨sb,76,none⟩ (Aj ((st:Int)+1))).alloc (.cells #[Aj op,Aj d,Aj a,Aj b,Aj n] 50)) sb L (Sr.deed ⟨op,d,a,b,n⟩ { s1 with pc:=pc+1,steps:=st+1 })):=by
    unfold kO;rw[HR];cases U:(nc i).2 with
    |none=>rw[U]at v;exact⟨_,rfl,.inl rfl,v⟩
    |some q=>rw[U]at v;exact⟨_,rfl,.inr ⟨_,rfl⟩,v⟩
   obtain⟨K,hv,x0,v⟩:=d1;rw[hv]at hp;have x1:Hid (∀j,bB (((W.setCell ⟨sb,75,none⟩ (Aj ((pc:Int)+1))).setCell ⟨sb,76,none⟩ (Aj ((st:Int)+1))).alloc (.cells #[Aj op,Aj d,Aj a,Aj b,Aj n] 50)) sb L (Sr.deed ⟨op,d,a,b,n⟩ { s1 with pc:=pc+1,steps:=st+1 }) (.returned (.tuple #[])) j→∃I,lQ w B sb mb L aA (some ⟨cb,off,none⟩) T I j∧ku sb aA j<ku sb aA W):=Aq fun j z=>by
    have P:=Y.trans z.2.2;refine⟨Sr.step aA s1,⟨by rw[J];exact z.2.1,y.o.f_,y.o.map.fr P (fun k u=>by have:=d2.o k u;have:=y.o.mb;omega),y.o.mb,?_,y.o.fr.trans P,q3,by omega,?_⟩,?_⟩
    ·have:=y.o.rd;rw[d4.o]at this;exact this.aQ (fun q U=>P.cell (by have:=y.o.fr.size;omega) (fun e=>by have:=x6.o _ (eY.all e);omega))
    ·obtain⟨m,y7,d0⟩:=y.o.fm;have x4:=Z.o;have y2:m≠0:=by omega
     obtain⟨m,rfl⟩:∃m',m=m'+1:=⟨m-1,by omega⟩;refine⟨m,by omega,?_⟩;rw[←d0,Sr.gI (by rw[Bo,X.o];exact l)]
    ·have x4:=Z.o;rw[x3.o];have:=z.2.1.jY;unfold ku;rw[this];rw[←J];simp only[oK,intOf,Da];omega
   clear Q Y H HP M u s2 G hr cg HR hv q1 q2 q3 J e1 e2 l;unfold Ff at v;rcases x0 with rfl|⟨p,rfl⟩
   all_goals
    go_wp2_with fail
    refine v.mono ?_;intro e j z;obtain⟨I,w9,hq⟩:=x1.o j (by rw[←z.1];exact z);have q4:=Aq w9;have x9:=Aq hq;obtain⟨rfl,_⟩:=z;clear w9 hq;go_wp2_with fail
    go_step3;exact⟨rfl,⟨I,mb,_,_,_,_,_,_,_,_,_,_,_,_,_,_,_,_,_,_,_,_,_,_,_,_,_,_,_,_,_,_,_,_,_,rfl,q4.o⟩,x9.o⟩
theorem Xh {w W:World}{B b:Nat}{v0 v1 j v3 v4 m v6 f g v9:Value} (e:aH W b 39 #[v0,v1,j,v3,v4,m,v6,f,g,v9]) (l:B≤b) (d:Below B w W) (z r y q v k a x u8 s:Value) :
  Below B w (dj W b z r y q v k a x u8 s)∧aH (dj W b z r y q v k a x u8 s) b 39 #[z,r,y,q,v,k,a,x,u8,s]:=by
 have step:∀{W:World} {cs:Array Value} (i:Nat) (u:Value),(Below B w W∧aH W b 39 cs)→Below B w (W.setCell ⟨b,i,none⟩ u)∧aH (W.setCell ⟨b,i,none⟩ u) b 39 (cs.setIfInBounds i u) :=
  fun i u c=>⟨c.1.setCell (p:=⟨b,i,none⟩) l u,c.2.aX i u⟩
 have h:=step 9 s (step 8 u8 (step 7 x (step 6 a (step 5 k (step 4 v (step 3 q (step 2 y (step 1 r (step 0 z ⟨d,e⟩)))))))));clear step;simp only[oM,oV,oE]at h;exact h
def Sr.eM (t:Sr.St)(n:Nat):Mc.St := { t.m with stack:=(t.aW.take n).reverse,steps:=t.steps,aM:=0,br:=0 }
def mD (w:World)(e:Ending)(w':World):Prop:=e=.returned (.agg #[.slice none 0 0,.slice none 0 0,.slice none 0 0,.slice none 0 0,.slice none 0 0,.slice none 0 0,.slice none 0 0,Aj 0,Aj 0,Aj 50])∧Below w.heap.size w w'
theorem Zz (w:World)(aA:List Sr.bE)(A:Option Addr)(c:Nat)(aP:List Int)(size:Int)(z:Zn)(E:aP.length≤1000000)(B:ek z)(F:aA.length≤1000000000000)(fA mA cA oA tA eA uA:Option Addr)(fn fc mn mc cc oc tc ec uc:Nat) (U:aE w w.heap.size 5 A aA.length (Ch aA)) (D:aE w w.heap.size 1 cA aP.length (ae aP)) (C:dC w w.heap.size z oA uA tA eA) (n:Sr.right aA=false) :
  Calls Tryz.prog 17 #[.slice A aA.length c,.agg #[.slice fA fn fc,.slice mA mn mc,.slice cA aP.length cc,Aj size],.agg #[.slice oA z.aT.length oc,.slice uA z.aF.length uc,.slice tA z.aB.length tc,.slice eA z.aJ.length ec]] w (mD w):=by
 obtain⟨X,k⟩:∃X,X=((w.alloc (.cells #[.slice fA fn fc,.slice mA mn mc,.slice cA aP.length cc,Aj size] 26)).alloc (.cells #[.slice oA z.aT.length oc,.slice uA z.aF.length uc,.slice tA z.aB.length tc,.slice eA z.aJ.length ec] 30)).alloc (.cells #[.slice none 0 0,.slice none 0 0,.slice none 0 0,.slice none 0 0,.slice none 0 0,.slice none 0 0,.slice none 0 0,Aj 0,Aj 0,Aj 0] 39):=⟨_,rfl⟩;have M:X.heap.size=w.heap.size+1+1+1:=by rw[k];simp
 have p:bJ w X:=by rw[k];exact(((qF _ w).alloc _).alloc _).alloc _
 have j:aH X (w.heap.size+1+1) 39 #[.slice none 0 0,.slice none 0 0,.slice none 0 0,.slice none 0 0,.slice none 0 0,.slice none 0 0,.slice none 0 0,Aj 0,Aj 0,Aj 0]:=by rw[k];exact qH _ _ _ (by simp)
 have s:=Aq (Gq A c w.heap.size aA X (U.aQ (w':=X) fun q Q=>p.cell Q (fun x=>x)) p.size F);rw[n]at s;have S:=Aq p;have V:=Aq j;have G:=Aq k;clear k p j U D C B E n;go_enter Tryz.func17,Tryz.ntmps17;go_upto_region 1 with fail
 rw[←G.o];go_wp2_with fail
 refine s.o.mono ?_;rintro e w1⟨rfl,a⟩;have u:=V.o.below a V.o.lt;have R:=Aq ((qO S.o Aw).trans (a.mono (by omega)));have J:=u.cell;have I:=u.frozen;have L:=u.lt;obtain⟨m,H⟩:=Xh u (show w.heap.size≤w.heap.size+1+1 by omega) R.o (.slice none 0 0) (.slice none 0 0) (.slice none 0 0) (.slice none 0 0) (.slice none 0 0) (.slice none 0 0) (.slice none 0 0) (Aj 0) (Aj 0) (Aj 50);clear a u s;go_wp2_with fail
 obtain⟨W,r⟩:∃W,W=dj w1 (w.heap.size+1+1) (.slice none 0 0) (.slice none 0 0) (.slice none 0 0) (.slice none 0 0) (.slice none 0 0) (.slice none 0 0) (.slice none 0 0) (Aj 0) (Aj 0) (Aj 50):=⟨_,rfl⟩;rw[←r]at m H;unfold dj at r;rw[←r];clear r;have y:=H.cell;have Z:=y 0;have d:=y 1;have P:=y 2;have f:=y 3;have Y:=y 4;have i:=y 5;have l:=y 6;have b:=y 7;have g:=y 8;have K:=y 9;simp only[Az,Ay,Ba]at Z d P f Y i l b g K;refine bodyPost_ret (v:=.agg #[.slice none 0 0,.slice none 0 0,.slice none 0 0,.slice none 0 0,.slice none 0 0,.slice none 0 0,.slice none 0 0,Aj 0,Aj 0,Aj 50]) (by simp[results,Tryz.results17,go_sem,Z,d,P,f,Y,i,l,b,g,K]) rfl ?_;exact⟨rfl,m⟩
def Sr.bm (aA:List Sr.bE):Nat:=(aA.getD (aA.length-1) Sr.kK).n.toNat
theorem Sr.gJ {aA:List Sr.bE}(h:Sr.right aA=true):∃r,aA[aA.length-1]?=some r∧r.n=(Sr.bm aA:Int)∧Sr.bm aA≤64:=by
 unfold Sr.right at h;simp only[Fa,decide_eq_true_eq]at h;obtain⟨⟨⟨z,_⟩,_⟩,y⟩:=h;rw[qz]at y;obtain⟨r,x⟩:∃r,aA[aA.length-1]?=some r:=⟨_,Bf (by omega)⟩;rw[x]at y;simp only[decide_eq_true_eq]at y;have u:Sr.bm aA=r.n.toNat:=by unfold Sr.bm;rw[Bo,x];rfl
 exact⟨r,x,by omega,by omega⟩
theorem Ti {W:World}{B size n:Nat}{t:TypeId}{v:Value}{xs:List Value}(h:W.ownsRow 0 t size v n xs)(u:∀g,v.ownBlock=some g→B≤g):W.ownsRow B t size v n xs:=by
 refine⟨h.1,?_⟩;rcases h.2 with z|⟨g,cY,aF,x,_,y⟩
 ·exact .inl z
 ·exact .inr ⟨g,cY,aF,x,u g (by rw[x];rfl),y⟩
theorem Xd (sb n:Nat)(y:n≤64)(wq:World):Sem.run Tryz.prog (Instr.sliceAt 101 (.pointer (some ⟨sb,0,none⟩)) none (some (Aj (n:Int))) none) wq=.ok (.slice (some ⟨sb,0,none⟩) n 64) wq:=by
 have x:Tryz.prog.arrayLen 101=64:=by kernel_rfl
 have h:=run_sliceAt_array_h (P:=Tryz.prog) wq 101 ⟨sb,0,none⟩ Tryz.underlying101 .i64 (n:Int) (by omega) (by rw[x];omega);rw[h,x];rw[show (sizeOf (Tryz.prog.elem 101)).run Tryz.prog wq=.ok 1 wq by kernel_rfl];simp[Result.andThen,slicedAt,Addr.add]
theorem Uz (w:World)(aA:List Sr.bE)(A:Option Addr)(c:Nat)(aP:List Int)(size:Int)(z:Zn)(a3:aP.length≤1000000)(hz:ek z)(b9:aA.length≤1000000000000)(fA mA cA oA tA eA uA:Option Addr)(fn fc mn mc cc oc tc ec uc:Nat) (z0:aE w w.heap.size 5 A aA.length (Ch aA)) (v1:aE w w.heap.size 1 cA aP.length (ae aP)) (z7:dC w w.heap.size z oA uA tA eA) (hr:Sr.right aA=true) :
  Calls Tryz.prog 17 #[.slice A aA.length c,.agg #[.slice fA fn fc,.slice mA mn mc,.slice cA aP.length cc,Aj size],.agg #[.slice oA z.aT.length oc,.slice uA z.aF.length uc,.slice tA z.aB.length tc,.slice eA z.aJ.length ec]] w (Um w (Sr.eM (Sr.run aA aP size z) (Sr.bm aA))):=by
 obtain⟨X,l⟩:∃X,X=((w.alloc (.cells #[.slice fA fn fc,.slice mA mn mc,.slice cA aP.length cc,Aj size] 26)).alloc (.cells #[.slice oA z.aT.length oc,.slice uA z.aF.length uc,.slice tA z.aB.length tc,.slice eA z.aJ.length ec] 30)).alloc (.cells #[.slice none 0 0,.slice none 0 0,.slice none 0 0,.slice none 0 0,.slice none 0 0,.slice none 0 0,.slice none 0 0,Aj 0,Aj 0,Aj 0] 39):=⟨_,rfl⟩;have d1:X.heap.size=w.heap.size+1+1+1:=by rw[l];simp
 have Q:bJ w X:=by rw[l];exact(((qF _ w).alloc _).alloc _).alloc _
 have z8:aH X w.heap.size 26 #[.slice fA fn fc,.slice mA mn mc,.slice cA aP.length cc,Aj size]:=by rw[l];exact((qG _ _ _).alloc _).alloc _
 have x5:aH X (w.heap.size+1) 30 #[.slice oA z.aT.length oc,.slice uA z.aF.length uc,.slice tA z.aB.length tc,.slice eA z.aJ.length ec]:=by rw[l];exact(qH _ _ _ (by simp)).alloc _
 have x9:aH X (w.heap.size+1+1) 39 #[.slice none 0 0,.slice none 0 0,.slice none 0 0,.slice none 0 0,.slice none 0 0,.slice none 0 0,.slice none 0 0,Aj 0,Aj 0,Aj 0]:=by rw[l];exact qH _ _ _ (by simp)
 have A6:=z0.aQ (w':=X) fun q b=>Q.cell b (fun x=>x)
 have HC:=Aq (Gq A c w.heap.size aA X A6 Q.size b9);rw[hr]at HC;have z9:=Aq Q;have d:=Aq z8;have f:=Aq x5;have v2:=Aq x9;have HX:=Aq l;have x3:=Aq A6;have x4:=Aq (v1.aQ (w':=X) fun q b=>Q.cell b (fun x=>x));have z5:=Aq (z7.aQ (W':=X) fun q b=>Q.cell b (fun x=>x));have c2:=Aq hr;have b4:=Aq hz;clear l Q z8 x5 x9 z0 v1 z7 hz hr A6;go_enter Tryz.func17,Tryz.ntmps17;go_upto_region 1 with fail
 rw[←HX.o];go_wp2_with fail
 refine HC.o.mono ?_;rintro e w1⟨rfl,y⟩;have d3:=y.size;have p0:=(d.o.below y d.o.lt).cell 0;have p1:=(d.o.below y d.o.lt).cell 1;have p2:=(d.o.below y d.o.lt).cell 2;have p3:=(d.o.below y d.o.lt).cell 3;have q0:=(f.o.below y f.o.lt).cell 0;have q1:=(f.o.below y f.o.lt).cell 1;have q2:=(f.o.below y f.o.lt).cell 2;have q3:=(f.o.below y f.o.lt).cell 3;simp only[Az,Ay,Ba]at p0 p1 p2 p3 q0 q1 q2 q3;have w7:∀q:Addr,q.block<w.heap.size→w1.cell? q=X.cell? q:=fun q b=>y.cell (by have:=z9.o.size;omega)
 have N:w.heap.size≤w1.heap.size:=by omega
 have z3:=Aq (Zdq w1 aP size z a3 b4.o fA mA cA oA tA eA uA fn fc mn mc cc oc tc ec uc ((x4.o.aQ w7).aY N) ((z5.o.aQ w7).mor N));have x7:=Aq ((x3.o.aQ w7).aY N);have a7:=Aq ((qO z9.o Aw).trans (y.mono (show w.heap.size≤X.heap.size by omega)));have w5:=Aq (v2.o.below y v2.o.lt);clear y w7 HC x4 z5 x3;go_wp2_with fail
 refine z3.o.mono ?_;rintro e w2⟨sb,L,rfl,j,hB,C⟩;have Z:=Aq hB;have a2:=Aq (a7.o.trans (C.mono N));have x1:=Aq (w5.o.below C w5.o.lt);have hF:=x7.o.aQ (w':=w2) fun q b=>C.cell b
 have v9:=Aq hF;have v4:=Aq (Zez w2 sb L _ j w1.heap.size aA A c hB C.size hF c2.o rfl rfl);have d0:=C.size;clear j hB C z3 x7 w5 hF p0 p1 p2 p3 q0 q1 q2 q3;go_wp2_with fail
 refine v4.o.mono ?_;rintro e s⟨rfl,j,H⟩;have hT:Sr.runs aA.length aA (Sr.ah aP size z)=Sr.run aA aP size z:=rfl;rw[hT]at j;generalize Sr.run aA aP size z=T at *;have c9:=H.size;have c6:Below w1.heap.size w2 s:=⟨H.os,H.tape,H.output,H.size,fun k hk=>H.block k (by omega) (fun e=>by have:=Z.o k (eY.all e);omega)⟩;have a5:=Aq (a2.o.trans (c6.mono N));have b7:=Aq (x1.o.below c6 (by have:=x1.o.lt;omega));obtain⟨r,c1,A2,b8⟩:=Sr.gJ c2.o;generalize Sr.bm aA=n at *;obtain⟨cb,off,v3,d2,x6⟩:=(v9.o.aQ (w':=s) fun q b=>c6.cell b).2 (by have:=(aS.1 c1).1;omega);have g4:=x6 _ _ (Ga aA _ r c1).2.2.2.2;rw[←mt,A2]at g4;subst v3;obtain⟨U,S,c5,_⟩:=Bc j.og;obtain⟨M,V,c3,_⟩:=Bc j.cu;obtain⟨P,B,A1,_⟩:=Bc j.tq;obtain⟨G,E,A5,_⟩:=Bc j.en;obtain⟨R,J,A3,_⟩:=Bc j.cv;obtain⟨I,D,A4,_⟩:=Bc j.st;have HL:=Aq j;have e1:Hid (∀p:World,ar p sb L T→p.cell? ⟨cb,off+(aA.length-1)*5+4,none⟩=some (Aj (n:Int))→((p.cell? ⟨sb,64,none⟩=some (.slice U T.m.aT.length S)∧p.cell? ⟨sb,65,none⟩=some (.slice M T.m.aF.length V)∧p.cell? ⟨sb,66,none⟩=some (.slice P T.m.aB.length B)∧p.cell? ⟨sb,67,none⟩=some (.slice G T.m.aJ.length E))∧p.cell? ⟨sb,69,none⟩=some (.slice R T.m.aP.length J)∧p.cell? ⟨sb,70,none⟩=some (.slice I T.m.store.length D)∧p.cell? ⟨cb,off+(aA.length-1)*5+4,none⟩=some (Aj (n:Int))∧p.cell? ⟨sb,76,none⟩=some (Aj (T.steps:Int)))):=Aq fun p h hc =>
  ⟨⟨c5 ▸ h.c64,c3 ▸ h.gw,A1 ▸ h.c66,A5 ▸ h.c67⟩,A3 ▸ h.km,A4 ▸ h.lW,hc,h.nM⟩
 have z4:1≤aA.length∧aA.length≤80000:=by
  have:=c2.o;unfold Sr.right at this;simp only[Fa,decide_eq_true_eq]at this;exact this.1.1
 obtain⟨z4,c8⟩:=z4;have hw:IntKind.i64.wrap ((aA.length:Int)-1)=((aA.length-1:Nat):Int):=by rw[Do _ (by omega)];omega
 have a1:aA.length-1<aA.length:=by omega
 have hS:=e1.o s.drew j.drew g4;have a4:=Aq g4;have v0:=Aq (show aE s.drew s.heap.size 1 (some ⟨sb,0,none⟩) n (ae (T.aW.take n)) from⟨by rw[Dg,Du,j.ok.rl];omega,fun _=>⟨sb,0,rfl,j.aG.lt,fun c4 u hu=>by
  have hj:c4<n:=by
   have:=(aS.1 hu).1;rw[Dg,Du]at this;omega
  unfold ae at hu;rw[Cd,List.getElem?_take_of_lt hj,Bf (by rw[j.ok.rl];omega)]at hu;rw[nz,show s.drew.cell? ⟨sb,c4,none⟩=s.cell? ⟨sb,c4,none⟩ from rfl,j.fQ (by omega),Bo,Bf (by rw[j.ok.rl];omega)];exact hu⟩⟩)
 generalize aA.length-1=m at *;have v7:=Aq c5;have b5:=Aq c3;have b6:=Aq A1;have a6:=Aq A5;have a8:=Aq A3;have a9:=Aq A4;clear c1 A2 x6 c5 c3 A1 A5 A3 A4 g4 j H hT;have c0:=HL.o.aG.lt;have a0:=Xd sb n b8;go_wp2_with fail
 refine Bs (Cl [23,29]) (Bm [3,7,11,21,27]) (Bm [23]) [0,1,2,3,4,5,6,7,8,9,10,11,12,13,14,15,16,17,18,19,20,21,22,24,25,26,27,23,28,29] (fun wq:World=>((wq.cell? ⟨sb,64,none⟩=some (.slice U T.m.aT.length S)∧wq.cell? ⟨sb,65,none⟩=some (.slice M T.m.aF.length V)∧wq.cell? ⟨sb,66,none⟩=some (.slice P T.m.aB.length B)∧wq.cell? ⟨sb,67,none⟩=some (.slice G T.m.aJ.length E))∧wq.cell? ⟨sb,69,none⟩=some (.slice R T.m.aP.length J)∧wq.cell? ⟨sb,70,none⟩=some (.slice I T.m.store.length D)∧wq.cell? ⟨cb,off+m*5+4,none⟩=some (Aj (n:Int))∧wq.cell? ⟨sb,76,none⟩=some (Aj (T.steps:Int)))) (by kernel_rfl) (by kernel_rfl) (by kernel_rfl) (by kernel_rfl) ?_
 iterate 27 (first|refine Be ?_|refine Bj hS ?_)
 refine Bi fun K hK=>?_;go_simp
 refine(Gw s.drew _ n 64 s.heap.size _ v0.o (Hu _) (by omega)).mono ?_;rintro e F⟨v5,rfl,hq,w3⟩;have v6:=e1.o F (HL.o.drew.cW w3) ((w3.cell (by simp;omega) (fun x=>x)).trans a4.o);have hL:=Aq w3;have v8:=Aq hq;obtain⟨A7,c7,b3,_⟩:=Bc hq;have O:=hL.o.aG (b7.o.drew) (fun x=>x);have b0:=O.cell;have b1:=O.frozen;have b2:=O.lt;have z2:=Aq O;clear O;subst b3;clear hq w3;dsimp only;refine hK _ _ (fun _=>v6) ?_;clear hK K
 iterate 1 (first|refine Be ?_|refine Bj hS ?_)
 refine Bi fun K hK=>?_;go_simp
 refine Bh hK ?_;clear hK K;refine Bb ?_;have Y:=HL.o.drew.cW hL.o;have i:∀{t:TypeId} {size k:Nat} {v:Value} {xs:List Value},F.ownsRow 0 t size v k xs→(∀g,v.ownBlock=some g→w1.heap.size≤g)→F.ownsRow w.heap.size t size v k xs:=fun h1 h2=>Ti h1 (fun g e=>by have:=h2 g e;omega)
 have x0:(Sr.eM T n).stack.length=n:=by unfold Sr.eM;simp only[oX,Du,HL.o.ok.rl];omega
 have x2:d_ w.heap.size (Sr.eM T n) F (.slice U T.m.aT.length S) (.slice M T.m.aF.length V) (.slice P T.m.aB.length B) (.slice G T.m.aJ.length E) (.slice R T.m.aP.length J) (.slice I T.m.store.length D) (.slice A7 n c7):=by
  refine⟨?_,?_,?_,?_,?_,?_,?_⟩
  ·exact v7.o ▸ i Y.og (fun g e=>Z.o g (.inr (.inl e)))
  ·exact b5.o ▸ i Y.cu (fun g e=>Z.o g (.inr (.inr (.inl e))))
  ·exact b6.o ▸ i Y.tq (fun g e=>Z.o g (.inr (.inr (.inr (.inl e)))))
  ·exact a6.o ▸ i Y.en (fun g e=>Z.o g (.inr (.inr (.inr (.inr (.inl e))))))
  ·exact a8.o ▸ i Y.cv (fun g e=>Z.o g (.inr (.inr (.inr (.inr (.inr (.inr (.inl e))))))))
  ·have h:=a9.o ▸ i Y.st (fun g e=>Z.o g (.inr (.inr (.inr (.inr (.inr (.inr (.inr e))))))));have e:(32:Nat)=T.m.store.length:=HL.o.ok.m.dQ.symm;rw[e];exact h
  ·rw[x0];have:(Sr.eM T n).stack.reverse=T.aW.take n:=by unfold Sr.eM;simp
   rw[this];exact Cm v8.o (by have:=hL.o.size;show w.heap.size≤s.heap.size;omega)
 have z1:Below w.heap.size w F:=a5.o.drew.trans (qO hL.o (by show w.heap.size≤s.heap.size;omega));obtain⟨x8,z6,hX⟩:=Hk z2.o x2 (show w.heap.size≤w.heap.size+1+1 by omega) z1 (.slice U T.m.aT.length S) (.slice M T.m.aF.length V) (.slice P T.m.aB.length B) (.slice G T.m.aJ.length E) (.slice R T.m.aP.length J) (.slice I T.m.store.length D) (.slice A7 n c7) (Aj (T.steps:Int)) (Aj 0) (Aj 0);simp only[oM,oV,oE]at hX;clear hS a0 Y i x0 x2 z1 b0 b1 b2 e1 v0 z2 c0 hw a1;go_wp2_with fail
 obtain⟨W,hW⟩:∃W,W=dj F (w.heap.size+1+1) (.slice U T.m.aT.length S) (.slice M T.m.aF.length V) (.slice P T.m.aB.length B) (.slice G T.m.aJ.length E) (.slice R T.m.aP.length J) (.slice I T.m.store.length D) (.slice A7 n c7) (Aj (T.steps:Int)) (Aj 0) (Aj 0):=⟨_,rfl⟩;rw[←hW]at z6 hX
 try rw[←hW]at x8
 unfold dj at hW;rw[←hW];clear hW;have a:=hX.cell;have y0:=a 0;have y1:=a 1;have y2:=a 2;have y3:=a 3;have y4:=a 4;have y5:=a 5;have y6:=a 6;have y7:=a 7;have y8:=a 8;have y9:=a 9;simp only[Az,Ay,Ba]at y0 y1 y2 y3 y4 y5 y6 y7 y8 y9;refine bodyPost_ret (v:=.agg #[.slice U T.m.aT.length S,.slice M T.m.aF.length V,.slice P T.m.aB.length B,.slice G T.m.aJ.length E,.slice R T.m.aP.length J,.slice I T.m.store.length D,.slice A7 n c7,Aj (T.steps:Int),Aj 0,Aj 0]) (by simp[results,Tryz.results17,go_sem,y0,y1,y2,y3,y4,y5,y6,y7,y8,y9]) rfl ?_;exact⟨_,_,_,_,_,_,_,rfl,x8,z6⟩
def kQ (N0:Nat):Repr N0 Bu.PS:=Repr.map (fun s=>(s.op,s.a,s.aC,(s.go:Int))) (Repr.bi Repr.int (Repr.bi Repr.int (Repr.bi Repr.int Repr.int)))
def Ll (N0:Nat):Repr N0 Bu.aq:=Repr.map (fun p=>(p.steps,p.size)) (Repr.bi (Repr.row 145 (kQ N0)) Repr.int)
theorem Zgh:(Tryz.prog.info? 50).map (fun i=>(i.zero,i.size,i.bytes))=some (some (.agg #[Aj 0,Aj 0,Aj 0,Aj 0,Aj 0]),5,40):=by kernel_rfl
def fy (w:World)(v:Value)(ps:List Bu.aq):Prop:=∃A c,v=.slice A ps.length c∧af (Ll 0) 89 w w.heap.size A ps
structure eG (B:Nat) (w w':World):Prop where
 below:Below B w w'
 aQ:∀(k:Nat) (t:TypeId) (cs:Array Value) (fz:Nat×Nat),w.heap[k]?=some (.cells cs t fz)→t≠86→t≠50→w'.heap[k]?=some (.cells cs t fz)
theorem eG.refl (B:Nat)(w:World):eG B w w:=⟨aI,fun _ _ _ _ h _ _=>h⟩
abbrev qP:=@eG.refl
theorem eG.trans {B:Nat}{w w1 w2:World}(h:eG B w w1)(k:eG B w1 w2):eG B w w2:=⟨h.below.trans k.below,fun i t cs x e z y=>k.aQ i t cs x (h.aQ i t cs x e z y) z y⟩
theorem eG.alloc {B:Nat}{w w1:World}(h:eG B w w1)(u:B≤w1.heap.size)(o:Obj):eG B w (w1.alloc o) :=
 ⟨h.below.alloc u o,fun i t cs x e z y=>(pq _ _ _ (bO.1 (h.aQ i t cs x e z y)).1).trans (h.aQ i t cs x e z y)⟩
theorem eG.drew {B:Nat}{w w1:World}(h:eG B w w1):eG B w w1.drew:=⟨h.below.drew,fun i t cs x e z y=>h.aQ i t cs x e z y⟩
theorem eG.aG {B:Nat}{w w':World}(h:eG B w w'){k:Nat}{t:TypeId}{cs:Array Value}(z:aH w k t cs)(y:t≠86)(x:t≠50):aH w' k t cs:=h.aQ k t cs (0,0) z y x
theorem fy.fr {B:Nat}{w w':World}{v:Value}{ps:List Bu.aq}(h:fy w v ps)(y:eG B w w'):fy w' v ps:=by
 obtain⟨A,c,e,k⟩:=h;refine⟨A,c,e,(k.aQ fun g t xs z _ x u=>y.aQ g t xs z u ?_ ?_).aY y.below.size⟩
 all_goals
  rcases x with x|x
  ·omega
  ·rintro rfl
   revert x
   decide
structure fN (w:World) (B bb:Nat) (pv cv:Value) (ps:List Bu.aq) (aA:List Sr.bE):Prop where
 aG:aH w bb 86 #[pv,cv]
 ps:fy w pv ps
 aA:w.ownsRow 0 50 5 cv aA.length (Ch aA)
 aN:B≤bb
 f_:∀g,cv.ownBlock=some g→B≤g
section
variable {w w' : World} {B bb : Nat} {pv cv : Value} {ps : List Bu.aq} {aA : List Sr.bE}
theorem fN.cW (h:fN w B bb pv cv ps aA)(y:bJ w w'):fN w' B bb pv cv ps aA:=by
 refine⟨y.aG h.aG (fun x=>x),?_,Cb h.aA y,h.aN,h.f_⟩;obtain⟨A,c,e,u⟩:=h.ps;exact⟨A,c,e,(u.aQ fun g t xs v _ _ z=>(y.block g (bO.1 z).1 (fun x=>x)).trans z).aY y.size⟩
theorem fN.alloc (h:fN w B bb pv cv ps aA)(o:Obj):fN (w.alloc o) B bb pv cv ps aA:=h.cW ((qF _ _).alloc _)
theorem fN.drew (h:fN w B bb pv cv ps aA):fN w.drew B bb pv cv ps aA:=h.cW (qF _ _).drew
end
def cI (w:World)(B bb:Nat)(pv:Value)(ps:List Bu.aq)(aA:List Sr.bE)(e:Ending)(w':World):Prop:=e=.returned (.tuple #[])∧(∃cv,fN w' B bb pv cv ps aA)∧eG B w w'
theorem fN.fY {w w1:World}{B bb:Nat}{pv cv v':Value}{ps:List Bu.aq}{aA fU:List Sr.bE}(h:fN w B bb pv cv ps aA) (d:w1.ownsRow 0 50 5 v' fU.length (Ch fU)) (v:w.grownBy w1 cv.ownBlock) (j:B≤w.heap.size) (z:v'.ownBlock=cv.ownBlock∨v'.ownBlock=some w.heap.size) :
  aH w1 bb 86 #[pv,cv]∧fN (w1.setCell ⟨bb,1,none⟩ v') B bb pv v' ps fU∧eG B w (w1.setCell ⟨bb,1,none⟩ v'):=by
 have q:∀g,cv.ownBlock=some g→∃cs,aH w g 50 cs:=fun g e=>(Bg h.aA e).2.2
 have u:aH w1 bb 86 #[pv,cv]:=h.aG.grown v fun e=>by
  obtain⟨cs,x⟩:=q bb e.symm;exact h.aG.dF x (by decide) rfl
 have f:∀(k:Nat) (t:TypeId) (cs:Array Value) (y:Nat×Nat),w.heap[k]?=some (.cells cs t y)→t≠86→t≠50→(w1.setCell ⟨bb,1,none⟩ v').heap[k]?=some (.cells cs t y):=fun k t cs y e b s=>by
  have i:w1.heap[k]?=some (.cells cs t y):=by
   rw[v.block k (bO.1 e).1 (fun c=>by
    obtain⟨l,x⟩:=q k c.symm;unfold aH at x;rw[e]at x
    injection x with x
    injection x with _ a
    exact s a)]
   exact e
  exact Hm u 1 v' k t cs y (fun e=>b e.symm) i
 have r:eG B w (w1.setCell ⟨bb,1,none⟩ v'):=⟨((ny B w).grown v j (fun g e=>h.f_ g e)).setCell (p:=⟨bb,1,none⟩) h.aN _,f⟩;refine⟨u,⟨?_,h.ps.fr r,Ck d u (by decide) 1 v',h.aN,fun g e=>?_⟩,r⟩
 ·have:=u.aX 1 v'
  simpa using this
 ·rcases z with z|z
  ·exact h.f_ g (z ▸ e)
  ·rw[z]at e
   injection e with e
   omega
theorem Hl {P:Program}(w:World){ops:Array Oper}{o:Oper}{a:Act}{K:Act→World→Prop}{Q:Exit→Act→World→Prop}{E:Prop}(k:o.guard=none)(s x:Operand)(t:TypeId)
  (H:o.op=.call { callee:=.builtin .append,args:=#[s,x],argTypes:=#[t,t] }) (e:TypeId) (i:TypeInfo) (z:Value) (size bytes:Nat) (r:P.underlying t=some (.slice e)) (hi:P.info? e=some i) (g:i.zero=some z)
  (q:i.size=size) (X:i.bytes=bytes) (V:z.cells.size=size) (j:0<size)
  (aN:Nat) (v:Value) (n:Nat) (xs:List Value) (Z:a.eval s=v) (p:w.ownsRow aN e size v n xs) (b:aN≤w.heap.size)
  (B:Nat) (A:Option Addr) (m c:Nat) (y:List Value) (U:a.eval x=.slice A m c) (Y:aE w B size A m y) (d:∀u∈y,u.oneCell'=true)
  (f:n+m≤maxLen) (R:(n+m)*bytes≤140737488355328)
  (h:∀v' w',w'.ownsRow aN e size v' (n+m) (xs++y)→w.grownBy w' v.ownBlock→(v'.ownBlock=v.ownBlock∨v'.ownBlock=some w.heap.size)→K (a.put o.dst v') w') :
  if Region.wanted o (yielded ops a.tmps)=true then Oper.wp P o a w K Q else E:=by
 have l:Region.wanted o (yielded ops a.tmps)=true:=by simp[Region.wanted,k]
 rw[if_pos l];exact Fg w s x t H aN e i z size bytes r hi g q X V j v n xs Z p B A m c y U Y d f R b h
theorem Ey (w:World)(B bb:Nat)(pv cv:Value)(ps:List Bu.aq)(aA:List Sr.bE)(h:fN w B bb pv cv ps aA)(F:B≤w.heap.size)(O:aA.length<1000000)(r:Sr.bE) :
  Calls Tryz.prog 36 #[.pointer (some ⟨bb,0,none⟩),Ff r] w (cI w B bb pv ps (aA++[r])):=by
 obtain⟨op,d,a,b,n⟩:=r;unfold Ff;obtain⟨k,cc,D,M,_⟩:=Bc h.aA;subst D;have H:=Aq h;have I:=h.aG.lt;have S:Hid (Ch (aA++[⟨op,d,a,b,n⟩])=Ch aA++[Aj op,Aj d,Aj a,Aj b,Aj n]):=Aq (Qx aA [⟨op,d,a,b,n⟩]);obtain⟨R,G,Z,Q,E⟩:=Fe Zgh;clear h;go_enter Tryz.func36,Tryz.ntmps36;go_wp2_with fail
 have g:(w.alloc (.cells #[Aj op,Aj d,Aj a,Aj b,Aj n] 50)).cell? ⟨w.heap.size,0,none⟩=some (Aj op):=(qG w _ _).cell 0;have s:(w.alloc (.cells #[Aj op,Aj d,Aj a,Aj b,Aj n] 50)).cell? ⟨w.heap.size,1,none⟩=some (Aj d):=(qG w _ _).cell 1;have m:(w.alloc (.cells #[Aj op,Aj d,Aj a,Aj b,Aj n] 50)).cell? ⟨w.heap.size,2,none⟩=some (Aj a):=(qG w _ _).cell 2;have q:(w.alloc (.cells #[Aj op,Aj d,Aj a,Aj b,Aj n] 50)).cell? ⟨w.heap.size,3,none⟩=some (Aj b):=(qG w _ _).cell 3;have f:(w.alloc (.cells #[Aj op,Aj d,Aj a,Aj b,Aj n] 50)).cell? ⟨w.heap.size,4,none⟩=some (Aj n):=(qG w _ _).cell 4;have H1:=Aq (H.o.alloc (.cells #[Aj op,Aj d,Aj a,Aj b,Aj n] 50));have C:=Aq ((qP B w).alloc F (.cells #[Aj op,Aj d,Aj a,Aj b,Aj n] 50));have y:w.heap.size<(w.alloc (.cells #[Aj op,Aj d,Aj a,Aj b,Aj n] 50)).heap.size:=by simp
 generalize (w.alloc (.cells #[Aj op,Aj d,Aj a,Aj b,Aj n] 50))=W at *;have v:=H1.o.aG.cell 1;simp only[Az,Ay,Ba]at v;have i:=Aq (H1.o.drew.alloc (.cells #[Aj op,Aj d,Aj a,Aj b,Aj n] 50));have l:=Aq (C.o.drew.alloc (by show B≤W.heap.size;omega) (.cells #[Aj op,Aj d,Aj a,Aj b,Aj n] 50));have A:(W.drew.alloc (.cells #[Aj op,Aj d,Aj a,Aj b,Aj n] 50)).cell? ⟨bb,1,none⟩=some (.slice k aA.length cc)∧(W.drew.alloc (.cells #[Aj op,Aj d,Aj a,Aj b,Aj n] 50)).cell? ⟨w.heap.size,0,none⟩=some (Aj op)∧(W.drew.alloc (.cells #[Aj op,Aj d,Aj a,Aj b,Aj n] 50)).cell? ⟨w.heap.size,1,none⟩=some (Aj d)∧(W.drew.alloc (.cells #[Aj op,Aj d,Aj a,Aj b,Aj n] 50)).cell? ⟨w.heap.size,2,none⟩=some (Aj a)∧(W.drew.alloc (.cells #[Aj op,Aj d,Aj a,Aj b,Aj n] 50)).cell? ⟨w.heap.size,3,none⟩=some (Aj b)∧(W.drew.alloc (.cells #[Aj op,Aj d,Aj a,Aj b,Aj n] 50)).cell? ⟨w.heap.size,4,none⟩=some (Aj n) :=
  ⟨(Cc _ _ _ (by show bb<W.heap.size;omega)).trans v,(Cc _ _ _ y).trans g,(Cc _ _ _ y).trans s,(Cc _ _ _ y).trans m,(Cc _ _ _ y).trans q,(Cc _ _ _ y).trans f⟩
 have X:W.drew.cell? ⟨bb,1,none⟩=some (.slice k aA.length cc)∧W.drew.cell? ⟨w.heap.size,0,none⟩=some (Aj op)∧W.drew.cell? ⟨w.heap.size,1,none⟩=some (Aj d)∧W.drew.cell? ⟨w.heap.size,2,none⟩=some (Aj a)∧W.drew.cell? ⟨w.heap.size,3,none⟩=some (Aj b)∧W.drew.cell? ⟨w.heap.size,4,none⟩=some (Aj n):=⟨v,g,s,m,q,f⟩;refine Cv [6,7,10] [4,5] [6] 11 (fun wq:World=>wq.cell? ⟨bb,1,none⟩=some (.slice k aA.length cc)∧wq.cell? ⟨w.heap.size,0,none⟩=some (Aj op)∧wq.cell? ⟨w.heap.size,1,none⟩=some (Aj d)∧wq.cell? ⟨w.heap.size,2,none⟩=some (Aj a)∧wq.cell? ⟨w.heap.size,3,none⟩=some (Aj b)∧wq.cell? ⟨w.heap.size,4,none⟩=some (Aj n)) ?_
 iterate 6 (first|refine Be ?_|refine Bj X ?_)
 refine Bi fun K x=>?_;go_simp
 refine x _ _ (fun _=>A) ?_;clear x K;refine Bi fun K x=>?_
 refine Hl _ rfl (.tmp 8) (.tmp 10) _ rfl 50 R _ 5 40 Tryz.underlying32 G Z Q E rfl (by decide) 0 _ _ _ rfl i.o.aA (By _) _ _ 1 1 [Aj op,Aj d,Aj a,Aj b,Aj n] rfl (qM (cs:=[Aj op,Aj d,Aj a,Aj b,Aj n]) (qG _ _ _) 5 1 rfl) (by simp[Value.oneCell']) (by unfold maxLen;omega) (by omega) ?_;intro v' V u e j;rw[←S.o,show aA.length+1=(aA++[⟨op,d,a,b,n⟩]:List Sr.bE).length by simp]at u;obtain⟨z,Y,c⟩:=i.o.fY u e (by have:=l.o.below.size;omega) j;have P:Hid (cI w B bb pv ps (aA++[⟨op,d,a,b,n⟩]) (.returned (.tuple #[])) (V.setCell ⟨bb,1,none⟩ v')):=Aq ⟨rfl,⟨_,Y⟩,l.o.trans c⟩;obtain⟨J,T,p,_⟩:=Bc u;rw[Ca,om]at p;have U:=z.cell 1;have N:=z.frozen 1;have L:=z.lt;simp only[Az,Ay,Ba]at U;subst p;clear z Y c u e j;refine Bh x ?_;clear x K
 iterate 2 (first|refine Be ?_|refine Bj X ?_)
 refine Bi fun K x=>?_;go_simp
 refine Bh x ?_;clear x K;refine Bb ?_;go_wp2;go_end0;exact P.o
end
section
open Go.RowKit Mc
theorem cI.bQ {w w1 w2:World}{B bb:Nat}{pv:Value}{ps:List Bu.aq}{aA:List Sr.bE}{e:Ending}(x:eG B w w1)(h:cI w1 B bb pv ps aA e w2):cI w B bb pv ps aA e w2:=⟨h.1,h.2.1,x.trans h.2.2⟩
theorem Yo (w:World)(B bb:Nat)(pv cv:Value)(ps:List Bu.aq)(aA:List Sr.bE)(h:fN w B bb pv cv ps aA)(i:B≤w.heap.size)(f:aA.length<1000000)(op x bm cJ:Int) :
  Calls Tryz.prog 90 #[.pointer (some ⟨bb,0,none⟩),.agg #[Aj op,Aj x],Aj bm,Aj cJ] w (cI w B bb pv ps (aA++Bu.cx (op,x) bm cJ)):=by
 have d:=Aq (h.alloc (.cells #[Aj op,Aj x] 96));have g:=Aq ((qP B w).alloc i (.cells #[Aj op,Aj x] 96));have q:=Aq (fun r=>(Ey _ B bb pv cv ps aA d.o (by simp;omega) f r).mono fun _ _ y=>cI.bQ g.o y);have m:=h.aG.lt;clear h;generalize c:Sr.cS op=u at *;obtain⟨u,ok⟩:=u;have z:=Aq c;clear c;by_cases a:u=3
 ·subst a;have v:=Aq (show Bu.cx (op,x) bm cJ=[⟨op,bm,bm,0,0⟩] by unfold Bu.cx;simp only[z.o];rfl);rw[v.o];go_enter Tryz.func90,Tryz.ntmps90;go_wp2_with fail
  refine(Iv _ _).mono ?_;rintro e k⟨rfl,rfl⟩;rw[z.o];go_wp2_with fail
  refine(q.o ⟨op,bm,bm,0,0⟩).mono ?_;intro e k y;have p:=Aq y;obtain⟨rfl,_⟩:=y;go_wp2;go_end0;exact p.o
 ·by_cases s:u=7
  ·subst s;have v:=Aq (show Bu.cx (op,x) bm cJ=[⟨op,cJ,cJ,bm,0⟩] by unfold Bu.cx;simp only[z.o];rfl);rw[v.o];go_enter Tryz.func90,Tryz.ntmps90;go_wp2_with fail
   refine(Iv _ _).mono ?_;rintro e k⟨rfl,rfl⟩;rw[z.o];go_wp2_with fail
   refine(q.o ⟨op,cJ,cJ,bm,0⟩).mono ?_;intro e k y;have p:=Aq y;obtain⟨rfl,_⟩:=y;go_wp2;go_end0;exact p.o
  ·by_cases b:u=6
   ·subst b;have v:=Aq (show Bu.cx (op,x) bm cJ=[⟨op,0,cJ,bm,0⟩] by unfold Bu.cx;simp only[z.o];rfl);rw[v.o];go_enter Tryz.func90,Tryz.ntmps90;go_wp2_with fail
    refine(Iv _ _).mono ?_;rintro e k⟨rfl,rfl⟩;rw[z.o];go_wp2_with fail
    refine(q.o ⟨op,0,cJ,bm,0⟩).mono ?_;intro e k y;have p:=Aq y;obtain⟨rfl,_⟩:=y;go_wp2;go_end0;exact p.o
   ·have v:=Aq (show Bu.cx (op,x) bm cJ=[⟨op,0,0,0,x⟩] by unfold Bu.cx;simp only[z.o];rw[if_neg a,if_neg s,if_neg b]);rw[v.o];have l:(u==3)=false:=by simpa using a
    have n:(u==7)=false:=by simpa using s
    have j:(u==6)=false:=by simpa using b
    go_enter Tryz.func90,Tryz.ntmps90;go_wp2_with fail
    refine(Iv _ _).mono ?_;rintro e k⟨rfl,rfl⟩;rw[z.o];go_wp2_with fail
    refine(q.o ⟨op,0,0,0,x⟩).mono ?_;intro e k y;have p:=Aq y;obtain⟨rfl,_⟩:=y;go_wp2;go_end0;exact p.o
theorem ns {N0:Nat}{w:World}{B:Nat}{s:Bu.PS}{cs:List Value} (h:(kQ N0).rel w B s cs):cs=[Aj s.op,Aj s.a,Aj s.aC,Aj (s.go:Int)]:=by
 obtain⟨u,x,rfl,⟨rfl,_⟩,z,k,rfl,⟨rfl,_⟩,v,y,rfl,⟨rfl,_⟩,rfl,_⟩:=h;rfl
theorem Vf {N0:Nat}{w:World}{B:Nat}{p:Bu.aq}{cs:List Value} (h:(Ll N0).rel w B p cs):∃A c,cs=[.slice A p.steps.length c,Aj p.size]∧af (kQ N0) 145 w B A p.steps:=by
 obtain⟨x,y,rfl,⟨A,c,rfl,_,_,z⟩,rfl,_⟩:=h;exact⟨A,c,rfl,z⟩
def EmB (j:Nat)(aC loops:Int):Prop:=-100000≤aC-100*(j+1)∧aC+100*(j+1)≤100000∧0≤loops∧loops+j≤100000
def EmS (k:Nat)(next loops:Int):Prop:=-100000≤next-1-100*k∧next+1+100*k≤100000∧0≤loops∧loops+k≤100000
def Wp (es:List Bu.cU)(ps:List Bu.aq)(j:Nat):Prop :=
 ∀(w:World) (B bb:Nat) (pv cv:Value) (aA:List Sr.bE) (p:Bu.aq) (A:Option Addr) (c:Nat) (aC loops:Int),ps[j]?=some p→fN w B bb pv cv ps aA→B≤w.heap.size→af (kQ 0) 145 w w.heap.size A p.steps→EmB j aC loops→aA.length+(Bu.em es j aC loops).length≤1000000 →
  Calls Tryz.prog 35 #[.pointer (some ⟨bb,0,none⟩),.agg #[.slice A p.steps.length c,Aj p.size],Aj aC,Aj loops] w (cI w B bb pv ps (aA++Bu.em es j aC loops))
def Zht (es:List Bu.cU)(ps:List Bu.aq)(j:Nat):Prop :=
 ∀(w:World) (B bb:Nat) (pv cv:Value) (aA:List Sr.bE) (p:Bu.aq) (A:Option Addr) (c:Nat) (bm loops:Int),ps[j]?=some p→fN w B bb pv cv ps aA→B≤w.heap.size→af (kQ 0) 145 w w.heap.size A p.steps→EmB j bm (loops+1)→0≤loops→aA.length+(Bu.eJ (Bu.em es j bm (loops+1)) bm loops).length≤1000000 →
  Calls Tryz.prog 89 #[.pointer (some ⟨bb,0,none⟩),.agg #[.slice A p.steps.length c,Aj p.size],Aj bm,Aj loops] w (cI w B bb pv ps (aA++Bu.eJ (Bu.em es j bm (loops+1)) bm loops))
theorem Zdn (w:World)(B bb:Nat)(pv cv:Value)(ps:List Bu.aq)(aA:List Sr.bE)(h:fN w B bb pv cv ps aA)(g:B≤w.heap.size)(es:List Bu.cU)(op x next loops:Int)(k:Nat)(hk:k≤ps.length)(c:∀j,j<k→Wp es ps j)(d:∀j,j<k→Zht es ps j) (Q:(op=37∨op=38)→0≤x∧x<k) (hb:EmS k next loops) (u:aA.length+(Bu.bD es (op,x) next loops).length≤1000000) :
  Calls Tryz.prog 66 #[.pointer (some ⟨bb,0,none⟩),.agg #[Aj op,Aj x],Aj next,Aj loops] w (cI w B bb pv ps (aA++Bu.bD es (op,x) next loops)):=by
 obtain⟨H8,hc,hB,H7⟩:=hb;have d0:(0:Int)≤k:=by omega
 by_cases a:op=2
 ·subst a;have v:=Aq (show Bu.bD es (2,x) next loops=[] from rfl);rw[v.o,oO]at *;have z:Hid (cI w B bb pv ps aA (.returned (.tuple #[])) (w.alloc (.cells #[Aj 2,Aj x] 96))):=Aq ⟨rfl,⟨_,h.alloc _⟩,(qP B w).alloc g _⟩;clear h c d u;go_enter Tryz.func66,Tryz.ntmps66;go_wp2;go_end0;exact z.o
 by_cases a:op=1
 ·subst a;have v:=Aq (show Bu.bD es (1,x) next loops=[⟨1,next,0,0,x⟩] from rfl);rw[v.o]at u ⊢;simp only[Bp,Bx]at u;have q:=Aq (h.alloc (.cells #[Aj 1,Aj x] 96));have s:=Aq ((qP B w).alloc g (.cells #[Aj 1,Aj x] 96));have l:=Aq (fun r=>(Ey _ B bb pv cv ps aA q.o (by simp;omega) (by omega) r).mono fun _ _ y=>cI.bQ s.o y);have m:=h.aG.lt;clear h c d;go_enter Tryz.func66,Tryz.ntmps66;go_wp2_with fail
  refine(l.o ⟨1,next,0,0,x⟩).mono ?_;intro e f y;have z:=Aq y;obtain⟨rfl,_⟩:=y;go_wp2;go_end0;exact z.o
 by_cases a:op=39
 ·subst a;have v:=Aq (show Bu.bD es (39,x) next loops=[⟨39,next,0,0,0⟩] from rfl);rw[v.o]at u ⊢;simp only[Bp,Bx]at u;have q:=Aq (h.alloc (.cells #[Aj 39,Aj x] 96));have s:=Aq ((qP B w).alloc g (.cells #[Aj 39,Aj x] 96));have l:=Aq (fun r=>(Ey _ B bb pv cv ps aA q.o (by simp;omega) (by omega) r).mono fun _ _ y=>cI.bQ s.o y);have m:=h.aG.lt;clear h c d;go_enter Tryz.func66,Tryz.ntmps66;go_wp2_with fail
  refine(l.o ⟨39,next,0,0,0⟩).mono ?_;intro e f y;have z:=Aq y;obtain⟨rfl,_⟩:=y;go_wp2;go_end0;exact z.o
 by_cases a:op=3
 ·subst a;have v:=Aq (show Bu.bD es (3,x) next loops=[⟨40,next,next-1,0,0⟩] from rfl);rw[v.o]at u ⊢;simp only[Bp,Bx]at u;have q:=Aq (h.alloc (.cells #[Aj 3,Aj x] 96));have s:=Aq ((qP B w).alloc g (.cells #[Aj 3,Aj x] 96));have l:=Aq (fun r=>(Ey _ B bb pv cv ps aA q.o (by simp;omega) (by omega) r).mono fun _ _ y=>cI.bQ s.o y);have m:=h.aG.lt;clear h c d;go_enter Tryz.func66,Tryz.ntmps66;go_wp2_with fail
  refine(l.o ⟨40,next,next-1,0,0⟩).mono ?_;intro e f y;have z:=Aq y;obtain⟨rfl,_⟩:=y;go_wp2;go_end0;exact z.o
 by_cases a:op=35
 ·subst a;have v:=Aq (show Bu.bD es (35,x) next loops=[⟨35,0,0,0,0⟩] from rfl);rw[v.o]at u ⊢;simp only[Bp,Bx]at u;have q:=Aq (h.alloc (.cells #[Aj 35,Aj x] 96));have s:=Aq ((qP B w).alloc g (.cells #[Aj 35,Aj x] 96));have l:=Aq (fun r=>(Ey _ B bb pv cv ps aA q.o (by simp;omega) (by omega) r).mono fun _ _ y=>cI.bQ s.o y);have m:=h.aG.lt;clear h c d;go_enter Tryz.func66,Tryz.ntmps66;go_wp2_with fail
  refine(l.o ⟨35,0,0,0,0⟩).mono ?_;intro e f y;have z:=Aq y;obtain⟨rfl,_⟩:=y;go_wp2;go_end0;exact z.o
 by_cases a:op=36
 ·subst a;have v:=Aq (show Bu.bD es (36,x) next loops=[⟨36,0,next-1,0,0⟩] from rfl);rw[v.o]at u ⊢;simp only[Bp,Bx]at u;have q:=Aq (h.alloc (.cells #[Aj 36,Aj x] 96));have s:=Aq ((qP B w).alloc g (.cells #[Aj 36,Aj x] 96));have l:=Aq (fun r=>(Ey _ B bb pv cv ps aA q.o (by simp;omega) (by omega) r).mono fun _ _ y=>cI.bQ s.o y);have m:=h.aG.lt;clear h c d;go_enter Tryz.func66,Tryz.ntmps66;go_wp2_with fail
  refine(l.o ⟨36,0,next-1,0,0⟩).mono ?_;intro e f y;have z:=Aq y;obtain⟨rfl,_⟩:=y;go_wp2;go_end0;exact z.o
 by_cases a:op=4
 ·subst a;have v:=Aq (show Bu.bD es (4,x) next loops=[⟨40,63,next-1,0,0⟩,⟨40,next-1,next-2,0,0⟩,⟨40,next-2,63,0,0⟩] from rfl);rw[v.o]at u ⊢;simp only[Bp,Bx]at u;have H:=Aq (h.alloc (.cells #[Aj 4,Aj x] 96));have F:=Aq ((qP B w).alloc g (.cells #[Aj 4,Aj x] 96));have m:=h.aG.lt;clear h c d;go_enter Tryz.func66,Tryz.ntmps66;go_wp2_with fail
  refine(Ey _ B bb pv cv ps aA H.o (by simp;omega) (by omega) ⟨40,63,next-1,0,0⟩).mono ?_;rintro e w7⟨rfl,⟨hz,O⟩,N⟩;have I:=Aq O;have S:=Aq (F.o.trans N);have d1:=S.o.below.size;clear H F O N;go_wp2_with fail
  refine(Ey _ B bb pv hz ps _ I.o (by omega) (by simp;omega) ⟨40,next-1,next-2,0,0⟩).mono ?_;rintro e w8⟨rfl,⟨w9,E⟩,G⟩;have L:=Aq E;have A:=Aq (S.o.trans G);have b0:=A.o.below.size;clear I S E G;go_wp2_with fail
  refine(Ey _ B bb pv w9 ps _ L.o (by omega) (by simp;omega) ⟨40,next-2,63,0,0⟩).mono ?_;rintro e f⟨rfl,⟨As,HQ⟩,D⟩;have z:Hid (cI w B bb pv ps (aA++[⟨40,63,next-1,0,0⟩,⟨40,next-1,next-2,0,0⟩,⟨40,next-2,63,0,0⟩]) (.returned (.tuple #[])) f):=Aq ⟨rfl,⟨As,by simpa using HQ⟩,A.o.trans D⟩;clear L A HQ D;go_wp2;go_end0;exact z.o
 by_cases X:op=37∨op=38
 ·obtain⟨hE,FA⟩:=Q X;obtain⟨i,rfl⟩:∃i:Nat,x=i:=⟨x.toNat,by omega⟩;have HP:i<k:=by omega
  obtain⟨p,y⟩:∃p,ps[i]?=some p:=⟨_,Bf (by omega)⟩;obtain⟨Ap,Z,hK,T⟩:=(h.alloc (.cells #[Aj op,Aj (i:Int)] 96)).ps;obtain⟨gb,b,cs,rfl,hS,hrel,P⟩:=T.get y;obtain⟨n,cc,rfl,J⟩:=Vf hrel;have V:=P 0 _ rfl;have R:=P 1 _ rfl;simp only[Ll,Repr.map,Repr.bi,Repr.row,Repr.int,oh]at V R;have M:(i:Int)<ps.length:=by omega
  have HA:=Aq J;have hp:=Aq y;subst hK;have q:=Aq (h.alloc (.cells #[Aj op,Aj (i:Int)] 96));have s:=Aq ((qP B w).alloc g (.cells #[Aj op,Aj (i:Int)] 96));have r0:(w.alloc (.cells #[Aj op,Aj (i:Int)] 96)).cell? ⟨w.heap.size,0,none⟩=some (Aj op):=(qG w _ _).cell 0;have r1:(w.alloc (.cells #[Aj op,Aj (i:Int)] 96)).cell? ⟨w.heap.size,1,none⟩=some (Aj (i:Int)):=(qG w _ _).cell 1;have U:=q.o.aG.cell 0;simp only[Az,Ay]at U;have cp:w.heap.size<(w.alloc (.cells #[Aj op,Aj (i:Int)] 96)).heap.size:=by simp
  have x0:=q.o.aG.lt;have HE:=Aq (c i HP);have HL:=Aq (d i HP);clear h c d y hrel P J Q hE FA T;rcases X with rfl|rfl
  ·have v:=Aq (show Bu.bD es (37,(i:Int)) next loops=Bu.em es i next loops from rfl);rw[v.o]at u ⊢;go_enter Tryz.func66,Tryz.ntmps66;go_wp2_with fail
   generalize (w.alloc (.cells #[Aj 37,Aj (i:Int)] 96))=W at *;have C:W.drew.cell? ⟨bb,0,none⟩=some (.slice (some ⟨gb,b,none⟩) ps.length Z)∧W.drew.cell? ⟨w.heap.size,1,none⟩=some (Aj (i:Int))∧W.drew.cell? ⟨gb,b+i*2,none⟩=some (.slice n p.steps.length cc)∧W.drew.cell? ⟨gb,b+i*2+1,none⟩=some (Aj p.size):=⟨U,r1,V,R⟩;refine Cv [11] [4,6,8] [] 12 (fun wq:World=>wq.cell? ⟨bb,0,none⟩=some (.slice (some ⟨gb,b,none⟩) ps.length Z)∧wq.cell? ⟨w.heap.size,1,none⟩=some (Aj (i:Int))∧wq.cell? ⟨gb,b+i*2,none⟩=some (.slice n p.steps.length cc)∧wq.cell? ⟨gb,b+i*2+1,none⟩=some (Aj p.size)) ?_
   iterate 11 (first|refine Be ?_|refine Bj C ?_)
   refine Bi fun K Y=>?_;go_simp
   refine(HE.o W.drew B bb _ cv aA p n cc next loops hp.o q.o.drew (by show B≤W.heap.size;omega) HA.o ⟨by omega,by omega,by omega,by omega⟩ u).mono ?_;intro e f y;have z:=Aq (y.bQ s.o.drew);obtain⟨rfl,_⟩:=y;dsimp only;refine Bh Y ?_;clear Y K;refine Bb ?_;go_wp2;go_end0;exact z.o
  ·have v:=Aq (show Bu.bD es (38,(i:Int)) next loops=Bu.eJ (Bu.em es i (next-1) (loops+1)) (next-1) loops from rfl);rw[v.o]at u ⊢;go_enter Tryz.func66,Tryz.ntmps66;go_wp2_with fail
   generalize (w.alloc (.cells #[Aj 38,Aj (i:Int)] 96))=W at *;have C:W.drew.cell? ⟨bb,0,none⟩=some (.slice (some ⟨gb,b,none⟩) ps.length Z)∧W.drew.cell? ⟨w.heap.size,1,none⟩=some (Aj (i:Int))∧W.drew.cell? ⟨gb,b+i*2,none⟩=some (.slice n p.steps.length cc)∧W.drew.cell? ⟨gb,b+i*2+1,none⟩=some (Aj p.size):=⟨U,r1,V,R⟩;refine Cv [11] [4,6,8] [] 12 (fun wq:World=>wq.cell? ⟨bb,0,none⟩=some (.slice (some ⟨gb,b,none⟩) ps.length Z)∧wq.cell? ⟨w.heap.size,1,none⟩=some (Aj (i:Int))∧wq.cell? ⟨gb,b+i*2,none⟩=some (.slice n p.steps.length cc)∧wq.cell? ⟨gb,b+i*2+1,none⟩=some (Aj p.size)) ?_
   iterate 11 (first|refine Be ?_|refine Bj C ?_)
   refine Bi fun K Y=>?_;go_simp
   refine(HL.o W.drew B bb _ cv aA p n cc (next-1) loops hp.o q.o.drew (by show B≤W.heap.size;omega) HA.o ⟨by omega,by omega,by omega,by omega⟩ hB u).mono ?_;intro e f y;have z:=Aq (y.bQ s.o.drew);obtain⟨rfl,_⟩:=y;dsimp only;refine Bh Y ?_;clear Y K;refine Bb ?_;go_wp2;go_end0;exact z.o
 ·have F8:¬ op=37:=fun e=>X (.inl e)
  have F7:¬ op=38:=fun e=>X (.inr e)
  have hq:Bu.bD es (op,x) next loops=Bu.cx (op,x) (next-1) (next-2):=by
   unfold Bu.bD;simp only
   repeat rw[if_neg ‹_›]
  have M:1≤(Bu.cx (op,x) (next-1) (next-2)).length:=by
   unfold Bu.cx
   repeat' split
   all_goals simp
  rw[hq]at u ⊢;have q:=Aq (h.alloc (.cells #[Aj op,Aj x] 96));have s:=Aq ((qP B w).alloc g (.cells #[Aj op,Aj x] 96));have hL:=Aq ((Yo _ B bb pv cv ps aA q.o (by simp;omega) (by omega) op x (next-1) (next-2)).mono fun _ _ y=>cI.bQ s.o y);have m:=h.aG.lt;clear h c d hq M Q X;go_enter Tryz.func66,Tryz.ntmps66;go_wp2_with fail
  refine hL.o.mono ?_;intro e f y;have z:=Aq y;obtain⟨rfl,_⟩:=y;go_wp2;go_end0;exact z.o
theorem Ub {α:Type}:∀(ls:List (List α)) (u:Nat) (r:α) (q:List α),ls[u]?=some (r::q)→ls.flatten[(ls.take u).flatten.length]?=some r∧∀r',ls.flatten.set (ls.take u).flatten.length r'=(ls.set u (r'::q)).flatten
 | [],u,r,q,h=>by simp at h
 |l::ls,0,r,q,h=>by
  simp only[Ay,Bw]at h;subst h;exact⟨by simp,fun r'=>by simp⟩
 |l::ls,u+1,r,q,h=>by
  simp only[Ba]at h;obtain⟨y,x⟩:=Ub ls u r q h;refine⟨?_,fun r'=>?_⟩
  ·simp only[pP,oY,Ca];rw[Dv (by omega),pw];exact y
  ·simp only[pP,oY,Ca,oE];rw[oS _ _ (by omega),pw,x]
theorem Ka:∀(l:List Sr.bE)(i:Nat)(r:Sr.bE)(v:Int),l[i]?=some r→Ch (l.set i { r with n:=v })=(Ch l).set (i*5+4) (Aj v)
 | [],i,r,v,h=>by simp at h
 |x::l,0,r,v,h=>by
  simp only[Ay,Bw]at h;subst h;rfl
 |x::l,i+1,r,v,h=>by
  simp only[Ba]at h;have:=Ka l i r v h;rw[show (i+1)*5+4=(i*5+4)+1+1+1+1+1 by omega];simp only[oE,Ch,this]
theorem eG.grown {B:Nat}{w W W':World}{row:Option Nat}(h:eG B w W)(x:W.grownBy W' row)(q:B≤w.heap.size)(y:∀r,row=some r→w.heap.size≤r):eG B w W' :=
 ⟨h.below.grown x (by have:=h.below.size;omega) (fun r e=>by have:=y r e;omega),fun i t cs v e k u=>by
  have z:=h.aQ i t cs v e k u;exact(x.block i (bO.1 z).1 (fun p=>by have:=y i p.symm;have:=(bO.1 e).1;omega)).trans z⟩
theorem af.frT {N0:Nat}{α:Type}{R:Repr N0 α}{t:TypeId}{B:Nat}{w w':World}{A:Option Addr}{l:List α}(h:af R t w w.heap.size A l)(y:eG B w w')(p:N0=0)(v:86 ∉ t::R.da)(z:50 ∉ t::R.da):af R t w' w'.heap.size A l :=
 (h.aQ fun g t' xs u _ x k=>by
  rcases x with x|x
  ·omega
  ·exact y.aQ g t' xs u k (fun e=>v (e ▸ x)) (fun e=>z (e ▸ x))).aY y.below.size
theorem fN.grown {w w':World}{B bb:Nat}{pv cv:Value}{ps:List Bu.aq}{aA:List Sr.bE}(h:fN w B bb pv cv ps aA){v:Value}{n size aN:Nat}{t:TypeId}{xs:List Value}(k:w.ownsRow aN t size v n xs)(z:w.grownBy w' v.ownBlock) (p:t ∉ [86,50,89,145]):fN w' B bb pv cv ps aA:=by
 simp only[If,not_or,eq,not_false_eq_true,and_true]at p;obtain⟨d,q,r,s⟩:=p;refine⟨h.aG.grown z fun e=>?_,?_,Cx h.aA z (Ds h.aA k (fun e=>q e.symm)),h.aN,h.f_⟩
 ·obtain⟨_,_,cs,y⟩:=Bg k e.symm;exact h.aG.dF y (fun e=>d e.symm) rfl
 ·obtain⟨A,c,e,f⟩:=h.ps;refine⟨A,c,e,(f.aQ fun g t' xs' i _ x u=>?_).aY z.size⟩;rw[z.block g (bO.1 u).1 (fun a=>?_)]
  ·exact u
  ·obtain⟨_,_,cs,y⟩:=Bg k a.symm;unfold aH at y;rw[u]at y
   injection y with y
   injection y with _ b
   subst b;rcases x with x|x
   ·omega
   ·simp only[Ll,kQ,Repr.map,Repr.bi,Repr.row,Repr.int,oO,If,eq,or_false]at x;rcases x with x|x
    ·exact r x
    ·exact s x
theorem fN.iy {w:World}{B bb:Nat}{pv cv:Value}{ps:List Bu.aq}{aA:List Sr.bE}(h:fN w B bb pv cv ps aA){g:Nat}(x:cv.ownBlock=some g){i:Nat}{r:Sr.bE} (u:aA[i]?=some r) (v:Int) :
  fN (w.setCell ⟨g,i*5+4,none⟩ (Aj v)) B bb pv cv ps (aA.set i { r with n:=v })∧eG B w (w.setCell ⟨g,i*5+4,none⟩ (Aj v)):=by
 obtain⟨_,_,cs,y⟩:=Bg h.aA x;have hi:=(aS.1 u).1;have z:eG B w (w.setCell ⟨g,i*5+4,none⟩ (Aj v)):=⟨(ny B w).setCell (p:=⟨g,i*5+4,none⟩) (h.f_ g x) _,fun k t a s e b q=>Hm y _ _ k t a s (fun e=>q e.symm) e⟩;refine⟨⟨?_,h.ps.fr z,?_,h.aN,h.f_⟩,z⟩
 ·exact h.aG.cZ (p:=⟨g,i*5+4,none⟩) (h.aG.dF y (by decide)) _
 ·have:=Ee h.aA x (j:=i*5+4) (by rw[Kz];omega) (Aj v);rw[←Ka aA i r v u]at this
  simpa using this
namespace Bu
def aG (body:List Sr.bE)(loops:Int)(u k:Nat):List Sr.bE:=⟨41,0,32+loops,(k:Int),if k<u then(16-(k:Int))*(1+body.length)-1 else 0⟩::body
def lp (body:List Sr.bE)(bm loops:Int)(t u:Nat):List Sr.bE:=⟨40,32+loops,bm,0,0⟩::((List.range t).map (aG body loops u)).flatten
theorem js (body:List Sr.bE)(bm loops:Int):lp body bm loops 16 16=eJ body bm loops:=by
 unfold lp eJ;rw[qC]
 congr 2
theorem lR (body:List Sr.bE)(bm loops:Int)(t:Nat):lp body bm loops (t+1) 0=lp body bm loops t 0++[⟨41,0,32+loops,(t:Int),0⟩]++body:=by
 unfold lp;rw[od,oq,pQ];simp[aG]
theorem Qc (body:List Sr.bE)(loops:Int)(u:Nat):∀(l:List Nat),((l.map (aG body loops u)).flatten).length=l.length*(1+body.length)
 | []=>by simp
 |k::l=>by
  rw[oD,oY,Ca,Qc body loops u l,Bp,oZ];unfold aG;rw[Bp];omega
theorem jc (body:List Sr.bE)(bm loops:Int)(t u:Nat):(lp body bm loops t u).length=1+t*(1+body.length):=by
 unfold lp;rw[Bp,Qc,qc];omega
theorem nG (body:List Sr.bE)(bm loops:Int)(t u:Nat)(h:u<t):(lp body bm loops t u)[1+u*(1+body.length)]?=some ⟨41,0,32+loops,(u:Int),0⟩ ∧
  (lp body bm loops t u).set (1+u*(1+body.length)) ⟨41,0,32+loops,(u:Int),(16-(u:Int))*(1+body.length)-1⟩=lp body bm loops t (u+1):=by
 have s:((List.range t).map (aG body loops u))[u]?=some (⟨41,0,32+loops,(u:Int),0⟩::body):=by
  rw[Cd,oa h];simp[aG]
 obtain⟨p,v⟩:=Ub _ u _ _ s;have r:(((List.range t).map (aG body loops u)).take u).flatten.length=u*(1+body.length):=by
  rw[←pK,Qc,Du,qc,pp (by omega)]
 rw[r]at p v;unfold lp;rw[show 1+u*(1+body.length)=u*(1+body.length)+1 by omega];refine⟨by simpa using p,?_⟩;rw[oE,v]
 congr 2
 refine oJ fun k=>?_
 rw[Jc];by_cases y:u=k
 ·subst y;rw[if_pos rfl,if_pos (by simpa using h),Cd,oa h];simp[aG]
 ·rw[if_neg y,Cd,Cd];cases x:(List.range t)[k]? with
  |none=>rfl
  |some j =>
   have q:j=k:=by
    have z:=(aS.1 x).1;rw[qc]at z;rw[oa z]at x
    injection x with x
    exact x.symm
   subst q;simp only[oH,Bw,aG];have:(j<u)=(j<u+1):=by
    apply propext;omega
   simp only[this]
def fR (n0 m:Nat)(t:Nat):List Int:=(List.range t).map fun k=>((n0+1+k*(1+m):Nat):Int)
theorem jU (n0 m t:Nat):fR n0 m (t+1)=fR n0 m t++[((n0+1+t*(1+m):Nat):Int)]:=by unfold fR;rw[od,oq];rfl
theorem ks (n0 m t k:Nat)(h:k<t):(fR n0 m t)[k]?=some ((n0+1+k*(1+m):Nat):Int):=by unfold fR;rw[Cd,oa h];rfl
end Bu
def LoI (w:World)(B bb:Nat)(pv:Value)(ps:List Bu.aq)(aA body:List Sr.bE)(bm loops:Int)(A:Option Addr)(n c:Nat)(z:Int)(v i:Value)(wr:World):Prop :=
 ∃(t:Nat) (cv:Value),t≤16∧i=Aj (t:Int)∧wr.ownsRow w.heap.size 3 1 v t (ae (Bu.fR aA.length body.length t))∧fN wr B bb pv cv ps (aA++Bu.lp body bm loops t 0)∧eG B w wr∧aH wr w.heap.size 89 #[.slice A n c,Aj z]
def LoJ (w:World)(B bb:Nat)(pv:Value)(ps:List Bu.aq)(aA body:List Sr.bE)(bm loops:Int)(v i:Value)(wr:World):Prop :=
 ∃(u:Nat) (cv:Value),u≤16∧i=Aj (u:Int)∧wr.ownsRow w.heap.size 3 1 v 16 (ae (Bu.fR aA.length body.length 16))∧fN wr B bb pv cv ps (aA++Bu.lp body bm loops 16 u)∧eG B w wr
theorem Zdo (es:List Bu.cU)(ps:List Bu.aq)(j:Nat)(hE:Wp es ps j):Zht es ps j:=by
 intro w B bb pv cv aA p A c bm x hp h hB x1 x5 a0 z4;generalize hr:Bu.em es j bm (x+1)=body at *;have s:=Bu.jc body bm x 16 16;rw[Bu.js]at s;have v0:=Aq (Bu.js body bm x);have y9:=Aq x1;have HE:=Aq (fun W z8 fU v7 hW m hl=>hE W B bb pv z8 fU p A c bm (x+1) hp v7 hW m x5 hl);have y8:=Aq hr;have HA:=Aq (h.alloc (.cells #[.slice A p.steps.length c,Aj p.size] 89));have FA:=Aq ((qP B w).alloc hB (.cells #[.slice A p.steps.length c,Aj p.size] 89));have b:=Aq (qG w 89 #[.slice A p.steps.length c,Aj p.size]);obtain⟨i0,v5,z7,z3,v9⟩:=Fe Hv;obtain⟨a9,a2,b1,b6⟩:=x5;have hz:=h.aG.lt;rw[s]at z4;clear h x1 hE hp hr s;go_enter Tryz.func89,Tryz.ntmps89;go_wp2_with fail
 refine(Ey _ B bb pv cv ps aA HA.o (by simp;omega) (by omega) ⟨40,32+x,bm,0,0⟩).mono ?_;rintro e w1⟨rfl,⟨v1,ct⟩,L⟩;have y7:Hid (LoI w B bb pv ps aA body bm x A p.steps.length c p.size (.slice none 0 0) (Aj 0) w1):=Aq ⟨0,v1,by omega,rfl,Eo _ _ _ _,by simpa [Bu.lp]using ct,FA.o.trans L,L.aG b.o (by decide) (by decide)⟩;clear ct L HA FA b;go_wp2_with fail
 go_loopw [9,20] (fun v i wr=>LoI w B bb pv ps aA body bm x A p.steps.length c p.size v i wr) (fun _ i _=>16-(intOf i).toNat)
 case atStart=>exact y7.o
 case round =>
  clear y7;obtain⟨t,z6,ht,rfl,k,y,q,R⟩:=hrel;have l:=Bu.jc body bm x t 0;by_cases Y:t<16
  ·obtain⟨Ac,cc,D,v6,_⟩:=Bc y.aA;subst D;obtain⟨At,d,f,_,_⟩:=Bc k;subst f;have s:(aA++Bu.lp body bm x t 0).length=aA.length+1+t*(1+body.length):=by rw[Ca,l];omega
   have E:t*(1+body.length)+(1+body.length)≤16*(1+body.length):=by
    rw[←oZ];exact pD _ (by omega)
   have a:=y.aG.cell 1;simp only[Az,Ay,Ba]at a;rw[s]at a;have z0:=y.aG.lt;have H:=Aq (k.alloc (.cells #[Aj ((aA.length+1+t*(1+body.length):Nat):Int)] 3));have HL:=Aq (y.alloc (.cells #[Aj ((aA.length+1+t*(1+body.length):Nat):Int)] 3));have HF:=Aq (q.alloc (by have:=q.below.size;omega) (.cells #[Aj ((aA.length+1+t*(1+body.length):Nat):Int)] 3));have b:=Aq (R.alloc (.cells #[Aj ((aA.length+1+t*(1+body.length):Nat):Int)] 3));have y3:=Aq s;have a8:=q.below.size;generalize hM:aA.length+1+t*(1+body.length)=M at *;have HM:=Aq hM;have b5:M+(1+body.length)≤1000000:=by omega
   clear s k y q R l E hM;go_wp2_with (at_builtin;refine Cp _ rfl (.tmp 23) (.tmp 29) _ rfl w.heap.size 3 i0 _ 1 8 Tryz.underlying22 v5 z7 z3 v9 rfl (show 0<1 by decide) (.slice At t d) t _ rfl H.o _ _ 1 1 [Aj (M:Int)] rfl (qM (cs:=[Aj (M:Int)]) (qG _ _ _) 1 1 rfl) (by simp[Value.oneCell']) (by unfold maxLen;omega) (by omega) (by simp;omega) ?_;intro v' w2 V Q v8)
   have x4:=HL.o.grown H.o Q (by decide);have N:=HF.o.grown Q hB (fun r e=>(Bg H.o e).1);have y4:=b.o.grown Q fun e=>by have:=(Bg H.o e.symm).2.2;obtain⟨cs,z⟩:=this;exact b.o.dF z (by decide) rfl
   obtain⟨Av,x7,v3,_⟩:=Bc V;subst v3;have y0:(ae (Bu.fR aA.length body.length t)++[Aj (M:Int)]:List Value)=ae (Bu.fR aA.length body.length (t+1)):=by
    rw[Bu.jU,HM.o];unfold ae;simp
   rw[y0]at V;have S:=Aq V;have y5:=Aq N;have c1:=Aq y4;have b7:=N.below.size;refine(Ey _ B bb pv _ ps _ x4 (by omega) (by rw[y3.o];omega) ⟨41,0,32+x,(t:Int),0⟩).mono ?_;rintro e w3⟨rfl,⟨b2,x8⟩,U⟩;have P:=y5.o.trans U;have n:=U.aG c1.o (by decide) (by decide);have y1:w3.ownsRow w.heap.size 3 1 (.slice Av (t+1) x7) (t+1) (ae (Bu.fR aA.length body.length (t+1))):=Dd S.o fun g e=>by
    obtain⟨_,_,cs,z⟩:=Bg S.o e;exact(U.aG z (by decide) (by decide)).trans z.symm
   have HC:=Aq (HE.o w3 _ _ x8 (by have:=P.below.size;omega) (y9.o.frT P rfl (by decide) (by decide)) (by rw[y8.o,Ca,y3.o,om];omega));have y6:=Aq P;have J:=Aq y1;have x2:=Aq n;have p0:=n.cell 0;have p1:=n.cell 1;simp only[Az,Ay,Ba]at p0 p1;have v2:=n.lt;clear x4 N y4 V Q v8 y0 x8 U P y1 n HL HF b H S y5 c1 a z0;go_wp2_with fail
   refine HC.o.mono ?_;rintro e w4⟨rfl,⟨z2,F⟩,Z⟩;have HR:Hid (LoI w B bb pv ps aA body bm x A p.steps.length c p.size (.slice Av (t+1) x7) (Aj ((t:Int)+1)) w4):=Aq ⟨t+1,z2,by omega,by simp,Dd J.o fun g e=>by
    obtain⟨_,_,cs,z⟩:=Bg J.o e;exact(Z.aG z (by decide) (by decide)).trans z.symm,by
    rw[Bu.lR];rw[y8.o]at F
    simpa using F,y6.o.trans Z,Z.aG x2.o (by decide) (by decide)⟩
   clear F Z HC y6 J x2 p0 p1 v2;go_wp2;go_roundw
   case rel=>exact HR.o
   case measure=>simp[intOf];omega
  ·obtain rfl:t=16:=by omega
   obtain⟨At,d,f,_,_⟩:=Bc k;subst f;have hL:Hid (LoJ w B bb pv ps aA body bm x (.slice At 16 d) (Aj 0) wr):=Aq ⟨0,z6,by omega,rfl,k,y,q⟩;clear k y q R l Y ht HE y9;go_wp2_with fail
   rw[show ((16:Nat):Int)=16 from rfl];go_loopw [45] (fun i wr=>LoJ w B bb pv ps aA body bm x (.slice At 16 d) i wr) (fun i _=>16-(intOf i).toNat)
   case atStart=>exact hL.o
   case round =>
    clear hL;obtain⟨u,z5,hu,rfl,k,y,q⟩:=hrel;by_cases Y:u<16
    ·have l:=Bu.jc body bm x 16 u;obtain⟨x9,hb⟩:=Bu.nG body bm x 16 u Y;have E:u*(1+body.length)+(1+body.length)≤16*(1+body.length):=by
      rw[←oZ];exact pD _ (by omega)
     have I:((aA.length+(1+16*(1+body.length)):Nat):Int)-((aA.length+(1+u*(1+body.length)):Nat):Int)-1=(16-(u:Int))*(1+body.length)-1:=by
      have hI:(u:Int)*(1+(body.length:Int))=((u*(1+body.length):Nat):Int):=by simp
      rw[Int.sub_mul,hI];generalize u*(1+body.length)=X;omega
     have s:(aA++Bu.lp body bm x 16 u).length=aA.length+(1+16*(1+body.length)):=by rw[Ca,l]
     obtain⟨g,cc,D,v6,_,a6,hF⟩:=Cf y.aA (by omega);subst D;have m:(aA++Bu.lp body bm x 16 u)[aA.length+(1+u*(1+body.length))]?=some ⟨41,0,32+x,(u:Int),0⟩:=by
      rw[Dv (by omega),pw];exact x9
     obtain⟨O,v4⟩:=y.iy rfl m ((16-(u:Int))*(1+body.length)-1);have C:(aA++Bu.lp body bm x 16 u).set (aA.length+(1+u*(1+body.length))) ⟨41,0,32+x,(u:Int),(16-(u:Int))*(1+body.length)-1⟩=aA++Bu.lp body bm x 16 (u+1):=by
      rw[oS _ _ (by omega),pw,hb]
     simp only at O;rw[C]at O;obtain⟨gt,z1,f,_,_,b4,hN⟩:=Cf k (by omega);have x0:=hN _ _ (Cn (Bu.ks aA.length body.length 16 u Y));obtain⟨rfl,rfl⟩:At=some ⟨gt,0,none⟩∧d=z1:=by simpa using f
     clear f;have a:=y.aG.cell 1;simp only[Az,Ay,Ba]at a;rw[s]at a;have d4:=hF _ _ (Ga _ _ _ m).2.2.2.2;have fz:wr.frozen? ⟨g,(aA.length+(1+u*(1+body.length)))*5+4,none⟩=false:=by
      obtain⟨_,_,cs,z⟩:=Bg y.aA (g:=g) rfl;exact z.frozen _
     rw[show aA.length+1+u*(1+body.length)=aA.length+(1+u*(1+body.length)) by omega]at x0;have x3:Hid (LoJ w B bb pv ps aA body bm x (.slice (some ⟨gt,0,none⟩) 16 d) (Aj ((u:Int)+1)) (wr.drew.setCell ⟨g,(aA.length+(1+u*(1+body.length)))*5+4,none⟩ (Aj ((16-(u:Int))*(1+body.length)-1)))):=by
      obtain⟨G,x6⟩:=y.drew.iy rfl m ((16-(u:Int))*(1+body.length)-1);simp only at G;rw[C]at G;refine Aq ⟨u+1,_,by omega,by simp,Dd k fun g' e=>?_,G,q.trans (((qP B wr).drew).trans x6)⟩;obtain⟨_,_,cs,z⟩:=Bg k e;exact(x6.aG (w:=wr.drew) z (by decide) (by decide)).trans z.symm
     have z0:=y.aG.lt;clear O v4 C x9 hb s m hF hN k y q l;generalize y2:aA.length+(1+u*(1+body.length))=aL at *;generalize T:aA.length+(1+16*(1+body.length))=fm at *;have z9:aL<fm∧fm≤1000000:=by omega
     obtain⟨b3,a3⟩:=z9;have a7:=Aq y2;have b0:=Aq T;clear y2 T E;generalize (16-(u:Int))*(1+body.length)-1=vv at *;have a5:=Aq I;have a4:IntKind.i64.wrap ((fm:Int)-(aL:Int))=(fm:Int)-aL:=Do _ (by omega);have a1:IntKind.i64.wrap ((fm:Int)-(aL:Int)-1)=vv:=by rw[Do _ (by omega)];exact I
     clear I;go_wp2_with fail
     have hS:wr.drew.cell? ⟨bb,1,none⟩=some (.slice (some ⟨g,0,none⟩) fm cc):=a;refine Cv [15] [3,8] [] 16 (fun wq:World=>wq.cell? ⟨bb,1,none⟩=some (.slice (some ⟨g,0,none⟩) fm cc)) ?_
     iterate 15 (first|refine Be ?_|refine Bj hS ?_)
     refine Bi fun K hK=>?_;go_simp
     refine Bh hK ?_;clear hK K;refine Bb ?_;go_wp2;go_roundw
     case rel=>first|exact x3.o|((repeat apply Exists.intro);exact⟨x3.o,rfl⟩)
     case measure=>simp[intOf];omega
    ·obtain rfl:u=16:=by omega
     have HP:Hid (cI w B bb pv ps (aA++Bu.eJ body bm x) (.returned (.tuple #[])) wr):=Aq ⟨rfl,⟨z5,by rw[←v0.o];exact y⟩,q⟩;clear k y q;go_wp2;go_end0;exact HP.o
end
section
namespace Bu
section
variable (ls : List (List Sr.bE)) (st : List PS)
def fl (P:Nat→Bool):List (List Sr.bE):=(List.range st.length).map fun k=>if P k then fixed ls st k else ls.getD k []
theorem Zfe (l:List Sr.bE)(n:Int):(iy l n).length=l.length:=by cases l <;> rfl
theorem gQ (k:Nat):(fixed ls st k).length=(ls.getD k []).length:=by
 unfold fixed;simp only;split
 ·split
  ·exact Zfe _ _
  ·rfl
 ·rfl
theorem iq (h:ls.length=st.length):fl ls st (fun _=>false)=ls:=by
 unfold fl;refine oJ fun k=>?_
 rw[Cd];by_cases x:k<st.length
 ·rw[oa x,Bf (by omega)];simp[Bo,Bf (show k<ls.length by omega)]
 ·rw[ge (by simpa using x),ge (by omega)];rfl
theorem Zct (P:Nat→Bool):(fl ls st P).map List.length=(fl ls st fun _=>false).map List.length:=by
 unfold fl;rw[qa,qa];refine pE fun k _=>?_
 simp only[Function.comp];split
 ·rw[gQ];rfl
 ·rfl
theorem Ge {α:Type}:∀(a:List (List α)),a.flatten.length=(a.map List.length).sum
 | []=>rfl
 |x::a=>by rw[oY,Ca,oD,List.sum_cons,Ge a]
theorem Zgo (h:ls.length=st.length)(P:Nat→Bool)(u:Nat):((fl ls st P).take u).flatten.length=aZ ls u:=by
 unfold aZ;rw[Ge,Ge,pK,pK,Zct,iq ls st h]
theorem kh (h:ls.length=st.length)(P:Nat→Bool):(fl ls st P).flatten.length=ls.flatten.length:=by
 rw[Ge,Ge,Zct,iq ls st h]
theorem mr (P:Nat→Bool)(i:Nat)(hi:i<st.length):(fl ls st P).set i (fixed ls st i)=fl ls st fun k=>P k || k==i:=by
 unfold fl;refine oJ fun k=>?_
 rw[Jc,Cd];by_cases y:i=k
 ·subst y;rw[if_pos rfl,if_pos (by simpa using hi),Cd,oa hi];simp
 ·rw[if_neg y,Cd];cases x:(List.range st.length)[k]? with
  |none=>rfl
  |some j =>
   have u:j=k:=by
    have z:=(aS.1 x).1;rw[qc]at z;rw[oa z]at x
    injection x with x
    exact x.symm
   subst u;have:¬ j=i:=fun e=>y e.symm
   simp[this]
theorem gH (a b:Nat)(h:a≤b):aZ ls a≤aZ ls b:=by
 unfold aZ;have:ls.take a=(ls.take b).take a:=by rw[List.take_take,pp h]
 rw[this];have x:=congrArg (fun l=>l.flatten.length) (List.take_append_drop a (ls.take b));simp only[pQ,Ca]at x;omega
theorem fV (b:Nat):aZ ls b≤ls.flatten.length:=by
 unfold aZ;have x:=congrArg (fun l=>l.flatten.length) (List.take_append_drop b ls);simp only[pQ,Ca]at x;omega
theorem dO {i:Nat}{l:List Sr.bE} (h:ls[i]?=some l):aZ ls (i+1)=aZ ls i+l.length∧(ls.take (i+1)).flatten=(ls.take i).flatten++l:=by
 have e:ls.take (i+1)=ls.take i++[l]:=by rw[oC,h];rfl
 unfold aZ;rw[e,pQ];exact⟨by simp,by simp⟩
def az (i:Nat):List Nat:=(List.range i).filter fun k=>match st[k]? with|some s=>cR s.op|none=>false
theorem Xv (i:Nat){s:PS} (h:st[i]?=some s):az st (i+1)=az st i++(if cR s.op then[i] else[]):=by
 unfold az;rw[od,List.filter_append];simp only[List.filter_cons,List.filter_nil,h]
theorem gK {i k:Nat}:k∈az st i↔k<i∧∃s,st[k]?=some s∧cR s.op=true:=by
 unfold az;rw[List.mem_filter,List.mem_range];refine and_congr_right fun _=>?_
 cases st[k]? with
 |none=>simp
 |some s=>simp
theorem iW (i:Nat):(az st i).length≤i:=by
 unfold az;have:=List.length_filter_le (fun k=>match st[k]? with|some s=>cR s.op|none=>false) (List.range i)
 simpa using this
theorem Tt (i:Nat):(az st i).Nodup:=List.Pairwise.filter _ List.nodup_range
def cH (n0:Nat)(i:Nat):List (Nat×Nat):=(az st i).map fun k=>(n0+aZ ls k,(st.getD k ⟨0,0,0,0⟩).go)
theorem gT (n0 i:Nat){s:PS} (h:st[i]?=some s):cH ls st n0 (i+1)=cH ls st n0 i++(if cR s.op then[(n0+aZ ls i,s.go)] else[]):=by
 unfold cH;rw[Xv st i h,oq];split
 ·simp[Bo,h]
 ·simp
theorem jo (h:ls.length=st.length):(fl ls st fun k=>(az st st.length).contains k).flatten=(List.range st.length).flatMap (fixed ls st):=by
 rw[qC]
 congr 1
 unfold fl;refine pE fun k x=>?_
 have x:=List.mem_range.1 x;split
 ·rfl
 ·rename_i z;unfold fixed;rw[Bf x];simp only;have u:¬ cR (st[k]).op=true:=fun y=>z (by
   rw[List.contains_iff_mem];exact(gK st).2 ⟨x,_,Bf x,y⟩)
  rw[if_neg u]
end
theorem jT {es:List cU}{p:aq}{aC loops:Int}{i:Nat}{s:PS} (h:p.steps[i]?=some s) (x:cR s.op=true) :
  ∃r,(bZ es p aC loops)[i]?=some [r]∧fixed (bZ es p aC loops) p.steps i=[{ r with n:=(aZ (bZ es p aC loops) s.go:Int)-aZ (bZ es p aC loops) i-1 }]:=by
 have y:(bZ es p aC loops)[i]?=some (bD es (s.op,s.a) (aC+s.aC) loops):=by
  unfold bZ;rw[Cd,h];rfl
 have u:∃r,bD es (s.op,s.a) (aC+s.aC) loops=[r]:=by
  unfold cR at x;simp only[decide_eq_true_eq]at x;rcases x with x|x
  ·rw[x];exact⟨_,rfl⟩
  ·rw[x];exact⟨_,rfl⟩
 obtain⟨r,z⟩:=u;rw[z]at y;refine⟨r,y,?_⟩;unfold fixed;simp only[h,x,if_true,Bo,y,oK];rfl
theorem eB (es:List cU)(p:aq)(aC loops:Int):(bZ es p aC loops).length=p.steps.length:=by unfold bZ;simp
theorem iY (es:List cU)(p:aq)(aC loops:Int):(cG es p aC loops).length=(bZ es p aC loops).flatten.length:=by
 unfold cG;simp only;rw[←jo _ _ (eB es p aC loops)];exact kh _ _ (eB es p aC loops) _
end Bu
end
end Go.Proofs.YtnhebmgibiomnaaGreat

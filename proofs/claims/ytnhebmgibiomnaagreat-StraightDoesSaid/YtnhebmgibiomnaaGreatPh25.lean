import Derived.Test.YtnhebmgibiomnaaGreatPh23
import Derived.Test.YtnhebmgibiomnaaGreatPh24
set_option linter.unusedVariables false
set_option linter.unusedSimpArgs false
set_option maxRecDepth 100000
set_option maxHeartbeats 8000000
namespace Go.Proofs.YtnhebmgibiomnaaGreat
section
open Go.RowKit Mc
namespace Sr
theorem iX {n m k:Nat}{s:St}(r:bE)(h:Mr.Sz n m k s.m):Mr.Sz n m k (deed r s).m:=by
 unfold deed;simp only;split <;> (first|exact h.same ⟨rfl,rfl,rfl,rfl,rfl,rfl⟩|skip)
 ·exact⟨h.aT,h.aF,h.aB,h.aJ,by show (Ip _ _ _).length=_;rw[Mr.gi];exact h.aP,h.store⟩
 ·exact⟨h.aT,h.aF,h.aB,h.aJ,h.aP,by show (Ip _ _ _).length=_;rw[Mr.gi];exact h.store⟩
 ·split
  ·exact Mr.fN h _ _ _
  ·exact h
 ·split
  ·exact Mr.fN h _ _ _
  ·exact h
 ·split
  ·exact Mr.fN h _ _ _
  ·exact h
 ·exact⟨h.aT,by show (Nf s.m _).aF.length=_;rw[Mr.iW];exact h.aF,h.aB,h.aJ,h.aP,h.store⟩
 ·unfold bv;split <;> exact h
 ·unfold bv;split <;> exact h
theorem Zm {n m k:Nat}(aA:List bE):∀(j:Nat) (s:St),Mr.Sz n m k s.m→Mr.Sz n m k (runs j aA s).m
 |0,_,h=>h
 |j+1,s,h=>by
  rw[runs];split
  ·exact h
  ·exact Zm aA j _ (iX _ h)
theorem i_ (aA:List bE)(aP:List Int)(size:Int)(z:Zn):Mr.Sz z.aF.length z.aJ.length aP.length (run aA aP size z).m :=
 Zm aA _ _ ((Mr.jC ⟨[],[],aP,0⟩ z).same ⟨rfl,rfl,rfl,rfl,rfl,rfl⟩)
structure fv where
 zn:Zn
 cv:List Int
 st:List Int
 sk:List Int
 steps:Nat
 bp:Int
def gX (t:Mc.St):fv:=⟨⟨t.aT,t.aF,t.aB,t.aJ⟩,t.aP,t.store,t.stack.reverse,t.steps,0⟩
def out (aA:List bE)(aP:List Int)(size:Int)(z:Zn):fv :=
 if right aA then gX (eN (run aA aP size z) (bk aA)) else⟨⟨[],[],[],[]⟩,[],[],[],0,50⟩
structure OutOk (o:fv):Prop where
 zn:eu o.zn
 cv:o.cv.length≤1000000
 st:o.st.length≤1000000
 sk:o.sk.length≤1000000
theorem mh (aA:List bE)(aP:List Int)(size:Int)(z:Zn)(y:eu z)(q:aP.length≤1000000):OutOk (out aA aP size z):=by
 unfold out;by_cases h:right aA=true
 ·rw[if_pos h];have k:=i_ aA aP size z;have x:=y.aF;have u:=y.aJ;have a:=Nl h aP size z;obtain⟨_,_,_,c,b⟩:=Lw h;have s:(gX (eN (run aA aP size z) (bk aA))).zn=⟨(run aA aP size z).m.aT,(run aA aP size z).m.aF,(run aA aP size z).m.aB,(run aA aP size z).m.aJ⟩:=rfl;have p:(gX (eN (run aA aP size z) (bk aA))).cv=(run aA aP size z).m.aP:=rfl;have v:(gX (eN (run aA aP size z) (bk aA))).st=(run aA aP size z).m.store:=rfl;have r:(gX (eN (run aA aP size z) (bk aA))).sk.length=(eN (run aA aP size z) (bk aA)).stack.length:=oN ..;refine⟨?_,by rw[p,k.aP];exact q,by rw[v,k.store];decide,by rw[r];omega⟩;rw[s];exact⟨by show (run aA aP size z).m.aT.length≤_;rw[k.aT];exact x,by show (run aA aP size z).m.aF.length≤_;rw[k.aF];exact x,by show (run aA aP size z).m.aB.length≤_;rw[k.aB];exact x,by show (run aA aP size z).m.aJ.length≤_;rw[k.aJ];exact u⟩
 ·rw[if_neg h];exact⟨⟨by simp,by simp,by simp,by simp⟩,by simp,by simp,by simp⟩
theorem Zaq {aA:List bE}(h:right aA=true)(aP:List Int)(size:Int)(z:Zn):(out aA aP size z).bp=0∧(out aA aP size z).steps<aA.length∧((out aA aP size z).sk.length:Int)=(aA.getD (aA.length-1) jz).n:=by
 unfold out;rw[if_pos h];exact⟨rfl,Zs h aP size z,by rw[←Nl h aP size z];show ((List.reverse _).length:Int)=_;rw[oN]⟩
end Sr
structure iO (Y:World) (o:Sr.fv) (A1 A2 A3 A4 A5 A6 A7:Option Addr):Prop where
 zn:cz Y Y.heap.size o.zn A1 A2 A3 A4
 cv:aE Y Y.heap.size 1 A5 o.cv.length (ae o.cv)
 st:aE Y Y.heap.size 1 A6 o.st.length (ae o.st)
 sk:aE Y Y.heap.size 1 A7 o.sk.length (ae o.sk)
section
variable {aA : List Sr.bE} {aP : List Int} {size : Int} {z : Zn} {A fA mA cA oA uA tA eA : Option Addr} {c fn fc mn mc cc oc uc tc ec : Nat}
theorem cz.go {X Y:World}(h:cz X X.heap.size z oA uA tA eA)(x:Below X.heap.size X Y):cz Y Y.heap.size z oA uA tA eA:=⟨qA h.aT x,qA h.aF x,qA h.aB x,qA h.aJ x⟩
end
theorem iO.go {X Y:World}{o:Sr.fv}{v u z q p k y:Option Addr}(h:iO X o v u z q p k y)(x:Below X.heap.size X Y):iO Y o v u z q p k y:=⟨cz.go h.zn x,qA h.cv x,qA h.st x,qA h.sk x⟩
theorem Zjw (X:World)(aA:List Sr.bE)(aP:List Int)(size:Int)(z:Zn)(A fA mA cA oA uA tA eA:Option Addr)(c fn fc mn mc cc oc uc tc ec:Nat) (u:aE X X.heap.size 5 A aA.length (Cg aA)) (x:aE X X.heap.size 1 cA aP.length (ae aP)) (y:cz X X.heap.size z oA uA tA eA) (H:aP.length≤1000000) (i:eu z) (R:aA.length≤1000000) :
  Calls Tryz.prog 17 #[.slice A aA.length c,(.agg #[.slice fA fn fc,.slice mA mn mc,.slice cA aP.length cc,Aj size]),(.agg #[.slice oA z.aT.length oc,.slice uA z.aF.length uc,.slice tA z.aB.length tc,.slice eA z.aJ.length ec])] X fun e Y=>∃(k p v s b q a:Option Addr) (d c2 c3 c4 c5 c6 c7:Nat),e=.returned (.agg #[.slice k (Sr.out aA aP size z).zn.aT.length d,.slice p (Sr.out aA aP size z).zn.aF.length c2,.slice v (Sr.out aA aP size z).zn.aB.length c3,.slice s (Sr.out aA aP size z).zn.aJ.length c4,.slice b (Sr.out aA aP size z).cv.length c5,.slice q (Sr.out aA aP size z).st.length c6,.slice a (Sr.out aA aP size z).sk.length c7,Aj (Sr.out aA aP size z).steps,Aj 0,Aj (Sr.out aA aP size z).bp]) ∧
   iO Y (Sr.out aA aP size z) k p v s b q a∧Below X.heap.size X Y:=by
 have m:aA.length≤1000000000000:=by omega
 cases r:Sr.right aA
 ·refine(Zo X aA A c aP size z H i m fA mA cA oA tA eA uA fn fc mn mc cc oc tc ec uc u x y r).mono ?_;unfold Sr.out;rw[if_neg (by rw[r];simp)];rintro e Y⟨rfl,f⟩;exact⟨none,none,none,none,none,none,none,0,0,0,0,0,0,0,rfl,⟨⟨qy,qy,qy,qy⟩,qy,qy,qy⟩,f⟩
 ·refine(Uo X aA A c aP size z H i m fA mA cA oA tA eA uA fn fc mn mc cc oc tc ec uc u x y r).mono ?_;have Z:=(Sr.i_ aA aP size z).store;unfold Sr.out;rw[if_pos r];have n:(Sr.eN (Sr.run aA aP size z) (Sr.bk aA)).store.length=32:=Z;have P:(Sr.eN (Sr.run aA aP size z) (Sr.bk aA)).aL=0:=rfl;have V:(Sr.eN (Sr.run aA aP size z) (Sr.bk aA)).bp=0:=rfl;generalize Sr.eN (Sr.run aA aP size z) (Sr.bk aA)=T at *;rintro e Y⟨S,C,B,en,cv,st,sk,rfl,K,f⟩;clear u x y;obtain⟨u,x,y,g,j,w,l⟩:=K;obtain⟨k,d,rfl,_⟩:=Ba u;obtain⟨p,c2,rfl,_⟩:=Ba x;obtain⟨v,c3,rfl,_⟩:=Ba y;obtain⟨s,c4,rfl,_⟩:=Ba g;obtain⟨b,c5,rfl,_⟩:=Ba j;obtain⟨q,c6,rfl,_⟩:=Ba w;obtain⟨a,c7,rfl,_⟩:=Ba l;have U:=qx w;have Q:=qx l;rw[P,V];unfold Sr.gX;dsimp only;rw[n,oN];exact⟨k,p,v,s,b,q,a,d,c2,c3,c4,c5,c6,c7,rfl,⟨⟨qx u,qx x,qx y,qx g⟩,qx j,by rw[n];exact U,by rw[oN];exact Q⟩,f⟩
end
section
open Go.RowKit Mc
namespace Sr
theorem kx {ll:List (List (Int×Int))} {l:List (Int×Int)} {c:Bd.aa} (h:Bd.program ll l=(c,0)) {aA:List bE} (x:Bu.build ll l=(aA,0)) (aP:List Int) (size:Int) (z:Zn) :
  ∃n,gX (Mc.run c.steps.toNat (Mc.ah ⟨ll,l,aP,size⟩ z)) = { out aA aP size z with steps:=n }∧(Mc.run c.steps.toNat (Mc.ah ⟨ll,l,aP,size⟩ z)).bp=0∧right aA=true∧aA.length≤20000∧(out aA aP size z).bp=0∧(out aA aP size z).steps<aA.length:=by
 obtain⟨v,p,f,e,g,m⟩:=Sm.iK h x aP size z;obtain⟨u,a⟩:=Sm.jD x;obtain⟨s,r,_⟩:=Zaq u aP size z;refine⟨(gX (Mc.run c.steps.toNat (Mc.ah ⟨ll,l,aP,size⟩ z))).steps,?_,p,u,a,s,r⟩;have b:bk aA=c.delta.toNat:=by
  unfold Bu.build at x;rw[h]at x;simp only[ne_eq,not_true_eq_false,if_false]at x;split at x
  ·simp at x
  ·simp only[Prod.mk.injEq]at x;unfold bk;rw[←x.1];simp[Bn]
 unfold out;rw[if_pos u];generalize Mc.run c.steps.toNat (Mc.ah ⟨ll,l,aP,size⟩ z)=S at *;obtain⟨o,k⟩:=v.co;have j:=v.rl;have d:=v.jl;generalize run aA aP size z=R at *;unfold gX eN;simp only[List.reverse_reverse];rw[k,b,fv.mk.injEq];refine⟨rfl,rfl,rfl,?_,rfl,rfl⟩;have q:c.delta.toNat=S.stack.length:=by omega
 rw[q];refine ov fun i=>?_
 by_cases hi:i<S.stack.length
 ·have y:=d (S.stack.length-1-i) (by omega);rw[show S.stack.length-1-(S.stack.length-1-i)=i by omega]at y;rw[List.getElem?_reverse hi,oe,if_pos hi,Bg (by omega),Bg (by omega)];rw[Bn,Bn,Bg (by omega),Bg (by omega)]at y;exact congrArg some y.symm
 ·rw[Je (by simp;omega),Je (by simp;omega)]
theorem iw (ll:List (List (Int×Int))) (l:List (Int×Int)):((Bu.build ll l).2≠0∧(Bu.build ll l).1=[]∧((Bd.program ll l).2=(Bu.build ll l).2∨(Bd.program ll l).2=0∧(Bu.build ll l).2=3))∨((Bu.build ll l).2=0∧(Bd.program ll l).2=0):=by
 unfold Bu.build;simp only;by_cases h:(Bd.program ll l).2≠0
 ·rw[if_pos h];exact .inl ⟨h,rfl,.inl rfl⟩
 ·rw[if_neg h];have x:(Bd.program ll l).2=0:=by omega
  split
  ·exact .inl ⟨by simp,rfl,.inr ⟨x,rfl⟩⟩
  ·exact .inr ⟨rfl,x⟩
end Sr
structure mC (ll:List (List (Int×Int))) (l:List (Int×Int)) (aP:List Int) (size:Int) (z:Zn) (fA mA cA oA uA tA eA:Option Addr) (fc mc cc oc uc tc ec:Nat) (w:World) (pb zb:Nat) (X:World):Prop where
 pz:aH X pb 26 #[.slice fA ll.length fc,.slice mA l.length mc,.slice cA aP.length cc,Aj size]
 zz:aH X zb 30 #[.slice oA z.aT.length oc,.slice uA z.aF.length uc,.slice tA z.aB.length tc,.slice eA z.aJ.length ec]
 fl:cK X X.heap.size fA ll
 ml:aE X X.heap.size 2 mA l.length (Cq l)
 cv:aE X X.heap.size 1 cA aP.length (ae aP)
 zn:cz X X.heap.size z oA uA tA eA
 b:Below w.heap.size w X
section
variable {ll : List (List (Int × Int))} {l : List (Int × Int)} {aP : List Int} {size : Int} {z : Zn} {fA mA cA oA uA tA eA : Option Addr} {fc mc cc oc uc tc ec : Nat}
theorem cK.go {X Y:World}{A:Option Addr} {ll:List (List (Int×Int))} (h:cK X X.heap.size A ll) (x:Below X.heap.size X Y):cK Y Y.heap.size A ll:=(h.below x Aw).a_ x.size
theorem mC.go {w:World}{y zb:Nat}{X Y:World}(h:mC ll l aP size z fA mA cA oA uA tA eA fc mc cc oc uc tc ec w y zb X)(x:Below X.heap.size X Y):mC ll l aP size z fA mA cA oA uA tA eA fc mc cc oc uc tc ec w y zb Y :=
 ⟨qE h.pz x,qE h.zz x,cK.go h.fl x,qA h.ml x,qA h.cv x,cz.go h.zn x,h.b.trans (x.mono h.b.size)⟩
theorem mC.start (w:World)(u:cK w w.heap.size fA ll) (k:aE w w.heap.size 2 mA l.length (Cq l)) (v:aE w w.heap.size 1 cA aP.length (ae aP)) (y:cz w w.heap.size z oA uA tA eA) :
  mC ll l aP size z fA mA cA oA uA tA eA fc mc cc oc uc tc ec w w.heap.size (w.heap.size+1) ((w.alloc (.cells #[.slice fA ll.length fc,.slice mA l.length mc,.slice cA aP.length cc,Aj size] 26)).alloc (.cells #[.slice oA z.aT.length oc,.slice uA z.aF.length uc,.slice tA z.aB.length tc,.slice eA z.aJ.length ec] 30)):=by
 have x:Below w.heap.size w ((w.alloc (.cells #[.slice fA ll.length fc,.slice mA l.length mc,.slice cA aP.length cc,Aj size] 26)).alloc (.cells #[.slice oA z.aT.length oc,.slice uA z.aF.length uc,.slice tA z.aB.length tc,.slice eA z.aJ.length ec] 30)):=(aI.alloc Aw _).alloc (by simp) _;exact⟨(qv _ _ _).alloc _,qw _ _ _ (by simp),cK.go u x,qA k x,qA v x,cz.go y x,x⟩
theorem mC.pg {w:World}{p zb:Nat}{X:World}(h:mC ll l aP size z fA mA cA oA uA tA eA fc mc cc oc uc tc ec w p zb X):gZ X X.heap.size ⟨ll,l,aP,size⟩ fA mA cA:=by
 obtain⟨vs,k,q⟩:=h.fl;refine⟨⟨vs,k,fun i aA y=>?_⟩,by have:=h.ml;rw[Gn]at this;exact this,h.cv⟩;obtain⟨v,u,A,c,rfl,x⟩:=q i aA y;rw[Gn]at x;exact⟨A,c,u,x⟩
end
theorem Zfm (X:World) (ll:List (List (Int×Int))) (l:List (Int×Int)) (aP:List Int) (size:Int) (z:Zn) (fA mA cA oA uA tA eA:Option Addr) (fc mc cc oc uc tc ec:Nat) (h:gZ X X.heap.size ⟨ll,l,aP,size⟩ fA mA cA) (p:cz X X.heap.size z oA uA tA eA) (m:lO ⟨ll,l,aP,size⟩) (a:eu z) (n:Int) (w:n≤1000000) :
  Calls Tryz.prog 55 #[(.agg #[.slice fA ll.length fc,.slice mA l.length mc,.slice cA aP.length cc,Aj size]),(.agg #[.slice oA z.aT.length oc,.slice uA z.aF.length uc,.slice tA z.aB.length tc,.slice eA z.aJ.length ec]),Aj n] X fun e Y=>∃(T:Sr.fv) (pk er:Int),T=Sr.gX (Mc.run n.toNat (ah ⟨ll,l,aP,size⟩ z))∧er=(Mc.run n.toNat (ah ⟨ll,l,aP,size⟩ z)).bp∧∃(v k u q r x y:Option Addr) (s c2 c3 c4 c5 c6 c7:Nat),e=.returned (.agg #[.slice v T.zn.aT.length s,.slice k T.zn.aF.length c2,.slice u T.zn.aB.length c3,.slice q T.zn.aJ.length c4,.slice r T.cv.length c5,.slice x T.st.length c6,.slice y T.sk.length c7,Aj T.steps,Aj pk,Aj er]) ∧
   iO Y T v k u q r x y∧Below X.heap.size X Y:=by
 refine(Zjo X ⟨ll,l,aP,size⟩ z m a fA mA cA oA tA eA uA fc mc cc oc tc ec uc h p n w).mono ?_;have g:=(Mr.kD n.toNat ⟨ll,l,aP,size⟩ z a.aF a.aJ m.aP).2.2.2.2.2.1;generalize Mc.run n.toNat (ah ⟨ll,l,aP,size⟩ z)=S at *;rintro e Y⟨U,P,V,en,cv,st,sk,rfl,o,K⟩;obtain⟨i,b,p,c,d,j,f⟩:=o;obtain⟨v,s,rfl,_⟩:=Ba i;obtain⟨k,c2,rfl,_⟩:=Ba b;obtain⟨u,c3,rfl,_⟩:=Ba p;obtain⟨q,c4,rfl,_⟩:=Ba c;obtain⟨r,c5,rfl,_⟩:=Ba d;obtain⟨x,c6,rfl,_⟩:=Ba j;obtain⟨y,c7,rfl,_⟩:=Ba f;have H:=qx j;have Z:=qx f;refine⟨Sr.gX S,S.aL,S.bp,rfl,rfl,v,k,u,q,r,x,y,s,c2,c3,c4,c5,c6,c7,?_,⟨⟨qx i,qx b,qx p,qx c⟩,qx d,?_,?_⟩,K⟩
 ·unfold Sr.gX;dsimp only;rw[g,oN]
 ·show aE Y _ 1 x S.store.length (ae S.store)
  rw[g];exact H
 ·show aE Y _ 1 y S.stack.reverse.length (ae S.stack.reverse)
  rw[oN];exact Z
theorem Zge (ll:List (List (Int×Int))) (l:List (Int×Int)) (aP:List Int) (size:Int) (z:Zn) (fA mA cA oA uA tA eA:Option Addr) (fc mc cc oc uc tc ec:Nat) (w:World) (B:cK w w.heap.size fA ll) (G:aE w w.heap.size 2 mA l.length (Cq l)) (h2:aE w w.heap.size 1 cA aP.length (ae aP)) (h3:cz w w.heap.size z oA uA tA eA) (hz:eu z) (h9:ll.length≤100000) (z3:∀l∈ll,l.length≤100000) (hn:l.length≤100000) (B5:aP.length≤1000000) (hi:∀l∈ll,∀x∈l,bS x.2) (A1:∀x∈l,bS x.2) :
  Calls Tryz.prog 27 #[(.agg #[.slice fA ll.length fc,.slice mA l.length mc,.slice cA aP.length cc,Aj size]),(.agg #[.slice oA z.aT.length oc,.slice uA z.aF.length uc,.slice tA z.aB.length tc,.slice eA z.aJ.length ec])] w fun e w'=>e=.returned (.bool true)∧Below w.heap.size w w':=by
 have H:=Aq (mC.start (fc:=fc) (mc:=mc) (cc:=cc) (oc:=oc) (uc:=uc) (tc:=tc) (ec:=ec) (size:=size) w B G h2 h3);clear B G h2 h3;have HZ:=Aq hz;have x1:=Aq (lO.mk (p:=⟨ll,l,aP,size⟩) (by show ll.length≤_;omega) (fun c hc=>Ex (z3 c hc) (by decide)) (by show l.length≤_;omega) B5);have HB:=Aq (fun X B G=>Mv fA mA fc mc (.slice cA aP.length cc) size ll l X ⟨_,_,_,rfl⟩ B G z3 hn hi A1);have HP:=Aq (fun X B G=>Ly fA mA fc mc X.heap.size (.slice cA aP.length cc) size ll l X ⟨_,_,_,rfl⟩ B G Aw (fun l hl=>Ex (z3 l hl) (by decide)) (Ex hn (by decide)));have h6:=Aq B5;clear hz h9 z3 hn B5 hi A1;go_enter Tryz.func27,Tryz.ntmps27;go_upto_region 1 with fail
 generalize (w.alloc (.cells #[.slice fA ll.length fc,.slice mA l.length mc,.slice cA aP.length cc,Aj size] 26)).alloc (.cells #[.slice oA z.aT.length oc,.slice uA z.aF.length uc,.slice tA z.aB.length tc,.slice eA z.aJ.length ec] 30)=X at *;have p0:=H.o.pz.cell 0;have g:=H.o.pz.cell 1;have Y:=H.o.pz.cell 2;have i:=H.o.pz.cell 3;have j:=H.o.zz.cell 0;have d:=H.o.zz.cell 1;have U:=H.o.zz.cell 2;have m:=H.o.zz.cell 3;simp only[Az,Ay,Bc]at p0 g Y i j d U m;have pl:=H.o.pz.lt;have Q:=H.o.zz.lt;go_wp2_with fail
 refine(HB.o X H.o.fl H.o.ml).mono ?_;have P:=Sr.iw ll l;have hb:=fun c h aA y=>Sr.kx (ll:=ll) (l:=l) (c:=c) h (aA:=aA) y aP size z
 generalize Bu.build ll l=r at *;obtain⟨aA,er⟩:=r;simp only at P;rintro e w1⟨v,rfl,y,K⟩;obtain⟨A,c,rfl,_⟩:=Ba K;have H1:=Aq (H.o.go y);have w4:=Aq (qx K);clear p0 g Y i j d U m pl Q;clear H y K HB;have ho:=Aq hb;have B3:=Aq P;clear hb P;dsimp only;go_upto_region 2 with fail
 have p0:=H1.o.pz.cell 0;have g:=H1.o.pz.cell 1;have Y:=H1.o.pz.cell 2;have i:=H1.o.pz.cell 3;have j:=H1.o.zz.cell 0;have d:=H1.o.zz.cell 1;have U:=H1.o.zz.cell 2;have m:=H1.o.zz.cell 3;simp only[Az,Ay,Bc]at p0 g Y i j d U m;have pl:=H1.o.pz.lt;have Q:=H1.o.zz.lt;go_wp2_with fail
 refine(HP.o w1 H1.o.fl H1.o.ml).mono ?_;obtain⟨⟨⟨c0,c1,c2,c3⟩,f⟩,h0⟩:∃r,r=Bd.program ll l:=⟨_,rfl⟩;have P:=B3.o;rw[←h0]at P ⊢;simp only at P;rintro e w2⟨rfl,k3⟩;simp only[Tv];have y:=k3.alloc k3.size (.cells #[Aj c0,Aj c1,Aj c2,Aj c3] 78);have u:=Aq (H1.o.go y);have zl:=Aq (qA w4.o y);have B4:=Aq (qv w2 78 #[Aj c0,Aj c1,Aj c2,Aj c3]);clear p0 g Y i j d U m pl Q;have z0:=Aq h0;clear H1 w4 B3 h0 y k3 HP;rcases P with⟨k1,k2,V⟩|⟨k1,k2⟩
 ·subst k2;have p2:=ho;clear ho p2 z0;have x6:(er != 0)=true:=by simpa using k1
  have z1:=u.o.b;rcases V with V|⟨V,k4⟩
  ·subst V;have HK:=Aq k1;clear k1;go_wp2_with fail
   go_ret;exact⟨rfl,z1⟩
  ·subst V;subst k4;clear k1;go_wp2_with fail
   go_ret;exact⟨rfl,z1⟩
 ·subst k1;subst k2;obtain⟨n,d1,d2,d3,d4,d5,d6⟩:=ho.o _ z0.o.symm _ rfl;have a1:c3≤4096:=by
   have:=Hd.holds z0.o.symm (s:=ah ⟨ll,l,aP,size⟩ z) rfl rfl rfl rfl rfl rfl rfl;exact this.2.2.2.2.1
  have p2:=Aq d1;have h5:=Aq d2;have x3:=Aq d3;have h8:=Aq a1;have p3:=Aq (Sr.mh aA aP size z HZ.o h6.o);clear ho z0 d1 d2 d3 a1;go_upto_region 5 with fail
  generalize w2.alloc (.cells #[Aj c0,Aj c1,Aj c2,Aj c3] 78)=X2 at *;generalize w2.heap.size=kb at *;have p0:=u.o.pz.cell 0;have g:=u.o.pz.cell 1;have Y:=u.o.pz.cell 2;have i:=u.o.pz.cell 3;have j:=u.o.zz.cell 0;have d:=u.o.zz.cell 1;have U:=u.o.zz.cell 2;have m:=u.o.zz.cell 3;simp only[Az,Ay,Bc]at p0 g Y i j d U m;have pl:=u.o.pz.lt;have Q:=u.o.zz.lt;go_wp2_with fail
  refine(Zjw X2 aA aP size z A fA mA cA oA uA tA eA c ll.length fc l.length mc cc oc uc tc ec zl.o u.o.cv u.o.zn h6.o HZ.o (by omega)).mono ?_;generalize Sr.out aA aP size z=T at *;rw[d5];rintro e w3⟨I,A2,A3,A4,A5,A6,N,M,a2,a3,a4,a5,a6,a7,rfl,K,z2⟩;have y:=z2.alloc z2.size (.cells #[.slice I T.zn.aT.length M,.slice A2 T.zn.aF.length a2,.slice A3 T.zn.aB.length a3,.slice A4 T.zn.aJ.length a4,.slice A5 T.cv.length a5,.slice A6 T.st.length a6,.slice N T.sk.length a7,Aj T.steps,Aj 0,Aj 0] 39);have k:=Aq (u.o.go y);have B7:=Aq (qA zl.o y);have B2:=Aq (qE B4.o y);have h1:=Aq (K.go (Hl w3 (.cells #[.slice I T.zn.aT.length M,.slice A2 T.zn.aF.length a2,.slice A3 T.zn.aB.length a3,.slice A4 T.zn.aJ.length a4,.slice A5 T.cv.length a5,.slice A6 T.st.length a6,.slice N T.sk.length a7,Aj T.steps,Aj 0,Aj 0] 39)));have h7:=Aq (qv w3 39 #[.slice I T.zn.aT.length M,.slice A2 T.zn.aF.length a2,.slice A3 T.zn.aB.length a3,.slice A4 T.zn.aJ.length a4,.slice A5 T.cv.length a5,.slice A6 T.st.length a6,.slice N T.sk.length a7,Aj T.steps,Aj 0,Aj 0]);have x4:=Aq d6;have x2:=Aq d4;clear p0 g Y i j d U m pl Q;clear u zl B4 y z2 K d4 d5 d6;go_upto_region 6 with fail
  generalize w3.alloc (.cells #[.slice I T.zn.aT.length M,.slice A2 T.zn.aF.length a2,.slice A3 T.zn.aB.length a3,.slice A4 T.zn.aJ.length a4,.slice A5 T.cv.length a5,.slice A6 T.st.length a6,.slice N T.sk.length a7,Aj T.steps,Aj 0,Aj 0] 39)=X3 at *;generalize w3.heap.size=ab at *;have p0:=k.o.pz.cell 0;have g:=k.o.pz.cell 1;have Y:=k.o.pz.cell 2;have i:=k.o.pz.cell 3;have j:=k.o.zz.cell 0;have d:=k.o.zz.cell 1;have U:=k.o.zz.cell 2;have m:=k.o.zz.cell 3;simp only[Az,Ay,Bc]at p0 g Y i j d U m;have pl:=k.o.pz.lt;have Q:=k.o.zz.lt;have V:=B2.o.cell 3;simp only[Az,Ay,Bc]at V;have kl:=B2.o.lt;go_wp2_with fail
  refine(Zfm X3 ll l aP size z fA mA cA oA uA tA eA fc mc cc oc uc tc ec k.o.pg k.o.zn x1.o HZ.o c3 (by have:=h8.o;omega)).mono ?_;have hb:=p2.o;have p1:=h5.o;rw[hb,p1];clear hb p1 p2 h5;rintro e L⟨T2,pk,er,x0,p1,B1,C,E,F,R,S,D,O,J,b3,b4,b5,W,b7,rfl,K,B6⟩;subst x0;subst p1;dsimp only;have K:iO L { T with steps:=n } B1 C E F R S D:=K;have y:=B6.alloc B6.size (.cells #[.slice B1 T.zn.aT.length O,.slice C T.zn.aF.length J,.slice E T.zn.aB.length b3,.slice F T.zn.aJ.length b4,.slice R T.cv.length b5,.slice S T.st.length W,.slice D T.sk.length b7,Aj n,Aj pk,Aj 0] 39);have H4:=Aq (k.o.go y);have A7:=Aq (qA B7.o y);have h4:=Aq (h1.o.go y);have b6:=Aq (qE h7.o y);have b1:=Aq (K.go (Hl L (.cells #[.slice B1 T.zn.aT.length O,.slice C T.zn.aF.length J,.slice E T.zn.aB.length b3,.slice F T.zn.aJ.length b4,.slice R T.cv.length b5,.slice S T.st.length W,.slice D T.sk.length b7,Aj n,Aj pk,Aj 0] 39)));have b2:=Aq (qv L 39 #[.slice B1 T.zn.aT.length O,.slice C T.zn.aF.length J,.slice E T.zn.aB.length b3,.slice F T.zn.aJ.length b4,.slice R T.cv.length b5,.slice S T.st.length W,.slice D T.sk.length b7,Aj n,Aj pk,Aj 0]);clear p0 g Y i j d U m pl Q;clear k B7 B2 h1 h7 y B6 K V kl;go_upto_region 7 with fail
  generalize L.alloc (.cells #[.slice B1 T.zn.aT.length O,.slice C T.zn.aF.length J,.slice E T.zn.aB.length b3,.slice F T.zn.aJ.length b4,.slice R T.cv.length b5,.slice S T.st.length W,.slice D T.sk.length b7,Aj n,Aj pk,Aj 0] 39)=X4 at *;generalize L.heap.size=bb at *;have hq:=Gj A c X4.heap.size aA X4 A7.o Aw (by have:=x2.o;omega);rw[x3.o]at hq;have HQ:=Aq hq;clear hq;go_wp2_with fail
  refine HQ.o.mono ?_;rintro e w5⟨rfl,y⟩;have H5:=Aq (H4.o.go y);have H2:=Aq (h4.o.go y);have q:=Aq (qE b6.o y);have H3:=Aq (b1.o.go y);have a:=Aq (qE b2.o y);clear H4 A7 h4 b6 b1 b2 y HQ;have q0:=q.o.cell 0;have q1:=q.o.cell 1;have q2:=q.o.cell 2;have q3:=q.o.cell 3;have q4:=q.o.cell 4;have q5:=q.o.cell 5;have q6:=q.o.cell 6;have q7:=q.o.cell 7;have q8:=q.o.cell 8;have q9:=q.o.cell 9;simp only[Az,Ay,Bc]at q0 q1 q2 q3 q4 q5 q6 q7 q8 q9;have ql:=q.o.lt;have r0:=a.o.cell 0;have r1:=a.o.cell 1;have r2:=a.o.cell 2;have r3:=a.o.cell 3;have r4:=a.o.cell 4;have r5:=a.o.cell 5;have r6:=a.o.cell 6;have r7:=a.o.cell 7;have r8:=a.o.cell 8;have r9:=a.o.cell 9;simp only[Az,Ay,Bc]at r0 r1 r2 r3 r4 r5 r6 r7 r8 r9;have rl:=a.o.lt;go_wp2_with fail
  refine(Qh w5 w5.heap.size Aw T.zn T.cv T.st T.sk T.steps 0 n pk 0 I A2 A3 A4 A5 A6 N B1 C E F R S D M a2 a3 a4 a5 a6 a7 O J b3 b4 b5 W b7 p3.o.zn p3.o.cv p3.o.st p3.o.sk H2.o.zn H2.o.cv H2.o.st H2.o.sk H3.o.zn H3.o.cv H3.o.st H3.o.sk).mono ?_;rintro e w6⟨rfl,hg⟩;have y:=qG hg Aw;have z1:=(H5.o.go y).b;have Z:=Aq (qE q.o y);clear H5 H2 q H3 a hg y;clear q0 q1 q2 q3 q4 q5 q6 q7 q8 q9 ql;clear r0 r1 r2 r3 r4 r5 r6 r7 r8 r9 rl;have q0:=Z.o.cell 0;have q1:=Z.o.cell 1;have q2:=Z.o.cell 2;have q3:=Z.o.cell 3;have q4:=Z.o.cell 4;have q5:=Z.o.cell 5;have q6:=Z.o.cell 6;have q7:=Z.o.cell 7;have q8:=Z.o.cell 8;have q9:=Z.o.cell 9;simp only[Az,Ay,Bc]at q0 q1 q2 q3 q4 q5 q6 q7 q8 q9;have ql:=Z.o.lt;have x5:(T.steps:Int)<aA.length:=by have:=x4.o;omega
  go_wp2_with fail
  go_ret;exact⟨rfl,z1⟩
end
end Go.Proofs.YtnhebmgibiomnaaGreat

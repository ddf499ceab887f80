import Derived.Test.YtnhebmgibiomnaaGreatPi23
import Derived.Test.YtnhebmgibiomnaaGreatPi24
set_option linter.unusedVariables false
set_option linter.unusedSimpArgs false
set_option maxRecDepth 100000
set_option maxHeartbeats 8000000
namespace Go.Proofs.YtnhebmgibiomnaaGreat
section
open Go.RowKit Mc
namespace Sr
theorem ip {n m k:Nat}{s:St}(r:bE)(h:Mr.Sz n m k s.m):Mr.Sz n m k (deed r s).m:=by
 unfold deed;simp only;split <;> (first|exact h.same ⟨rfl,rfl,rfl,rfl,rfl,rfl⟩|skip)
 ·exact⟨h.aT,h.aF,h.aB,h.aJ,by show (Iy _ _ _).length=_;rw[Mr.gg];exact h.aP,h.store⟩
 ·exact⟨h.aT,h.aF,h.aB,h.aJ,h.aP,by show (Iy _ _ _).length=_;rw[Mr.gg];exact h.store⟩
 ·split
  ·exact Mr.fM h _ _ _
  ·exact h
 ·split
  ·exact Mr.fM h _ _ _
  ·exact h
 ·split
  ·exact Mr.fM h _ _ _
  ·exact h
 ·exact⟨h.aT,by show (Nq s.m _).aF.length=_;rw[Mr.iN];exact h.aF,h.aB,h.aJ,h.aP,h.store⟩
 ·unfold cC;split <;> exact h
 ·unfold cC;split <;> exact h
theorem Zy {n m k:Nat}(aA:List bE):∀(j:Nat) (s:St),Mr.Sz n m k s.m→Mr.Sz n m k (runs j aA s).m
 |0,_,h=>h
 |j+1,s,h=>by
  rw[runs];split
  ·exact h
  ·exact Zy aA j _ (ip _ h)
theorem i_ (aA:List bE)(aP:List Int)(size:Int)(z:Zn):Mr.Sz z.aF.length z.aJ.length aP.length (run aA aP size z).m :=
 Zy aA _ _ ((Mr.jH ⟨[],[],aP,0⟩ z).same ⟨rfl,rfl,rfl,rfl,rfl,rfl⟩)
structure fv where
 zn:Zn
 cv:List Int
 st:List Int
 sk:List Int
 steps:Nat
 br:Int
def gX (t:Mc.St):fv:=⟨⟨t.aT,t.aF,t.aB,t.aJ⟩,t.aP,t.store,t.stack.reverse,t.steps,0⟩
def out (aA:List bE)(aP:List Int)(size:Int)(z:Zn):fv :=
 if right aA then gX (eM (run aA aP size z) (bm aA)) else⟨⟨[],[],[],[]⟩,[],[],[],0,50⟩
structure OutOk (o:fv):Prop where
 zn:ek o.zn
 cv:o.cv.length≤1000000
 st:o.st.length≤1000000
 sk:o.sk.length≤1000000
theorem ng (aA:List bE)(aP:List Int)(size:Int)(z:Zn)(y:ek z)(q:aP.length≤1000000):OutOk (out aA aP size z):=by
 unfold out;by_cases h:right aA=true
 ·rw[if_pos h];have k:=i_ aA aP size z;have x:=y.aF;have p:=y.aJ;have c:=Nw h aP size z;obtain⟨_,_,_,a,b⟩:=Ml h;have u:(gX (eM (run aA aP size z) (bm aA))).zn=⟨(run aA aP size z).m.aT,(run aA aP size z).m.aF,(run aA aP size z).m.aB,(run aA aP size z).m.aJ⟩:=rfl;have s:(gX (eM (run aA aP size z) (bm aA))).cv=(run aA aP size z).m.aP:=rfl;have v:(gX (eM (run aA aP size z) (bm aA))).st=(run aA aP size z).m.store:=rfl;have r:(gX (eM (run aA aP size z) (bm aA))).sk.length=(eM (run aA aP size z) (bm aA)).stack.length:=oX ..;refine⟨?_,by rw[s,k.aP];exact q,by rw[v,k.store];decide,by rw[r];omega⟩;rw[u];exact⟨by show (run aA aP size z).m.aT.length≤_;rw[k.aT];exact x,by show (run aA aP size z).m.aF.length≤_;rw[k.aF];exact x,by show (run aA aP size z).m.aB.length≤_;rw[k.aB];exact x,by show (run aA aP size z).m.aJ.length≤_;rw[k.aJ];exact p⟩
 ·rw[if_neg h];exact⟨⟨by simp,by simp,by simp,by simp⟩,by simp,by simp,by simp⟩
theorem Zbb {aA:List bE}(h:right aA=true)(aP:List Int)(size:Int)(z:Zn):(out aA aP size z).br=0∧(out aA aP size z).steps<aA.length∧((out aA aP size z).sk.length:Int)=(aA.getD (aA.length-1) kK).n:=by
 unfold out;rw[if_pos h];exact⟨rfl,Zad h aP size z,by rw[←Nw h aP size z];show ((List.reverse _).length:Int)=_;rw[oX]⟩
end Sr
structure iX (Y:World) (o:Sr.fv) (A1 A2 A3 A4 A5 A6 A7:Option Addr):Prop where
 zn:dC Y Y.heap.size o.zn A1 A2 A3 A4
 cv:aE Y Y.heap.size 1 A5 o.cv.length (ae o.cv)
 st:aE Y Y.heap.size 1 A6 o.st.length (ae o.st)
 sk:aE Y Y.heap.size 1 A7 o.sk.length (ae o.sk)
section
variable {aA : List Sr.bE} {aP : List Int} {size : Int} {z : Zn} {A fA mA cA oA uA tA eA : Option Addr} {c fn fc mn mc cc oc uc tc ec : Nat}
theorem dC.go {X Y:World}(h:dC X X.heap.size z oA uA tA eA)(x:Below X.heap.size X Y):dC Y Y.heap.size z oA uA tA eA:=⟨qL h.aT x,qL h.aF x,qL h.aB x,qL h.aJ x⟩
end
theorem iX.go {X Y:World}{o:Sr.fv}{u k v y q z p:Option Addr}(h:iX X o u k v y q z p)(x:Below X.heap.size X Y):iX Y o u k v y q z p:=⟨dC.go h.zn x,qL h.cv x,qL h.st x,qL h.sk x⟩
theorem Zkj (X:World)(aA:List Sr.bE)(aP:List Int)(size:Int)(z:Zn)(A fA mA cA oA uA tA eA:Option Addr)(c fn fc mn mc cc oc uc tc ec:Nat) (y:aE X X.heap.size 5 A aA.length (Ch aA)) (x:aE X X.heap.size 1 cA aP.length (ae aP)) (u:dC X X.heap.size z oA uA tA eA) (w:aP.length≤1000000) (m:ek z) (B:aA.length≤1000000) :
  Calls Tryz.prog 17 #[.slice A aA.length c,(.agg #[.slice fA fn fc,.slice mA mn mc,.slice cA aP.length cc,Aj size]),(.agg #[.slice oA z.aT.length oc,.slice uA z.aF.length uc,.slice tA z.aB.length tc,.slice eA z.aJ.length ec])] X fun e Y=>∃(v b a q p r k:Option Addr) (f c2 c3 c4 c5 c6 c7:Nat),e=.returned (.agg #[.slice v (Sr.out aA aP size z).zn.aT.length f,.slice b (Sr.out aA aP size z).zn.aF.length c2,.slice a (Sr.out aA aP size z).zn.aB.length c3,.slice q (Sr.out aA aP size z).zn.aJ.length c4,.slice p (Sr.out aA aP size z).cv.length c5,.slice r (Sr.out aA aP size z).st.length c6,.slice k (Sr.out aA aP size z).sk.length c7,Aj (Sr.out aA aP size z).steps,Aj 0,Aj (Sr.out aA aP size z).br]) ∧
   iX Y (Sr.out aA aP size z) v b a q p r k∧Below X.heap.size X Y:=by
 have l:aA.length≤1000000000000:=by omega
 cases s:Sr.right aA
 ·refine(Zz X aA A c aP size z w m l fA mA cA oA tA eA uA fn fc mn mc cc oc tc ec uc y x u s).mono ?_;unfold Sr.out;rw[if_neg (by rw[s];simp)];rintro e Y⟨rfl,d⟩;exact⟨none,none,none,none,none,none,none,0,0,0,0,0,0,0,rfl,⟨⟨qK,qK,qK,qK⟩,qK,qK,qK⟩,d⟩
 ·refine(Uz X aA A c aP size z w m l fA mA cA oA tA eA uA fn fc mn mc cc oc tc ec uc y x u s).mono ?_;have K:=(Sr.i_ aA aP size z).store;unfold Sr.out;rw[if_pos s];have o:(Sr.eM (Sr.run aA aP size z) (Sr.bm aA)).store.length=32:=K;have V:(Sr.eM (Sr.run aA aP size z) (Sr.bm aA)).aM=0:=rfl;have P:(Sr.eM (Sr.run aA aP size z) (Sr.bm aA)).br=0:=rfl;generalize Sr.eM (Sr.run aA aP size z) (Sr.bm aA)=T at *;rintro e Y⟨Q,S,R,en,cv,st,sk,rfl,H,d⟩;clear y x u;obtain⟨y,x,u,g,j,n,i⟩:=H;obtain⟨v,f,rfl,_⟩:=Bc y;obtain⟨b,c2,rfl,_⟩:=Bc x;obtain⟨a,c3,rfl,_⟩:=Bc u;obtain⟨q,c4,rfl,_⟩:=Bc g;obtain⟨p,c5,rfl,_⟩:=Bc j;obtain⟨r,c6,rfl,_⟩:=Bc n;obtain⟨k,c7,rfl,_⟩:=Bc i;have Z:=qI n;have U:=qI i;rw[V,P];unfold Sr.gX;dsimp only;rw[o,oX];exact⟨v,b,a,q,p,r,k,f,c2,c3,c4,c5,c6,c7,rfl,⟨⟨qI y,qI x,qI u,qI g⟩,qI j,by rw[o];exact Z,by rw[oX];exact U⟩,d⟩
end
section
open Go.RowKit Mc
namespace Sr
theorem kx {ll:List (List (Int×Int))} {l:List (Int×Int)} {c:Bd.aa} (h:Bd.program ll l=(c,0)) {aA:List bE} (x:Bu.build ll l=(aA,0)) (aP:List Int) (size:Int) (z:Zn) :
  ∃n,gX (Mc.run c.steps.toNat (Mc.ah ⟨ll,l,aP,size⟩ z)) = { out aA aP size z with steps:=n }∧(Mc.run c.steps.toNat (Mc.ah ⟨ll,l,aP,size⟩ z)).br=0∧right aA=true∧aA.length≤20000∧(out aA aP size z).br=0∧(out aA aP size z).steps<aA.length:=by
 obtain⟨y,k,j,e,f,m⟩:=Sm.iM h x aP size z;obtain⟨u,s⟩:=Sm.jE x;obtain⟨b,q,_⟩:=Zbb u aP size z;refine⟨(gX (Mc.run c.steps.toNat (Mc.ah ⟨ll,l,aP,size⟩ z))).steps,?_,k,u,s,b,q⟩;have p:bm aA=c.delta.toNat:=by
  unfold Bu.build at x;rw[h]at x;simp only[ne_eq,not_true_eq_false,if_false]at x;split at x
  ·simp at x
  ·simp only[Prod.mk.injEq]at x;unfold bm;rw[←x.1];simp[Bo]
 unfold out;rw[if_pos u];generalize Mc.run c.steps.toNat (Mc.ah ⟨ll,l,aP,size⟩ z)=S at *;obtain⟨o,r⟩:=y.co;have g:=y.rl;have d:=y.jx;generalize run aA aP size z=R at *;unfold gX eM;simp only[List.reverse_reverse];rw[r,p,fv.mk.injEq];refine⟨rfl,rfl,rfl,?_,rfl,rfl⟩;have a:c.delta.toNat=S.stack.length:=by omega
 rw[a];refine oJ fun i=>?_
 by_cases hi:i<S.stack.length
 ·have v:=d (S.stack.length-1-i) (by omega);rw[show S.stack.length-1-(S.stack.length-1-i)=i by omega]at v;rw[List.getElem?_reverse hi,oB,if_pos hi,Bf (by omega),Bf (by omega)];rw[Bo,Bo,Bf (by omega),Bf (by omega)]at v;exact congrArg some v.symm
 ·rw[ge (by simp;omega),ge (by simp;omega)]
theorem jF (ll:List (List (Int×Int))) (l:List (Int×Int)):((Bu.build ll l).2≠0∧(Bu.build ll l).1=[]∧((Bd.program ll l).2=(Bu.build ll l).2∨(Bd.program ll l).2=0∧(Bu.build ll l).2=3))∨((Bu.build ll l).2=0∧(Bd.program ll l).2=0):=by
 unfold Bu.build;simp only;by_cases h:(Bd.program ll l).2≠0
 ·rw[if_pos h];exact .inl ⟨h,rfl,.inl rfl⟩
 ·rw[if_neg h];have x:(Bd.program ll l).2=0:=by omega
  split
  ·exact .inl ⟨by simp,rfl,.inr ⟨x,rfl⟩⟩
  ·exact .inr ⟨rfl,x⟩
end Sr
structure mU (ll:List (List (Int×Int))) (l:List (Int×Int)) (aP:List Int) (size:Int) (z:Zn) (fA mA cA oA uA tA eA:Option Addr) (fc mc cc oc uc tc ec:Nat) (w:World) (pb zb:Nat) (X:World):Prop where
 pz:aH X pb 26 #[.slice fA ll.length fc,.slice mA l.length mc,.slice cA aP.length cc,Aj size]
 zz:aH X zb 30 #[.slice oA z.aT.length oc,.slice uA z.aF.length uc,.slice tA z.aB.length tc,.slice eA z.aJ.length ec]
 fl:cN X X.heap.size fA ll
 ml:aE X X.heap.size 2 mA l.length (Cu l)
 cv:aE X X.heap.size 1 cA aP.length (ae aP)
 zn:dC X X.heap.size z oA uA tA eA
 b:Below w.heap.size w X
section
variable {ll : List (List (Int × Int))} {l : List (Int × Int)} {aP : List Int} {size : Int} {z : Zn} {fA mA cA oA uA tA eA : Option Addr} {fc mc cc oc uc tc ec : Nat}
theorem cN.go {X Y:World}{A:Option Addr} {ll:List (List (Int×Int))} (h:cN X X.heap.size A ll) (x:Below X.heap.size X Y):cN Y Y.heap.size A ll:=(h.below x Aw).aY x.size
theorem mU.go {w:World}{y zb:Nat}{X Y:World}(h:mU ll l aP size z fA mA cA oA uA tA eA fc mc cc oc uc tc ec w y zb X)(x:Below X.heap.size X Y):mU ll l aP size z fA mA cA oA uA tA eA fc mc cc oc uc tc ec w y zb Y :=
 ⟨qQ h.pz x,qQ h.zz x,cN.go h.fl x,qL h.ml x,qL h.cv x,dC.go h.zn x,h.b.trans (x.mono h.b.size)⟩
theorem mU.start (w:World)(v:cN w w.heap.size fA ll) (u:aE w w.heap.size 2 mA l.length (Cu l)) (y:aE w w.heap.size 1 cA aP.length (ae aP)) (k:dC w w.heap.size z oA uA tA eA) :
  mU ll l aP size z fA mA cA oA uA tA eA fc mc cc oc uc tc ec w w.heap.size (w.heap.size+1) ((w.alloc (.cells #[.slice fA ll.length fc,.slice mA l.length mc,.slice cA aP.length cc,Aj size] 26)).alloc (.cells #[.slice oA z.aT.length oc,.slice uA z.aF.length uc,.slice tA z.aB.length tc,.slice eA z.aJ.length ec] 30)):=by
 have x:Below w.heap.size w ((w.alloc (.cells #[.slice fA ll.length fc,.slice mA l.length mc,.slice cA aP.length cc,Aj size] 26)).alloc (.cells #[.slice oA z.aT.length oc,.slice uA z.aF.length uc,.slice tA z.aB.length tc,.slice eA z.aJ.length ec] 30)):=(aI.alloc Aw _).alloc (by simp) _;exact⟨(qG _ _ _).alloc _,qH _ _ _ (by simp),cN.go v x,qL u x,qL y x,dC.go k x,x⟩
theorem mU.pg {w:World}{q zb:Nat}{X:World}(h:mU ll l aP size z fA mA cA oA uA tA eA fc mc cc oc uc tc ec w q zb X):gW X X.heap.size ⟨ll,l,aP,size⟩ fA mA cA:=by
 obtain⟨vs,u,y⟩:=h.fl;refine⟨⟨vs,u,fun i aA p=>?_⟩,by have:=h.ml;rw[Gu]at this;exact this,h.cv⟩;obtain⟨v,k,A,c,rfl,x⟩:=y i aA p;rw[Gu]at x;exact⟨A,c,k,x⟩
end
theorem Zfz (X:World) (ll:List (List (Int×Int))) (l:List (Int×Int)) (aP:List Int) (size:Int) (z:Zn) (fA mA cA oA uA tA eA:Option Addr) (fc mc cc oc uc tc ec:Nat) (h:gW X X.heap.size ⟨ll,l,aP,size⟩ fA mA cA) (p:dC X X.heap.size z oA uA tA eA) (i:lU ⟨ll,l,aP,size⟩) (a:ek z) (n:Int) (Z:n≤1000000) :
  Calls Tryz.prog 55 #[(.agg #[.slice fA ll.length fc,.slice mA l.length mc,.slice cA aP.length cc,Aj size]),(.agg #[.slice oA z.aT.length oc,.slice uA z.aF.length uc,.slice tA z.aB.length tc,.slice eA z.aJ.length ec]),Aj n] X fun e Y=>∃(T:Sr.fv) (pk er:Int),T=Sr.gX (Mc.run n.toNat (ah ⟨ll,l,aP,size⟩ z))∧er=(Mc.run n.toNat (ah ⟨ll,l,aP,size⟩ z)).br∧∃(u r q k v y x:Option Addr) (s c2 c3 c4 c5 c6 c7:Nat),e=.returned (.agg #[.slice u T.zn.aT.length s,.slice r T.zn.aF.length c2,.slice q T.zn.aB.length c3,.slice k T.zn.aJ.length c4,.slice v T.cv.length c5,.slice y T.st.length c6,.slice x T.sk.length c7,Aj T.steps,Aj pk,Aj er]) ∧
   iX Y T u r q k v y x∧Below X.heap.size X Y:=by
 refine(Zkb X ⟨ll,l,aP,size⟩ z i a fA mA cA oA tA eA uA fc mc cc oc tc ec uc h p n Z).mono ?_;have m:=(Mr.kF n.toNat ⟨ll,l,aP,size⟩ z a.aF a.aJ i.aP).2.2.2.2.2.1;generalize Mc.run n.toNat (ah ⟨ll,l,aP,size⟩ z)=S at *;rintro e Y⟨U,P,V,en,cv,st,sk,rfl,o,w⟩;obtain⟨d,b,p,c,g,j,f⟩:=o;obtain⟨u,s,rfl,_⟩:=Bc d;obtain⟨r,c2,rfl,_⟩:=Bc b;obtain⟨q,c3,rfl,_⟩:=Bc p;obtain⟨k,c4,rfl,_⟩:=Bc c;obtain⟨v,c5,rfl,_⟩:=Bc g;obtain⟨y,c6,rfl,_⟩:=Bc j;obtain⟨x,c7,rfl,_⟩:=Bc f;have H:=qI j;have K:=qI f;refine⟨Sr.gX S,S.aM,S.br,rfl,rfl,u,r,q,k,v,y,x,s,c2,c3,c4,c5,c6,c7,?_,⟨⟨qI d,qI b,qI p,qI c⟩,qI g,?_,?_⟩,w⟩
 ·unfold Sr.gX;dsimp only;rw[m,oX]
 ·show aE Y _ 1 y S.store.length (ae S.store)
  rw[m];exact H
 ·show aE Y _ 1 x S.stack.reverse.length (ae S.stack.reverse)
  rw[oX];exact K
theorem Zgr (ll:List (List (Int×Int))) (l:List (Int×Int)) (aP:List Int) (size:Int) (z:Zn) (fA mA cA oA uA tA eA:Option Addr) (fc mc cc oc uc tc ec:Nat) (w:World) (E:cN w w.heap.size fA ll) (F:aE w w.heap.size 2 mA l.length (Cu l)) (h2:aE w w.heap.size 1 cA aP.length (ae aP)) (h3:dC w w.heap.size z oA uA tA eA) (hz:ek z) (x9:ll.length≤100000) (H3:∀l∈ll,l.length≤100000) (hn:l.length≤100000) (p1:aP.length≤1000000) (hi:∀l∈ll,∀x∈l,bK x.2) (B3:∀x∈l,bK x.2) :
  Calls Tryz.prog 27 #[(.agg #[.slice fA ll.length fc,.slice mA l.length mc,.slice cA aP.length cc,Aj size]),(.agg #[.slice oA z.aT.length oc,.slice uA z.aF.length uc,.slice tA z.aB.length tc,.slice eA z.aJ.length ec])] w fun e w'=>e=.returned (.bool true)∧Below w.heap.size w w':=by
 have H:=Aq (mU.start (fc:=fc) (mc:=mc) (cc:=cc) (oc:=oc) (uc:=uc) (tc:=tc) (ec:=ec) (size:=size) w E F h2 h3);clear E F h2 h3;have HZ:=Aq hz;have x8:=Aq (lU.mk (p:=⟨ll,l,aP,size⟩) (by show ll.length≤_;omega) (fun c hc=>Ex (H3 c hc) (by decide)) (by show l.length≤_;omega) p1);have HB:=Aq (fun X E F=>Ni fA mA fc mc (.slice cA aP.length cc) size ll l X ⟨_,_,_,rfl⟩ E F H3 hn hi B3);have HP:=Aq (fun X E F=>Mn fA mA fc mc X.heap.size (.slice cA aP.length cc) size ll l X ⟨_,_,_,rfl⟩ E F Aw (fun l hl=>Ex (H3 l hl) (by decide)) (Ex hn (by decide)));have b3:=Aq p1;clear hz x9 H3 hn p1 hi B3;go_enter Tryz.func27,Tryz.ntmps27;go_upto_region 1 with fail
 generalize (w.alloc (.cells #[.slice fA ll.length fc,.slice mA l.length mc,.slice cA aP.length cc,Aj size] 26)).alloc (.cells #[.slice oA z.aT.length oc,.slice uA z.aF.length uc,.slice tA z.aB.length tc,.slice eA z.aJ.length ec] 30)=X at *;have p0:=H.o.pz.cell 0;have Z:=H.o.pz.cell 1;have g:=H.o.pz.cell 2;have d:=H.o.pz.cell 3;have j:=H.o.zz.cell 0;have K:=H.o.zz.cell 1;have Y:=H.o.zz.cell 2;have m:=H.o.zz.cell 3;simp only[Az,Ay,Ba]at p0 Z g d j K Y m;have pl:=H.o.pz.lt;have Q:=H.o.zz.lt;go_wp2_with fail
 refine(HB.o X H.o.fl H.o.ml).mono ?_;have P:=Sr.jF ll l;have I:=fun c h aA y=>Sr.kx (ll:=ll) (l:=l) (c:=c) h (aA:=aA) y aP size z
 generalize Bu.build ll l=r at *;obtain⟨aA,er⟩:=r;simp only at P;rintro e w1⟨v,rfl,y,i⟩;obtain⟨A,c,rfl,_⟩:=Bc i;have H1:=Aq (H.o.go y);have h0:=Aq (qI i);clear p0 Z g d j K Y m pl Q;clear H y i HB;have p3:=Aq I;have x1:=Aq P;clear I P;dsimp only;go_upto_region 2 with fail
 have p0:=H1.o.pz.cell 0;have Z:=H1.o.pz.cell 1;have g:=H1.o.pz.cell 2;have d:=H1.o.pz.cell 3;have j:=H1.o.zz.cell 0;have K:=H1.o.zz.cell 1;have Y:=H1.o.zz.cell 2;have m:=H1.o.zz.cell 3;simp only[Az,Ay,Ba]at p0 Z g d j K Y m;have pl:=H1.o.pz.lt;have Q:=H1.o.zz.lt;go_wp2_with fail
 refine(HP.o w1 H1.o.fl H1.o.ml).mono ?_;obtain⟨⟨⟨c0,c1,c2,c3⟩,f⟩,zl⟩:∃r,r=Bd.program ll l:=⟨_,rfl⟩;have P:=x1.o;rw[←zl]at P ⊢;simp only at P;rintro e w2⟨rfl,z2⟩;simp only[Ug];have y:=z2.alloc z2.size (.cells #[Aj c0,Aj c1,Aj c2,Aj c3] 78);have u:=Aq (H1.o.go y);have z1:=Aq (qL h0.o y);have x0:=Aq (qG w2 78 #[Aj c0,Aj c1,Aj c2,Aj c3]);clear p0 Z g d j K Y m pl Q;have H2:=Aq zl;clear H1 h0 x1 zl y z2 HP;rcases P with⟨k1,k2,V⟩|⟨k1,k2⟩
 ·subst k2;have ho:=p3;clear p3 ho H2;have y1:(er != 0)=true:=by simpa using k1
  have z3:=u.o.b;rcases V with V|⟨V,k4⟩
  ·subst V;have HK:=Aq k1;clear k1;go_wp2_with fail
   go_ret;exact⟨rfl,z3⟩
  ·subst V;subst k4;clear k1;go_wp2_with fail
   go_ret;exact⟨rfl,z3⟩
 ·subst k1;subst k2;obtain⟨n,d1,d2,d3,d4,d5,d6⟩:=p3.o _ H2.o.symm _ rfl;have h1:c3≤4096:=by
   have:=Hd.holds H2.o.symm (s:=ah ⟨ll,l,aP,size⟩ z) rfl rfl rfl rfl rfl rfl rfl;exact this.2.2.2.2.1
  have ho:=Aq d1;have A3:=Aq d2;have x7:=Aq d3;have y0:=Aq h1;have p2:=Aq (Sr.ng aA aP size z HZ.o b3.o);clear p3 H2 d1 d2 d3 h1;go_upto_region 5 with fail
  generalize w2.alloc (.cells #[Aj c0,Aj c1,Aj c2,Aj c3] 78)=X2 at *;generalize w2.heap.size=kb at *;have p0:=u.o.pz.cell 0;have Z:=u.o.pz.cell 1;have g:=u.o.pz.cell 2;have d:=u.o.pz.cell 3;have j:=u.o.zz.cell 0;have K:=u.o.zz.cell 1;have Y:=u.o.zz.cell 2;have m:=u.o.zz.cell 3;simp only[Az,Ay,Ba]at p0 Z g d j K Y m;have pl:=u.o.pz.lt;have Q:=u.o.zz.lt;go_wp2_with fail
  refine(Zkj X2 aA aP size z A fA mA cA oA uA tA eA c ll.length fc l.length mc cc oc uc tc ec z1.o u.o.cv u.o.zn b3.o HZ.o (by omega)).mono ?_;generalize Sr.out aA aP size z=T at *;rw[d5];rintro e w3⟨M,A2,N,A4,A5,A6,A7,a1,a2,a3,a4,a5,a6,J,rfl,i,k3⟩;have y:=k3.alloc k3.size (.cells #[.slice M T.zn.aT.length a1,.slice A2 T.zn.aF.length a2,.slice N T.zn.aB.length a3,.slice A4 T.zn.aJ.length a4,.slice A5 T.cv.length a5,.slice A6 T.st.length a6,.slice A7 T.sk.length J,Aj T.steps,Aj 0,Aj 0] 39);have k:=Aq (u.o.go y);have B5:=Aq (qL z1.o y);have B7:=Aq (qQ x0.o y);have x3:=Aq (i.go (Hr w3 (.cells #[.slice M T.zn.aT.length a1,.slice A2 T.zn.aF.length a2,.slice N T.zn.aB.length a3,.slice A4 T.zn.aJ.length a4,.slice A5 T.cv.length a5,.slice A6 T.st.length a6,.slice A7 T.sk.length J,Aj T.steps,Aj 0,Aj 0] 39)));have b1:=Aq (qG w3 39 #[.slice M T.zn.aT.length a1,.slice A2 T.zn.aF.length a2,.slice N T.zn.aB.length a3,.slice A4 T.zn.aJ.length a4,.slice A5 T.cv.length a5,.slice A6 T.st.length a6,.slice A7 T.sk.length J,Aj T.steps,Aj 0,Aj 0]);have x5:=Aq d6;have x6:=Aq d4;clear p0 Z g d j K Y m pl Q;clear u z1 x0 y k3 i d4 d5 d6;go_upto_region 6 with fail
  generalize w3.alloc (.cells #[.slice M T.zn.aT.length a1,.slice A2 T.zn.aF.length a2,.slice N T.zn.aB.length a3,.slice A4 T.zn.aJ.length a4,.slice A5 T.cv.length a5,.slice A6 T.st.length a6,.slice A7 T.sk.length J,Aj T.steps,Aj 0,Aj 0] 39)=X3 at *;generalize w3.heap.size=ab at *;have p0:=k.o.pz.cell 0;have Z:=k.o.pz.cell 1;have g:=k.o.pz.cell 2;have d:=k.o.pz.cell 3;have j:=k.o.zz.cell 0;have K:=k.o.zz.cell 1;have Y:=k.o.zz.cell 2;have m:=k.o.zz.cell 3;simp only[Az,Ay,Ba]at p0 Z g d j K Y m;have pl:=k.o.pz.lt;have Q:=k.o.zz.lt;have V:=B7.o.cell 3;simp only[Az,Ay,Ba]at V;have kl:=B7.o.lt;go_wp2_with fail
  refine(Zfz X3 ll l aP size z fA mA cA oA uA tA eA fc mc cc oc uc tc ec k.o.pg k.o.zn x8.o HZ.o c3 (by have:=y0.o;omega)).mono ?_;have I:=ho.o;have z0:=A3.o;rw[I,z0];clear I z0 ho A3;rintro e w4⟨T2,pk,er,x4,z0,B1,D,B,S,G,C,R,W,b2,L,b4,b5,b6,b7,rfl,i,B4⟩;subst x4;subst z0;dsimp only;have i:iX w4 { T with steps:=n } B1 D B S G C R:=i;have y:=B4.alloc B4.size (.cells #[.slice B1 T.zn.aT.length W,.slice D T.zn.aF.length b2,.slice B T.zn.aB.length L,.slice S T.zn.aJ.length b4,.slice G T.cv.length b5,.slice C T.st.length b6,.slice R T.sk.length b7,Aj n,Aj pk,Aj 0] 39);have H4:=Aq (k.o.go y);have B2:=Aq (qL B5.o y);have A1:=Aq (x3.o.go y);have B6:=Aq (qQ b1.o y);have a7:=Aq (i.go (Hr w4 (.cells #[.slice B1 T.zn.aT.length W,.slice D T.zn.aF.length b2,.slice B T.zn.aB.length L,.slice S T.zn.aJ.length b4,.slice G T.cv.length b5,.slice C T.st.length b6,.slice R T.sk.length b7,Aj n,Aj pk,Aj 0] 39)));have x2:=Aq (qG w4 39 #[.slice B1 T.zn.aT.length W,.slice D T.zn.aF.length b2,.slice B T.zn.aB.length L,.slice S T.zn.aJ.length b4,.slice G T.cv.length b5,.slice C T.st.length b6,.slice R T.sk.length b7,Aj n,Aj pk,Aj 0]);clear p0 Z g d j K Y m pl Q;clear k B5 B7 x3 b1 y B4 i V kl;go_upto_region 7 with fail
  generalize w4.alloc (.cells #[.slice B1 T.zn.aT.length W,.slice D T.zn.aF.length b2,.slice B T.zn.aB.length L,.slice S T.zn.aJ.length b4,.slice G T.cv.length b5,.slice C T.st.length b6,.slice R T.sk.length b7,Aj n,Aj pk,Aj 0] 39)=X4 at *;generalize w4.heap.size=bb at *;have hq:=Gq A c X4.heap.size aA X4 B2.o Aw (by have:=x6.o;omega);rw[x7.o]at hq;have HQ:=Aq hq;clear hq;go_wp2_with fail
  refine HQ.o.mono ?_;rintro e w5⟨rfl,y⟩;have H5:=Aq (H4.o.go y);have O:=Aq (A1.o.go y);have q:=Aq (qQ B6.o y);have hb:=Aq (a7.o.go y);have a:=Aq (qQ x2.o y);clear H4 B2 A1 B6 a7 x2 y HQ;have q0:=q.o.cell 0;have q1:=q.o.cell 1;have q2:=q.o.cell 2;have q3:=q.o.cell 3;have q4:=q.o.cell 4;have q5:=q.o.cell 5;have q6:=q.o.cell 6;have q7:=q.o.cell 7;have q8:=q.o.cell 8;have q9:=q.o.cell 9;simp only[Az,Ay,Ba]at q0 q1 q2 q3 q4 q5 q6 q7 q8 q9;have ql:=q.o.lt;have r0:=a.o.cell 0;have r1:=a.o.cell 1;have r2:=a.o.cell 2;have r3:=a.o.cell 3;have r4:=a.o.cell 4;have r5:=a.o.cell 5;have r6:=a.o.cell 6;have r7:=a.o.cell 7;have r8:=a.o.cell 8;have r9:=a.o.cell 9;simp only[Az,Ay,Ba]at r0 r1 r2 r3 r4 r5 r6 r7 r8 r9;have rl:=a.o.lt;go_wp2_with fail
  refine(Qt w5 w5.heap.size Aw T.zn T.cv T.st T.sk T.steps 0 n pk 0 M A2 N A4 A5 A6 A7 B1 D B S G C R a1 a2 a3 a4 a5 a6 J W b2 L b4 b5 b6 b7 p2.o.zn p2.o.cv p2.o.st p2.o.sk O.o.zn O.o.cv O.o.st O.o.sk hb.o.zn hb.o.cv hb.o.st hb.o.sk).mono ?_;rintro e w6⟨rfl,hg⟩;have y:=qO hg Aw;have z3:=(H5.o.go y).b;have U:=Aq (qQ q.o y);clear H5 O q hb a hg y;clear q0 q1 q2 q3 q4 q5 q6 q7 q8 q9 ql;clear r0 r1 r2 r3 r4 r5 r6 r7 r8 r9 rl;have q0:=U.o.cell 0;have q1:=U.o.cell 1;have q2:=U.o.cell 2;have q3:=U.o.cell 3;have q4:=U.o.cell 4;have q5:=U.o.cell 5;have q6:=U.o.cell 6;have q7:=U.o.cell 7;have q8:=U.o.cell 8;have q9:=U.o.cell 9;simp only[Az,Ay,Ba]at q0 q1 q2 q3 q4 q5 q6 q7 q8 q9;have ql:=U.o.lt;have y2:(T.steps:Int)<aA.length:=by have:=x5.o;omega
  go_wp2_with fail
  go_ret;exact⟨rfl,z3⟩
end
end Go.Proofs.YtnhebmgibiomnaaGreat

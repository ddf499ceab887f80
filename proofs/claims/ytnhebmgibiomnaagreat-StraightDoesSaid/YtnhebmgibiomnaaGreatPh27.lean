import Derived.Laws.BytesArg
import Derived.Test.YtnhebmgibiomnaaGreatPh26
set_option linter.unusedVariables false
set_option linter.unusedSimpArgs false
set_option maxRecDepth 100000
set_option maxHeartbeats 8000000
namespace Go.Proofs.YtnhebmgibiomnaaGreat
section
open Go.RowKit
def Wb (N0:Nat)(m:cW)(w:World)(e:Ending)(w':World):Prop :=
 ∃(r:dI) (vb vi va vo vc:Value),e=.returned (.agg #[vb,vi,va,vo,vc,Aj r.x])∧(Hi N0).rel w' w'.heap.size r [vb,vi,va,vo,vc,Aj r.x]∧Mk w' m∧dX m.M w w'
def Zgm (N0:Nat)(m:cW)(w0:World)(rb B1:Nat)(wx:World):Prop:=∃vb vi va vo vc r,bc N0 m w0 rb B1 wx vb vi va vo vc r
def Zdk (N0:Nat)(m:cW)(w0:World)(rb:Nat)(wx:World):Prop :=
 ∃vb va A r,bc N0 m w0 rb wx.heap.size wx vb (.slice A 1 1) va (.slice none 0 0) (.slice none 0 0) r∧r.o=[]∧r.ao=[]∧r.eC.length=1∧∀t∈r.eC,t.length≤4
theorem Jp {N0:Nat}{w:World}{B:Nat} {l:List (List Int)} {A:Option Addr} {n c:Nat} (h:(Cn N0).rel w B l [.slice A n c]):l.length=n∧n≤c∧c≤maxLen∧af (Ei N0) 22 w B A l:=by
 obtain⟨u,v,e,z,y,x⟩:=h;simp only[pq,Value.slice.injEq,and_true]at e;obtain⟨rfl,rfl,rfl⟩:=e;exact⟨rfl,z,y,x⟩
theorem af.fr {N0:Nat}{α:Type}{R:Repr N0 α}{t:TypeId}{w w':World}{B:Nat}{A:Option Addr}{l:List α}(h:af R t w B A l){M:Nat}{u:TypeId}{q:Array Value} (r:Fr (fun k=>k=M) w w') (z:aH w M u q) (v:u ∉ t::R.df) (a:N0≤M):af R t w' B A l :=
 h.aQ fun g t' xs b _ y x=>by
  have s:g<w.heap.size:=(bN.1 x).1;rw[r.block g s]
  ·exact x
  ·rintro rfl;rcases y with y|y
   ·omega
   ·unfold aH at z;rw[z]at x
    injection x with x
    injection x with _ p
    exact v (p ▸ y)
theorem Gi (N0:Nat):190 ∉ (Hi N0).df:=by simp[Hi,Cn,Ei,Jh,Repr.map,Repr.row,Repr.bi,Repr.int]
theorem bc.rel {N0:Nat}{m:cW}{w0 wx:World}{rb B1:Nat}{vb vi va vo vc:Value}{r:dI}(h:bc N0 m w0 rb B1 wx vb vi va vo vc r):(Hi N0).rel wx wx.heap.size r [vb,vi,va,vo,vc,Aj r.x] :=
 ⟨[_],[_,_,_,_,_],rfl,(Cn N0).a_ h.eJ h.hB.2,[_],[_,_,_,_],rfl,(Cn N0).a_ h.eC h.hB.2,[_],[_,_,_],rfl,(Cn N0).a_ h.ahead h.hB.2,[_],[_,_],rfl,h.o.rel,[_],[_],rfl,h.ao.rel,rfl,h.x⟩
theorem Up {N0:Nat}{m:cW}{w w0 wx:World}{rb B1:Nat}{vb vi va vo vc:Value}{r:dI}{xs:Array Value}(h:bc N0 m w0 rb B1 wx vb vi va vo vc r)(u:aH wx w.heap.size 190 xs)(y:m.M<w.heap.size)(c:dX m.M w wx) :
  Wb N0 m w (.returned (.agg #[vb,vi,va,vo,vc,Aj r.x])) ((((((wx.setCell ⟨w.heap.size,0,none⟩ vb).setCell ⟨w.heap.size,1,none⟩ vi).setCell ⟨w.heap.size,2,none⟩ va).setCell ⟨w.heap.size,3,none⟩ vo).setCell ⟨w.heap.size,4,none⟩ vc).setCell ⟨w.heap.size,5,none⟩ (Aj r.x)):=by
 have z:N0≤w.heap.size:=by have:=h.hM.1;omega
 have v:=h.rel;have b:=(Hi N0).setCell v u (Gi N0) z 0 vb;have k:=(Hi N0).setCell b (u.aZ 0 vb) (Gi N0) z 1 vi;have q:=(Hi N0).setCell k ((u.aZ 0 vb).aZ 1 vi) (Gi N0) z 2 va;have p:=(Hi N0).setCell q (((u.aZ 0 vb).aZ 1 vi).aZ 2 va) (Gi N0) z 3 vo;have s:=(Hi N0).setCell p ((((u.aZ 0 vb).aZ 1 vi).aZ 2 va).aZ 3 vo) (Gi N0) z 4 vc;have a:=(Hi N0).setCell s (((((u.aZ 0 vb).aZ 1 vi).aZ 2 va).aZ 3 vo).aZ 4 vc) (Gi N0) z 5 (Aj r.x);refine⟨r,vb,vi,va,vo,vc,rfl,by simp only[Br];exact a,?_,?_⟩
 ·exact(((((h.am.setCell y _).setCell y _).setCell y _).setCell y _).setCell y _).setCell y _
 ·exact(((((c.setCell (.inr Aw) _).setCell (.inr Aw) _).setCell (.inr Aw) _).setCell (.inr Aw) _).setCell (.inr Aw) _).setCell (.inr Aw) _
theorem Zev (N0:Nat)(m:cW)(w:World)(kind:Int)(cA:Option Addr)(cc:Nat)(cl:List Int)(gA:Option Addr)(gn gc:Nat)(h:Mk w m)(hN:N0≤m.M)(hc:m.c3=.slice gA gn gc)(hj:1≤gn)(w5:gn≤1000)
  (v6:af (Repr.int (N0:=N0)) 3 w w.heap.size cA cl) (e7:cl.length≤1000) :
  Calls Tryz.prog 85 #[.pointer (some ⟨m.M,0,none⟩),Aj kind,.slice cA cl.length cc] w (Wb N0 m w):=by
 obtain⟨i1,ji,x9,y1,x7⟩:=info_parts Ku;obtain⟨i2,li,u9,z5,z4⟩:=info_parts Ig;obtain⟨i3,ki,b5,d1,c8⟩:=info_parts Zcx;have u8:=h.lt;obtain⟨xM,z7⟩:=h.aG;have b6:=Aq z7;clear z7;have u1:=Aq h;have HC:=Aq hc;have v5:=Aq v6;clear h hc v6;obtain⟨w0,hS⟩:∃w0,w0=w.alloc (.cells #[.slice none 0 0,.slice none 0 0,.slice none 0 0,.slice none 0 0,.slice none 0 0,Aj 0] 190):=⟨_,rfl⟩;have hz:w0.heap.size=w.heap.size+1:=by rw[hS];simp
 have u6:aH w0 w.heap.size 190 #[.slice none 0 0,.slice none 0 0,.slice none 0 0,.slice none 0 0,.slice none 0 0,Aj 0]:=by rw[hS];exact qv _ _ _
 have b2:dX m.M w w0:=by rw[hS];exact(qu _ _).alloc _
 have x1:(Cn N0).rel (w0.alloc (.cells #[.slice none 0 0,.slice none 0 0,.slice none 0 0,.slice none 0 0,.slice none 0 0,Aj 0] 190)) (w.heap.size+1+1) [] [.slice none 0 0]:=⟨_,_,rfl,Aw,By _,qF _ _ _ _ _⟩;have x2:bc N0 m w0 (w.heap.size+1) (w.heap.size+1+1) (w0.alloc (.cells #[.slice none 0 0,.slice none 0 0,.slice none 0 0,.slice none 0 0,.slice none 0 0,Aj 0] 190)) (.slice none 0 0) (.slice none 0 0) (.slice none 0 0) (.slice none 0 0) (.slice none 0 0) ⟨[],[],[],[],[],0⟩ :=
  ⟨qw _ _ _ (by omega),x1,x1,x1,qz _ _ _ _,qz _ _ _ _,by unfold bS;simp only;omega,(by rw[hS];exact(u1.o.alloc _).alloc _),(qu _ _).alloc _,⟨by omega,by omega⟩,⟨hN,by omega⟩,by omega,by simp;omega⟩
 have v1:=Aq u6;have z2:=Aq x2;have x5:=x2.am.cells.1 3 (by omega);simp only[Nat.reduceSub,Az,Bc,Ay]at x5;rw[HC.o,hS]at x5;have b4:=Aq hS;clear u6 x2 x1 hS u1;go_enter Tryz.func85,Tryz.ntmps85;go_wp2_with fail
 rw[←b4.o];refine(Mf N0 m _ gA gn gc z2.o.am hN HC.o hj w5).mono ?_;rintro e w2⟨l2,A2,c2,rfl,e1,e2,u5,a8,v0,z6⟩;have HI:=(z2.o.next v0 z6).dP rfl rfl;have f7:=HI.hB;have c:=HI.box.cell 1;have Z:=HI.box.frozen 1;have n:=HI.box.lt;simp only[Az,Bc,Ay]at c;have z9:Zdk N0 m w0 (w.heap.size+1) ((w2.alloc (.cells #[.slice A2 l2.length c2] 22)).setCell ⟨w.heap.size+1,1,none⟩ (.slice (some ⟨w2.heap.size,0,none⟩) 1 1)):=by
  have ha:=(HI.alloc (.cells #[.slice A2 l2.length c2] 22)).dP rfl rfl;have A5:(Cn N0).rel (w2.alloc (.cells #[.slice A2 l2.length c2] 22)) (w2.alloc (.cells #[.slice A2 l2.length c2] 22)).heap.size [l2] [.slice (some ⟨w2.heap.size,0,none⟩) 1 1] :=
   ⟨_,_,rfl,by simp,by unfold maxLen;omega,af.jU [[_]] (qv _ _ _) (by simp) ⟨⟨_,_,rfl,e1,e2,(u5.below (aI.alloc Aw _) Aw).a_ (by simp)⟩,trivial⟩⟩
  have hs:=ha.set 1 (.slice (some ⟨w2.heap.size,0,none⟩) 1 1) (r':=⟨[],[l2],[],[],[],0⟩) rfl ha.eJ A5 ha.ahead ha.o ha.ao ha.x;exact⟨_,_,_,_,by rw[Br];exact hs,rfl,rfl,rfl,by simpa using a8⟩
 have z0:=Aq z9;clear z9 HI v0 z6 u5 x5 z2;go_upto_if 25 with(fail)
 rw[←World.setCell_alloc_past _ _ _ _ n];obtain⟨w3,v7⟩:∃w3,w3=(w2.alloc (.cells #[.slice A2 l2.length c2] 22)).setCell ⟨w.heap.size+1,1,none⟩ (.slice (some ⟨w2.heap.size,0,none⟩) 1 1):=⟨_,rfl⟩;rw[←v7]at z0 ⊢;clear v7 c Z n;obtain⟨vb,va,A,r,a,ho,hc,P,h4⟩:=z0.o;obtain⟨N,J,cb,rfl⟩:∃N J cb,vb=.slice N J cb:=by obtain⟨T,c',e',_⟩:=a.eJ;exact⟨T,_,c',by injection e'⟩
 obtain⟨Aa,na,ca,rfl⟩:∃Aa na ca,va=.slice Aa na ca:=by obtain⟨T,c',e',_⟩:=a.ahead;exact⟨T,_,c',by injection e'⟩
 have B:=Aq a;have H:=Aq ho;have X:=Aq hc;have H4:=Aq h4;clear a z0 ho hc h4;have d7:w.heap.size<w3.heap.size:=by have:=B.o.fr.size;omega
 by_cases u2:kind=6
 ·subst u2;have b:=B.o.drew;have S:w3.drew.cell? ⟨w.heap.size+1,1,none⟩=some (.slice A 1 1):=by rw[b.box.cell];rfl
  go_wp2_with fail
  refine Bs (fun i=>!([3,4,5,7]:List Nat).contains i) (fun i=>([1]:List Nat).contains i) (fun i=>([3,4]:List Nat).contains i) [0,1,2,3,4,5,6,7] (fun w'=>w'.cell? ⟨w.heap.size+1,1,none⟩=some (.slice A 1 1)) (by kernel_rfl) (by kernel_rfl) (by kernel_rfl) (by kernel_rfl) ?_;refine Be ?_;refine Bj S ?_;refine Be ?_;refine Bi fun K u=>?_;go_simp
  refine(Mf N0 m _ gA gn gc b.am hN HC.o hj w5).mono ?_;rintro e w4⟨f,A4,c4,rfl,f1,f2,hl,y6,Q,R⟩;have l:=(b.next Q R).dP H.o X.o;dsimp only;refine u _ _ (fun _=>by rw[l.box.cell];rfl) ?_;clear u K;refine Bi fun K u=>?_;go_simp
  have h9:=(l.alloc (.cells #[.slice A4 f.length c4] 22)).dP H.o X.o;refine u _ _ (fun _=>by rw[h9.box.cell];rfl) ?_;clear u K;refine Bi fun K u=>?_
  rw[if_pos (by kernel_rfl)];refine Hx _ (.tmp 27) (.tmp 30) _ rfl (Ei N0) 22 i1 _ 24 Tryz.underlying187 ji x9 y1 x7 rfl A 1 r.eC P (by omega) rfl (Jp h9.eC).2.2.2 (some ⟨w4.heap.size,0,none⟩) 1 1 [f] rfl rfl 22 (af.jU [[_]] (qv _ _ _) (by simp) ⟨⟨_,_,rfl,f1,f2,(hl.below (aI.alloc Aw _) Aw).a_ (by simp)⟩,trivial⟩) (by unfold maxLen;omega) (by omega) ?_;intro U V D g1 g2 O HO;have p:=(h9.below HO).dP H.o X.o;have c:=p.box.cell 1;have Z:=p.box.frozen 1;have n:=p.box.lt;simp only[Az,Bc,Ay]at c;refine Bh u ?_;clear u K;refine Be ?_;refine Bi fun K u=>?_;go_simp
  refine Bh u ?_;clear u K;refine Bb ?_;have Y:=p.set 1 (.slice U 2 V) (r' := {r with eC:=r.eC++[f]}) rfl p.eJ ⟨_,_,by simp[P],by simp[P];omega,g2,O⟩ p.ahead p.o p.ao p.x;generalize hI:D.setCell _ _=G at *;go_wp2_with fail
  refine(Bk _ m _ Y.am (by omega) (by omega)).mono ?_;rintro e w7⟨x,b1,A',rfl,L,E,-⟩;have s:=Y.next L E;have c:=s.box.cell 5;have Z:=s.box.frozen 5;have n:=s.box.lt;simp only[Az,Bc,Ay]at c;have d:=s.set 5 (Aj (x*10-200)) (r' := {r with eC:=r.eC++[f],x:=x*10-200}) rfl s.eJ s.eC s.ahead s.o s.ao (by unfold bS;simp only;omega);clear hI s Y L E p HO h9 l b B;go_upto_region 7 with(fail)
  generalize a5:w7.setCell _ _=w8 at *;clear a5 c Z n;have y:=d.box.cell;have y2:=d.box.lt;have C:=d.fr.aG v1.o (by omega);have q:=C.cell;have z:=C.frozen;have q2:=C.lt;have b3:w.heap.size+1≠w.heap.size:=by omega
  have a6:w.heap.size≠w.heap.size+1:=by omega
  have x8:=Aq C;have y5:=Aq d;have z1:=Aq (b2.trans d.fr);clear C d;go_wp2;refine bodyPost_ret (v:=.agg #[.slice N J cb,.slice U 2 V,.slice Aa na ca,.slice none 0 0,.slice none 0 0,Aj (x*10-200)]) (by simp[results,Tryz.results85,go_sem,q]) rfl ?_;exact Up y5.o x8.o u8 z1.o
 ·have c5:(kind==6)=false:=by simpa using u2
  go_wp2_with fail
  refine(Bk _ m _ B.o.am (by omega) (by omega)).mono ?_;rintro e w4⟨x,b1,A',rfl,Q,R,-⟩;have l:=(B.o.next Q R).dP H.o X.o;have h6:=Aq l;clear l Q R B;go_upto_if 41 with(fail)
  go_cut [] (fun wx=>Zdk N0 m w0 (w.heap.size+1) wx)
  case first =>
   by_cases hx:x=0
   ·subst hx;go_wp2_with fail
    refine(Ot N0 m _ 2 gA gn gc h6.o.am hN HC.o hj w5 (by omega) (by omega)).mono ?_;rintro e D⟨lb,U,V,rfl,f1,f2,O,e4,nb,Ab⟩;have p:=(h6.o.next nb Ab).dP H.o X.o;have Y:=p.set 0 (.slice U lb.length V) (r' := {r with eJ:=lb}) rfl ⟨_,_,rfl,f1,f2,O⟩ p.eC p.ahead p.o p.ao p.x;have c:=p.box.cell 0;have Z:=p.box.frozen 0;have n:=p.box.lt;simp only[Az,Ay]at c;have I:=Aq Y;clear p Y O nb Ab h6;go_wp2_with fail
    obtain⟨G,hI⟩:∃G,G=D.setCell ⟨w.heap.size+1,0,none⟩ (.slice U lb.length V):=⟨_,rfl⟩;rw[←hI]at I ⊢;clear hI c Z n;refine(Ot N0 m _ 2 gA gn gc I.o.am hN HC.o hj w5 (by omega) (by omega)).mono ?_;rintro e w7⟨la,A7,c7,rfl,f3,f4,u0,f6,L,E⟩;have s:=(I.o.next L E).dP H.o X.o;have d:=s.set 2 (.slice A7 la.length c7) (r' := {r with eJ:=lb,ahead:=la}) rfl s.eJ s.eC ⟨_,_,rfl,f3,f4,u0⟩ s.o s.ao s.x;have c:=s.box.cell 2;have Z:=s.box.frozen 2;have n:=s.box.lt;simp only[Az,Bc,Ay]at c;have x6:=Aq d;clear s d u0 L E I;go_wp2_with fail
    go_meet;exact⟨_,_,_,{r with eJ:=lb,ahead:=la},by rw[Br];exact x6.o,H.o,X.o,P,H4.o⟩
   ·have d9:(x==0)=false:=by simpa using hx
    go_wp2_with fail
    go_meet;exact⟨_,_,_,_,h6.o,H.o,X.o,P,H4.o⟩
  case rest =>
   clear h6 H X P H4;obtain⟨vb,va,A,r,a,ho,hc,P,h4⟩:=hcut;have B:=Aq a;have H:=Aq ho;have X:=Aq hc;have H4:=Aq h4;clear a ho hc h4;go_upto_block 0 with(fail)
   go_cut [] (fun wx=>∃B1,Zgm N0 m w0 (w.heap.size+1) B1 wx)
   case first =>
    by_cases b7:kind=1∨kind=5
    ·obtain⟨s0,y9⟩:∃s0,r.eC[0]?=some s0:=⟨_,Bg (by omega)⟩;have f5:s0.length≤4:=H4.o s0 (Bx y9);have c0:=Aq y9;have h0:∃(k:Nat) (vo:Value) (r':dI),k≤s0.length∧Value.int .i64 0=Aj k∧bc N0 m w0 (w.heap.size+1) wc.heap.size wc vb (.slice A 1 1) va vo (.slice none 0 0) r'∧r'.eC=r.eC∧r'.o.length≤k:=⟨0,_,r,by omega,rfl,B.o,rfl,by rw[H.o];simp⟩;have H0:=Aq h0;clear y9 h0;rcases b7 with rfl|rfl
     all_goals
      go_wp2_with fail
      go_loopw [9] (fun i wr=>∃(k:Nat) (vo:Value) (r':dI),k≤s0.length∧i=Aj k∧bc N0 m w0 (w.heap.size+1) wc.heap.size wr vb (.slice A 1 1) va vo (.slice none 0 0) r'∧r'.eC=r.eC∧r'.o.length≤k) (fun i _=>s0.length-(intOf i).toNat)
      case atStart=>exact H0.o
      case round =>
       obtain⟨k,vo,r',hk,rfl,a,A5,v9⟩:=hrel;have y:=a.box.cell 1;have y2:=a.box.lt;simp only[Az,Bc,Ay]at y;obtain⟨ib,io,d3,hA,e5,⟨iA,ic,rfl,_⟩,v3⟩:=(Jp a.eC).2.2.2.get (i:=0) (by rw[A5];exact c0.o);have y3:=v3 0 _ rfl;simp only[Ei,Repr.row,Nat.zero_mul,oq]at y3;rw[hA]at y;have y4:ib<wr.heap.size:=by have:=a.hB;omega
       have y0:=Aq A5;have d8:=Aq hA;clear v3 A5 hA;by_cases z8:(k:Int)<s0.length
       ·go_upto_block 4 with(fail)
        go_cut [] (fun wx=>∃(vo:Value) (r':dI),bc N0 m w0 (w.heap.size+1) wc.heap.size wx vb (.slice A 1 1) va vo (.slice none 0 0) r'∧r'.eC=r.eC∧r'.o.length≤k+1)
        case first =>
         clear y y2 y3 y4;have b:=a.drew;obtain⟨Ao,co,rfl,_⟩:=a.o.form;have S:wr.drew.cell? ⟨w.heap.size+1,3,none⟩=some (.slice Ao r'.o.length co):=by rw[b.box.cell];rfl
         go_wp2_with fail
         refine Bs (fun i=>!([4,5,6,8]:List Nat).contains i) (fun i=>([1]:List Nat).contains i) (fun i=>([4,5]:List Nat).contains i) [0,1,2,3,4,5,6,7,8] (fun w'=>w'.cell? ⟨w.heap.size+1,3,none⟩=some (.slice Ao r'.o.length co)) (by kernel_rfl) (by kernel_rfl) (by kernel_rfl) (by kernel_rfl) ?_;refine Be ?_;refine Bj S ?_;refine Be ?_;refine Be ?_;refine Bi fun K u=>?_;go_simp
         refine(Bk _ m _ b.am (by omega) (by omega)).mono ?_;rintro e D⟨x,b1,A',rfl,nb,Ab,-⟩;have p:=b.next nb Ab;dsimp only;refine u _ _ (fun _=>by rw[p.box.cell];rfl) ?_;clear u K;refine Bi fun K u=>?_;go_simp
         have hK:=p.alloc (.cells #[Aj x] 3);refine u _ _ (fun _=>by rw[hK.box.cell];rfl) ?_;clear u K;refine Bi fun K u=>?_
         refine Df _ rfl (.tmp 98) (.tmp 102) _ rfl (Repr.int (N0:=N0)) wc.heap.size 3 i2 _ 8 Tryz.underlying22 li u9 z5 z4 rfl (show 0<1 by decide) (by simp[Repr.int]) (by have:=a.hB;have:=a.hM;omega) (.slice Ao r'.o.length co) r'.o rfl hK.o D.heap.size [_] x rfl (qv _ _ _) ⟨rfl,(by unfold bS;omega)⟩ (by unfold maxLen;omega) (by omega) hK.hB.2 ?_;intro A6 c6 G y8 x4;obtain⟨c5,Y⟩:=hK.jh y8 x4;have c:=c5.cell 3;have Z:=c5.frozen 3;have n:=c5.lt;simp only[Az,Bc,Ay]at c;refine Bh u ?_;clear u K;refine Be ?_;refine Bi fun K u=>?_;go_simp
         refine Bh u ?_;clear u K;refine Bb ?_;go_wp2_with fail
         go_meet;exact⟨_,_,Y,y0.o,by simp;omega⟩
        case rest =>
         obtain⟨vo,r',b0,h7,h2⟩:=hcut;have h5:=Aq b0;have x3:=Aq h7;clear b0 h7 y y3;go_wp2_with fail
         go_roundw
         case rel=>exact⟨k+1,vo,r',by omega,by go_num,h5.o,x3.o,h2⟩
         case measure=>simp[intOf];omega
       ·go_wp2_with fail
        go_meet;exact⟨_,_,_,_,_,_,_,a⟩
    ·have n1:(kind==1)=false:=by simp;omega
     have n5:(kind==5)=false:=by simp;omega
     by_cases u4:kind=2
     ·subst u4;go_wp2_with fail
      refine(Bk _ m _ B.o.am (by omega) (by omega)).mono ?_;rintro e w4⟨K,a7,a4,rfl,Q,R,-⟩;have l:=B.o.next Q R;have h0:∃(k:Nat) (vo:Value) (r':dI),k≤K.toNat∧Value.int .i64 0=Aj k∧bc N0 m w0 (w.heap.size+1) wc.heap.size w4 vb (.slice A 1 1) va vo (.slice none 0 0) r'∧r'.eC=r.eC∧r'.o.length≤k:=⟨0,_,r,by omega,rfl,l,rfl,by rw[H.o];simp⟩;have H0:=Aq h0;clear h0 l Q R;go_wp2_with fail
      go_loopw [11] (fun i wr=>∃(k:Nat) (vo:Value) (r':dI),k≤K.toNat∧i=Aj k∧bc N0 m w0 (w.heap.size+1) wc.heap.size wr vb (.slice A 1 1) va vo (.slice none 0 0) r'∧r'.eC=r.eC∧r'.o.length≤k) (fun i _=>K.toNat-(intOf i).toNat)
      case atStart=>exact H0.o
      case round =>
       obtain⟨k,vo,r',hk,rfl,a,A5,v9⟩:=hrel;have y0:=Aq A5;clear A5;by_cases z8:(k:Int)<K
       ·go_upto_block 6 with(fail)
        go_cut [] (fun wx=>∃(vo:Value) (r':dI),bc N0 m w0 (w.heap.size+1) wc.heap.size wx vb (.slice A 1 1) va vo (.slice none 0 0) r'∧r'.eC=r.eC∧r'.o.length≤k+1)
        case first =>
         have b:=a.drew;obtain⟨Ao,co,rfl,_⟩:=a.o.form;have S:wr.drew.cell? ⟨w.heap.size+1,3,none⟩=some (.slice Ao r'.o.length co):=by rw[b.box.cell];rfl
         go_wp2_with fail
         refine Bs (fun i=>!([4,5,6,8]:List Nat).contains i) (fun i=>([1]:List Nat).contains i) (fun i=>([4,5]:List Nat).contains i) [0,1,2,3,4,5,6,7,8] (fun w'=>w'.cell? ⟨w.heap.size+1,3,none⟩=some (.slice Ao r'.o.length co)) (by kernel_rfl) (by kernel_rfl) (by kernel_rfl) (by kernel_rfl) ?_;refine Be ?_;refine Bj S ?_;refine Be ?_;refine Be ?_;refine Bi fun K u=>?_;go_simp
         refine(Bk _ m _ b.am (by omega) (by omega)).mono ?_;rintro e D⟨x,b1,A',rfl,nb,Ab,-⟩;have p:=b.next nb Ab;dsimp only;refine u _ _ (fun _=>by rw[p.box.cell];rfl) ?_;clear u K;refine Bi fun K u=>?_;go_simp
         have hK:=p.alloc (.cells #[Aj x] 3);refine u _ _ (fun _=>by rw[hK.box.cell];rfl) ?_;clear u K;refine Bi fun K u=>?_
         refine Df _ rfl (.tmp 115) (.tmp 119) _ rfl (Repr.int (N0:=N0)) wc.heap.size 3 i2 _ 8 Tryz.underlying22 li u9 z5 z4 rfl (show 0<1 by decide) (by simp[Repr.int]) (by have:=a.hB;have:=a.hM;omega) (.slice Ao r'.o.length co) r'.o rfl hK.o D.heap.size [_] x rfl (qv _ _ _) ⟨rfl,(by unfold bS;omega)⟩ (by unfold maxLen;omega) (by omega) hK.hB.2 ?_;intro A6 c6 G y8 x4;obtain⟨c5,Y⟩:=hK.jh y8 x4;have c:=c5.cell 3;have Z:=c5.frozen 3;have n:=c5.lt;simp only[Az,Bc,Ay]at c;refine Bh u ?_;clear u K;refine Be ?_;refine Bi fun K u=>?_;go_simp
         refine Bh u ?_;clear u K;refine Bb ?_;go_wp2_with fail
         go_meet;exact⟨_,_,Y,y0.o,by simp;omega⟩
        case rest =>
         obtain⟨vo,r',b0,h7,h2⟩:=hcut;have h5:=Aq b0;have x3:=Aq h7;clear b0 h7;go_wp2_with fail
         go_roundw
         case rel=>exact⟨k+1,vo,r',by omega,by go_num,h5.o,x3.o,h2⟩
         case measure=>simp[intOf];omega
       ·go_wp2_with fail
        go_meet;exact⟨_,_,_,_,_,_,_,a⟩
     ·have n2:(kind==2)=false:=by simpa using u4
      by_cases u7:kind=3
      ·subst u7;have b:=B.o.drew;have S:wc.drew.cell? ⟨w.heap.size+1,1,none⟩=some (.slice A 1 1):=by rw[b.box.cell];rfl
       go_wp2_with fail
       refine Bs (fun i=>!([3,4,6]:List Nat).contains i) (fun i=>([1]:List Nat).contains i) (fun i=>([3]:List Nat).contains i) [0,1,2,3,4,5,6] (fun w'=>w'.cell? ⟨w.heap.size+1,1,none⟩=some (.slice A 1 1)) (by kernel_rfl) (by kernel_rfl) (by kernel_rfl) (by kernel_rfl) ?_;refine Be ?_;refine Bj S ?_;refine Be ?_;refine Bi fun K u=>?_;go_simp
       refine(Ot N0 m _ 2 gA gn gc b.am hN HC.o hj w5 (by omega) (by omega)).mono ?_;rintro e w4⟨f,A4,c4,rfl,f1,f2,hl,y6,Q,R⟩;have l:=(b.next Q R).dP H.o X.o;dsimp only;refine u _ _ (fun _=>by rw[l.box.cell];rfl) ?_;clear u K;refine Bi fun K u=>?_
       rw[if_pos (by kernel_rfl)];refine Hx _ (.tmp 125) (.tmp 127) _ rfl (Ei N0) 22 i1 _ 24 Tryz.underlying187 ji x9 y1 x7 rfl A 1 r.eC P (by omega) rfl (Jp l.eC).2.2.2 A4 f.length c4 f rfl rfl 22 hl (by unfold maxLen;omega) (by omega) ?_;intro U V D g1 g2 O HO;have p:=(l.below HO).dP H.o X.o;have c:=p.box.cell 1;have Z:=p.box.frozen 1;have n:=p.box.lt;simp only[Az,Bc,Ay]at c;refine Bh u ?_;clear u K;refine Be ?_;refine Bi fun K u=>?_;go_simp
       refine Bh u ?_;clear u K;refine Bb ?_;have Y:=p.set 1 (.slice U (1+f.length) V) (r' := {r with eC:=r.eC++f}) rfl p.eJ ⟨_,_,by simp[P],by simp[P];omega,g2,O⟩ p.ahead p.o p.ao p.x;generalize hI:D.setCell _ _=G at *;have I:=Aq Y;clear hI Y p HO l b O hl Q R c Z n;go_wp2_with fail
       refine(Bk _ m _ I.o.am (by omega) (by omega)).mono ?_;rintro e w7⟨x,b1,A',rfl,L,E,-⟩;have s:=I.o.next L E;have c:=s.box.cell 3;have Z:=s.box.frozen 3;have n:=s.box.lt;simp only[Az,Bc,Ay]at c;have d:=(s.alloc (.cells #[Aj x] 3)).set 3 (.slice (some ⟨w7.heap.size,0,none⟩) 1 1) (r' := {r with eC:=r.eC++f,o:=[x]}) rfl (s.alloc _).eJ (s.alloc _).eC (s.alloc _).ahead (aM.eB (cs:=[_]) (qv _ _ _) s.hB.2 ⟨rfl,(by unfold bS;omega)⟩) (s.alloc _).ao s.x;rw[World.setCell_alloc_past _ _ _ _ n]at d;have x6:=Aq d;clear s d L E I;go_wp2_with fail
       go_meet;exact⟨_,_,_,_,_,_,_,x6.o⟩
      ·have n3:(kind==3)=false:=by simpa using u7
       have b:=B.o.drew;have S:wc.drew.cell? ⟨w.heap.size+1,1,none⟩=some (.slice A 1 1):=by rw[b.box.cell];rfl
       go_wp2_with fail
       refine Bs (fun i=>!([3,4,6]:List Nat).contains i) (fun i=>([1]:List Nat).contains i) (fun i=>([3]:List Nat).contains i) [0,1,2,3,4,5,6] (fun w'=>w'.cell? ⟨w.heap.size+1,1,none⟩=some (.slice A 1 1)) (by kernel_rfl) (by kernel_rfl) (by kernel_rfl) (by kernel_rfl) ?_;refine Be ?_;refine Bj S ?_;refine Be ?_;refine Bi fun K u=>?_;go_simp
       refine(Ot N0 m _ 2 gA gn gc b.am hN HC.o hj w5 (by omega) (by omega)).mono ?_;rintro e w4⟨f,A4,c4,rfl,f1,f2,hl,y6,Q,R⟩;have l:=(b.next Q R).dP H.o X.o;dsimp only;refine u _ _ (fun _=>by rw[l.box.cell];rfl) ?_;clear u K;refine Bi fun K u=>?_
       rw[if_pos (by kernel_rfl)];refine Hx _ (.tmp 50) (.tmp 52) _ rfl (Ei N0) 22 i1 _ 24 Tryz.underlying187 ji x9 y1 x7 rfl A 1 r.eC P (by omega) rfl (Jp l.eC).2.2.2 A4 f.length c4 f rfl rfl 22 hl (by unfold maxLen;omega) (by omega) ?_;intro U V D g1 g2 O HO;have p:=(l.below HO).dP H.o X.o;have c:=p.box.cell 1;have Z:=p.box.frozen 1;have n:=p.box.lt;simp only[Az,Bc,Ay]at c;refine Bh u ?_;clear u K;refine Be ?_;refine Bi fun K u=>?_;go_simp
       refine Bh u ?_;clear u K;refine Bb ?_;have Y:=p.set 1 (.slice U (1+f.length) V) (r' := {r with eC:=r.eC++f}) rfl p.eJ ⟨_,_,by simp[P],by simp[P];omega,g2,O⟩ p.ahead p.o p.ao p.x;generalize hI:D.setCell _ _=G at *;have I:=Aq (Y.dP H.o X.o);clear hI Y p HO l b O hl Q R c Z n;go_wp2_with fail
       refine(Bk _ m _ I.o.am (by omega) (by omega)).mono ?_;rintro e w7⟨K,a7,a4,rfl,L,E,-⟩;have s:=I.o.next L E;have h0:∃(k:Nat) (vc:Value) (r':dI),k≤K.toNat∧Value.int .i64 0=Aj k∧bc N0 m w0 (w.heap.size+1) G.heap.size w7 vb (.slice U (1+f.length) V) va (.slice none 0 0) vc r'∧r'.ao.length≤k:=⟨0,_,_,by omega,rfl,s,by simp only;rw[X.o];simp⟩;have H0:=Aq h0;clear h0 s L E;have e3:f.length≤2:=by simpa using y6
       go_wp2_with fail
       go_loopw [13] (fun i wr=>∃(k:Nat) (vc:Value) (r':dI),k≤K.toNat∧i=Aj k∧bc N0 m w0 (w.heap.size+1) G.heap.size wr vb (.slice U (1+f.length) V) va (.slice none 0 0) vc r'∧r'.ao.length≤k) (fun i _=>K.toNat-(intOf i).toNat)
       case atStart=>exact H0.o
       case round =>
        obtain⟨k,vc,r',hk,rfl,a,v9⟩:=hrel;by_cases z8:(k:Int)<K
        ·by_cases d5:(0:Int)<cl.length
         ·go_upto_block 2 with(fail)
          go_cut [] (fun wx=>∃(vc:Value) (r':dI),bc N0 m w0 (w.heap.size+1) G.heap.size wx vb (.slice U (1+f.length) V) va (.slice none 0 0) vc r'∧r'.ao.length≤k+1)
          case first =>
           obtain⟨Ak,ck,rfl,_⟩:=a.ao.form;obtain⟨x0,b1⟩:∃x0,cl[0]?=some x0:=⟨_,Bg (by omega)⟩;obtain⟨cb,co,e0,z3,f0,_,_⟩:=v5.o.get b1;rw[z3];have v8:∀W,dX m.M w W→∀(j:Nat) (x:Int),cl[j]?=some x→W.cell? ⟨cb,co+j,none⟩=some (Aj x)∧bS x:=by
            intro W hf j x F;obtain⟨e8,e6,e9,y7,_,⟨rfl,hx⟩,a0⟩:=(v5.o.fr hf b6.o (by simp[Repr.int]) hN).get F;rw[z3]at y7;simp only[Bv,Addr.mk.injEq,and_true]at y7;obtain⟨rfl,rfl⟩:=y7;have:=a0 0 _ rfl;exact⟨by simpa [Repr.int]using this,hx⟩
           have w6:=Aq v8;have b:=a.drew;have S:(fun w'=>w'.cell? ⟨w.heap.size+1,4,none⟩=some (.slice Ak r'.ao.length ck)∧w'.cell? ⟨w.heap.size+1,1,none⟩=some (.slice U (1+f.length) V)∧∀(j:Nat) (x:Int),cl[j]?=some x→w'.cell? ⟨cb,co+j,none⟩=some (Aj x)) wr.drew:=⟨by rw[b.box.cell];rfl,by rw[b.box.cell];rfl,fun j x F=>(w6.o _ (b2.trans b.fr) j x F).1⟩;have d4:(0:Int)≤((1+f.length:Nat):Int):=by omega
           clear v8 b1;go_wp2_with fail
           refine Bs (fun i=>!([6,11,15,16,18]:List Nat).contains i) (fun i=>([1,4,13]:List Nat).contains i) (fun i=>([6,11,15,16]:List Nat).contains i) [0,1,2,3,4,5,7,8,9,10,6,11,12,13,14,15,16,17,18] (fun w'=>w'.cell? ⟨w.heap.size+1,4,none⟩=some (.slice Ak r'.ao.length ck)∧w'.cell? ⟨w.heap.size+1,1,none⟩=some (.slice U (1+f.length) V)∧∀(j:Nat) (x:Int),cl[j]?=some x→w'.cell? ⟨cb,co+j,none⟩=some (Aj x)) (by kernel_rfl) (by kernel_rfl) (by kernel_rfl) (by kernel_rfl) ?_;refine Be ?_;refine Gf (v:=_) rfl rfl (by kernel_rfl) (fun _ _ _ h=>h) S rfl (fun wq hq=>by obtain⟨q1,_,_⟩:=hq;first|(go_simp;done)|(go_simp;rfl)) ?_;refine Be ?_;refine Be ?_;refine Gf (v:=_) rfl rfl (by kernel_rfl) (fun _ _ _ h=>h) S rfl (fun wq hq=>by obtain⟨_,q1,_⟩:=hq;first|(go_simp;done)|(go_simp;rfl)) ?_
           iterate 5 (refine Be ?_)
           refine Bi fun K u=>?_;go_simp
           refine(Bk _ m _ b.am (by omega) (by omega)).mono ?_;rintro e wa⟨x,b1,A',rfl,b8,a1,-⟩;have h3:=b.next b8 a1;dsimp only;refine u _ _ (fun _=>⟨by rw[h3.box.cell];rfl,by rw[h3.box.cell];rfl,fun j x F=>(w6.o _ (b2.trans h3.fr) j x F).1⟩) ?_;clear u K;refine Bi fun K u=>?_;go_simp
           refine(Bk _ m _ h3.am (by omega) (by omega)).mono ?_;rintro e wb⟨y,a9,d6,rfl,d2,a2,-⟩;have h1:=h3.next d2 a2;obtain⟨yn,rfl⟩:=Ds a9;obtain⟨z,v2⟩:∃z,cl[yn]?=some z:=⟨_,Bg (by omega)⟩;have b9:=(w6.o _ (b2.trans h1.fr) yn z v2).2;have v4:(fun w'=>w'.cell? ⟨w.heap.size+1,4,none⟩=some (.slice Ak r'.ao.length ck)∧w'.cell? ⟨w.heap.size+1,1,none⟩=some (.slice U (1+f.length) V)∧∀(j:Nat) (x:Int),cl[j]?=some x→w'.cell? ⟨cb,co+j,none⟩=some (Aj x)) wb:=⟨by rw[h1.box.cell];rfl,by rw[h1.box.cell];rfl,fun j x F=>(w6.o _ (b2.trans h1.fr) j x F).1⟩;dsimp only;refine u _ _ (fun _=>v4) ?_;clear u K;refine Be ?_;refine Gf (v:=_) rfl rfl (by kernel_rfl) (fun _ _ _ h=>h) v4 rfl (fun wq hq=>by obtain⟨_,_,q3⟩:=hq;have q1:=q3 yn z v2;clear q3;first|(go_simp;done)|(go_simp;rfl)) ?_;refine Be ?_;refine Bi fun K u=>?_;go_simp
           have l4:=h1.alloc (.cells #[Aj x,Aj z] 233);refine u _ _ (fun _=>⟨by rw[l4.box.cell];rfl,by rw[l4.box.cell];rfl,fun j x F=>(w6.o _ (b2.trans l4.fr) j x F).1⟩) ?_;clear u K;refine Bi fun K u=>?_
           refine Df _ rfl (.tmp 68) (.tmp 82) _ rfl (Jh N0) G.heap.size 233 i3 _ 16 Tryz.underlying188 ki b5 d1 c8 rfl (show 0<2 by decide) (by simp[Jh,Repr.bi,Repr.int]) (by have:=a.hB;have:=a.hM;omega) (.slice Ak r'.ao.length ck) r'.ao rfl l4.ao wb.heap.size [_,_] (x,z) rfl (qv _ _ _) ⟨[_],[_],rfl,⟨rfl,(by unfold bS;omega)⟩,rfl,b9⟩ (by unfold maxLen;omega) (by omega) l4.hB.2 ?_;intro A9 c9 w9 d0 u3;obtain⟨h8,a3⟩:=l4.gD d0 u3;have c1:dX m.M w w9:=(b2.trans l4.fr).dt u3 fun g e=>by have:=(l4.ao.block e).1;have:=a.hB;omega
           have c:=h8.cell 4;have Z:=h8.frozen 4;have n:=h8.lt;simp only[Az,Bc,Ay]at c;refine u _ _ (fun _=>⟨by rw[h8.cell];rfl,by rw[h8.cell];rfl,fun j x F=>(w6.o _ c1 j x F).1⟩) ?_;clear u K;refine Be ?_;refine Bi fun K u=>?_;go_simp
           refine Bh u ?_;clear u K;refine Bb ?_;go_wp2_with fail
           rw[←z3];go_meet;exact⟨_,_,a3,by simp;omega⟩
          case rest =>
           obtain⟨vc,r',b0,h2⟩:=hcut;have h5:=Aq b0;clear b0;go_wp2_with fail
           go_roundw
           case rel=>exact⟨k+1,vc,r',by omega,by go_num,h5.o,h2⟩
           case measure=>simp[intOf];omega
         ·go_wp2_with fail
          go_meet;exact⟨_,_,_,_,_,_,_,a⟩
        ·go_wp2_with fail
         go_meet;exact⟨_,_,_,_,_,_,_,a⟩
   case rest =>
    obtain⟨B1,vb,vi,va,vo,vc,r',d⟩:=hcut;obtain⟨N,J,cb,rfl⟩:∃N J cb,vb=.slice N J cb:=by obtain⟨T,c',e',_⟩:=d.eJ;exact⟨T,_,c',by injection e'⟩
    obtain⟨Ai,ni,ci,rfl⟩:∃N J cb,vi=.slice N J cb:=by obtain⟨T,c',e',_⟩:=d.eC;exact⟨T,_,c',by injection e'⟩
    obtain⟨Aa,na,ca,rfl⟩:∃N J cb,va=.slice N J cb:=by obtain⟨T,c',e',_⟩:=d.ahead;exact⟨T,_,c',by injection e'⟩
    obtain⟨Ao,co,rfl,_⟩:=d.o.form;obtain⟨Ak,ck,rfl,_⟩:=d.ao.form;have y:=d.box.cell;have y2:=d.box.lt;have C:=d.fr.aG v1.o (by omega);have q:=C.cell;have z:=C.frozen;have q2:=C.lt;have b3:w.heap.size+1≠w.heap.size:=by omega
    have a6:w.heap.size≠w.heap.size+1:=by omega
    have x8:=Aq C;have y5:=Aq d;have z1:=Aq (b2.trans d.fr);clear C d;go_wp2;refine bodyPost_ret (v:=.agg #[.slice N J cb,.slice Ai ni ci,.slice Aa na ca,.slice Ao r'.o.length co,.slice Ak r'.ao.length ck,Aj r'.x]) (by simp[results,Tryz.results85,go_sem,q]) rfl ?_;exact Up y5.o x8.o u8 z1.o
def La (N0:Nat):Repr N0 (Int×Int×Int):=Repr.bi Repr.int (Repr.bi Repr.int Repr.int)
def Ld (N0:Nat):Repr N0 (Int×Int×Int×Int):=Repr.bi Repr.int (Repr.bi Repr.int (Repr.bi Repr.int Repr.int))
theorem Pa (N0:Nat)(w:World)(B:Nat)(a b c:Int)(z:bS a)(y:bS b)(x:bS c):(La N0).rel w B (a,b,c) [Aj a,Aj b,Aj c]:=⟨[_],[_,_],rfl,⟨rfl,z⟩,[_],[_],rfl,⟨rfl,y⟩,rfl,x⟩
theorem Vl (N0:Nat)(w:World)(B:Nat)(a b c d:Int)(u:bS a)(z:bS b)(y:bS c)(x:bS d):(Ld N0).rel w B (a,b,c,d) [Aj a,Aj b,Aj c,Aj d]:=⟨[_],[_,_,_],rfl,⟨rfl,u⟩,[_],[_,_],rfl,⟨rfl,z⟩,[_],[_],rfl,⟨rfl,y⟩,rfl,x⟩
theorem Zan:(Tryz.prog.info? 177).map (fun i=>(i.zero,i.size,i.bytes))=some (some (.agg #[Aj 0,Aj 0,Aj 0]),3,24):=by kernel_rfl
theorem Tz:(Tryz.prog.info? 181).map (fun i=>(i.zero,i.size,i.bytes))=some (some (.agg #[Aj 0,Aj 0,Aj 0,Aj 0]),4,32):=by kernel_rfl
theorem Yb:(Tryz.prog.info? 183).map (fun i=>(i.zero,i.size,i.bytes))=some (some (.agg #[Aj 0,Aj 0,Aj 0,Aj 0]),4,32):=by kernel_rfl
structure dW where
 name:ByteArray
 dP:Int
 mark:Bool
 bq:List (Int×Int×Bool)
 aJ:List Int
 br:List (Int×Int×Int)
 bF:List (Int×Int×Int×Int)
 bY:List (Int×Int×Int×Int)
 dq:List (Int×Int)
def Fv (N0:Nat):Repr N0 dW:=Repr.map (fun g=>(g.name,g.dP,g.mark,(g.bq,g.aJ),g.br,g.bF,g.bY,g.dq))
 (Repr.bi Repr.str (Repr.bi Repr.int (Repr.bi Repr.bool (Repr.bi (Cv N0) (Repr.bi (Repr.row 177 (La N0)) (Repr.bi (Repr.row 181 (Ld N0)) (Repr.bi (Repr.row 183 (Ld N0)) (Fk N0))))))))
structure cO (N0:Nat) (m:cW) (w0:World) (gb:Nat) (wx:World) (vp ve va vn vd vh:Value) (g:dW):Prop where
 box:aH wx gb 73 #[.string g.name,Aj g.dP,.bool g.mark,vp,ve,va,vn,vd,vh]
 iI:(Cv N0).rel wx wx.heap.size (g.bq,g.aJ) [vp,ve]
 br:aM (La N0) 177 w0.heap.size wx va g.br
 bF:aM (Ld N0) 181 w0.heap.size wx vn g.bF
 bY:aM (Ld N0) 183 w0.heap.size wx vd g.bY
 dq:(Fk N0).rel wx wx.heap.size g.dq [vh]
 dP:bS g.dP
 am:Mk wx m
 fr:dX m.M w0 wx
 bU:w0.heap.size≤gb
 hM:N0≤m.M∧m.M<w0.heap.size
theorem Di (N0:Nat):(Cv N0).df=[230,3]:=rfl
theorem Fh (N0:Nat):(Fk N0).df=[96]:=rfl
theorem Dv (N0:Nat):(La N0).df=[]:=rfl
theorem Dg (N0:Nat):(Ld N0).df=[]:=rfl
section
variable {N0 : Nat} {m m' : cW} {w0 wx wy : World} {gb : Nat} {vp ve va vn vd vh : Value} {g : dW}
theorem cO.next (h:cO N0 m w0 gb wx vp ve va vn vd vh g)(u:Mk wy m')(x:dX m.M wx wy)(z:m'.M=m.M:=by rfl):cO N0 m' w0 gb wy vp ve va vn vd vh g:=by
 obtain⟨v,y⟩:=h.am.aG;have hM:=h.hM;have bU:=h.bU;exact⟨x.aG h.box (by omega),(Cv N0).a_ ((Cv N0).fr h.iI x y (by rw[Di];simp) hM.1) x.size,h.br.fr x y (by rw[Dv];simp) hM.1,h.bF.fr x y (by rw[Dg];simp) hM.1,h.bY.fr x y (by rw[Dg];simp) hM.1,
  (Fk N0).a_ ((Fk N0).fr h.dq x y (by rw[Fh];simp) hM.1) x.size,h.dP,u,by rw[z];exact h.fr.trans x,bU,by rw[z];exact hM⟩
theorem cO.below (h:cO N0 m w0 gb wx vp ve va vn vd vh g)(x:Below wx.heap.size wx wy):cO N0 m w0 gb wy vp ve va vn vd vh g:=by
 obtain⟨aK,q,z,u,y,xs,p,k⟩:=h.am;have v:=y.lt;exact h.next ⟨aK,q,z,u,y.below x v,xs,p.below x (by omega),k⟩ (qC x fun _ r _=>r)
theorem cO.alloc (h:cO N0 m w0 gb wx vp ve va vn vd vh g)(o:Obj):cO N0 m w0 gb (wx.alloc o) vp ve va vn vd vh g:=h.below (aI.alloc Aw _)
theorem cO.drew (h:cO N0 m w0 gb wx vp ve va vn vd vh g):cO N0 m w0 gb wx.drew vp ve va vn vd vh g:=h.below aI.drew
theorem cO.set (h:cO N0 m w0 gb wx vp ve va vn vd vh g)(i:Nat)(u:Value){z p k y v q:Value}{g':dW}
  (e : #[.string g.name,Aj g.dP,.bool g.mark,vp,ve,va,vn,vd,vh].setIfInBounds i u = #[.string g'.name,Aj g'.dP,.bool g'.mark,z,p,k,y,v,q])
  (d:(Cv N0).rel wx wx.heap.size (g'.bq,g'.aJ) [z,p]) (r:aM (La N0) 177 w0.heap.size wx k g'.br) (a:aM (Ld N0) 181 w0.heap.size wx y g'.bF) (s:aM (Ld N0) 183 w0.heap.size wx v g'.bY) (b:(Fk N0).rel wx wx.heap.size g'.dq [q]) (c:bS g'.dP) :
  cO N0 m w0 gb (wx.setCell ⟨gb,i,none⟩ u) z p k y v q g':=by
 have hM:=h.hM;have bU:=h.bU;have x:=h.box;exact⟨by rw[←e];exact x.aZ i u,by rw[Br];exact(Cv N0).setCell d x (by rw[Di];simp) (by omega) _ _,r.setCell x (by rw[Dv];simp) (by omega) _ _,a.setCell x (by rw[Dg];simp) (by omega) _ _,s.setCell x (by rw[Dg];simp) (by omega) _ _,
  by rw[Br];exact(Fk N0).setCell b x (by rw[Fh];simp) (by omega) _ _,c,h.am.setCell (by simp;omega) _,h.fr.setCell (.inr bU) _,bU,hM⟩
theorem cO.grown {α:Type}{R:Repr N0 α}{t:TypeId}{v:Value}{l:List α}(h:cO N0 m w0 gb wx vp ve va vn vd vh g)(k:aM R t w0.heap.size wx v l)(x:wx.grownBy wy v.ownBlock)(n1:121≠t)(y:73≠t) :
  aH wy gb 73 #[.string g.name,Aj g.dP,.bool g.mark,vp,ve,va,vn,vd,vh]∧Mk wy m∧dX m.M w0 wy :=
 ⟨h.box.cT k x y,h.am.grown k x n1 h.hM.2,h.fr.dt x fun _ e=>(k.block e).1⟩
theorem cO.jw (h:cO N0 m w0 gb wx vp ve va vn vd vh g){z:Option Addr}{n' u:Nat} {l':List (Int×Int×Int)} (k:aM (La N0) 177 w0.heap.size wy (.slice z n' u) l') (y:wx.grownBy wy va.ownBlock) :
  aH wy gb 73 #[.string g.name,Aj g.dP,.bool g.mark,vp,ve,va,vn,vd,vh]∧cO N0 m w0 gb (wy.setCell ⟨gb,5,none⟩ (.slice z n' u)) vp ve (.slice z n' u) vn vd vh {g with br:=l'} := by
 have hM:=h.hM;have bU:=h.bU;have v:N0≤w0.heap.size:=by omega
 obtain⟨x,q,p⟩:=h.grown h.br y (by decide) (by decide);exact⟨x,by simpa using x.aZ 5 (.slice z n' u),by rw[Br];exact(Cv N0).setCell ((Cv N0).a_ ((Cv N0).apart h.iI h.br y v (by rw[Di];simp)) y.size) x (by rw[Di];simp) (by omega) _ _,k.setCell x (by rw[Dv];simp) (by omega) _ _,
  (h.bF.apart h.br y v (by rw[Dg];simp)).setCell x (by rw[Dg];simp) (by omega) _ _,(h.bY.apart h.br y v (by rw[Dg];simp)).setCell x (by rw[Dg];simp) (by omega) _ _,
  by rw[Br];exact(Fk N0).setCell ((Fk N0).a_ ((Fk N0).apart h.dq h.br y v (by rw[Fh];simp)) y.size) x (by rw[Fh];simp) (by omega) _ _,h.dP,q.setCell (by simp;omega) _,p.setCell (.inr bU) _,bU,hM⟩
theorem cO.iy (h:cO N0 m w0 gb wx vp ve va vn vd vh g){z:Option Addr}{n' u:Nat} {l':List (Int×Int×Int×Int)} (k:aM (Ld N0) 181 w0.heap.size wy (.slice z n' u) l') (y:wx.grownBy wy vn.ownBlock) :
  aH wy gb 73 #[.string g.name,Aj g.dP,.bool g.mark,vp,ve,va,vn,vd,vh]∧cO N0 m w0 gb (wy.setCell ⟨gb,6,none⟩ (.slice z n' u)) vp ve va (.slice z n' u) vd vh {g with bF:=l'} := by
 have hM:=h.hM;have bU:=h.bU;have v:N0≤w0.heap.size:=by omega
 obtain⟨x,q,p⟩:=h.grown h.bF y (by decide) (by decide);exact⟨x,by simpa using x.aZ 6 (.slice z n' u),by rw[Br];exact(Cv N0).setCell ((Cv N0).a_ ((Cv N0).apart h.iI h.bF y v (by rw[Di];simp)) y.size) x (by rw[Di];simp) (by omega) _ _,(h.br.apart h.bF y v (by rw[Dv];simp)).setCell x (by rw[Dv];simp) (by omega) _ _,
  k.setCell x (by rw[Dg];simp) (by omega) _ _,(h.bY.apart h.bF y v (by rw[Dg];simp)).setCell x (by rw[Dg];simp) (by omega) _ _,
  by rw[Br];exact(Fk N0).setCell ((Fk N0).a_ ((Fk N0).apart h.dq h.bF y v (by rw[Fh];simp)) y.size) x (by rw[Fh];simp) (by omega) _ _,h.dP,q.setCell (by simp;omega) _,p.setCell (.inr bU) _,bU,hM⟩
theorem cO.jX (h:cO N0 m w0 gb wx vp ve va vn vd vh g){z:Option Addr}{n' u:Nat} {l':List (Int×Int×Int×Int)} (k:aM (Ld N0) 183 w0.heap.size wy (.slice z n' u) l') (y:wx.grownBy wy vd.ownBlock) :
  aH wy gb 73 #[.string g.name,Aj g.dP,.bool g.mark,vp,ve,va,vn,vd,vh]∧cO N0 m w0 gb (wy.setCell ⟨gb,7,none⟩ (.slice z n' u)) vp ve va vn (.slice z n' u) vh {g with bY:=l'} := by
 have hM:=h.hM;have bU:=h.bU;have v:N0≤w0.heap.size:=by omega
 obtain⟨x,q,p⟩:=h.grown h.bY y (by decide) (by decide);exact⟨x,by simpa using x.aZ 7 (.slice z n' u),by rw[Br];exact(Cv N0).setCell ((Cv N0).a_ ((Cv N0).apart h.iI h.bY y v (by rw[Di];simp)) y.size) x (by rw[Di];simp) (by omega) _ _,(h.br.apart h.bY y v (by rw[Dv];simp)).setCell x (by rw[Dv];simp) (by omega) _ _,
  (h.bF.apart h.bY y v (by rw[Dg];simp)).setCell x (by rw[Dg];simp) (by omega) _ _,k.setCell x (by rw[Dg];simp) (by omega) _ _,
  by rw[Br];exact(Fk N0).setCell ((Fk N0).a_ ((Fk N0).apart h.dq h.bY y v (by rw[Fh];simp)) y.size) x (by rw[Fh];simp) (by omega) _ _,h.dP,q.setCell (by simp;omega) _,p.setCell (.inr bU) _,bU,hM⟩
theorem cO.du (h:cO N0 m w0 gb wx vp ve va vn vd vh g){k:Nat}{t:TypeId}{xs:Array Value}(x:aH wx k t xs)(_n1:121≠t)(d:73≠t) (a:t ∉ (Cv N0).df) (_n4:t ∉ (La N0).df) (p:t ∉ (Fk N0).df) (s:w0.heap.size≤k) (r:∀(z:Nat),vd.ownBlock=some z→z≠k) (i:Nat) (u:Value) (c:t≠177:=by decide) (b:t≠181:=by decide):cO N0 m w0 gb (wx.setCell ⟨k,i,none⟩ u) vp ve va vn vd vh g:=by
 have hM:=h.hM;have bU:=h.bU;have v:gb≠k:=by
  rintro rfl;have y:=h.box;unfold aH at y x;rw[x]at y
  injection y with y
  injection y with _ q
  exact d q.symm
 exact⟨h.box.dE v u,by rw[Br];exact(Cv N0).setCell h.iI x a (by omega) _ _,h.br.setCell x (by rw[Dv];simpa using c) (by omega) _ _,h.bF.setCell x (by rw[Dg];simpa using b) (by omega) _ _,
  h.bY.dE x r (by rw[Dg];simp) (by omega) _ _,by rw[Br];exact(Fk N0).setCell h.dq x p (by omega) _ _,h.dP,h.am.setCell (by simp;omega) _,h.fr.setCell (.inr s) _,bU,hM⟩
theorem cO.rel (h:cO N0 m w0 gb wx vp ve va vn vd vh g):(Fv N0).rel wx wx.heap.size g [.string g.name,Aj g.dP,.bool g.mark,vp,ve,va,vn,vd,vh] :=
 ⟨[_],[_,_,_,_,_,_,_,_],rfl,rfl,[_],[_,_,_,_,_,_,_],rfl,⟨rfl,h.dP⟩,[_],[_,_,_,_,_,_],rfl,rfl,[_,_],[_,_,_,_],rfl,h.iI,[_],[_,_,_],rfl,h.br.rel,[_],[_,_],rfl,h.bF.rel,[_],[_],rfl,h.bY.rel,h.dq⟩
end
theorem Qz {N0:Nat}{w:World}{B:Nat}{g:dW}{cs:List Value} (h:(Fv N0).rel w B g cs) :
  ∃k b kp d ne p u f z s r kn y x a A c,cs=[.string g.name,Aj g.dP,.bool g.mark,.slice k b kp,.slice d ne p,.slice u f z,.slice s r kn,.slice y x a,.slice A g.dq.length c]∧g.dq.length≤c∧c≤maxLen∧af (Qx N0) 96 w B A g.dq:=by
 obtain⟨_,_,rfl,rfl,_,_,rfl,⟨rfl,_⟩,_,_,rfl,rfl,_,_,rfl,⟨_,_,rfl,⟨j,k1,rfl,_⟩,⟨m,k2,rfl,_⟩⟩,_,_,rfl,⟨i,o,rfl,_⟩,_,_,rfl,⟨n,l,rfl,_⟩,_,_,rfl,⟨H,K,rfl,_⟩,⟨A,c,rfl,e,v,q⟩⟩:=h;exact⟨_,_,_,_,_,_,_,_,_,_,_,_,_,_,_,A,c,rfl,e,v,q⟩
theorem Rj:(Tryz.prog.info? 24).map (fun i=>(i.zero,i.size,i.bytes))=some (some (.slice none 0 0),1,24):=by kernel_rfl
end
section
open Go.RowKit
def Uc (m:cW)(w0:World)(n:Int)(i:Nat)(v:Value)(w:World):Prop :=
 match i with
 |0=>v=Aj n
 |1=>v=Aj (97+n)
 |2=>v=.int .u8 (97+n)
 |3=>∃g:Nat,v=.slice (some ⟨g,0,none⟩) 1 1∧aH w g 5 #[.int .u8 (97+n)]∧w0.heap.size≤g
 |4=>∃s:ByteArray,v=.string s∧s.size≤100
 |5=>∃s,v=.string s
 |6=>v=.pointer (some ⟨m.M,0,none⟩)
 |7=>∃r:Int,v=Aj r∧0≤r∧r<19
 |8=>∃r:Int,v=Aj r∧0≤r∧r≤900
 |9=>∃r:Int,v=Aj r∧0≤r∧r≤1000
 |10=>v=.pointer (some ⟨m.M,0,none⟩)
 |11=>∃r:Int,v=Aj r∧0≤r∧r<4
 |12=>∃b,v=.bool b
 |13=>∃(s:ByteArray) (r:Int) (b:Bool),v=.agg #[.string s,Aj r,.bool b,.slice none 0 0,.slice none 0 0,.slice none 0 0,.slice none 0 0,.slice none 0 0,.slice none 0 0]∧0≤r∧r≤1000
 |_=>∃b:Nat,v=.pointer (some ⟨b,0,none⟩)∧aH w b 73 #[.string ByteArray.empty,Aj 0,.bool false,.slice none 0 0,.slice none 0 0,.slice none 0 0,.slice none 0 0,.slice none 0 0,.slice none 0 0]∧w0.heap.size≤b
theorem Xw:(Tryz.prog.info? 73).map (fun i=>(i.zero,i.size,i.bytes))=some (some (.agg #[.string ByteArray.empty,Aj 0,.bool false,.slice none 0 0,.slice none 0 0,.slice none 0 0,.slice none 0 0,.slice none 0 0,.slice none 0 0]),9,176):=by kernel_rfl
theorem Iz {N0:Nat}{w:World}{B:Nat} {l:List (Int×Int×Bool)} {es:List Int} {vp ve:Value} (h:(Cv N0).rel w B (l,es) [vp,ve]):∃A c y z,vp=.slice A l.length c∧ve=.slice y es.length z:=by
 obtain⟨_,_,x,⟨v,p,rfl,_⟩,⟨u,k,rfl,_⟩⟩:=h;simp only[oa,gs,pq,and_true]at x;obtain⟨rfl,rfl⟩:=x;exact⟨_,_,_,_,rfl,rfl⟩
theorem Tl (N0:Nat):73 ∉ (Fv N0).df:=by show 73 ∉ [230,3,177,181,183,96];decide
theorem Gt (N0:Nat):121 ∉ 73::(Fv N0).df:=by show 121 ∉ [73,230,3,177,181,183,96];decide
theorem Mk.mX {w:World}{m:cW}(h:Mk w m)(v:Value):Mk (w.setCell ⟨m.M,3,none⟩ v) {m with c3:=v} := by
 obtain⟨aK,p,y,x,z,xs,k,u⟩:=h;exact⟨aK,p,y,x,by simpa using z.aZ 3 v,xs,k.setCell x _,u⟩
theorem Fr.nm {S:Nat→Prop}{w0 wx wy:World}{row:Option Nat}(h:Fr S w0 wx)(x:wx.grownBy wy row)(u:∀g,row=some g→S g):Fr S w0 wy :=
 ⟨x.os.trans h.os,x.tape.trans h.tape,x.output.trans h.output,Ex h.size x.size,fun k z y=>(x.block k (Dm z h.size) fun e=>y (u k e.symm)).trans (h.block k z y)⟩
def lS (N0:Nat)(m:cW)(w:World)(gb:Nat)(vp:Value)(pn:Nat)(q a b:Nat)(wx:World):Prop :=
 ∃ve va vn vd vh g,cO N0 m w gb wx vp ve va vn vd vh g∧g.bq.length=pn∧g.br.length≤q∧g.bF.length≤a∧g.bY.length≤b∧g.dq=[]
def kg (N0:Nat)(m:cW)(w:World)(gb y:Nat)(x:Int)(vp:Value)(pn k:Nat)(wr:World):Prop :=
 aH wr y 178 #[Aj 1,Aj 0,Aj 1,Aj 1,Aj 3,Aj 0,Aj 4,Aj 0,Aj 2,Aj x]∧w.heap.size≤y∧lS N0 m w gb vp pn 1 k 0 wr
theorem Th {wr:World}{y:Nat}{t:TypeId}{x:Int} (_hb:aH wr y t #[Aj 1,Aj 0,Aj 1,Aj 1,Aj 3,Aj 0,Aj 4,Aj 0,Aj 2,Aj x]) (u:0≤x∧x≤1) {k:Nat} (v:k<5) :
  ∃z cc:Int,1≤z∧z≤4∧0≤cc∧cc≤1∧∀W,aH W y t #[Aj 1,Aj 0,Aj 1,Aj 1,Aj 3,Aj 0,Aj 4,Aj 0,Aj 2,Aj x]→W.cell? ⟨y,k*2,none⟩=some (Aj z)∧W.cell? ⟨y,k*2+1,none⟩=some (Aj cc):=by
 have:k=0∨k=1∨k=2∨k=3∨k=4:=by omega
 rcases this with rfl|rfl|rfl|rfl|rfl
 ·exact⟨1,0,by omega,by omega,by omega,by omega,fun _ h=>⟨by rw[h.cell];rfl,by rw[h.cell];rfl⟩⟩
 ·exact⟨1,1,by omega,by omega,by omega,by omega,fun _ h=>⟨by rw[h.cell];rfl,by rw[h.cell];rfl⟩⟩
 ·exact⟨3,0,by omega,by omega,by omega,by omega,fun _ h=>⟨by rw[h.cell];rfl,by rw[h.cell];rfl⟩⟩
 ·exact⟨4,0,by omega,by omega,by omega,by omega,fun _ h=>⟨by rw[h.cell];rfl,by rw[h.cell];rfl⟩⟩
 ·exact⟨2,x,by omega,by omega,by omega,by omega,fun _ h=>⟨by rw[h.cell];rfl,by rw[h.cell];rfl⟩⟩
def Zdo (N0:Nat)(m:cW)(aN:Nat)(gl:List dW)(w:World)(e:Ending)(w':World):Prop :=
 ∃(u:Value) (A:Option Addr) (c:Nat) (g:dW) (x:Int),e=.returned u∧aM (Fv N0) 73 aN w' (.slice A (gl.length+1) c) (gl++[g])∧Mk w' {m with c3:=.slice A (gl.length+1) c,fa:=Aj x}∧0≤x∧x≤2∧g.bq.length≤10∧Jd g.dq∧Fr (fun k=>k=m.M∨aN≤k) w w'
theorem Zcb (N0:Nat)(m:cW)(w:World)(n:Int)(aN:Nat)(gl:List dW)(gA:Option Addr)(gc:Nat)(rA:Option Addr)(rn rc:Nat)(fA:Option Addr)(fn fc:Nat)(h:Mk w m)(hN:N0≤m.M)(n3:0≤n)(l7:n≤100)
  (h3:m.c3=.slice gA gl.length gc) (l5:gl.length≤100) (h5:aM (Fv N0) 73 aN w (.slice gA gl.length gc) gl) (g5:m.M<aN) (n1:aN≤w.heap.size)
  (h8:m.c8=.slice rA rn rc) (m3:rn≤3) (h9:m.c9=.slice fA fn fc) (m9:fn≤3) :
  Calls Tryz.prog 58 #[.pointer (some ⟨m.M,0,none⟩),Aj n] w (Zdo N0 m aN gl w):=by
 obtain⟨i1,ji,i6,g7,j6⟩:=info_parts Zan;obtain⟨i2,li,j9,j4,g3⟩:=info_parts Tz;obtain⟨i3,ki,i7,l2,j0⟩:=info_parts Yb;obtain⟨i4,pi,j8,k8,l1⟩:=info_parts Xw;have j3:=h.lt;have v5:=Aq h;have i0:=Aq h;have H3:=Aq h3;have H8:=Aq h8;have H9:=Aq h9;have a6:=Aq h5;clear h h3 h8 h9 h5;go_enter Tryz.func58,Tryz.ntmps58;go_upto_region 0 with(fail)
 go_cut [4] (fun v wx=>∃gb:Nat,v=.pointer (some ⟨gb,0,none⟩)∧∃s r b,cO N0 m w gb wx (.slice none 0 0) (.slice none 0 0) (.slice none 0 0) (.slice none 0 0) (.slice none 0 0) (.slice none 0 0) ⟨s,r,b,[],[],[],[],[],[]⟩)
 case first =>
  go_wp2_with fail
  refine Fs (Uc m w n) (fun W=>Mk W m∧dX m.M w W) (dX m.M) (by kernel_rfl) (by kernel_rfl) 15 rfl ?_ ?_ ?_ ?_
  ·intro i v W W' X hr
   match i with
   |0|1|2|4|5|6|7|8|9|10|11|12|13=>exact X
   |3=>obtain⟨g,e,hb,hg⟩:=X;exact⟨g,e,hr.aG hb (by omega),hg⟩
   |i+14=>obtain⟨g,e,hb,hg⟩:=X;exact⟨g,e,hr.aG hb (by omega),hg⟩
  ·exact⟨v5.o,(qu _ _).drew⟩
  ·intro i ev val W hi T U J;obtain⟨b5,u2⟩:=T;have _e1:ev (.tmp 1)=Aj n:=U.du 1 (by kernel_rfl);have _e0:ev (.tmp 0)=.pointer (some ⟨m.M,0,none⟩):=U.du 0 (by kernel_rfl);have _ec:=U.const;have _ef:=U.func;have g2:=u2.size;have B:=Aq b5;have Y:=Aq u2;clear b5 u2
   match i,hi with
   |0,_ =>
    refine⟨_,rfl,rfl,?_⟩;unfold Bl;go_simp;exact⟨rfl,⟨B.o,Y.o⟩,qu _ _⟩
   |1,_ =>
    have d0:=J 0 (by kernel_rfl);have x0:=U.bX 0 10 (by kernel_rfl) (by kernel_rfl);simp only[Uc]at d0;rw[d0]at x0;refine⟨_,rfl,rfl,?_⟩;unfold Bl;go_simp;exact⟨by rw[IntKind.wrap_i64];show Value.int .i64 _=Value.int .i64 _;congr 1;omega,⟨B.o,Y.o⟩,qu _ _⟩
   |2,_ =>
    have d1:=J 1 (by kernel_rfl);have x1:=U.bX 1 11 (by kernel_rfl) (by kernel_rfl);simp only[Uc]at d1;rw[d1]at x1;refine⟨_,rfl,rfl,?_⟩;unfold Bl;go_simp;exact⟨by rw[IntKind.wrap_u8];show Value.int .u8 _=Value.int .u8 _;congr 1;omega,⟨B.o,Y.o⟩,qu _ _⟩
   |3,_ =>
    have d2:=J 2 (by kernel_rfl);have x2:=U.bX 2 12 (by kernel_rfl) (by kernel_rfl);simp only[Uc]at d2;rw[d2]at x2;refine⟨_,rfl,rfl,?_⟩;unfold Bl;go_simp;exact⟨⟨_,rfl,qv _ _ _,g2⟩,⟨B.o.alloc _,Y.o.alloc _⟩,(qu _ _).alloc _⟩
   |4,_ =>
    have d3:=J 3 (by kernel_rfl);have x3:=U.bX 3 13 (by kernel_rfl) (by kernel_rfl);simp only[Uc]at d3;obtain⟨g,X,hb,hg⟩:=d3;rw[X]at x3;have c0:=hb.cell 0;have _cl:=hb.lt;simp only[Az,Ay]at c0;have _hconv:=run_convert_bytes_arg (P:=Tryz.prog) W 122 5 Tryz.underlying122 Tryz.underlying5 g 0 1 1 [97+n] rfl (fun i hi=>match i,hi with|0,_=>c0) 9 Tryz.underlying9;refine⟨_,rfl,rfl,?_⟩;unfold Bl;go_simp;exact⟨⟨_,rfl,by simp[strOfNums_size]⟩,⟨B.o,Y.o⟩,qu _ _⟩
   |5,_ =>
    have d4:=J 4 (by kernel_rfl);have x4:=U.bX 4 14 (by kernel_rfl) (by kernel_rfl);simp only[Uc]at d4;obtain⟨s,X,hs⟩:=d4;rw[X]at x4;refine⟨_,rfl,rfl,?_⟩;unfold Bl;go_simp;rw[if_neg (by omega)];exact⟨⟨_,rfl⟩,⟨B.o,Y.o⟩,qu _ _⟩
   |6,_ =>
    refine⟨_,rfl,rfl,?_⟩;unfold Bl;go_simp;exact⟨rfl,⟨B.o,Y.o⟩,qu _ _⟩
   |7,_ =>
    have d6:=J 6 (by kernel_rfl);have x6:=U.bX 6 16 (by kernel_rfl) (by kernel_rfl);simp only[Uc]at d6;rw[d6]at x6;refine⟨_,rfl,rfl,?_⟩;unfold Bl;go_simp;refine(Bk _ m _ B.o (by omega) (by omega)).mono ?_;rintro e w2⟨r,z8,z6,rfl,hd,e5,-⟩;exact⟨_,rfl,⟨r,rfl,z8,z6⟩,⟨hd,Y.o.trans e5⟩,e5⟩
   |8,_ =>
    have d7:=J 7 (by kernel_rfl);have x7:=U.bX 7 17 (by kernel_rfl) (by kernel_rfl);simp only[Uc]at d7;obtain⟨r,X,r0,r1⟩:=d7;rw[X]at x7;refine⟨_,rfl,rfl,?_⟩;unfold Bl;go_simp;exact⟨⟨r*50,by rw[IntKind.wrap_i64];congr 1;omega,by omega,by omega⟩,⟨B.o,Y.o⟩,qu _ _⟩
   |9,_ =>
    have d8:=J 8 (by kernel_rfl);have x8:=U.bX 8 18 (by kernel_rfl) (by kernel_rfl);simp only[Uc]at d8;obtain⟨r,X,r0,r1⟩:=d8;rw[X]at x8;refine⟨_,rfl,rfl,?_⟩;unfold Bl;go_simp;exact⟨⟨100+r,by rw[IntKind.wrap_i64];congr 1;omega,by omega,by omega⟩,⟨B.o,Y.o⟩,qu _ _⟩
   |10,_ =>
    refine⟨_,rfl,rfl,?_⟩;unfold Bl;go_simp;exact⟨rfl,⟨B.o,Y.o⟩,qu _ _⟩
   |11,_ =>
    have kE:=J 10 (by kernel_rfl);have j7:=U.bX 10 20 (by kernel_rfl) (by kernel_rfl);simp only[Uc]at kE;rw[kE]at j7;refine⟨_,rfl,rfl,?_⟩;unfold Bl;go_simp;refine(Bk _ m _ B.o (by omega) (by omega)).mono ?_;rintro e w2⟨r,z8,z6,rfl,hd,e5,-⟩;exact⟨_,rfl,⟨r,rfl,z8,z6⟩,⟨hd,Y.o.trans e5⟩,e5⟩
   |12,_ =>
    have iq:=J 11 (by kernel_rfl);have i5:=U.bX 11 21 (by kernel_rfl) (by kernel_rfl);simp only[Uc]at iq;obtain⟨r,X,r0,r1⟩:=iq;rw[X]at i5;refine⟨_,rfl,rfl,?_⟩;unfold Bl;go_simp;exact⟨⟨_,rfl⟩,⟨B.o,Y.o⟩,qu _ _⟩
   |13,_ =>
    have d5:=J 5 (by kernel_rfl);have x5:=U.bX 5 15 (by kernel_rfl) (by kernel_rfl);simp only[Uc]at d5;have d9:=J 9 (by kernel_rfl);have x9:=U.bX 9 19 (by kernel_rfl) (by kernel_rfl);simp only[Uc]at d9;have jH:=J 12 (by kernel_rfl);have g8:=U.bX 12 22 (by kernel_rfl) (by kernel_rfl);simp only[Uc]at jH;obtain⟨s,X⟩:=d5;rw[X]at x5;obtain⟨r,X,r0,r1⟩:=d9;rw[X]at x9;obtain⟨b,X⟩:=jH;rw[X]at g8;refine⟨_,rfl,rfl,?_⟩;unfold Bl;go_simp;exact⟨⟨s,r,b,rfl,r0,r1⟩,⟨B.o,Y.o⟩,qu _ _⟩
   |14,_ =>
    refine⟨_,rfl,rfl,?_⟩;unfold Bl;go_simp;exact⟨⟨_,rfl,qv _ _ _,g2⟩,⟨B.o.alloc _,Y.o.alloc _⟩,(qu _ _).alloc _⟩
   |i+15,hi=>exact absurd hi (by simp)
  ·intro val W T hV;have v2:=hV 13 (by simp);have b4:=hV 14 (by simp);simp only[Uc]at v2 b4;obtain⟨s,r,b,k5,r0,r1⟩:=v2;obtain⟨gb,j1,y4,HI⟩:=b4;clear hV;unfold wpOp;change (if _ then _ else _);rw[if_pos (by kernel_rfl)];refine .inl ?_;simp only[Mn,Fx,Az,Ay,Bc,pu];have _hgM:gb≠m.M:=by omega
   have f0:cO N0 m w gb (((((((((W.setCell ⟨gb,0,none⟩ (.string s)).setCell ⟨gb,1,none⟩ (Aj r)).setCell ⟨gb,2,none⟩ (.bool b)).setCell ⟨gb,3,none⟩ (.slice none 0 0)).setCell ⟨gb,4,none⟩ (.slice none 0 0)).setCell ⟨gb,5,none⟩ (.slice none 0 0)).setCell ⟨gb,6,none⟩ (.slice none 0 0)).setCell ⟨gb,7,none⟩ (.slice none 0 0)).setCell ⟨gb,8,none⟩ (.slice none 0 0)) (.slice none 0 0) (.slice none 0 0) (.slice none 0 0) (.slice none 0 0) (.slice none 0 0) (.slice none 0 0) ⟨s,r,b,[],[],[],[],[],[]⟩:=by
    have h4:=((((((((y4.aZ 0 (.string s)).aZ 1 (Aj r)).aZ 2 (.bool b)).aZ 3 (.slice none 0 0)).aZ 4 (.slice none 0 0)).aZ 5 (.slice none 0 0)).aZ 6 (.slice none 0 0)).aZ 7 (.slice none 0 0)).aZ 8 (.slice none 0 0);have l3:=((((((((T.1.setCell (p:=⟨gb,0,none⟩) (by simp;omega) (.string s)).setCell (p:=⟨gb,1,none⟩) (by simp;omega) (Aj r)).setCell (p:=⟨gb,2,none⟩) (by simp;omega) (.bool b)).setCell (p:=⟨gb,3,none⟩) (by simp;omega) (.slice none 0 0)).setCell (p:=⟨gb,4,none⟩) (by simp;omega) (.slice none 0 0)).setCell (p:=⟨gb,5,none⟩) (by simp;omega) (.slice none 0 0)).setCell (p:=⟨gb,6,none⟩) (by simp;omega) (.slice none 0 0)).setCell (p:=⟨gb,7,none⟩) (by simp;omega) (.slice none 0 0)).setCell (p:=⟨gb,8,none⟩) (by simp;omega) (.slice none 0 0);have l0:=((((((((T.2.setCell (p:=⟨gb,0,none⟩) (.inr HI) (.string s)).setCell (p:=⟨gb,1,none⟩) (.inr HI) (Aj r)).setCell (p:=⟨gb,2,none⟩) (.inr HI) (.bool b)).setCell (p:=⟨gb,3,none⟩) (.inr HI) (.slice none 0 0)).setCell (p:=⟨gb,4,none⟩) (.inr HI) (.slice none 0 0)).setCell (p:=⟨gb,5,none⟩) (.inr HI) (.slice none 0 0)).setCell (p:=⟨gb,6,none⟩) (.inr HI) (.slice none 0 0)).setCell (p:=⟨gb,7,none⟩) (.inr HI) (.slice none 0 0)).setCell (p:=⟨gb,8,none⟩) (.inr HI) (.slice none 0 0);exact⟨by simpa using h4,⟨[_],[_],rfl,⟨_,_,rfl,Aw,By _,qF _ _ _ _ _⟩,⟨_,_,rfl,Aw,By _,qF _ _ _ _ _⟩⟩,qz _ _ _ _,qz _ _ _ _,qz _ _ _ _,⟨_,_,rfl,Aw,By _,qF _ _ _ _ _⟩,(by unfold bS;simp only;omega),l3,l0,HI,hN,j3⟩
   have e7:=Aq f0;have b0:=y4.cell;have b1:=y4.frozen;have b2:=y4.lt;clear f0 T y4;go_simp;obtain⟨w1,c1⟩:∃w1,w1=(((((((((W.setCell ⟨gb,0,none⟩ (.string s)).setCell ⟨gb,1,none⟩ (Aj r)).setCell ⟨gb,2,none⟩ (.bool b)).setCell ⟨gb,3,none⟩ (.slice none 0 0)).setCell ⟨gb,4,none⟩ (.slice none 0 0)).setCell ⟨gb,5,none⟩ (.slice none 0 0)).setCell ⟨gb,6,none⟩ (.slice none 0 0)).setCell ⟨gb,7,none⟩ (.slice none 0 0)).setCell ⟨gb,8,none⟩ (.slice none 0 0)):=⟨_,rfl⟩;rw[←c1]at e7 ⊢;clear c1 b0 b1 b2 k5 j1;go_wp2_with fail
   go_meet;exact⟨gb,rfl,s,r,b,e7.o⟩
 case rest =>
  obtain⟨gb,rfl,s,r,b,u⟩:=hcut;have q:=Aq u;clear u v5;go_upto_if 25 with(fail)
  go_cut [] (fun wx=>∃s r b,cO N0 m w gb wx (.slice none 0 0) (.slice none 0 0) (.slice none 0 0) (.slice none 0 0) (.slice none 0 0) (.slice none 0 0) ⟨s,r,b,[],[],[],[],[],[]⟩)
  case first =>
   by_cases hn:n=0
   ·subst hn;have _y:=q.o.box.cell;have _y2:=q.o.box.frozen;have _y3:=q.o.box.lt;have O:=q.o.set 0 (.string ⟨#[46,110,111,116,100,101,102]⟩) (g':=⟨⟨#[46,110,111,116,100,101,102]⟩,r,b,[],[],[],[],[],[]⟩) rfl q.o.iI q.o.br q.o.bF q.o.bY q.o.dq q.o.dP;have R:=O.set 2 (.bool false) (g':=⟨⟨#[46,110,111,116,100,101,102]⟩,r,false,[],[],[],[],[],[]⟩) rfl O.iI O.br O.bF O.bY O.dq O.dP;have k9:=Aq R;clear O R;go_wp2_with fail
    go_meet;exact⟨_,_,_,k9.o⟩
   ·have _hnb:(n==0)=false:=by simpa using hn
    go_wp2_with fail
    go_meet;exact⟨_,_,_,q.o⟩
  case rest =>
   clear q;obtain⟨s,r,b,u⟩:=hcut;have q:=Aq u;clear u;go_wp2_with fail
   refine(Sx N0 m _ q.o.am hN).mono ?_;rintro e w2⟨vp,ve,pl,el,rfl,u1,m4,m6,hd,e5⟩;obtain⟨d,pc,eA,ec,rfl,rfl⟩:=Iz u1;have R:=q.o.next hd e5;have y:=R.box.cell;have y2:=R.box.frozen;have y3:=R.box.lt;have v7:cO N0 m w gb ((w2.setCell ⟨gb,3,none⟩ (.slice d pl.length pc)).setCell ⟨gb,4,none⟩ (.slice eA el.length ec)) (.slice d pl.length pc) (.slice eA el.length ec) (.slice none 0 0) (.slice none 0 0) (.slice none 0 0) (.slice none 0 0) ⟨s,r,b,pl,el,[],[],[],[]⟩:=by
    have hb:=(R.box.aZ 3 (.slice d pl.length pc)).aZ 4 (.slice eA el.length ec);have hM:=R.hM;have bU:=R.bU;have ho:=(Cv N0).setCell ((Cv N0).setCell u1 R.box (by rw[Di];simp) (by omega) 3 (.slice d pl.length pc)) (R.box.aZ 3 (.slice d pl.length pc)) (by rw[Di];simp) (by omega) 4 (.slice eA el.length ec);exact⟨by simpa using hb,by rw[Br,Br];exact ho,qz _ _ _ _,qz _ _ _ _,qz _ _ _ _,⟨_,_,rfl,Aw,By _,qF _ _ _ _ _⟩,R.dP,(R.am.setCell (by simp;omega) _).setCell (by simp;omega) _,(R.fr.setCell (.inr bU) _).setCell (.inr bU) _,bU,hM⟩
   have h0:lS N0 m w gb (.slice d pl.length pc) pl.length 0 0 0 ((w2.setCell ⟨gb,3,none⟩ (.slice d pl.length pc)).setCell ⟨gb,4,none⟩ (.slice eA el.length ec)):=⟨_,_,_,_,_,_,v7,rfl,by simp,by simp,by simp,rfl⟩;have H0:=Aq h0;clear R v7 h0 hd e5 u1 q;go_upto_region 5 with(fail)
   obtain⟨w3,e9⟩:∃w3,w3=((w2.setCell ⟨gb,3,none⟩ (.slice d pl.length pc)).setCell ⟨gb,4,none⟩ (.slice eA el.length ec)):=⟨_,rfl⟩;rw[←e9]at H0 ⊢;clear e9 y y2 y3;go_cut [37] (fun v wx=>∃bb,v=.bool bb∧lS N0 m w gb (.slice d pl.length pc) pl.length 0 0 0 wx)
   case first =>
    obtain⟨ve,va,vn,vd,vh,g,u,j,Z,Q,C,H⟩:=H0.o;have q:=Aq u;have E:=Aq (And.intro j (And.intro Z (And.intro Q (And.intro C H))));clear u j Z Q C H;by_cases hn:1<n
    ·go_wp2_with fail
     refine(Bk _ m _ q.o.am (by omega) (by omega)).mono ?_;rintro e G⟨x,u3,a5,rfl,w4,HK,-⟩;have hK:=q.o.next w4 HK;have j2:=Aq hK;clear hK w4 HK;go_wp2_with fail
     go_meet;exact⟨_,rfl,_,_,_,_,_,_,j2.o,E.o⟩
    ·go_wp2_with fail
     go_meet;exact⟨_,rfl,_,_,_,_,_,_,q.o,E.o⟩
   case rest =>
    clear H0;obtain⟨bb,rfl,H0⟩:=hcut;have D:=Aq H0;clear H0;go_upto_if 37 with(fail)
    go_cut [] (fun wx=>lS N0 m w gb (.slice d pl.length pc) pl.length 1 0 0 wx)
    case first =>
     obtain⟨ve,va,vn,vd,vh,g,u,j,Z,Q,C,H⟩:=D.o;have q:=Aq u;have E1:=Aq j;have E5:=Aq H;clear u j H D;cases bb with
     |false =>
      go_wp2_with fail
      go_meet;exact⟨_,_,_,_,_,_,q.o,E1.o,by omega,Q,C,E5.o⟩
     |true =>
      obtain⟨Aa,ca,rfl,-⟩:=q.o.br.form;have V:=q.o.drew;have L:wc.drew.cell? ⟨gb,5,none⟩=some (.slice Aa g.br.length ca):=by rw[V.box.cell];rfl
      go_wp2_with fail
      refine Bs (fun i=>!([3,7,10,11,13]:List Nat).contains i) (fun i=>([1]:List Nat).contains i) (fun i=>([3,7,10]:List Nat).contains i) [0,1,2,6,3,4,5,7,8,9,10,11,12,13] (fun w'=>w'.cell? ⟨gb,5,none⟩=some (.slice Aa g.br.length ca)) (by kernel_rfl) (by kernel_rfl) (by kernel_rfl) (by kernel_rfl) ?_;refine Be ?_;refine Bj L ?_;refine Be ?_;refine Be ?_;refine Bi fun K a=>?_;go_simp
      refine(Bk _ m _ V.am (by omega) (by omega)).mono ?_;rintro e G⟨x,u3,a5,rfl,w4,HK,-⟩;have hK:=V.next w4 HK;dsimp only;refine a _ _ (fun _=>by rw[hK.box.cell];rfl) ?_;clear a K;refine Be ?_;refine Be ?_;refine Bi fun K a=>?_;go_simp
      refine(Bk _ m _ hK.am (by omega) (by omega)).mono ?_;rintro e w5⟨y,g6,g4,rfl,pA,hI,-⟩;have F:=hK.next pA hI;dsimp only;refine a _ _ (fun _=>by rw[F.box.cell];rfl) ?_;clear a K;refine Be ?_;refine Be ?_;refine Bi fun K a=>?_;go_simp
      have z2:=F.alloc (.cells #[Aj 1,Aj (IntKind.i64.wrap (IntKind.i64.wrap (x*50)-200)),Aj (IntKind.i64.wrap (y*50))] 177);refine a _ _ (fun _=>by rw[z2.box.cell];rfl) ?_;clear a K;refine Bi fun K a=>?_
      refine Df _ rfl (.tmp 39) (.tmp 48) _ rfl (La N0) w.heap.size 177 i1 _ 24 Tryz.underlying69 ji i6 g7 j6 rfl (show 0<3 by decide) (by rw[Dv];simp) (by omega) (.slice Aa g.br.length ca) g.br rfl z2.br w5.heap.size [_,_,_] (1,IntKind.i64.wrap (IntKind.i64.wrap (x*50)-200),IntKind.i64.wrap (y*50)) rfl (qv _ _ _) (Pa _ _ _ _ _ _ (by unfold bS;omega) (Ft _) (Ft _)) (by unfold maxLen;omega) (by omega) (by have:=z2.fr.size;omega) ?_;intro A6 c6 N i8 j5;obtain⟨v0,f⟩:=z2.jw i8 j5;have b0:=v0.cell 5;have _b1:=v0.frozen 5;have _b2:=v0.lt;simp only[Az,Bc,Ay]at b0;refine Bh a ?_;clear a K;refine Be ?_;refine Bi fun K a=>?_;go_simp
      refine Bh a ?_;clear a K;refine Bb ?_;go_wp2_with fail
      go_meet;exact⟨_,_,_,_,_,_,f,E1.o,(by simp only[Bz,Bo,Bw];omega),Q,C,E5.o⟩
    case rest =>
     clear D;obtain⟨ve,va,vn,vd,vh,g,u,j,Z,Q,C,H⟩:=hcut;have q:=Aq u;have E:=Aq (And.intro j (And.intro Z (And.intro Q (And.intro C H))));clear u j Z Q C H;go_wp2_with fail
     refine(Bk _ m _ q.o.am (by omega) (by omega)).mono ?_;rintro e G⟨x,u3,a5,rfl,w4,HK,-⟩;have hK:=q.o.next w4 HK;have a9:kg N0 m w gb G.heap.size x (.slice d pl.length pc) pl.length 0 (G.alloc (.cells #[Aj 1,Aj 0,Aj 1,Aj 1,Aj 3,Aj 0,Aj 4,Aj 0,Aj 2,Aj x] 178)):=⟨qv _ _ _,hK.fr.size,_,_,_,_,_,_,hK.alloc _,E.o⟩;have v9:=Aq a9;clear a9 hK w4 HK q E;go_wp2_with fail
     go_loopw [6] (fun i wr=>∃k:Nat,k≤5∧i=Aj k∧kg N0 m w gb G.heap.size x (.slice d pl.length pc) pl.length k wr) (fun i _=>5-(intOf i).toNat)
     case atStart=>exact⟨0,by omega,rfl,v9.o⟩
     case round =>
      clear v9;obtain⟨k,hk,rfl,hL⟩:=hrel;have HL:=Aq hL;clear hL;by_cases l4:(k:Int)<5
      ·have hv:=HL.o.1;have z9:=HL.o.2.1;obtain⟨kk,cc,n0,m8,n2,l8,v1⟩:=Th hv ⟨u3,by omega⟩ (k:=k) (by omega);have e3:=Aq v1;clear v1 hv;go_upto_block 1 with(fail)
       go_cut [] (fun wx=>kg N0 m w gb G.heap.size x (.slice d pl.length pc) pl.length (k+1) wx)
       case first =>
        go_upto_region 11 with(fail)
        go_cut [77] (fun v wx=>∃bb,v=.bool bb∧kg N0 m w gb G.heap.size x (.slice d pl.length pc) pl.length k wx)
        case first =>
         obtain⟨hv,_,ve,va,vn,vd,vh,g,u,hE⟩:=HL.o;have q:=Aq u;have HB:=Aq hv;have E:=Aq hE;clear u hv hE HL;go_wp2_with fail
         refine(Bk _ m _ q.o.am (by omega) (by omega)).mono ?_;rintro e w5⟨z,b3,f5,rfl,pA,hI,-⟩;have F:=q.o.next pA hI;have h1:=hI.aG HB.o (by omega);have _hc5:=(e3.o w5 h1).1;have _hl5:=h1.lt;have y:=F.box.cell 2;have _y2:=F.box.lt;simp only[Az,Bc,Ay]at y;have b9:kg N0 m w gb G.heap.size x (.slice d pl.length pc) pl.length k w5:=⟨h1,z9,_,_,_,_,_,_,F,E.o⟩;have u4:=Aq b9;clear F h1 pA hI b9 q HB E;by_cases hz:z=0
         ·subst hz;by_cases u6:kk=2
          ·subst u6;go_wp2_with fail
           go_meet;exact⟨_,rfl,u4.o⟩
          ·have _hkb2:(kk != 2)=true:=by simpa using u6
           go_wp2_with fail
           go_meet;exact⟨_,rfl,u4.o⟩
         ·have _hzb:(z==0)=false:=by simpa using hz
          go_wp2_with fail
          go_meet;exact⟨_,rfl,u4.o⟩
        case rest =>
         clear HL;obtain⟨bb,rfl,hL⟩:=hcut;have HL:=Aq hL;clear hL;obtain⟨hv,_,ve,va,vn,vd,vh,g,u,j,Z,Q,C,H⟩:=HL.o;have q:=Aq u;have HB:=Aq hv;have E1:=Aq j;have E5:=Aq H;clear u hv j H HL;cases bb with
         |false =>
          go_wp2_with fail
          go_meet;exact⟨HB.o,z9,_,_,_,_,_,_,q.o,E1.o,Z,by omega,C,E5.o⟩
         |true =>
          obtain⟨An,cn,rfl,-⟩:=q.o.bF.form;have V:=q.o.drew;have e8:aH wc.drew _ _ _:=HB.o;have L:(fun w':World=>w'.cell? ⟨gb,6,none⟩=some (.slice An g.bF.length cn)∧w'.cell? ⟨G.heap.size,k*2,none⟩=some (Aj kk)∧w'.cell? ⟨G.heap.size,k*2+1,none⟩=some (Aj cc)) wc.drew:=⟨by rw[V.box.cell];rfl,e3.o _ e8⟩;go_wp2_with fail
          refine Bs (fun i=>!([13,16,20,21,23]:List Nat).contains i) (fun i=>([1,6,11]:List Nat).contains i) (fun i=>([13,16,20,21]:List Nat).contains i) [0,1,2,3,4,5,6,7,8,9,10,11,12,15,13,14,16,17,18,19,20,21,22,23] (fun w':World=>w'.cell? ⟨gb,6,none⟩=some (.slice An g.bF.length cn)∧w'.cell? ⟨G.heap.size,k*2,none⟩=some (Aj kk)∧w'.cell? ⟨G.heap.size,k*2+1,none⟩=some (Aj cc)) (by kernel_rfl) (by kernel_rfl) (by kernel_rfl) (by kernel_rfl) ?_;refine Be ?_;refine Bj L ?_
          iterate 4 (refine Be ?_)
          refine Bj L ?_
          iterate 4 (refine Be ?_)
          refine Bj L ?_;refine Be ?_;refine Be ?_;refine Bi fun K a=>?_;go_simp
          refine(Bk _ m _ V.am (by omega) (by omega)).mono ?_;rintro e w5⟨y,g6,g4,rfl,pA,hI,-⟩;have F:=V.next pA hI;have h1:=hI.aG e8 (by omega);dsimp only;refine a _ _ (fun _=>⟨by rw[F.box.cell];rfl,e3.o _ h1⟩) ?_;clear a K;refine Be ?_;refine Bi fun K a=>?_;go_simp
          refine(Bk _ m _ F.am (by omega) (by omega)).mono ?_;rintro e N⟨z,b3,f5,rfl,w6,e2,-⟩;have f:=F.next w6 e2;have c4:=e2.aG h1 (by omega);dsimp only;refine a _ _ (fun _=>⟨by rw[f.box.cell];rfl,e3.o _ c4⟩) ?_;clear a K
          iterate 3 (refine Be ?_)
          refine Bi fun K a=>?_;go_simp
          have HF:=f.alloc (.cells #[Aj kk,Aj cc,Aj (IntKind.i64.wrap (y*50)),Aj (IntKind.i64.wrap (IntKind.i64.wrap (z*50)-200))] 181);have a1:=c4.alloc (.cells #[Aj kk,Aj cc,Aj (IntKind.i64.wrap (y*50)),Aj (IntKind.i64.wrap (IntKind.i64.wrap (z*50)-200))] 181);refine a _ _ (fun _=>⟨by rw[HF.box.cell];rfl,e3.o _ a1⟩) ?_;clear a K;refine Bi fun K a=>?_
          refine Df _ rfl (.tmp 79) (.tmp 98) _ rfl (Ld N0) w.heap.size 181 i2 _ 32 Tryz.underlying70 li j9 j4 g3 rfl (show 0<4 by decide) (by rw[Dg];simp) (by omega) (.slice An g.bF.length cn) g.bF rfl HF.bF N.heap.size [_,_,_,_] (kk,cc,IntKind.i64.wrap (y*50),IntKind.i64.wrap (IntKind.i64.wrap (z*50)-200)) rfl (qv _ _ _) (Vl _ _ _ _ _ _ _ (by unfold bS;omega) (by unfold bS;omega) (Ft _) (Ft _)) (by unfold maxLen;omega) (by omega) (by have:=HF.fr.size;omega) ?_;intro A7 c7 w7 y5 e4;obtain⟨y8,u0⟩:=HF.iy y5 e4;have z0:=a1.cT HF.bF e4 (by decide);have b0:=y8.cell 6;have _b1:=y8.frozen 6;have _b2:=y8.lt;simp only[Az,Bc,Ay]at b0;have _hgk:gb≠G.heap.size:=by
           rintro e;have I:=y8;rw[e]at I;unfold aH at I z0;rw[z0]at I
           injection I with I
           injection I with _ h2
           exact absurd h2 (by decide)
          refine a _ _ (fun _=>⟨b0,e3.o _ z0⟩) ?_;clear a K;refine Be ?_;refine Bi fun K a=>?_;go_simp
          refine Bh a ?_;clear a K;refine Bb ?_;go_wp2_with fail
          go_meet;exact⟨z0.dE (by simp;omega) _,z9,_,_,_,_,_,_,u0,E1.o,Z,(by simp only[Bz,Bo,Bw];omega),C,E5.o⟩
       case rest =>
        have z4:=Aq hcut;clear hcut HL e3;go_wp2_with fail
        go_roundw
        case rel=>exact⟨k+1,by omega,by go_num,z4.o⟩
        case measure=>simp[intOf];omega
      ·have v3:lS N0 m w gb (.slice d pl.length pc) pl.length 1 5 (11*0) wr:=by
        obtain⟨_,_,ve,va,vn,vd,vh,g,u,j,Z,Q,C,H⟩:=HL.o;exact⟨ve,va,vn,vd,vh,g,u,j,Z,by omega,by omega,H⟩
       have v6:=Aq v3;clear v3 HL;go_wp2_with fail
       go_loopw [7] (fun i wr=>∃k:Nat,k≤rn∧i=Aj k∧lS N0 m w gb (.slice d pl.length pc) pl.length 1 5 (11*k) wr) (fun i _=>rn-(intOf i).toNat)
       case atStart=>exact⟨0,by omega,rfl,v6.o⟩
       case round =>
        clear v6;obtain⟨k2,u6,rfl,T⟩:=hrel;have D:=Aq T;clear T;obtain⟨ve,va,vn,vd,vh,g,u,hE⟩:=D.o;have q0:=u.am.cells.1 8 (by omega);have q1:=u.am.lt;simp only[Nat.reduceSub,Az,Bc,Ay]at q0;rw[H8.o]at q0;clear u hE;by_cases n5:(k2:Int)<(rn:Int)
        ·go_wp2_with fail
         clear q0 q1;go_loopw [8] (fun i wr=>∃p:Nat,p≤pl.length+1∧i=Aj ((p:Int)-1)∧lS N0 m w gb (.slice d pl.length pc) pl.length 1 5 (11*k2+p) wr) (fun i _=>(pl.length+1)-(intOf i+1).toNat)
         case atStart=>exact⟨0,by omega,rfl,D.o⟩
         case round =>
          clear D;obtain⟨p,hp,rfl,T⟩:=hrel;have D:=Aq T;clear T;obtain⟨ve,va,vn,vd,vh,g,u,hE⟩:=D.o;have q0:=u.box.cell 3;have q1:=u.box.lt;simp only[Az,Bc,Ay]at q0;clear u hE;by_cases l9:(p:Int)-1<(pl.length:Int)
          ·go_upto_block 5 with(fail)
           go_cut [] (fun wx=>lS N0 m w gb (.slice d pl.length pc) pl.length 1 5 (11*k2+p+1) wx)
           case first =>
            clear q0 q1;obtain⟨ve,va,vn,vd,vh,g,u,j,Z,Q,C,H⟩:=D.o;have q:=Aq u;have E1:=Aq j;have E5:=Aq H;clear u j H D;go_wp2_with fail
            refine(Bk _ m _ q.o.am (by omega) (by omega)).mono ?_;rintro e w5⟨z,b3,f5,rfl,pA,hI,-⟩;have F:=q.o.next pA hI;have z1:=Aq F;clear F pA hI q;by_cases hz:z=0
            ·subst hz;go_wp2_with fail
             refine(Bk _ m _ z1.o.am (by omega) (by omega)).mono ?_;rintro e N⟨x6,n4,m5,rfl,w6,e2,-⟩;have f:=z1.o.next w6 e2;have HF:=f.alloc (.cells #[Aj k2,Aj ((p:Int)-1),Aj (x6-20),Aj 0] 183);have _hsz6:=f.fr.size;have f4:∀k',vd.ownBlock=some k'→k'<N.heap.size:=fun _ e=>(f.bY.block e).2.1
             have k1:=Aq f4;clear f4;have h6:∃y:Int,bS y∧aH (N.alloc (.cells #[Aj k2,Aj ((p:Int)-1),Aj (x6-20),Aj 0] 183)) N.heap.size 183 #[Aj k2,Aj ((p:Int)-1),Aj (x6-20),Aj y]∧cO N0 m w gb (N.alloc (.cells #[Aj k2,Aj ((p:Int)-1),Aj (x6-20),Aj 0] 183)) (.slice d pl.length pc) ve va vn vd vh g:=⟨0,by unfold bS;omega,qv _ _ _,HF⟩;have H6:=Aq h6;clear f HF h6 w6 e2 z1;go_upto_if 129 with(fail)
             obtain⟨w7,f9⟩:∃w7,w7=N.alloc (.cells #[Aj k2,Aj ((p:Int)-1),Aj (x6-20),Aj 0] 183):=⟨_,rfl⟩;rw[←f9]at H6 ⊢;clear f9;go_cut [] (fun wx=>∃y:Int,bS y∧aH wx N.heap.size 183 #[Aj k2,Aj ((p:Int)-1),Aj (x6-20),Aj y]∧cO N0 m w gb wx (.slice d pl.length pc) ve va vn vd vh g)
             case first =>
              by_cases m2:(0:Int)≤(p:Int)-1
              ·obtain⟨y,hy,e1,u⟩:=H6.o;have q:=Aq u;have HB:=Aq e1;clear u e1 H6;go_wp2_with fail
               refine(Bk _ m _ q.o.am (by omega) (by omega)).mono ?_;rintro e w8⟨x8,m7,m1,rfl,f6,z7,-⟩;have f7:=q.o.next f6 z7;have hG:=z7.aG HB.o (by omega);have b0:=hG.cell 3;have _b1:=hG.frozen 3;have _b2:=hG.lt;simp only[Az,Bc,Ay]at b0;have a7:=hG.aZ 3 (Aj (x8-20));have h7:=f7.du hG (by decide) (by decide) (by rw[Di];simp) (by rw[Dv];simp) (by rw[Fh];simp) (by omega) (fun k' e=>by have:=k1.o k' e;omega) 3 (Aj (x8-20));have u9:=Aq h7;have k6:=Aq a7;clear f7 hG f6 z7 a7 h7 q HB;go_wp2_with fail
               go_meet;exact⟨x8-20,by unfold bS;omega,by simpa using k6.o,u9.o⟩
              ·go_wp2_with fail
               go_meet;exact H6.o
             case rest =>
              clear H6;obtain⟨y,hy,e1,u⟩:=hcut;obtain⟨Ad,cd,rfl,-⟩:=u.bY.form;have _b0:=e1.cell;have _b2:=e1.lt;have d0:=u.box.cell 7;have _d1:=u.box.frozen 7;have _d2:=u.box.lt;have _hszc:=u.fr.size;have _hgne:gb≠N.heap.size:=by
               rintro e;have I:=u.box;rw[e]at I;unfold aH at I e1;rw[e1]at I
               injection I with I
               injection I with _ h2
               exact absurd h2 (by decide)
              simp only[Az,Bc,Ay]at d0;have q:=Aq u;have _HB:=Aq e1;clear u e1;go_wp2_with (at_builtin;refine Ee _ rfl (.tmp 135) (.tmp 137) _ rfl (Ld N0) w.heap.size 183 i3 _ 32 Tryz.underlying71 ki i7 l2 j0 rfl (show 0<4 by decide) (by rw[Dg];simp) (by omega) (.slice Ad g.bY.length cd) g.bY rfl (q.o.alloc _).bY wc.heap.size [_,_,_,_] ((k2:Int),(p:Int)-1,x6-20,y) rfl (qv _ _ _) (Vl _ _ _ _ _ _ _ (by unfold bS;omega) (by unfold bS;omega) (by unfold bS;omega) hy) (by unfold maxLen;omega) (by omega) (by simp;omega) ?_;intro A9 c9 w9 b6 c2;obtain⟨h4,h7⟩:=(q.o.alloc _).jX b6 c2;have a0:=h4.cell 7;have _a1:=h4.frozen 7;have a2:=h4.lt;simp only[Az,Bc,Ay]at a0;have u9:=Aq h7;clear h7 h4 b6 c2)
              go_meet;exact⟨_,_,_,_,_,_,u9.o,E1.o,Z,Q,(by simp only[Bz,Bo,Bw];omega),E5.o⟩
            ·have _hzb:(z==0)=false:=by simpa using hz
             go_wp2_with fail
             go_meet;exact⟨_,_,_,_,_,_,z1.o,E1.o,Z,Q,by omega,E5.o⟩
           case rest =>
            have z4:=Aq hcut;clear hcut D q0 q1;go_wp2_with fail
            go_roundw
            case rel=>exact⟨p+1,by omega,by go_num,z4.o⟩
            case measure=>simp[intOf];omega
          ·have c5:lS N0 m w gb (.slice d pl.length pc) pl.length 1 5 (11*(k2+1)) wr:=by
            obtain⟨ve,va,vn,vd,vh,g,u,j,Z,Q,C,H⟩:=D.o;exact⟨ve,va,vn,vd,vh,g,u,j,Z,Q,by omega,H⟩
           have g9:=Aq c5;clear c5;go_wp2_with fail
           go_roundw
           case rel=>exact⟨k2+1,by omega,by go_num,g9.o⟩
           case measure=>simp[intOf];omega
        ·obtain⟨ve,va,vn,vd,vh,g,u,j,Z,Q,C,H⟩:=D.o;obtain⟨Ae,ce,Ao,co,k0,rfl⟩:=Iz u.iI;obtain⟨Aa,ca,rfl,-⟩:=u.br.form;obtain⟨An,cn,rfl,-⟩:=u.bF.form;obtain⟨Ad,cd,rfl,-⟩:=u.bY.form;have y0:=u.am.cells.1 11 (by omega);have y1:=u.am.cells.2 11;have y2:=u.am.lt;have e6:dX m.M wr (wr.setCell ⟨m.M,11,none⟩ (Aj 2)):=qJ (S:=fun k=>k=m.M) (p:=⟨m.M,11,none⟩) (qu _ wr) (.inl rfl) _;have O:=u.next (u.am.gw 2) e6;have u7:=Aq O;have E1:=Aq j;clear u O D k0 j e6 H;go_upto_region 25 with(fail)
         obtain⟨w5,b7⟩:∃w5,w5=wr.setCell ⟨m.M,11,none⟩ (Aj 2):=⟨_,rfl⟩;rw[←b7]at u7 ⊢;clear b7 y0 y1 y2 q0 q1;go_cut [] (fun wx=>∃(A:Option Addr) (c:Nat) (lo:Int) (l:List (Int×Int)),Jd l∧0≤lo∧lo≤2∧cO N0 {m with fa:=Aj lo} w gb wx (.slice d pl.length pc) (.slice Ao g.aJ.length co) (.slice Aa g.br.length ca) (.slice An g.bF.length cn) (.slice Ad g.bY.length cd) (.slice A l.length c) {g with dq:=l})
         case first =>
          have V:=u7.o.drew;have c9:=V.am.cells.1 9 (by omega);simp only[Nat.reduceSub,Az,Bc,Ay]at c9;rw[H9.o]at c9;have L:(fun w':World=>w'.cell? ⟨gb,3,none⟩=some (.slice d pl.length pc)∧w'.cell? ⟨m.M,9,none⟩=some (.slice fA fn fc)) w5.drew:=⟨by rw[V.box.cell];rfl,c9⟩;go_wp2_with fail
          refine Bs (fun i=>!([11,13]:List Nat).contains i) (fun i=>([3,9]:List Nat).contains i) (fun i=>([11]:List Nat).contains i) [0,1,2,3,4,5,6,7,8,9,10,11,12,13] (fun w':World=>w'.cell? ⟨gb,3,none⟩=some (.slice d pl.length pc)∧w'.cell? ⟨m.M,9,none⟩=some (.slice fA fn fc)) (by kernel_rfl) (by kernel_rfl) (by kernel_rfl) (by kernel_rfl) ?_
          iterate 3 (refine Be ?_)
          refine Bj L ?_
          iterate 5 (refine Be ?_)
          refine Bj L ?_;refine Be ?_;refine Bi fun K a=>?_;go_simp
          refine(Vi N0 {m with fa:=Aj 2} _ (pl.length:Int) (fn:Int) 6 2 V.am hN (by omega) (by omega) (by omega) (by omega) (by omega) (by omega) rfl ⟨by omega,by omega⟩).mono ?_;rintro e N⟨l6,A6,c6,z5,rfl,f1,f2,k3,f8,w6,g0,g1,e2,b8⟩;have k4:=Aq (Zbv b8 g0 (by omega));clear b8;have f:=V.next w6 e2;have u5:=f.am.cells.1 9 (by omega);simp only[Nat.reduceSub,Az,Bc,Ay]at u5;rw[H9.o]at u5;have b0:=f.box.cell 8;have _b1:=f.box.frozen 8;have _b2:=f.box.lt;simp only[Az,Bc,Ay]at b0;have u0:=f.set 8 (.slice A6 l6.length c6) (g' := {g with dq:=l6}) rfl f.iI f.br f.bF f.bY ⟨_,_,rfl,f1,f2,k3⟩ f.dP;dsimp only;refine a _ _ (fun _=>⟨by rw[f.box.cell];rfl,u5⟩) ?_;clear a K;refine Be ?_;refine Bi fun K a=>?_;go_simp
          refine Bh a ?_;clear a K;refine Bb ?_;go_wp2_with fail
          go_meet;exact⟨A6,c6,z5,l6,k4.o,g0,g1,u0⟩
         case rest =>
          clear u7;obtain⟨A6,c6,z5,l6,f8,g0,g1,u⟩:=hcut;have y6:=u.fr;obtain⟨xM,k7⟩:=i0.o.aG;have h5:=a6.o.fr y6 k7 (Gt N0) hN;have V:=u.drew;have a4:aM (Fv N0) 73 aN wc.drew (.slice gA gl.length gc) gl:=h5.below aI.drew Aw;have c3:=V.am.cells.1 3 (by omega);simp only[Nat.reduceSub,Az,Bc,Ay]at c3;rw[H3.o]at c3;have L:(fun w':World=>w'.cell? ⟨m.M,3,none⟩=some (.slice gA gl.length gc)∧∀i,w'.cell? ⟨gb,i,none⟩=(#[.string g.name,Aj g.dP,.bool g.mark,.slice d pl.length pc,.slice Ao g.aJ.length co,.slice Aa g.br.length ca,.slice An g.bF.length cn,.slice Ad g.bY.length cd,.slice A6 l6.length c6]:Array Value)[i]?) wc.drew:=⟨c3,V.box.cell⟩;have _hszc:=y6.size;go_wp2_with fail
          refine Bs (fun i=>!([7,8,12]:List Nat).contains i) (fun i=>([5,6]:List Nat).contains i) (fun i=>([7,8]:List Nat).contains i) [0,1,2,3,4,5,6,7,8,9,10,11,12] (fun w':World=>w'.cell? ⟨m.M,3,none⟩=some (.slice gA gl.length gc)∧∀i,w'.cell? ⟨gb,i,none⟩=(#[.string g.name,Aj g.dP,.bool g.mark,.slice d pl.length pc,.slice Ao g.aJ.length co,.slice Aa g.br.length ca,.slice An g.bF.length cn,.slice Ad g.bY.length cd,.slice A6 l6.length c6]:Array Value)[i]?) (by kernel_rfl) (by kernel_rfl) (by kernel_rfl) (by kernel_rfl) ?_
          iterate 5 (refine Be ?_)
          refine Bj L ?_;refine Bj L ?_;refine Bi fun K a=>?_;go_simp
          have HG:=V.alloc (.cells #[.string g.name,Aj g.dP,.bool g.mark,.slice d pl.length pc,.slice Ao g.aJ.length co,.slice Aa g.br.length ca,.slice An g.bF.length cn,.slice Ad g.bY.length cd,.slice A6 l6.length c6] 73);have y7:=HG.am.cells.1 3 (by omega);simp only[Nat.reduceSub,Az,Bc,Ay]at y7;rw[H3.o]at y7;refine a _ _ (fun _=>⟨y7,HG.box.cell⟩) ?_;clear a K;refine Bi fun K a=>?_
          have z3:aM (Fv N0) 73 aN _ (.slice gA gl.length gc) gl:=a4.below (aI.alloc Aw (.cells #[.string g.name,Aj g.dP,.bool g.mark,.slice d pl.length pc,.slice Ao g.aJ.length co,.slice Aa g.br.length ca,.slice An g.bF.length cn,.slice Ad g.bY.length cd,.slice A6 l6.length c6] 73)) Aw;refine Df _ rfl (.tmp 161) (.tmp 163) _ rfl (Fv N0) aN 73 i4 _ 176 Tryz.underlying57 pi j8 k8 l1 rfl (show 0<9 by decide) (Tl N0) (by omega) (.slice gA gl.length gc) gl rfl z3 wc.heap.size [_,_,_,_,_,_,_,_,_] {g with dq:=l6} rfl (qv _ _ _) HG.rel (by unfold maxLen;omega) (by omega) (by simp;omega) ?_;intro A7 c7 w7 y5 e4;have hS:=HG.am.grown z3 e4 (by decide) g5;have f3:=HG.box.grown e4 (fun e=>by have _h1:=(a6.o.block e.symm).2.1;have h2:=HG.bU;omega);have y9:=hS.cells.1 3 (by omega);have i9:=hS.cells.2 3;have a3:=hS.lt;simp only[Nat.reduceSub,Az,Bc,Ay]at y9 a3;rw[H3.o]at y9;have e0:Fr (fun k=>k=m.M∨aN≤k) w w7:=(((y6.mono (S':=fun k=>k=m.M∨aN≤k) (fun _ _ e=>.inl e)).drew).alloc _).nm e4 (fun _ e=>.inr (z3.block e).1);refine a _ _ (fun _=>⟨y9,f3.cell⟩) ?_;clear a K
          iterate 3 (refine Be ?_)
          refine Bi fun K a=>?_;go_simp
          refine Bh a ?_;clear a K;refine Bb ?_;obtain⟨m0,v4⟩:=hS.aG;have v8:Zdo N0 m aN gl w (.returned (.tuple #[])) (w7.setCell ⟨m.M,3,none⟩ (.slice A7 (gl.length+1) c7)):=⟨_,A7,c7,_,z5,rfl,y5.setCell v4 (Gt N0) hN _ _,hS.mX _,g0,g1,by have:=E1.o;simp only;omega,f8,e0.setCell (.inl (.inl rfl)) _⟩;have Y:=Aq v8;obtain⟨w8,a8⟩:∃w8,w8=w7.setCell ⟨m.M,3,none⟩ (.slice A7 (gl.length+1) c7):=⟨_,rfl⟩;rw[←a8]at Y ⊢;clear a8 v8 e0 y9 i9 a3 v4 f3 hS y5 e4 z3 HG y7 L a4 V h5 y6 u;go_wp2;refine bodyPost_end (v:=.tuple #[]) (by simp[results,Tryz.results58,go_sem]) rfl ?_;exact Y.o
end
end Go.Proofs.YtnhebmgibiomnaaGreat

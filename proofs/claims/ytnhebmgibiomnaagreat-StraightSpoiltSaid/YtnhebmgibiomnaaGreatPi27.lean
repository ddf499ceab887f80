import Derived.Laws.BytesArg
import Derived.Test.YtnhebmgibiomnaaGreatPi26
set_option linter.unusedVariables false
set_option linter.unusedSimpArgs false
set_option maxRecDepth 100000
set_option maxHeartbeats 8000000
namespace Go.Proofs.YtnhebmgibiomnaaGreat
section
open Go.RowKit
def Wm (N0:Nat)(m:cX)(w:World)(e:Ending)(w':World):Prop :=
 ∃(r:dG) (vb vi va vo vc:Value),e=.returned (.agg #[vb,vi,va,vo,vc,Aj r.x])∧(Ho N0).rel w' w'.heap.size r [vb,vi,va,vo,vc,Aj r.x]∧Mk w' m∧dY m.M w w'
def Zgz (N0:Nat)(m:cX)(w0:World)(rb B1:Nat)(wx:World):Prop:=∃vb vi va vo vc r,ba N0 m w0 rb B1 wx vb vi va vo vc r
def Zdx (N0:Nat)(m:cX)(w0:World)(rb:Nat)(wx:World):Prop :=
 ∃vb va A r,ba N0 m w0 rb wx.heap.size wx vb (.slice A 1 1) va (.slice none 0 0) (.slice none 0 0) r∧r.o=[]∧r.ao=[]∧r.eC.length=1∧∀t∈r.eC,t.length≤4
theorem Jz {N0:Nat}{w:World}{B:Nat} {l:List (List Int)} {A:Option Addr} {n c:Nat} (h:(Cr N0).rel w B l [.slice A n c]):l.length=n∧n≤c∧c≤maxLen∧af (Ep N0) 22 w B A l:=by
 obtain⟨u,v,e,y,x,z⟩:=h;simp only[pH,Value.slice.injEq,and_true]at e;obtain⟨rfl,rfl,rfl⟩:=e;exact⟨rfl,y,x,z⟩
theorem af.fr {N0:Nat}{α:Type}{R:Repr N0 α}{t:TypeId}{w w':World}{B:Nat}{A:Option Addr}{l:List α}(h:af R t w B A l){M:Nat}{u:TypeId}{r:Array Value} (s:Fr (fun k=>k=M) w w') (z:aH w M u r) (p:u ∉ t::R.da) (b:N0≤M):af R t w' B A l :=
 h.aQ fun g t' xs a _ y x=>by
  have v:g<w.heap.size:=(bO.1 x).1;rw[s.block g v]
  ·exact x
  ·rintro rfl;rcases y with y|y
   ·omega
   ·unfold aH at z;rw[z]at x
    injection x with x
    injection x with _ q
    exact p (q ▸ y)
theorem Gp (N0:Nat):190 ∉ (Ho N0).da:=by simp[Ho,Cr,Ep,Jr,Repr.map,Repr.row,Repr.bi,Repr.int]
theorem ba.rel {N0:Nat}{m:cX}{w0 wx:World}{rb B1:Nat}{vb vi va vo vc:Value}{r:dG}(h:ba N0 m w0 rb B1 wx vb vi va vo vc r):(Ho N0).rel wx wx.heap.size r [vb,vi,va,vo,vc,Aj r.x] :=
 ⟨[_],[_,_,_,_,_],rfl,(Cr N0).aY h.eH h.hB.2,[_],[_,_,_,_],rfl,(Cr N0).aY h.eC h.hB.2,[_],[_,_,_],rfl,(Cr N0).aY h.ahead h.hB.2,[_],[_,_],rfl,h.o.rel,[_],[_],rfl,h.ao.rel,rfl,h.x⟩
theorem Va {N0:Nat}{m:cX}{w w0 wx:World}{rb B1:Nat}{vb vi va vo vc:Value}{r:dG}{xs:Array Value}(h:ba N0 m w0 rb B1 wx vb vi va vo vc r)(z:aH wx w.heap.size 190 xs)(y:m.M<w.heap.size)(a:dY m.M w wx) :
  Wm N0 m w (.returned (.agg #[vb,vi,va,vo,vc,Aj r.x])) ((((((wx.setCell ⟨w.heap.size,0,none⟩ vb).setCell ⟨w.heap.size,1,none⟩ vi).setCell ⟨w.heap.size,2,none⟩ va).setCell ⟨w.heap.size,3,none⟩ vo).setCell ⟨w.heap.size,4,none⟩ vc).setCell ⟨w.heap.size,5,none⟩ (Aj r.x)):=by
 have u:N0≤w.heap.size:=by have:=h.hM.1;omega
 have k:=h.rel;have q:=(Ho N0).setCell k z (Gp N0) u 0 vb;have v:=(Ho N0).setCell q (z.aX 0 vb) (Gp N0) u 1 vi;have b:=(Ho N0).setCell v ((z.aX 0 vb).aX 1 vi) (Gp N0) u 2 va;have p:=(Ho N0).setCell b (((z.aX 0 vb).aX 1 vi).aX 2 va) (Gp N0) u 3 vo;have s:=(Ho N0).setCell p ((((z.aX 0 vb).aX 1 vi).aX 2 va).aX 3 vo) (Gp N0) u 4 vc;have c:=(Ho N0).setCell s (((((z.aX 0 vb).aX 1 vi).aX 2 va).aX 3 vo).aX 4 vc) (Gp N0) u 5 (Aj r.x);refine⟨r,vb,vi,va,vo,vc,rfl,by simp only[Br];exact c,?_,?_⟩
 ·exact(((((h.am.setCell y _).setCell y _).setCell y _).setCell y _).setCell y _).setCell y _
 ·exact(((((a.setCell (.inr Aw) _).setCell (.inr Aw) _).setCell (.inr Aw) _).setCell (.inr Aw) _).setCell (.inr Aw) _).setCell (.inr Aw) _
theorem Zfi (N0:Nat)(m:cX)(w:World)(kind:Int)(cA:Option Addr)(cc:Nat)(cl:List Int)(gA:Option Addr)(gn gc:Nat)(h:Mk w m)(hN:N0≤m.M)(hc:m.c3=.slice gA gn gc)(hS:1≤gn)(nb:gn≤1000)
  (c0:af (Repr.int (N0:=N0)) 3 w w.heap.size cA cl) (f9:cl.length≤1000) :
  Calls Tryz.prog 85 #[.pointer (some ⟨m.M,0,none⟩),Aj kind,.slice cA cl.length cc] w (Wm N0 m w):=by
 obtain⟨i1,ji,z2,v1,y0⟩:=info_parts Lf;obtain⟨i2,li,a5,v2,a4⟩:=info_parts Io;obtain⟨i3,ki,e7,d4,f5⟩:=info_parts Zdk;have a3:=h.lt;obtain⟨xM,a1⟩:=h.aG;have c8:=Aq a1;clear a1;have a7:=Aq h;have HC:=Aq hc;have b7:=Aq c0;clear h hc c0;obtain⟨w0,hl⟩:∃w0,w0=w.alloc (.cells #[.slice none 0 0,.slice none 0 0,.slice none 0 0,.slice none 0 0,.slice none 0 0,Aj 0] 190):=⟨_,rfl⟩;have hz:w0.heap.size=w.heap.size+1:=by rw[hl];simp
 have b3:aH w0 w.heap.size 190 #[.slice none 0 0,.slice none 0 0,.slice none 0 0,.slice none 0 0,.slice none 0 0,Aj 0]:=by rw[hl];exact qG _ _ _
 have hI:dY m.M w w0:=by rw[hl];exact(qF _ _).alloc _
 have x8:(Cr N0).rel (w0.alloc (.cells #[.slice none 0 0,.slice none 0 0,.slice none 0 0,.slice none 0 0,.slice none 0 0,Aj 0] 190)) (w.heap.size+1+1) [] [.slice none 0 0]:=⟨_,_,rfl,Aw,By _,qR _ _ _ _ _⟩;have z1:ba N0 m w0 (w.heap.size+1) (w.heap.size+1+1) (w0.alloc (.cells #[.slice none 0 0,.slice none 0 0,.slice none 0 0,.slice none 0 0,.slice none 0 0,Aj 0] 190)) (.slice none 0 0) (.slice none 0 0) (.slice none 0 0) (.slice none 0 0) (.slice none 0 0) ⟨[],[],[],[],[],0⟩ :=
  ⟨qH _ _ _ (by omega),x8,x8,x8,qJ _ _ _ _,qJ _ _ _ _,by unfold bK;simp only;omega,(by rw[hl];exact(a7.o.alloc _).alloc _),(qF _ _).alloc _,⟨by omega,by omega⟩,⟨hN,by omega⟩,by omega,by simp;omega⟩
 have v4:=Aq b3;have v0:=Aq z1;have y8:=z1.am.cells.1 3 (by omega);simp only[Nat.reduceSub,Az,Ba,Ay]at y8;rw[HC.o,hl]at y8;have f0:=Aq hl;clear b3 z1 x8 hl a7;go_enter Tryz.func85,Tryz.ntmps85;go_wp2_with fail
 rw[←f0.o];refine(Mu N0 m _ gA gn gc v0.o.am hN HC.o hS nb).mono ?_;rintro e w2⟨l2,A2,c2,rfl,e1,e2,b5,e0,v9,b6⟩;have HI:=(v0.o.next v9 b6).dM rfl rfl;have g9:=HI.hB;have c:=HI.box.cell 1;have Z:=HI.box.frozen 1;have H:=HI.box.lt;simp only[Az,Ba,Ay]at c;have a8:Zdx N0 m w0 (w.heap.size+1) ((w2.alloc (.cells #[.slice A2 l2.length c2] 22)).setCell ⟨w.heap.size+1,1,none⟩ (.slice (some ⟨w2.heap.size,0,none⟩) 1 1)):=by
  have ha:=(HI.alloc (.cells #[.slice A2 l2.length c2] 22)).dM rfl rfl;have A5:(Cr N0).rel (w2.alloc (.cells #[.slice A2 l2.length c2] 22)) (w2.alloc (.cells #[.slice A2 l2.length c2] 22)).heap.size [l2] [.slice (some ⟨w2.heap.size,0,none⟩) 1 1] :=
   ⟨_,_,rfl,by simp,by unfold maxLen;omega,af.jR [[_]] (qG _ _ _) (by simp) ⟨⟨_,_,rfl,e1,e2,(b5.below (aI.alloc Aw _) Aw).aY (by simp)⟩,trivial⟩⟩
  have hs:=ha.set 1 (.slice (some ⟨w2.heap.size,0,none⟩) 1 1) (r':=⟨[],[l2],[],[],[],0⟩) rfl ha.eH A5 ha.ahead ha.o ha.ao ha.x;exact⟨_,_,_,_,by rw[Br];exact hs,rfl,rfl,rfl,by simpa using e0⟩
 have z4:=Aq a8;clear a8 HI v9 b6 b5 y8 v0;go_upto_if 25 with(fail)
 rw[←World.setCell_alloc_past _ _ _ _ H];obtain⟨w3,a6⟩:∃w3,w3=(w2.alloc (.cells #[.slice A2 l2.length c2] 22)).setCell ⟨w.heap.size+1,1,none⟩ (.slice (some ⟨w2.heap.size,0,none⟩) 1 1):=⟨_,rfl⟩;rw[←a6]at z4 ⊢;clear a6 c Z H;obtain⟨vb,va,A,r,a,ho,hc,R,h4⟩:=z4.o;obtain⟨I,C,cb,rfl⟩:∃I C cb,vb=.slice I C cb:=by obtain⟨A',c',e',_⟩:=a.eH;exact⟨A',_,c',by injection e'⟩
 obtain⟨Aa,na,ca,rfl⟩:∃Aa na ca,va=.slice Aa na ca:=by obtain⟨A',c',e',_⟩:=a.ahead;exact⟨A',_,c',by injection e'⟩
 have S:=Aq a;have n:=Aq ho;have X:=Aq hc;have H4:=Aq h4;clear a z4 ho hc h4;have g7:w.heap.size<w3.heap.size:=by have:=S.o.fr.size;omega
 by_cases a2:kind=6
 ·subst a2;have b:=S.o.drew;have B:w3.drew.cell? ⟨w.heap.size+1,1,none⟩=some (.slice A 1 1):=by rw[b.box.cell];rfl
  go_wp2_with fail
  refine Bv (Cl [3,4,5,7]) (Bm [1]) (Bm [3,4]) [0,1,2,3,4,5,6,7] (fun w'=>w'.cell? ⟨w.heap.size+1,1,none⟩=some (.slice A 1 1)) (by kernel_rfl) (by kernel_rfl) (by kernel_rfl) (by kernel_rfl) ?_;refine Be ?_;refine Bj B ?_;refine Be ?_;refine Bi fun K u=>?_;go_simp
  refine(Mu N0 m _ gA gn gc b.am hN HC.o hS nb).mono ?_;rintro e w4⟨f,A4,c4,rfl,f1,f2,c5,z6,P,Q⟩;have l:=(b.next P Q).dM n.o X.o;dsimp only;refine u _ _ (fun _=>by rw[l.box.cell];rfl) ?_;clear u K;refine Bi fun K u=>?_;go_simp
  have x9:=(l.alloc (.cells #[.slice A4 f.length c4] 22)).dM n.o X.o;refine u _ _ (fun _=>by rw[x9.box.cell];rfl) ?_;clear u K;refine Bi fun K u=>?_
  rw[if_pos (by kernel_rfl)];refine Ie _ (.tmp 27) (.tmp 30) _ rfl (Ep N0) 22 i1 _ 24 Tryz.underlying187 ji z2 v1 y0 rfl A 1 r.eC R (by omega) rfl (Jz x9.eC).2.2.2 (some ⟨w4.heap.size,0,none⟩) 1 1 [f] rfl rfl 22 (af.jR [[_]] (qG _ _ _) (by simp) ⟨⟨_,_,rfl,f1,f2,(c5.below (aI.alloc Aw _) Aw).aY (by simp)⟩,trivial⟩) (by unfold maxLen;omega) (by omega) ?_;intro U V N g1 g2 O b1;have p:=(x9.below b1).dM n.o X.o;have c:=p.box.cell 1;have Z:=p.box.frozen 1;have H:=p.box.lt;simp only[Az,Ba,Ay]at c;refine Bh u ?_;clear u K;refine Be ?_;refine Bi fun K u=>?_;go_simp
  refine Bh u ?_;clear u K;refine Bb ?_;have Y:=p.set 1 (.slice U 2 V) (r' := {r with eC:=r.eC++[f]}) rfl p.eH ⟨_,_,by simp[R],by simp[R];omega,g2,O⟩ p.ahead p.o p.ao p.x;generalize hK:N.setCell _ _=G at *;go_wp2_with fail
  refine(Bk _ m _ Y.am (by omega) (by omega)).mono ?_;rintro e w7⟨x,b0,x6,rfl,D,F,-⟩;have s:=Y.next D F;have c:=s.box.cell 5;have Z:=s.box.frozen 5;have H:=s.box.lt;simp only[Az,Ba,Ay]at c;have d:=s.set 5 (Aj (x*10-200)) (r' := {r with eC:=r.eC++[f],x:=x*10-200}) rfl s.eH s.eC s.ahead s.o s.ao (by unfold bK;simp only;omega);clear hK s Y D F p b1 x9 l b S;go_upto_region 7 with(fail)
  generalize d9:w7.setCell _ _=w8 at *;clear d9 c Z H;have y:=d.box.cell;have y2:=d.box.lt;have L:=d.fr.aG v4.o (by omega);have q:=L.cell;have z:=L.frozen;have q2:=L.lt;have c1:w.heap.size+1≠w.heap.size:=by omega
  have f6:w.heap.size≠w.heap.size+1:=by omega
  have y6:=Aq L;have z3:=Aq d;have y9:=Aq (hI.trans d.fr);clear L d;go_wp2;refine bodyPost_ret (v:=.agg #[.slice I C cb,.slice U 2 V,.slice Aa na ca,.slice none 0 0,.slice none 0 0,Aj (x*10-200)]) (by simp[results,Tryz.results85,go_sem,q]) rfl ?_;exact Va z3.o y6.o a3 y9.o
 ·have HO:(kind==6)=false:=by simpa using a2
  go_wp2_with fail
  refine(Bk _ m _ S.o.am (by omega) (by omega)).mono ?_;rintro e w4⟨x,b0,x6,rfl,P,Q,-⟩;have l:=(S.o.next P Q).dM n.o X.o;have x1:=Aq l;clear l P Q S;go_upto_if 41 with(fail)
  go_cut [] (fun wx=>Zdx N0 m w0 (w.heap.size+1) wx)
  case first =>
   by_cases hx:x=0
   ·subst hx;go_wp2_with fail
    refine(Pe N0 m _ 2 gA gn gc x1.o.am hN HC.o hS nb (by omega) (by omega)).mono ?_;rintro e N⟨lb,U,V,rfl,f1,f2,O,i9,w6,hj⟩;have p:=(x1.o.next w6 hj).dM n.o X.o;have Y:=p.set 0 (.slice U lb.length V) (r' := {r with eH:=lb}) rfl ⟨_,_,rfl,f1,f2,O⟩ p.eC p.ahead p.o p.ao p.x;have c:=p.box.cell 0;have Z:=p.box.frozen 0;have H:=p.box.lt;simp only[Az,Ay]at c;have J:=Aq Y;clear p Y O w6 hj x1;go_wp2_with fail
    obtain⟨G,hK⟩:∃G,G=N.setCell ⟨w.heap.size+1,0,none⟩ (.slice U lb.length V):=⟨_,rfl⟩;rw[←hK]at J ⊢;clear hK c Z H;refine(Pe N0 m _ 2 gA gn gc J.o.am hN HC.o hS nb (by omega) (by omega)).mono ?_;rintro e w7⟨la,A7,c7,rfl,f3,f4,a0,i7,D,F⟩;have s:=(J.o.next D F).dM n.o X.o;have d:=s.set 2 (.slice A7 la.length c7) (r' := {r with eH:=lb,ahead:=la}) rfl s.eH s.eC ⟨_,_,rfl,f3,f4,a0⟩ s.o s.ao s.x;have c:=s.box.cell 2;have Z:=s.box.frozen 2;have H:=s.box.lt;simp only[Az,Ba,Ay]at c;have z8:=Aq d;clear s d a0 D F J;go_wp2_with fail
    go_meet;exact⟨_,_,_,{r with eH:=lb,ahead:=la},by rw[Br];exact z8.o,n.o,X.o,R,H4.o⟩
   ·have i5:(x==0)=false:=by simpa using hx
    go_wp2_with fail
    go_meet;exact⟨_,_,_,_,x1.o,n.o,X.o,R,H4.o⟩
  case rest =>
   clear x1 n X R H4;obtain⟨vb,va,A,r,a,ho,hc,R,h4⟩:=hcut;have S:=Aq a;have n:=Aq ho;have X:=Aq hc;have H4:=Aq h4;clear a ho hc h4;go_upto_block 0 with(fail)
   go_cut [] (fun wx=>∃B1,Zgz N0 m w0 (w.heap.size+1) B1 wx)
   case first =>
    by_cases e4:kind=1∨kind=5
    ·obtain⟨s0,z0⟩:∃s0,r.eC[0]?=some s0:=⟨_,Bf (by omega)⟩;have i4:s0.length≤4:=H4.o s0 (Bz z0);have d0:=Aq z0;have h0:∃(k:Nat) (vo:Value) (r':dG),k≤s0.length∧Value.int .i64 0=Aj k∧ba N0 m w0 (w.heap.size+1) wc.heap.size wc vb (.slice A 1 1) va vo (.slice none 0 0) r'∧r'.eC=r.eC∧r'.o.length≤k:=⟨0,_,r,by omega,rfl,S.o,rfl,by rw[n.o];simp⟩;have H0:=Aq h0;clear z0 h0;rcases e4 with rfl|rfl
     all_goals
      go_wp2_with fail
      go_loopw [9] (fun i wr=>∃(k:Nat) (vo:Value) (r':dG),k≤s0.length∧i=Aj k∧ba N0 m w0 (w.heap.size+1) wc.heap.size wr vb (.slice A 1 1) va vo (.slice none 0 0) r'∧r'.eC=r.eC∧r'.o.length≤k) (fun i _=>s0.length-(intOf i).toNat)
      case atStart=>exact H0.o
      case round =>
       obtain⟨k,vo,r',hk,rfl,a,A5,v8⟩:=hrel;have y:=a.box.cell 1;have y2:=a.box.lt;simp only[Az,Ba,Ay]at y;obtain⟨ib,io,g3,hA,i0,⟨iA,ic,rfl,_⟩,v3⟩:=(Jz a.eC).2.2.2.get (i:=0) (by rw[A5];exact d0.o);have y3:=v3 0 _ rfl;simp only[Ep,Repr.row,Nat.zero_mul,oh]at y3;rw[hA]at y;have y4:ib<wr.heap.size:=by have:=a.hB;omega
       have z5:=Aq A5;have f7:=Aq hA;clear v3 A5 hA;by_cases v6:(k:Int)<s0.length
       ·go_upto_block 4 with(fail)
        go_cut [] (fun wx=>∃(vo:Value) (r':dG),ba N0 m w0 (w.heap.size+1) wc.heap.size wx vb (.slice A 1 1) va vo (.slice none 0 0) r'∧r'.eC=r.eC∧r'.o.length≤k+1)
        case first =>
         clear y y2 y3 y4;have b:=a.drew;obtain⟨Ao,co,rfl,_⟩:=a.o.form;have B:wr.drew.cell? ⟨w.heap.size+1,3,none⟩=some (.slice Ao r'.o.length co):=by rw[b.box.cell];rfl
         go_wp2_with fail
         refine Bv (Cl [4,5,6,8]) (Bm [1]) (Bm [4,5]) [0,1,2,3,4,5,6,7,8] (fun w'=>w'.cell? ⟨w.heap.size+1,3,none⟩=some (.slice Ao r'.o.length co)) (by kernel_rfl) (by kernel_rfl) (by kernel_rfl) (by kernel_rfl) ?_;refine Be ?_;refine Bj B ?_;refine Be ?_;refine Be ?_;refine Bi fun K u=>?_;go_simp
         refine(Bk _ m _ b.am (by omega) (by omega)).mono ?_;rintro e N⟨x,b0,x6,rfl,w6,hj,-⟩;have p:=b.next w6 hj;dsimp only;refine u _ _ (fun _=>by rw[p.box.cell];rfl) ?_;clear u K;refine Bi fun K u=>?_;go_simp
         have T:=p.alloc (.cells #[Aj x] 3);refine u _ _ (fun _=>by rw[T.box.cell];rfl) ?_;clear u K;refine Bi fun K u=>?_
         refine Dj _ rfl (.tmp 98) (.tmp 102) _ rfl (Repr.int (N0:=N0)) wc.heap.size 3 i2 _ 8 Tryz.underlying22 li a5 v2 a4 rfl (show 0<1 by decide) (by simp[Repr.int]) (by have:=a.hB;have:=a.hM;omega) (.slice Ao r'.o.length co) r'.o rfl T.o N.heap.size [_] x rfl (qG _ _ _) ⟨rfl,(by unfold bK;omega)⟩ (by unfold maxLen;omega) (by omega) T.hB.2 ?_;intro A6 c6 G y7 z7;obtain⟨HO,Y⟩:=T.jt y7 z7;have c:=HO.cell 3;have Z:=HO.frozen 3;have H:=HO.lt;simp only[Az,Ba,Ay]at c;refine Bh u ?_;clear u K;refine Be ?_;refine Bi fun K u=>?_;go_simp
         refine Bh u ?_;clear u K;refine Bb ?_;go_wp2_with fail
         go_meet;exact⟨_,_,Y,z5.o,by simp;omega⟩
        case rest =>
         obtain⟨vo,r',b2,x5,x3⟩:=hcut;have x2:=Aq b2;have y5:=Aq x5;clear b2 x5 y y3;go_wp2_with fail
         go_roundw
         case rel=>exact⟨k+1,vo,r',by omega,by go_num,x2.o,y5.o,x3⟩
         case measure=>simp[intOf];omega
       ·go_wp2_with fail
        go_meet;exact⟨_,_,_,_,_,_,_,a⟩
    ·have n1:(kind==1)=false:=by simp;omega
     have n5:(kind==5)=false:=by simp;omega
     by_cases v7:kind=2
     ·subst v7;go_wp2_with fail
      refine(Bk _ m _ S.o.am (by omega) (by omega)).mono ?_;rintro e w4⟨K,e6,d2,rfl,P,Q,-⟩;have l:=S.o.next P Q;have h0:∃(k:Nat) (vo:Value) (r':dG),k≤K.toNat∧Value.int .i64 0=Aj k∧ba N0 m w0 (w.heap.size+1) wc.heap.size w4 vb (.slice A 1 1) va vo (.slice none 0 0) r'∧r'.eC=r.eC∧r'.o.length≤k:=⟨0,_,r,by omega,rfl,l,rfl,by rw[n.o];simp⟩;have H0:=Aq h0;clear h0 l P Q;go_wp2_with fail
      go_loopw [11] (fun i wr=>∃(k:Nat) (vo:Value) (r':dG),k≤K.toNat∧i=Aj k∧ba N0 m w0 (w.heap.size+1) wc.heap.size wr vb (.slice A 1 1) va vo (.slice none 0 0) r'∧r'.eC=r.eC∧r'.o.length≤k) (fun i _=>K.toNat-(intOf i).toNat)
      case atStart=>exact H0.o
      case round =>
       obtain⟨k,vo,r',hk,rfl,a,A5,v8⟩:=hrel;have z5:=Aq A5;clear A5;by_cases v6:(k:Int)<K
       ·go_upto_block 6 with(fail)
        go_cut [] (fun wx=>∃(vo:Value) (r':dG),ba N0 m w0 (w.heap.size+1) wc.heap.size wx vb (.slice A 1 1) va vo (.slice none 0 0) r'∧r'.eC=r.eC∧r'.o.length≤k+1)
        case first =>
         have b:=a.drew;obtain⟨Ao,co,rfl,_⟩:=a.o.form;have B:wr.drew.cell? ⟨w.heap.size+1,3,none⟩=some (.slice Ao r'.o.length co):=by rw[b.box.cell];rfl
         go_wp2_with fail
         refine Bv (Cl [4,5,6,8]) (Bm [1]) (Bm [4,5]) [0,1,2,3,4,5,6,7,8] (fun w'=>w'.cell? ⟨w.heap.size+1,3,none⟩=some (.slice Ao r'.o.length co)) (by kernel_rfl) (by kernel_rfl) (by kernel_rfl) (by kernel_rfl) ?_;refine Be ?_;refine Bj B ?_;refine Be ?_;refine Be ?_;refine Bi fun K u=>?_;go_simp
         refine(Bk _ m _ b.am (by omega) (by omega)).mono ?_;rintro e N⟨x,b0,x6,rfl,w6,hj,-⟩;have p:=b.next w6 hj;dsimp only;refine u _ _ (fun _=>by rw[p.box.cell];rfl) ?_;clear u K;refine Bi fun K u=>?_;go_simp
         have T:=p.alloc (.cells #[Aj x] 3);refine u _ _ (fun _=>by rw[T.box.cell];rfl) ?_;clear u K;refine Bi fun K u=>?_
         refine Dj _ rfl (.tmp 115) (.tmp 119) _ rfl (Repr.int (N0:=N0)) wc.heap.size 3 i2 _ 8 Tryz.underlying22 li a5 v2 a4 rfl (show 0<1 by decide) (by simp[Repr.int]) (by have:=a.hB;have:=a.hM;omega) (.slice Ao r'.o.length co) r'.o rfl T.o N.heap.size [_] x rfl (qG _ _ _) ⟨rfl,(by unfold bK;omega)⟩ (by unfold maxLen;omega) (by omega) T.hB.2 ?_;intro A6 c6 G y7 z7;obtain⟨HO,Y⟩:=T.jt y7 z7;have c:=HO.cell 3;have Z:=HO.frozen 3;have H:=HO.lt;simp only[Az,Ba,Ay]at c;refine Bh u ?_;clear u K;refine Be ?_;refine Bi fun K u=>?_;go_simp
         refine Bh u ?_;clear u K;refine Bb ?_;go_wp2_with fail
         go_meet;exact⟨_,_,Y,z5.o,by simp;omega⟩
        case rest =>
         obtain⟨vo,r',b2,x5,x3⟩:=hcut;have x2:=Aq b2;have y5:=Aq x5;clear b2 x5;go_wp2_with fail
         go_roundw
         case rel=>exact⟨k+1,vo,r',by omega,by go_num,x2.o,y5.o,x3⟩
         case measure=>simp[intOf];omega
       ·go_wp2_with fail
        go_meet;exact⟨_,_,_,_,_,_,_,a⟩
     ·have n2:(kind==2)=false:=by simpa using v7
      by_cases b4:kind=3
      ·subst b4;have b:=S.o.drew;have B:wc.drew.cell? ⟨w.heap.size+1,1,none⟩=some (.slice A 1 1):=by rw[b.box.cell];rfl
       go_wp2_with fail
       refine Bv (Cl [3,4,6]) (Bm [1]) (Bm [3]) [0,1,2,3,4,5,6] (fun w'=>w'.cell? ⟨w.heap.size+1,1,none⟩=some (.slice A 1 1)) (by kernel_rfl) (by kernel_rfl) (by kernel_rfl) (by kernel_rfl) ?_;refine Be ?_;refine Bj B ?_;refine Be ?_;refine Bi fun K u=>?_;go_simp
       refine(Pe N0 m _ 2 gA gn gc b.am hN HC.o hS nb (by omega) (by omega)).mono ?_;rintro e w4⟨f,A4,c4,rfl,f1,f2,c5,z6,P,Q⟩;have l:=(b.next P Q).dM n.o X.o;dsimp only;refine u _ _ (fun _=>by rw[l.box.cell];rfl) ?_;clear u K;refine Bi fun K u=>?_
       rw[if_pos (by kernel_rfl)];refine Ie _ (.tmp 125) (.tmp 127) _ rfl (Ep N0) 22 i1 _ 24 Tryz.underlying187 ji z2 v1 y0 rfl A 1 r.eC R (by omega) rfl (Jz l.eC).2.2.2 A4 f.length c4 f rfl rfl 22 c5 (by unfold maxLen;omega) (by omega) ?_;intro U V N g1 g2 O b1;have p:=(l.below b1).dM n.o X.o;have c:=p.box.cell 1;have Z:=p.box.frozen 1;have H:=p.box.lt;simp only[Az,Ba,Ay]at c;refine Bh u ?_;clear u K;refine Be ?_;refine Bi fun K u=>?_;go_simp
       refine Bh u ?_;clear u K;refine Bb ?_;have Y:=p.set 1 (.slice U (1+f.length) V) (r' := {r with eC:=r.eC++f}) rfl p.eH ⟨_,_,by simp[R],by simp[R];omega,g2,O⟩ p.ahead p.o p.ao p.x;generalize hK:N.setCell _ _=G at *;have J:=Aq Y;clear hK Y p b1 l b O c5 P Q c Z H;go_wp2_with fail
       refine(Bk _ m _ J.o.am (by omega) (by omega)).mono ?_;rintro e w7⟨x,b0,x6,rfl,D,F,-⟩;have s:=J.o.next D F;have c:=s.box.cell 3;have Z:=s.box.frozen 3;have H:=s.box.lt;simp only[Az,Ba,Ay]at c;have d:=(s.alloc (.cells #[Aj x] 3)).set 3 (.slice (some ⟨w7.heap.size,0,none⟩) 1 1) (r' := {r with eC:=r.eC++f,o:=[x]}) rfl (s.alloc _).eH (s.alloc _).eC (s.alloc _).ahead (aK.du (cs:=[_]) (qG _ _ _) s.hB.2 ⟨rfl,(by unfold bK;omega)⟩) (s.alloc _).ao s.x;rw[World.setCell_alloc_past _ _ _ _ H]at d;have z8:=Aq d;clear s d D F J;go_wp2_with fail
       go_meet;exact⟨_,_,_,_,_,_,_,z8.o⟩
      ·have n3:(kind==3)=false:=by simpa using b4
       have b:=S.o.drew;have B:wc.drew.cell? ⟨w.heap.size+1,1,none⟩=some (.slice A 1 1):=by rw[b.box.cell];rfl
       go_wp2_with fail
       refine Bv (Cl [3,4,6]) (Bm [1]) (Bm [3]) [0,1,2,3,4,5,6] (fun w'=>w'.cell? ⟨w.heap.size+1,1,none⟩=some (.slice A 1 1)) (by kernel_rfl) (by kernel_rfl) (by kernel_rfl) (by kernel_rfl) ?_;refine Be ?_;refine Bj B ?_;refine Be ?_;refine Bi fun K u=>?_;go_simp
       refine(Pe N0 m _ 2 gA gn gc b.am hN HC.o hS nb (by omega) (by omega)).mono ?_;rintro e w4⟨f,A4,c4,rfl,f1,f2,c5,z6,P,Q⟩;have l:=(b.next P Q).dM n.o X.o;dsimp only;refine u _ _ (fun _=>by rw[l.box.cell];rfl) ?_;clear u K;refine Bi fun K u=>?_
       rw[if_pos (by kernel_rfl)];refine Ie _ (.tmp 50) (.tmp 52) _ rfl (Ep N0) 22 i1 _ 24 Tryz.underlying187 ji z2 v1 y0 rfl A 1 r.eC R (by omega) rfl (Jz l.eC).2.2.2 A4 f.length c4 f rfl rfl 22 c5 (by unfold maxLen;omega) (by omega) ?_;intro U V N g1 g2 O b1;have p:=(l.below b1).dM n.o X.o;have c:=p.box.cell 1;have Z:=p.box.frozen 1;have H:=p.box.lt;simp only[Az,Ba,Ay]at c;refine Bh u ?_;clear u K;refine Be ?_;refine Bi fun K u=>?_;go_simp
       refine Bh u ?_;clear u K;refine Bb ?_;have Y:=p.set 1 (.slice U (1+f.length) V) (r' := {r with eC:=r.eC++f}) rfl p.eH ⟨_,_,by simp[R],by simp[R];omega,g2,O⟩ p.ahead p.o p.ao p.x;generalize hK:N.setCell _ _=G at *;have J:=Aq (Y.dM n.o X.o);clear hK Y p b1 l b O c5 P Q c Z H;go_wp2_with fail
       refine(Bk _ m _ J.o.am (by omega) (by omega)).mono ?_;rintro e w7⟨K,e6,d2,rfl,D,F,-⟩;have s:=J.o.next D F;have h0:∃(k:Nat) (vc:Value) (r':dG),k≤K.toNat∧Value.int .i64 0=Aj k∧ba N0 m w0 (w.heap.size+1) G.heap.size w7 vb (.slice U (1+f.length) V) va (.slice none 0 0) vc r'∧r'.ao.length≤k:=⟨0,_,_,by omega,rfl,s,by simp only;rw[X.o];simp⟩;have H0:=Aq h0;clear h0 s D F;have g8:f.length≤2:=by simpa using z6
       go_wp2_with fail
       go_loopw [13] (fun i wr=>∃(k:Nat) (vc:Value) (r':dG),k≤K.toNat∧i=Aj k∧ba N0 m w0 (w.heap.size+1) G.heap.size wr vb (.slice U (1+f.length) V) va (.slice none 0 0) vc r'∧r'.ao.length≤k) (fun i _=>K.toNat-(intOf i).toNat)
       case atStart=>exact H0.o
       case round =>
        obtain⟨k,vc,r',hk,rfl,a,v8⟩:=hrel;by_cases v6:(k:Int)<K
        ·by_cases j0:(0:Int)<cl.length
         ·go_upto_block 2 with(fail)
          go_cut [] (fun wx=>∃(vc:Value) (r':dG),ba N0 m w0 (w.heap.size+1) G.heap.size wx vb (.slice U (1+f.length) V) va (.slice none 0 0) vc r'∧r'.ao.length≤k+1)
          case first =>
           obtain⟨Ak,ck,rfl,_⟩:=a.ao.form;obtain⟨x0,b0⟩:∃x0,cl[0]?=some x0:=⟨_,Bf (by omega)⟩;obtain⟨cb,co,g4,y1,i8,_,_⟩:=b7.o.get b0;rw[y1];have v5:∀W,dY m.M w W→∀(j:Nat) (x:Int),cl[j]?=some x→W.cell? ⟨cb,co+j,none⟩=some (Aj x)∧bK x:=by
            intro W hf j x E;obtain⟨g6,g0,g5,z9,_,⟨rfl,hx⟩,d5⟩:=(b7.o.fr hf c8.o (by simp[Repr.int]) hN).get E;rw[y1]at z9;simp only[Bw,Addr.mk.injEq,and_true]at z9;obtain⟨rfl,rfl⟩:=z9;have:=d5 0 _ rfl;exact⟨by simpa [Repr.int]using this,hx⟩
           have Ab:=Aq v5;have b:=a.drew;have B:(fun w'=>w'.cell? ⟨w.heap.size+1,4,none⟩=some (.slice Ak r'.ao.length ck)∧w'.cell? ⟨w.heap.size+1,1,none⟩=some (.slice U (1+f.length) V)∧∀(j:Nat) (x:Int),cl[j]?=some x→w'.cell? ⟨cb,co+j,none⟩=some (Aj x)) wr.drew:=⟨by rw[b.box.cell];rfl,by rw[b.box.cell];rfl,fun j x E=>(Ab.o _ (hI.trans b.fr) j x E).1⟩;have i6:(0:Int)≤((1+f.length:Nat):Int):=by omega
           clear v5 b0;go_wp2_with fail
           refine Bv (Cl [6,11,15,16,18]) (Bm [1,4,13]) (Bm [6,11,15,16]) [0,1,2,3,4,5,7,8,9,10,6,11,12,13,14,15,16,17,18] (fun w'=>w'.cell? ⟨w.heap.size+1,4,none⟩=some (.slice Ak r'.ao.length ck)∧w'.cell? ⟨w.heap.size+1,1,none⟩=some (.slice U (1+f.length) V)∧∀(j:Nat) (x:Int),cl[j]?=some x→w'.cell? ⟨cb,co+j,none⟩=some (Aj x)) (by kernel_rfl) (by kernel_rfl) (by kernel_rfl) (by kernel_rfl) ?_;refine Be ?_;refine Gl (v:=_) rfl rfl (by kernel_rfl) (fun _ _ _ h=>h) B rfl (fun wq hq=>by obtain⟨q1,_,_⟩:=hq;first|(go_simp;done)|(go_simp;rfl)) ?_;refine Be ?_;refine Be ?_;refine Gl (v:=_) rfl rfl (by kernel_rfl) (fun _ _ _ h=>h) B rfl (fun wq hq=>by obtain⟨_,q1,_⟩:=hq;first|(go_simp;done)|(go_simp;rfl)) ?_
           iterate 5 (refine Be ?_)
           refine Bi fun K u=>?_;go_simp
           refine(Bk _ m _ b.am (by omega) (by omega)).mono ?_;rintro e wa⟨x,b0,x6,rfl,d1,d6,-⟩;have w5:=b.next d1 d6;dsimp only;refine u _ _ (fun _=>⟨by rw[w5.box.cell];rfl,by rw[w5.box.cell];rfl,fun j x E=>(Ab.o _ (hI.trans w5.fr) j x E).1⟩) ?_;clear u K;refine Bi fun K u=>?_;go_simp
           refine(Bk _ m _ w5.am (by omega) (by omega)).mono ?_;rintro e wb⟨y,e8,f8,rfl,e3,e9,-⟩;have x7:=w5.next e3 e9;obtain⟨yn,rfl⟩:=Dm e8;obtain⟨z,b9⟩:∃z,cl[yn]?=some z:=⟨_,Bf (by omega)⟩;have e5:=(Ab.o _ (hI.trans x7.fr) yn z b9).2;have a9:(fun w'=>w'.cell? ⟨w.heap.size+1,4,none⟩=some (.slice Ak r'.ao.length ck)∧w'.cell? ⟨w.heap.size+1,1,none⟩=some (.slice U (1+f.length) V)∧∀(j:Nat) (x:Int),cl[j]?=some x→w'.cell? ⟨cb,co+j,none⟩=some (Aj x)) wb:=⟨by rw[x7.box.cell];rfl,by rw[x7.box.cell];rfl,fun j x E=>(Ab.o _ (hI.trans x7.fr) j x E).1⟩;dsimp only;refine u _ _ (fun _=>a9) ?_;clear u K;refine Be ?_;refine Gl (v:=_) rfl rfl (by kernel_rfl) (fun _ _ _ h=>h) a9 rfl (fun wq hq=>by obtain⟨_,_,q3⟩:=hq;have q1:=q3 yn z b9;clear q3;first|(go_simp;done)|(go_simp;rfl)) ?_;refine Be ?_;refine Bi fun K u=>?_;go_simp
           have l4:=x7.alloc (.cells #[Aj x,Aj z] 233);refine u _ _ (fun _=>⟨by rw[l4.box.cell];rfl,by rw[l4.box.cell];rfl,fun j x E=>(Ab.o _ (hI.trans l4.fr) j x E).1⟩) ?_;clear u K;refine Bi fun K u=>?_
           refine Dj _ rfl (.tmp 68) (.tmp 82) _ rfl (Jr N0) G.heap.size 233 i3 _ 16 Tryz.underlying188 ki e7 d4 f5 rfl (show 0<2 by decide) (by simp[Jr,Repr.bi,Repr.int]) (by have:=a.hB;have:=a.hM;omega) (.slice Ak r'.ao.length ck) r'.ao rfl l4.ao wb.heap.size [_,_] (x,z) rfl (qG _ _ _) ⟨[_],[_],rfl,⟨rfl,(by unfold bK;omega)⟩,rfl,e5⟩ (by unfold maxLen;omega) (by omega) l4.hB.2 ?_;intro A9 c9 w9 d3 b8;obtain⟨x4,d7⟩:=l4.gG d3 b8;have d8:dY m.M w w9:=(hI.trans l4.fr).dt b8 fun g e=>by have:=(l4.ao.block e).1;have:=a.hB;omega
           have c:=x4.cell 4;have Z:=x4.frozen 4;have H:=x4.lt;simp only[Az,Ba,Ay]at c;refine u _ _ (fun _=>⟨by rw[x4.cell];rfl,by rw[x4.cell];rfl,fun j x E=>(Ab.o _ d8 j x E).1⟩) ?_;clear u K;refine Be ?_;refine Bi fun K u=>?_;go_simp
           refine Bh u ?_;clear u K;refine Bb ?_;go_wp2_with fail
           rw[←y1];go_meet;exact⟨_,_,d7,by simp;omega⟩
          case rest =>
           obtain⟨vc,r',b2,x3⟩:=hcut;have x2:=Aq b2;clear b2;go_wp2_with fail
           go_roundw
           case rel=>exact⟨k+1,vc,r',by omega,by go_num,x2.o,x3⟩
           case measure=>simp[intOf];omega
         ·go_wp2_with fail
          go_meet;exact⟨_,_,_,_,_,_,_,a⟩
        ·go_wp2_with fail
         go_meet;exact⟨_,_,_,_,_,_,_,a⟩
   case rest =>
    obtain⟨B1,vb,vi,va,vo,vc,r',d⟩:=hcut;obtain⟨I,C,cb,rfl⟩:∃I C cb,vb=.slice I C cb:=by obtain⟨A',c',e',_⟩:=d.eH;exact⟨A',_,c',by injection e'⟩
    obtain⟨Ai,ni,ci,rfl⟩:∃I C cb,vi=.slice I C cb:=by obtain⟨A',c',e',_⟩:=d.eC;exact⟨A',_,c',by injection e'⟩
    obtain⟨Aa,na,ca,rfl⟩:∃I C cb,va=.slice I C cb:=by obtain⟨A',c',e',_⟩:=d.ahead;exact⟨A',_,c',by injection e'⟩
    obtain⟨Ao,co,rfl,_⟩:=d.o.form;obtain⟨Ak,ck,rfl,_⟩:=d.ao.form;have y:=d.box.cell;have y2:=d.box.lt;have L:=d.fr.aG v4.o (by omega);have q:=L.cell;have z:=L.frozen;have q2:=L.lt;have c1:w.heap.size+1≠w.heap.size:=by omega
    have f6:w.heap.size≠w.heap.size+1:=by omega
    have y6:=Aq L;have z3:=Aq d;have y9:=Aq (hI.trans d.fr);clear L d;go_wp2;refine bodyPost_ret (v:=.agg #[.slice I C cb,.slice Ai ni ci,.slice Aa na ca,.slice Ao r'.o.length co,.slice Ak r'.ao.length ck,Aj r'.x]) (by simp[results,Tryz.results85,go_sem,q]) rfl ?_;exact Va z3.o y6.o a3 y9.o
def Lm (N0:Nat):Repr N0 (Int×Int×Int):=Repr.bi Repr.int (Repr.bi Repr.int Repr.int)
def Lo (N0:Nat):Repr N0 (Int×Int×Int×Int):=Repr.bi Repr.int (Repr.bi Repr.int (Repr.bi Repr.int Repr.int))
theorem Po (N0:Nat)(w:World)(B:Nat)(a b c:Int)(y:bK a)(x:bK b)(z:bK c):(Lm N0).rel w B (a,b,c) [Aj a,Aj b,Aj c]:=⟨[_],[_,_],rfl,⟨rfl,y⟩,[_],[_],rfl,⟨rfl,x⟩,rfl,z⟩
theorem Vw (N0:Nat)(w:World)(B:Nat)(a b c d:Int)(z:bK a)(x:bK b)(u:bK c)(y:bK d):(Lo N0).rel w B (a,b,c,d) [Aj a,Aj b,Aj c,Aj d]:=⟨[_],[_,_,_],rfl,⟨rfl,z⟩,[_],[_,_],rfl,⟨rfl,x⟩,[_],[_],rfl,⟨rfl,u⟩,rfl,y⟩
theorem Zay:(Tryz.prog.info? 177).map (fun i=>(i.zero,i.size,i.bytes))=some (some (.agg #[Aj 0,Aj 0,Aj 0]),3,24):=by kernel_rfl
theorem Uk:(Tryz.prog.info? 181).map (fun i=>(i.zero,i.size,i.bytes))=some (some (.agg #[Aj 0,Aj 0,Aj 0,Aj 0]),4,32):=by kernel_rfl
theorem Ym:(Tryz.prog.info? 183).map (fun i=>(i.zero,i.size,i.bytes))=some (some (.agg #[Aj 0,Aj 0,Aj 0,Aj 0]),4,32):=by kernel_rfl
structure dU where
 name:ByteArray
 dM:Int
 mark:Bool
 bu:List (Int×Int×Bool)
 aJ:List Int
 cB:List (Int×Int×Int)
 bF:List (Int×Int×Int×Int)
 bX:List (Int×Int×Int×Int)
 dq:List (Int×Int)
def Gd (N0:Nat):Repr N0 dU:=Repr.map (fun g=>(g.name,g.dM,g.mark,(g.bu,g.aJ),g.cB,g.bF,g.bX,g.dq))
 (Repr.bi Repr.str (Repr.bi Repr.int (Repr.bi Repr.bool (Repr.bi (Cz N0) (Repr.bi (Repr.row 177 (Lm N0)) (Repr.bi (Repr.row 181 (Lo N0)) (Repr.bi (Repr.row 183 (Lo N0)) (Em N0))))))))
structure cQ (N0:Nat) (m:cX) (w0:World) (gb:Nat) (wx:World) (vp ve va vn vd vh:Value) (g:dU):Prop where
 box:aH wx gb 73 #[.string g.name,Aj g.dM,.bool g.mark,vp,ve,va,vn,vd,vh]
 iK:(Cz N0).rel wx wx.heap.size (g.bu,g.aJ) [vp,ve]
 cB:aK (Lm N0) 177 w0.heap.size wx va g.cB
 bF:aK (Lo N0) 181 w0.heap.size wx vn g.bF
 bX:aK (Lo N0) 183 w0.heap.size wx vd g.bX
 dq:(Em N0).rel wx wx.heap.size g.dq [vh]
 dM:bK g.dM
 am:Mk wx m
 fr:dY m.M w0 wx
 bU:w0.heap.size≤gb
 hM:N0≤m.M∧m.M<w0.heap.size
theorem Dn (N0:Nat):(Cz N0).da=[230,3]:=rfl
theorem Ft (N0:Nat):(Em N0).da=[96]:=rfl
theorem Ea (N0:Nat):(Lm N0).da=[]:=rfl
theorem Dk (N0:Nat):(Lo N0).da=[]:=rfl
section
variable {N0 : Nat} {m m' : cX} {w0 wx wy : World} {gb : Nat} {vp ve va vn vd vh : Value} {g : dU}
theorem cQ.next (h:cQ N0 m w0 gb wx vp ve va vn vd vh g)(u:Mk wy m')(x:dY m.M wx wy)(z:m'.M=m.M:=by rfl):cQ N0 m' w0 gb wy vp ve va vn vd vh g:=by
 obtain⟨v,y⟩:=h.am.aG;have hM:=h.hM;have bU:=h.bU;exact⟨x.aG h.box (by omega),(Cz N0).aY ((Cz N0).fr h.iK x y (by rw[Dn];simp) hM.1) x.size,h.cB.fr x y (by rw[Ea];simp) hM.1,h.bF.fr x y (by rw[Dk];simp) hM.1,h.bX.fr x y (by rw[Dk];simp) hM.1,
  (Em N0).aY ((Em N0).fr h.dq x y (by rw[Ft];simp) hM.1) x.size,h.dM,u,by rw[z];exact h.fr.trans x,bU,by rw[z];exact hM⟩
theorem cQ.below (h:cQ N0 m w0 gb wx vp ve va vn vd vh g)(x:Below wx.heap.size wx wy):cQ N0 m w0 gb wy vp ve va vn vd vh g:=by
 obtain⟨aL,k,q,u,y,xs,p,r⟩:=h.am;have v:=y.lt;exact h.next ⟨aL,k,q,u,y.below x v,xs,p.below x (by omega),r⟩ (qN x fun _ z _=>z)
theorem cQ.alloc (h:cQ N0 m w0 gb wx vp ve va vn vd vh g)(o:Obj):cQ N0 m w0 gb (wx.alloc o) vp ve va vn vd vh g:=h.below (aI.alloc Aw _)
theorem cQ.drew (h:cQ N0 m w0 gb wx vp ve va vn vd vh g):cQ N0 m w0 gb wx.drew vp ve va vn vd vh g:=h.below aI.drew
theorem cQ.set (h:cQ N0 m w0 gb wx vp ve va vn vd vh g)(i:Nat)(u:Value){z y k v p q:Value}{g':dU}
  (s : #[.string g.name,Aj g.dM,.bool g.mark,vp,ve,va,vn,vd,vh].setIfInBounds i u = #[.string g'.name,Aj g'.dM,.bool g'.mark,z,y,k,v,p,q])
  (b:(Cz N0).rel wx wx.heap.size (g'.bu,g'.aJ) [z,y]) (r:aK (Lm N0) 177 w0.heap.size wx k g'.cB) (d:aK (Lo N0) 181 w0.heap.size wx v g'.bF) (a:aK (Lo N0) 183 w0.heap.size wx p g'.bX) (c:(Em N0).rel wx wx.heap.size g'.dq [q]) (e:bK g'.dM) :
  cQ N0 m w0 gb (wx.setCell ⟨gb,i,none⟩ u) z y k v p q g':=by
 have hM:=h.hM;have bU:=h.bU;have x:=h.box;exact⟨by rw[←s];exact x.aX i u,by rw[Br];exact(Cz N0).setCell b x (by rw[Dn];simp) (by omega) _ _,r.setCell x (by rw[Ea];simp) (by omega) _ _,d.setCell x (by rw[Dk];simp) (by omega) _ _,a.setCell x (by rw[Dk];simp) (by omega) _ _,
  by rw[Br];exact(Em N0).setCell c x (by rw[Ft];simp) (by omega) _ _,e,h.am.setCell (by simp;omega) _,h.fr.setCell (.inr bU) _,bU,hM⟩
theorem cQ.grown {α:Type}{R:Repr N0 α}{t:TypeId}{v:Value}{l:List α}(h:cQ N0 m w0 gb wx vp ve va vn vd vh g)(k:aK R t w0.heap.size wx v l)(x:wx.grownBy wy v.ownBlock)(n1:121≠t)(y:73≠t) :
  aH wy gb 73 #[.string g.name,Aj g.dM,.bool g.mark,vp,ve,va,vn,vd,vh]∧Mk wy m∧dY m.M w0 wy :=
 ⟨h.box.bj k x y,h.am.grown k x n1 h.hM.2,h.fr.dt x fun _ e=>(k.block e).1⟩
theorem cQ.kI (h:cQ N0 m w0 gb wx vp ve va vn vd vh g){u:Option Addr}{n' z:Nat} {l':List (Int×Int×Int)} (q:aK (Lm N0) 177 w0.heap.size wy (.slice u n' z) l') (y:wx.grownBy wy va.ownBlock) :
  aH wy gb 73 #[.string g.name,Aj g.dM,.bool g.mark,vp,ve,va,vn,vd,vh]∧cQ N0 m w0 gb (wy.setCell ⟨gb,5,none⟩ (.slice u n' z)) vp ve (.slice u n' z) vn vd vh {g with cB:=l'} := by
 have hM:=h.hM;have bU:=h.bU;have v:N0≤w0.heap.size:=by omega
 obtain⟨x,k,p⟩:=h.grown h.cB y (by decide) (by decide);exact⟨x,by simpa using x.aX 5 (.slice u n' z),by rw[Br];exact(Cz N0).setCell ((Cz N0).aY ((Cz N0).apart h.iK h.cB y v (by rw[Dn];simp)) y.size) x (by rw[Dn];simp) (by omega) _ _,q.setCell x (by rw[Ea];simp) (by omega) _ _,
  (h.bF.apart h.cB y v (by rw[Dk];simp)).setCell x (by rw[Dk];simp) (by omega) _ _,(h.bX.apart h.cB y v (by rw[Dk];simp)).setCell x (by rw[Dk];simp) (by omega) _ _,
  by rw[Br];exact(Em N0).setCell ((Em N0).aY ((Em N0).apart h.dq h.cB y v (by rw[Ft];simp)) y.size) x (by rw[Ft];simp) (by omega) _ _,h.dM,k.setCell (by simp;omega) _,p.setCell (.inr bU) _,bU,hM⟩
theorem cQ.jI (h:cQ N0 m w0 gb wx vp ve va vn vd vh g){u:Option Addr}{n' z:Nat} {l':List (Int×Int×Int×Int)} (q:aK (Lo N0) 181 w0.heap.size wy (.slice u n' z) l') (y:wx.grownBy wy vn.ownBlock) :
  aH wy gb 73 #[.string g.name,Aj g.dM,.bool g.mark,vp,ve,va,vn,vd,vh]∧cQ N0 m w0 gb (wy.setCell ⟨gb,6,none⟩ (.slice u n' z)) vp ve va (.slice u n' z) vd vh {g with bF:=l'} := by
 have hM:=h.hM;have bU:=h.bU;have v:N0≤w0.heap.size:=by omega
 obtain⟨x,k,p⟩:=h.grown h.bF y (by decide) (by decide);exact⟨x,by simpa using x.aX 6 (.slice u n' z),by rw[Br];exact(Cz N0).setCell ((Cz N0).aY ((Cz N0).apart h.iK h.bF y v (by rw[Dn];simp)) y.size) x (by rw[Dn];simp) (by omega) _ _,(h.cB.apart h.bF y v (by rw[Ea];simp)).setCell x (by rw[Ea];simp) (by omega) _ _,
  q.setCell x (by rw[Dk];simp) (by omega) _ _,(h.bX.apart h.bF y v (by rw[Dk];simp)).setCell x (by rw[Dk];simp) (by omega) _ _,
  by rw[Br];exact(Em N0).setCell ((Em N0).aY ((Em N0).apart h.dq h.bF y v (by rw[Ft];simp)) y.size) x (by rw[Ft];simp) (by omega) _ _,h.dM,k.setCell (by simp;omega) _,p.setCell (.inr bU) _,bU,hM⟩
theorem cQ.jZ (h:cQ N0 m w0 gb wx vp ve va vn vd vh g){u:Option Addr}{n' z:Nat} {l':List (Int×Int×Int×Int)} (q:aK (Lo N0) 183 w0.heap.size wy (.slice u n' z) l') (y:wx.grownBy wy vd.ownBlock) :
  aH wy gb 73 #[.string g.name,Aj g.dM,.bool g.mark,vp,ve,va,vn,vd,vh]∧cQ N0 m w0 gb (wy.setCell ⟨gb,7,none⟩ (.slice u n' z)) vp ve va vn (.slice u n' z) vh {g with bX:=l'} := by
 have hM:=h.hM;have bU:=h.bU;have v:N0≤w0.heap.size:=by omega
 obtain⟨x,k,p⟩:=h.grown h.bX y (by decide) (by decide);exact⟨x,by simpa using x.aX 7 (.slice u n' z),by rw[Br];exact(Cz N0).setCell ((Cz N0).aY ((Cz N0).apart h.iK h.bX y v (by rw[Dn];simp)) y.size) x (by rw[Dn];simp) (by omega) _ _,(h.cB.apart h.bX y v (by rw[Ea];simp)).setCell x (by rw[Ea];simp) (by omega) _ _,
  (h.bF.apart h.bX y v (by rw[Dk];simp)).setCell x (by rw[Dk];simp) (by omega) _ _,q.setCell x (by rw[Dk];simp) (by omega) _ _,
  by rw[Br];exact(Em N0).setCell ((Em N0).aY ((Em N0).apart h.dq h.bX y v (by rw[Ft];simp)) y.size) x (by rw[Ft];simp) (by omega) _ _,h.dM,k.setCell (by simp;omega) _,p.setCell (.inr bU) _,bU,hM⟩
theorem cQ.dS (h:cQ N0 m w0 gb wx vp ve va vn vd vh g){k:Nat}{t:TypeId}{xs:Array Value}(x:aH wx k t xs)(_n1:121≠t)(d:73≠t) (s:t ∉ (Cz N0).da) (_n4:t ∉ (Lm N0).da) (r:t ∉ (Em N0).da) (a:w0.heap.size≤k) (v:∀(z:Nat),vd.ownBlock=some z→z≠k) (i:Nat) (u:Value) (b:t≠177:=by decide) (c:t≠181:=by decide):cQ N0 m w0 gb (wx.setCell ⟨k,i,none⟩ u) vp ve va vn vd vh g:=by
 have hM:=h.hM;have bU:=h.bU;have p:gb≠k:=by
  rintro rfl;have y:=h.box;unfold aH at y x;rw[x]at y
  injection y with y
  injection y with _ q
  exact d q.symm
 exact⟨h.box.cZ p u,by rw[Br];exact(Cz N0).setCell h.iK x s (by omega) _ _,h.cB.setCell x (by rw[Ea];simpa using b) (by omega) _ _,h.bF.setCell x (by rw[Dk];simpa using c) (by omega) _ _,
  h.bX.cZ x v (by rw[Dk];simp) (by omega) _ _,by rw[Br];exact(Em N0).setCell h.dq x r (by omega) _ _,h.dM,h.am.setCell (by simp;omega) _,h.fr.setCell (.inr a) _,bU,hM⟩
theorem cQ.rel (h:cQ N0 m w0 gb wx vp ve va vn vd vh g):(Gd N0).rel wx wx.heap.size g [.string g.name,Aj g.dM,.bool g.mark,vp,ve,va,vn,vd,vh] :=
 ⟨[_],[_,_,_,_,_,_,_,_],rfl,rfl,[_],[_,_,_,_,_,_,_],rfl,⟨rfl,h.dM⟩,[_],[_,_,_,_,_,_],rfl,rfl,[_,_],[_,_,_,_],rfl,h.iK,[_],[_,_,_],rfl,h.cB.rel,[_],[_,_],rfl,h.bF.rel,[_],[_],rfl,h.bX.rel,h.dq⟩
end
theorem Rl {N0:Nat}{w:World}{B:Nat}{g:dU}{cs:List Value} (h:(Gd N0).rel w B g cs) :
  ∃p v kp f ne u x b y e s kn a q k A c,cs=[.string g.name,Aj g.dM,.bool g.mark,.slice p v kp,.slice f ne u,.slice x b y,.slice e s kn,.slice a q k,.slice A g.dq.length c]∧g.dq.length≤c∧c≤maxLen∧af (Jp N0) 96 w B A g.dq:=by
 obtain⟨_,_,rfl,rfl,_,_,rfl,⟨rfl,_⟩,_,_,rfl,rfl,_,_,rfl,⟨_,_,rfl,⟨i,k1,rfl,_⟩,⟨H,k2,rfl,_⟩⟩,_,_,rfl,⟨o,j,rfl,_⟩,_,_,rfl,⟨n,K,rfl,_⟩,_,_,rfl,⟨m,l,rfl,_⟩,⟨A,c,rfl,r,z,d⟩⟩:=h;exact⟨_,_,_,_,_,_,_,_,_,_,_,_,_,_,_,A,c,rfl,r,z,d⟩
theorem Li:(Tryz.prog.info? 24).map (fun i=>(i.zero,i.size,i.bytes))=some (some (.slice none 0 0),1,24):=by kernel_rfl
end
section
open Go.RowKit
def Un (m:cX)(w0:World)(n:Int)(i:Nat)(v:Value)(w:World):Prop :=
 match i with
 |0=>v=Aj n
 |1=>v=Aj (97+n)
 |2=>v=.int .u8 (97+n)
 |3=>∃g:Nat,v=.slice (some ⟨g,0,none⟩) 1 1∧aH w g 5 #[.int .u8 (97+n)]∧w0.heap.size≤g
 |4=>∃s:ByteArray,v=.string s∧s.size≤100
 |5=>∃s,v=.string s
 |6=>v=.pointer (some ⟨m.M,0,none⟩)
 |7=>∃r:Int,v=Aj r∧0≤r∧r<19
 |8=>∃r:Int,v=Aj r∧0≤r∧r≤900
 |9=>∃r:Int,v=Aj r∧0≤r∧r≤1000
 |10=>v=.pointer (some ⟨m.M,0,none⟩)
 |11=>∃r:Int,v=Aj r∧0≤r∧r<4
 |12=>∃b,v=.bool b
 |13=>∃(s:ByteArray) (r:Int) (b:Bool),v=.agg #[.string s,Aj r,.bool b,.slice none 0 0,.slice none 0 0,.slice none 0 0,.slice none 0 0,.slice none 0 0,.slice none 0 0]∧0≤r∧r≤1000
 |_=>∃b:Nat,v=.pointer (some ⟨b,0,none⟩)∧aH w b 73 #[.string ByteArray.empty,Aj 0,.bool false,.slice none 0 0,.slice none 0 0,.slice none 0 0,.slice none 0 0,.slice none 0 0,.slice none 0 0]∧w0.heap.size≤b
theorem Yh:(Tryz.prog.info? 73).map (fun i=>(i.zero,i.size,i.bytes))=some (some (.agg #[.string ByteArray.empty,Aj 0,.bool false,.slice none 0 0,.slice none 0 0,.slice none 0 0,.slice none 0 0,.slice none 0 0,.slice none 0 0]),9,176):=by kernel_rfl
theorem Jh {N0:Nat}{w:World}{B:Nat} {l:List (Int×Int×Bool)} {es:List Int} {vp ve:Value} (h:(Cz N0).rel w B (l,es) [vp,ve]):∃A c z y,vp=.slice A l.length c∧ve=.slice z es.length y:=by
 obtain⟨_,_,x,⟨v,p,rfl,_⟩,⟨k,u,rfl,_⟩⟩:=h;simp only[oy,le,pH,and_true]at x;obtain⟨rfl,rfl⟩:=x;exact⟨_,_,_,_,rfl,rfl⟩
theorem Tx (N0:Nat):73 ∉ (Gd N0).da:=by show 73 ∉ [230,3,177,181,183,96];decide
theorem Gz (N0:Nat):121 ∉ 73::(Gd N0).da:=by show 121 ∉ [73,230,3,177,181,183,96];decide
theorem Mk.nV {w:World}{m:cX}(h:Mk w m)(v:Value):Mk (w.setCell ⟨m.M,3,none⟩ v) {m with c3:=v} := by
 obtain⟨aL,y,k,x,u,xs,z,p⟩:=h;exact⟨aL,y,k,x,by simpa using u.aX 3 v,xs,z.setCell x _,p⟩
theorem Fr.nW {S:Nat→Prop}{w0 wx wy:World}{row:Option Nat}(h:Fr S w0 wx)(x:wx.grownBy wy row)(u:∀g,row=some g→S g):Fr S w0 wy :=
 ⟨x.os.trans h.os,x.tape.trans h.tape,x.output.trans h.output,Ex h.size x.size,fun k y z=>(x.block k (Dq y h.size) fun e=>z (u k e.symm)).trans (h.block k y z)⟩
def ld (N0:Nat)(m:cX)(w:World)(gb:Nat)(vp:Value)(pn:Nat)(q a b:Nat)(wx:World):Prop :=
 ∃ve va vn vd vh g,cQ N0 m w gb wx vp ve va vn vd vh g∧g.bu.length=pn∧g.cB.length≤q∧g.bF.length≤a∧g.bX.length≤b∧g.dq=[]
def kq (N0:Nat)(m:cX)(w:World)(gb y:Nat)(x:Int)(vp:Value)(pn k:Nat)(wr:World):Prop :=
 aH wr y 178 #[Aj 1,Aj 0,Aj 1,Aj 1,Aj 3,Aj 0,Aj 4,Aj 0,Aj 2,Aj x]∧w.heap.size≤y∧ld N0 m w gb vp pn 1 k 0 wr
theorem Ts {wr:World}{y:Nat}{t:TypeId}{x:Int} (_hb:aH wr y t #[Aj 1,Aj 0,Aj 1,Aj 1,Aj 3,Aj 0,Aj 4,Aj 0,Aj 2,Aj x]) (v:0≤x∧x≤1) {k:Nat} (u:k<5) :
  ∃z cc:Int,1≤z∧z≤4∧0≤cc∧cc≤1∧∀W,aH W y t #[Aj 1,Aj 0,Aj 1,Aj 1,Aj 3,Aj 0,Aj 4,Aj 0,Aj 2,Aj x]→W.cell? ⟨y,k*2,none⟩=some (Aj z)∧W.cell? ⟨y,k*2+1,none⟩=some (Aj cc):=by
 have:k=0∨k=1∨k=2∨k=3∨k=4:=by omega
 rcases this with rfl|rfl|rfl|rfl|rfl
 ·exact⟨1,0,by omega,by omega,by omega,by omega,fun _ h=>⟨by rw[h.cell];rfl,by rw[h.cell];rfl⟩⟩
 ·exact⟨1,1,by omega,by omega,by omega,by omega,fun _ h=>⟨by rw[h.cell];rfl,by rw[h.cell];rfl⟩⟩
 ·exact⟨3,0,by omega,by omega,by omega,by omega,fun _ h=>⟨by rw[h.cell];rfl,by rw[h.cell];rfl⟩⟩
 ·exact⟨4,0,by omega,by omega,by omega,by omega,fun _ h=>⟨by rw[h.cell];rfl,by rw[h.cell];rfl⟩⟩
 ·exact⟨2,x,by omega,by omega,by omega,by omega,fun _ h=>⟨by rw[h.cell];rfl,by rw[h.cell];rfl⟩⟩
def Zeb (N0:Nat)(m:cX)(aN:Nat)(gl:List dU)(w:World)(e:Ending)(w':World):Prop :=
 ∃(u:Value) (A:Option Addr) (c:Nat) (g:dU) (x:Int),e=.returned u∧aK (Gd N0) 73 aN w' (.slice A (gl.length+1) c) (gl++[g])∧Mk w' {m with c3:=.slice A (gl.length+1) c,fa:=Aj x}∧0≤x∧x≤2∧g.bu.length≤10∧Jl g.dq∧Fr (fun k=>k=m.M∨aN≤k) w w'
theorem Zco (N0:Nat)(m:cX)(w:World)(n:Int)(aN:Nat)(gl:List dU)(gA:Option Addr)(gc:Nat)(rA:Option Addr)(rn rc:Nat)(fA:Option Addr)(fn fc:Nat)(h:Mk w m)(hN:N0≤m.M)(o6:0≤n)(n2:n≤100)
  (h3:m.c3=.slice gA gl.length gc) (m8:gl.length≤100) (y6:aK (Gd N0) 73 aN w (.slice gA gl.length gc) gl) (k3:m.M<aN) (o7:aN≤w.heap.size)
  (h8:m.c8=.slice rA rn rc) (m7:rn≤3) (h9:m.c9=.slice fA fn fc) (n5:fn≤3) :
  Calls Tryz.prog 58 #[.pointer (some ⟨m.M,0,none⟩),Aj n] w (Zeb N0 m aN gl w):=by
 obtain⟨i1,ji,k9,l3,l8⟩:=info_parts Zay;obtain⟨i2,li,k5,j0,l1⟩:=info_parts Uk;obtain⟨i3,ki,j5,k8,l2⟩:=info_parts Ym;obtain⟨i4,pi,j3,j2,j8⟩:=info_parts Yh;have l0:=h.lt;have g3:=Aq h;have j9:=Aq h;have H3:=Aq h3;have H8:=Aq h8;have H9:=Aq h9;have b7:=Aq y6;clear h h3 h8 h9 y6;go_enter Tryz.func58,Tryz.ntmps58;go_upto_region 0 with(fail)
 go_cut [4] (fun v wx=>∃gb:Nat,v=.pointer (some ⟨gb,0,none⟩)∧∃s r b,cQ N0 m w gb wx (.slice none 0 0) (.slice none 0 0) (.slice none 0 0) (.slice none 0 0) (.slice none 0 0) (.slice none 0 0) ⟨s,r,b,[],[],[],[],[],[]⟩)
 case first =>
  go_wp2_with fail
  refine Et (Un m w n) (fun W=>Mk W m∧dY m.M w W) (dY m.M) (by kernel_rfl) (by kernel_rfl) 15 rfl ?_ ?_ ?_ ?_
  ·intro i v W W' X hr
   match i with
   |0|1|2|4|5|6|7|8|9|10|11|12|13=>exact X
   |3=>obtain⟨g,e,hb,hg⟩:=X;exact⟨g,e,hr.aG hb (by omega),hg⟩
   |i+14=>obtain⟨g,e,hb,hg⟩:=X;exact⟨g,e,hr.aG hb (by omega),hg⟩
  ·exact⟨g3.o,(qF _ _).drew⟩
  ·intro i ev val W hi hG V I;obtain⟨g6,v6⟩:=hG;have _e1:ev (.tmp 1)=Aj n:=V.dS 1 (by kernel_rfl);have _e0:ev (.tmp 0)=.pointer (some ⟨m.M,0,none⟩):=V.dS 0 (by kernel_rfl);have _ec:=V.const;have _ef:=V.func;have g9:=v6.size;have R:=Aq g6;have Y:=Aq v6;clear g6 v6
   match i,hi with
   |0,_ =>
    refine⟨_,rfl,rfl,?_⟩;unfold Bl;go_simp;exact⟨rfl,⟨R.o,Y.o⟩,qF _ _⟩
   |1,_ =>
    have d0:=I 0 (by kernel_rfl);have x0:=V.bY 0 10;simp only[Un]at d0;rw[d0]at x0;refine⟨_,rfl,rfl,?_⟩;unfold Bl;go_simp;exact⟨by rw[IntKind.wrap_i64];show Value.int .i64 _=Value.int .i64 _;congr 1;omega,⟨R.o,Y.o⟩,qF _ _⟩
   |2,_ =>
    have d1:=I 1 (by kernel_rfl);have x1:=V.bY 1 11;simp only[Un]at d1;rw[d1]at x1;refine⟨_,rfl,rfl,?_⟩;unfold Bl;go_simp;exact⟨by rw[IntKind.wrap_u8];show Value.int .u8 _=Value.int .u8 _;congr 1;omega,⟨R.o,Y.o⟩,qF _ _⟩
   |3,_ =>
    have d2:=I 2 (by kernel_rfl);have x2:=V.bY 2 12;simp only[Un]at d2;rw[d2]at x2;refine⟨_,rfl,rfl,?_⟩;unfold Bl;go_simp;exact⟨⟨_,rfl,qG _ _ _,g9⟩,⟨R.o.alloc _,Y.o.alloc _⟩,(qF _ _).alloc _⟩
   |4,_ =>
    have d3:=I 3 (by kernel_rfl);have x3:=V.bY 3 13;simp only[Un]at d3;obtain⟨g,X,hb,hg⟩:=d3;rw[X]at x3;have c0:=hb.cell 0;have _cl:=hb.lt;simp only[Az,Ay]at c0;have _hconv:=run_convert_bytes_arg (P:=Tryz.prog) W 122 5 Tryz.underlying122 Tryz.underlying5 g 0 1 1 [97+n] rfl (fun i hi=>match i,hi with|0,_=>c0) 9 Tryz.underlying9;refine⟨_,rfl,rfl,?_⟩;unfold Bl;go_simp;exact⟨⟨_,rfl,by simp[strOfNums_size]⟩,⟨R.o,Y.o⟩,qF _ _⟩
   |5,_ =>
    have d4:=I 4 (by kernel_rfl);have x4:=V.bY 4 14;simp only[Un]at d4;obtain⟨s,X,hs⟩:=d4;rw[X]at x4;refine⟨_,rfl,rfl,?_⟩;unfold Bl;go_simp;rw[if_neg (by omega)];exact⟨⟨_,rfl⟩,⟨R.o,Y.o⟩,qF _ _⟩
   |6,_ =>
    refine⟨_,rfl,rfl,?_⟩;unfold Bl;go_simp;exact⟨rfl,⟨R.o,Y.o⟩,qF _ _⟩
   |7,_ =>
    have d6:=I 6 (by kernel_rfl);have x6:=V.bY 6 16;simp only[Un]at d6;rw[d6]at x6;refine⟨_,rfl,rfl,?_⟩;unfold Bl;go_simp;refine(Bk _ m _ R.o (by omega) (by omega)).mono ?_;rintro e w2⟨r,v4,v7,rfl,HL,HF,-⟩;exact⟨_,rfl,⟨r,rfl,v4,v7⟩,⟨HL,Y.o.trans HF⟩,HF⟩
   |8,_ =>
    have d7:=I 7 (by kernel_rfl);have x7:=V.bY 7 17;simp only[Un]at d7;obtain⟨r,X,r0,r1⟩:=d7;rw[X]at x7;refine⟨_,rfl,rfl,?_⟩;unfold Bl;go_simp;exact⟨⟨r*50,by rw[IntKind.wrap_i64];congr 1;omega,by omega,by omega⟩,⟨R.o,Y.o⟩,qF _ _⟩
   |9,_ =>
    have d8:=I 8 (by kernel_rfl);have x8:=V.bY 8 18;simp only[Un]at d8;obtain⟨r,X,r0,r1⟩:=d8;rw[X]at x8;refine⟨_,rfl,rfl,?_⟩;unfold Bl;go_simp;exact⟨⟨100+r,by rw[IntKind.wrap_i64];congr 1;omega,by omega,by omega⟩,⟨R.o,Y.o⟩,qF _ _⟩
   |10,_ =>
    refine⟨_,rfl,rfl,?_⟩;unfold Bl;go_simp;exact⟨rfl,⟨R.o,Y.o⟩,qF _ _⟩
   |11,_ =>
    have kM:=I 10 (by kernel_rfl);have k4:=V.bY 10 20;simp only[Un]at kM;rw[kM]at k4;refine⟨_,rfl,rfl,?_⟩;unfold Bl;go_simp;refine(Bk _ m _ R.o (by omega) (by omega)).mono ?_;rintro e w2⟨r,v4,v7,rfl,HL,HF,-⟩;exact⟨_,rfl,⟨r,rfl,v4,v7⟩,⟨HL,Y.o.trans HF⟩,HF⟩
   |12,_ =>
    have iZ:=I 11 (by kernel_rfl);have j6:=V.bY 11 21;simp only[Un]at iZ;obtain⟨r,X,r0,r1⟩:=iZ;rw[X]at j6;refine⟨_,rfl,rfl,?_⟩;unfold Bl;go_simp;exact⟨⟨_,rfl⟩,⟨R.o,Y.o⟩,qF _ _⟩
   |13,_ =>
    have d5:=I 5 (by kernel_rfl);have x5:=V.bY 5 15;simp only[Un]at d5;have d9:=I 9 (by kernel_rfl);have x9:=V.bY 9 19;simp only[Un]at d9;have jK:=I 12 (by kernel_rfl);have j1:=V.bY 12 22;simp only[Un]at jK;obtain⟨s,X⟩:=d5;rw[X]at x5;obtain⟨r,X,r0,r1⟩:=d9;rw[X]at x9;obtain⟨b,X⟩:=jK;rw[X]at j1;refine⟨_,rfl,rfl,?_⟩;unfold Bl;go_simp;exact⟨⟨s,r,b,rfl,r0,r1⟩,⟨R.o,Y.o⟩,qF _ _⟩
   |14,_ =>
    refine⟨_,rfl,rfl,?_⟩;unfold Bl;go_simp;exact⟨⟨_,rfl,qG _ _ _,g9⟩,⟨R.o.alloc _,Y.o.alloc _⟩,(qF _ _).alloc _⟩
   |i+15,hi=>exact absurd hi (by simp)
  ·intro val W hG hV;have e0:=hV 13 (by simp);have g5:=hV 14 (by simp);simp only[Un]at e0 g5;obtain⟨s,r,b,j7,r0,r1⟩:=e0;obtain⟨gb,k6,y7,HI⟩:=g5;clear hV;unfold wpOp;change (if _ then _ else _);rw[if_pos (by kernel_rfl)];refine .inl ?_;simp only[Lp,Fw,Az,Ay,Ba,px];have _hgM:gb≠m.M:=by omega
   have i5:cQ N0 m w gb (((((((((W.setCell ⟨gb,0,none⟩ (.string s)).setCell ⟨gb,1,none⟩ (Aj r)).setCell ⟨gb,2,none⟩ (.bool b)).setCell ⟨gb,3,none⟩ (.slice none 0 0)).setCell ⟨gb,4,none⟩ (.slice none 0 0)).setCell ⟨gb,5,none⟩ (.slice none 0 0)).setCell ⟨gb,6,none⟩ (.slice none 0 0)).setCell ⟨gb,7,none⟩ (.slice none 0 0)).setCell ⟨gb,8,none⟩ (.slice none 0 0)) (.slice none 0 0) (.slice none 0 0) (.slice none 0 0) (.slice none 0 0) (.slice none 0 0) (.slice none 0 0) ⟨s,r,b,[],[],[],[],[],[]⟩:=by
    have w6:=((((((((y7.aX 0 (.string s)).aX 1 (Aj r)).aX 2 (.bool b)).aX 3 (.slice none 0 0)).aX 4 (.slice none 0 0)).aX 5 (.slice none 0 0)).aX 6 (.slice none 0 0)).aX 7 (.slice none 0 0)).aX 8 (.slice none 0 0);have l9:=((((((((hG.1.setCell (p:=⟨gb,0,none⟩) (by simp;omega) (.string s)).setCell (p:=⟨gb,1,none⟩) (by simp;omega) (Aj r)).setCell (p:=⟨gb,2,none⟩) (by simp;omega) (.bool b)).setCell (p:=⟨gb,3,none⟩) (by simp;omega) (.slice none 0 0)).setCell (p:=⟨gb,4,none⟩) (by simp;omega) (.slice none 0 0)).setCell (p:=⟨gb,5,none⟩) (by simp;omega) (.slice none 0 0)).setCell (p:=⟨gb,6,none⟩) (by simp;omega) (.slice none 0 0)).setCell (p:=⟨gb,7,none⟩) (by simp;omega) (.slice none 0 0)).setCell (p:=⟨gb,8,none⟩) (by simp;omega) (.slice none 0 0);have l5:=((((((((hG.2.setCell (p:=⟨gb,0,none⟩) (.inr HI) (.string s)).setCell (p:=⟨gb,1,none⟩) (.inr HI) (Aj r)).setCell (p:=⟨gb,2,none⟩) (.inr HI) (.bool b)).setCell (p:=⟨gb,3,none⟩) (.inr HI) (.slice none 0 0)).setCell (p:=⟨gb,4,none⟩) (.inr HI) (.slice none 0 0)).setCell (p:=⟨gb,5,none⟩) (.inr HI) (.slice none 0 0)).setCell (p:=⟨gb,6,none⟩) (.inr HI) (.slice none 0 0)).setCell (p:=⟨gb,7,none⟩) (.inr HI) (.slice none 0 0)).setCell (p:=⟨gb,8,none⟩) (.inr HI) (.slice none 0 0);exact⟨by simpa using w6,⟨[_],[_],rfl,⟨_,_,rfl,Aw,By _,qR _ _ _ _ _⟩,⟨_,_,rfl,Aw,By _,qR _ _ _ _ _⟩⟩,qJ _ _ _ _,qJ _ _ _ _,qJ _ _ _ _,⟨_,_,rfl,Aw,By _,qR _ _ _ _ _⟩,(by unfold bK;simp only;omega),l9,l5,HI,hN,l0⟩
   have i7:=Aq i5;have b0:=y7.cell;have b1:=y7.frozen;have b2:=y7.lt;clear i5 hG y7;go_simp;obtain⟨w1,a6⟩:∃w1,w1=(((((((((W.setCell ⟨gb,0,none⟩ (.string s)).setCell ⟨gb,1,none⟩ (Aj r)).setCell ⟨gb,2,none⟩ (.bool b)).setCell ⟨gb,3,none⟩ (.slice none 0 0)).setCell ⟨gb,4,none⟩ (.slice none 0 0)).setCell ⟨gb,5,none⟩ (.slice none 0 0)).setCell ⟨gb,6,none⟩ (.slice none 0 0)).setCell ⟨gb,7,none⟩ (.slice none 0 0)).setCell ⟨gb,8,none⟩ (.slice none 0 0)):=⟨_,rfl⟩;rw[←a6]at i7 ⊢;clear a6 b0 b1 b2 j7 k6;go_wp2_with fail
   go_meet;exact⟨gb,rfl,s,r,b,i7.o⟩
 case rest =>
  obtain⟨gb,rfl,s,r,b,u⟩:=hcut;have q:=Aq u;clear u g3;go_upto_if 25 with(fail)
  go_cut [] (fun wx=>∃s r b,cQ N0 m w gb wx (.slice none 0 0) (.slice none 0 0) (.slice none 0 0) (.slice none 0 0) (.slice none 0 0) (.slice none 0 0) ⟨s,r,b,[],[],[],[],[],[]⟩)
  case first =>
   by_cases hn:n=0
   ·subst hn;have _y:=q.o.box.cell;have _y2:=q.o.box.frozen;have _y3:=q.o.box.lt;have hI:=q.o.set 0 (.string ⟨#[46,110,111,116,100,101,102]⟩) (g':=⟨⟨#[46,110,111,116,100,101,102]⟩,r,b,[],[],[],[],[],[]⟩) rfl q.o.iK q.o.cB q.o.bF q.o.bX q.o.dq q.o.dM;have D:=hI.set 2 (.bool false) (g':=⟨⟨#[46,110,111,116,100,101,102]⟩,r,false,[],[],[],[],[],[]⟩) rfl hI.iK hI.cB hI.bF hI.bX hI.dq hI.dM;have m5:=Aq D;clear hI D;go_wp2_with fail
    go_meet;exact⟨_,_,_,m5.o⟩
   ·have _hnb:(n==0)=false:=by simpa using hn
    go_wp2_with fail
    go_meet;exact⟨_,_,_,q.o⟩
  case rest =>
   clear q;obtain⟨s,r,b,u⟩:=hcut;have q:=Aq u;clear u;go_wp2_with fail
   refine(Tj N0 m _ q.o.am hN).mono ?_;rintro e w2⟨vp,ve,pl,el,rfl,v0,m9,o3,HL,HF⟩;obtain⟨d,pc,eA,ec,rfl,rfl⟩:=Jh v0;have D:=q.o.next HL HF;have y:=D.box.cell;have y2:=D.box.frozen;have y3:=D.box.lt;have e7:cQ N0 m w gb ((w2.setCell ⟨gb,3,none⟩ (.slice d pl.length pc)).setCell ⟨gb,4,none⟩ (.slice eA el.length ec)) (.slice d pl.length pc) (.slice eA el.length ec) (.slice none 0 0) (.slice none 0 0) (.slice none 0 0) (.slice none 0 0) ⟨s,r,b,pl,el,[],[],[],[]⟩:=by
    have hb:=(D.box.aX 3 (.slice d pl.length pc)).aX 4 (.slice eA el.length ec);have hM:=D.hM;have bU:=D.bU;have ho:=(Cz N0).setCell ((Cz N0).setCell v0 D.box (by rw[Dn];simp) (by omega) 3 (.slice d pl.length pc)) (D.box.aX 3 (.slice d pl.length pc)) (by rw[Dn];simp) (by omega) 4 (.slice eA el.length ec);exact⟨by simpa using hb,by rw[Br,Br];exact ho,qJ _ _ _ _,qJ _ _ _ _,qJ _ _ _ _,⟨_,_,rfl,Aw,By _,qR _ _ _ _ _⟩,D.dM,(D.am.setCell (by simp;omega) _).setCell (by simp;omega) _,(D.fr.setCell (.inr bU) _).setCell (.inr bU) _,bU,hM⟩
   have h0:ld N0 m w gb (.slice d pl.length pc) pl.length 0 0 0 ((w2.setCell ⟨gb,3,none⟩ (.slice d pl.length pc)).setCell ⟨gb,4,none⟩ (.slice eA el.length ec)):=⟨_,_,_,_,_,_,e7,rfl,by simp,by simp,by simp,rfl⟩;have H0:=Aq h0;clear D e7 h0 HL HF v0 q;go_upto_region 5 with(fail)
   obtain⟨w3,b6⟩:∃w3,w3=((w2.setCell ⟨gb,3,none⟩ (.slice d pl.length pc)).setCell ⟨gb,4,none⟩ (.slice eA el.length ec)):=⟨_,rfl⟩;rw[←b6]at H0 ⊢;clear b6 y y2 y3;go_cut [37] (fun v wx=>∃bb,v=.bool bb∧ld N0 m w gb (.slice d pl.length pc) pl.length 0 0 0 wx)
   case first =>
    obtain⟨ve,va,vn,vd,vh,g,u,f,U,Q,C,H⟩:=H0.o;have q:=Aq u;have E:=Aq (And.intro f (And.intro U (And.intro Q (And.intro C H))));clear u f U Q C H;by_cases hn:1<n
    ·go_wp2_with fail
     refine(Bk _ m _ q.o.am (by omega) (by omega)).mono ?_;rintro e G⟨x,a4,c2,rfl,e2,e4,-⟩;have hK:=q.o.next e2 e4;have i9:=Aq hK;clear hK e2 e4;go_wp2_with fail
     go_meet;exact⟨_,rfl,_,_,_,_,_,_,i9.o,E.o⟩
    ·go_wp2_with fail
     go_meet;exact⟨_,rfl,_,_,_,_,_,_,q.o,E.o⟩
   case rest =>
    clear H0;obtain⟨bb,rfl,H0⟩:=hcut;have B:=Aq H0;clear H0;go_upto_if 37 with(fail)
    go_cut [] (fun wx=>ld N0 m w gb (.slice d pl.length pc) pl.length 1 0 0 wx)
    case first =>
     obtain⟨ve,va,vn,vd,vh,g,u,f,U,Q,C,H⟩:=B.o;have q:=Aq u;have E1:=Aq f;have E5:=Aq H;clear u f H B;cases bb with
     |false =>
      go_wp2_with fail
      go_meet;exact⟨_,_,_,_,_,_,q.o,E1.o,by omega,Q,C,E5.o⟩
     |true =>
      obtain⟨Aa,ca,rfl,-⟩:=q.o.cB.form;have Z:=q.o.drew;have L:wc.drew.cell? ⟨gb,5,none⟩=some (.slice Aa g.cB.length ca):=by rw[Z.box.cell];rfl
      go_wp2_with fail
      refine Bv (Cl [3,7,10,11,13]) (Bm [1]) (Bm [3,7,10]) [0,1,2,6,3,4,5,7,8,9,10,11,12,13] (fun w'=>w'.cell? ⟨gb,5,none⟩=some (.slice Aa g.cB.length ca)) (by kernel_rfl) (by kernel_rfl) (by kernel_rfl) (by kernel_rfl) ?_;refine Be ?_;refine Bj L ?_;refine Be ?_;refine Be ?_;refine Bi fun K a=>?_;go_simp
      refine(Bk _ m _ Z.am (by omega) (by omega)).mono ?_;rintro e G⟨x,a4,c2,rfl,e2,e4,-⟩;have hK:=Z.next e2 e4;dsimp only;refine a _ _ (fun _=>by rw[hK.box.cell];rfl) ?_;clear a K;refine Be ?_;refine Be ?_;refine Bi fun K a=>?_;go_simp
      refine(Bk _ m _ hK.am (by omega) (by omega)).mono ?_;rintro e w5⟨y,m6,l7,rfl,e1,N,-⟩;have F:=hK.next e1 N;dsimp only;refine a _ _ (fun _=>by rw[F.box.cell];rfl) ?_;clear a K;refine Be ?_;refine Be ?_;refine Bi fun K a=>?_;go_simp
      have z4:=F.alloc (.cells #[Aj 1,Aj (IntKind.i64.wrap (IntKind.i64.wrap (x*50)-200)),Aj (IntKind.i64.wrap (y*50))] 177);refine a _ _ (fun _=>by rw[z4.box.cell];rfl) ?_;clear a K;refine Bi fun K a=>?_
      refine Dj _ rfl (.tmp 39) (.tmp 48) _ rfl (Lm N0) w.heap.size 177 i1 _ 24 Tryz.underlying69 ji k9 l3 l8 rfl (show 0<3 by decide) (by rw[Ea];simp) (by omega) (.slice Aa g.cB.length ca) g.cB rfl z4.cB w5.heap.size [_,_,_] (1,IntKind.i64.wrap (IntKind.i64.wrap (x*50)-200),IntKind.i64.wrap (y*50)) rfl (qG _ _ _) (Po _ _ _ _ _ _ (by unfold bK;omega) (Fs _) (Fs _)) (by unfold maxLen;omega) (by omega) (by have:=z4.fr.size;omega) ?_;intro A6 c6 O k0 j4;obtain⟨v3,j⟩:=z4.kI k0 j4;have b0:=v3.cell 5;have _b1:=v3.frozen 5;have _b2:=v3.lt;simp only[Az,Ba,Ay]at b0;refine Bh a ?_;clear a K;refine Be ?_;refine Bi fun K a=>?_;go_simp
      refine Bh a ?_;clear a K;refine Bb ?_;go_wp2_with fail
      go_meet;exact⟨_,_,_,_,_,_,j,E1.o,(by simp only[Ca,Bp,Bx];omega),Q,C,E5.o⟩
    case rest =>
     clear B;obtain⟨ve,va,vn,vd,vh,g,u,f,U,Q,C,H⟩:=hcut;have q:=Aq u;have E:=Aq (And.intro f (And.intro U (And.intro Q (And.intro C H))));clear u f U Q C H;go_wp2_with fail
     refine(Bk _ m _ q.o.am (by omega) (by omega)).mono ?_;rintro e G⟨x,a4,c2,rfl,e2,e4,-⟩;have hK:=q.o.next e2 e4;have a8:kq N0 m w gb G.heap.size x (.slice d pl.length pc) pl.length 0 (G.alloc (.cells #[Aj 1,Aj 0,Aj 1,Aj 1,Aj 3,Aj 0,Aj 4,Aj 0,Aj 2,Aj x] 178)):=⟨qG _ _ _,hK.fr.size,_,_,_,_,_,_,hK.alloc _,E.o⟩;have e6:=Aq a8;clear a8 hK e2 e4 q E;go_wp2_with fail
     go_loopw [6] (fun i wr=>∃k:Nat,k≤5∧i=Aj k∧kq N0 m w gb G.heap.size x (.slice d pl.length pc) pl.length k wr) (fun i _=>5-(intOf i).toNat)
     case atStart=>exact⟨0,by omega,rfl,e6.o⟩
     case round =>
      clear e6;obtain⟨k,hk,rfl,hL⟩:=hrel;have T:=Aq hL;clear hL;by_cases o0:(k:Int)<5
      ·have e5:=T.o.1;have a1:=T.o.2.1;obtain⟨kk,cc,n6,o2,o5,n7,b3⟩:=Ts e5 ⟨a4,by omega⟩ (k:=k) (by omega);have e3:=Aq b3;clear b3 e5;go_upto_block 1 with(fail)
       go_cut [] (fun wx=>kq N0 m w gb G.heap.size x (.slice d pl.length pc) pl.length (k+1) wx)
       case first =>
        go_upto_region 11 with(fail)
        go_cut [77] (fun v wx=>∃bb,v=.bool bb∧kq N0 m w gb G.heap.size x (.slice d pl.length pc) pl.length k wx)
        case first =>
         obtain⟨e5,_,ve,va,vn,vd,vh,g,u,hE⟩:=T.o;have q:=Aq u;have HB:=Aq e5;have E:=Aq hE;clear u e5 hE T;go_wp2_with fail
         refine(Bk _ m _ q.o.am (by omega) (by omega)).mono ?_;rintro e w5⟨z,i0,f6,rfl,e1,N,-⟩;have F:=q.o.next e1 N;have w4:=N.aG HB.o (by omega);have _hc5:=(e3.o w5 w4).1;have _hl5:=w4.lt;have y:=F.box.cell 2;have _y2:=F.box.lt;simp only[Az,Ba,Ay]at y;have e8:kq N0 m w gb G.heap.size x (.slice d pl.length pc) pl.length k w5:=⟨w4,a1,_,_,_,_,_,_,F,E.o⟩;have z8:=Aq e8;clear F w4 e1 N e8 q HB E;by_cases hz:z=0
         ·subst hz;by_cases v1:kk=2
          ·subst v1;go_wp2_with fail
           go_meet;exact⟨_,rfl,z8.o⟩
          ·have _hkb2:(kk != 2)=true:=by simpa using v1
           go_wp2_with fail
           go_meet;exact⟨_,rfl,z8.o⟩
         ·have _hzb:(z==0)=false:=by simpa using hz
          go_wp2_with fail
          go_meet;exact⟨_,rfl,z8.o⟩
        case rest =>
         clear T;obtain⟨bb,rfl,hL⟩:=hcut;have T:=Aq hL;clear hL;obtain⟨e5,_,ve,va,vn,vd,vh,g,u,f,U,Q,C,H⟩:=T.o;have q:=Aq u;have HB:=Aq e5;have E1:=Aq f;have E5:=Aq H;clear u e5 f H T;cases bb with
         |false =>
          go_wp2_with fail
          go_meet;exact⟨HB.o,a1,_,_,_,_,_,_,q.o,E1.o,U,by omega,C,E5.o⟩
         |true =>
          obtain⟨An,cn,rfl,-⟩:=q.o.bF.form;have Z:=q.o.drew;have f3:aH wc.drew _ _ _:=HB.o;have L:(fun w':World=>w'.cell? ⟨gb,6,none⟩=some (.slice An g.bF.length cn)∧w'.cell? ⟨G.heap.size,k*2,none⟩=some (Aj kk)∧w'.cell? ⟨G.heap.size,k*2+1,none⟩=some (Aj cc)) wc.drew:=⟨by rw[Z.box.cell];rfl,e3.o _ f3⟩;go_wp2_with fail
          refine Bv (Cl [13,16,20,21,23]) (Bm [1,6,11]) (Bm [13,16,20,21]) [0,1,2,3,4,5,6,7,8,9,10,11,12,15,13,14,16,17,18,19,20,21,22,23] (fun w':World=>w'.cell? ⟨gb,6,none⟩=some (.slice An g.bF.length cn)∧w'.cell? ⟨G.heap.size,k*2,none⟩=some (Aj kk)∧w'.cell? ⟨G.heap.size,k*2+1,none⟩=some (Aj cc)) (by kernel_rfl) (by kernel_rfl) (by kernel_rfl) (by kernel_rfl) ?_;refine Be ?_;refine Bj L ?_
          iterate 4 (refine Be ?_)
          refine Bj L ?_
          iterate 4 (refine Be ?_)
          refine Bj L ?_;refine Be ?_;refine Be ?_;refine Bi fun K a=>?_;go_simp
          refine(Bk _ m _ Z.am (by omega) (by omega)).mono ?_;rintro e w5⟨y,m6,l7,rfl,e1,N,-⟩;have F:=Z.next e1 N;have w4:=N.aG f3 (by omega);dsimp only;refine a _ _ (fun _=>⟨by rw[F.box.cell];rfl,e3.o _ w4⟩) ?_;clear a K;refine Be ?_;refine Bi fun K a=>?_;go_simp
          refine(Bk _ m _ F.am (by omega) (by omega)).mono ?_;rintro e O⟨z,i0,f6,rfl,y4,HG,-⟩;have j:=F.next y4 HG;have b5:=HG.aG w4 (by omega);dsimp only;refine a _ _ (fun _=>⟨by rw[j.box.cell];rfl,e3.o _ b5⟩) ?_;clear a K
          iterate 3 (refine Be ?_)
          refine Bi fun K a=>?_;go_simp
          have hv:=j.alloc (.cells #[Aj kk,Aj cc,Aj (IntKind.i64.wrap (y*50)),Aj (IntKind.i64.wrap (IntKind.i64.wrap (z*50)-200))] 181);have a7:=b5.alloc (.cells #[Aj kk,Aj cc,Aj (IntKind.i64.wrap (y*50)),Aj (IntKind.i64.wrap (IntKind.i64.wrap (z*50)-200))] 181);refine a _ _ (fun _=>⟨by rw[hv.box.cell];rfl,e3.o _ a7⟩) ?_;clear a K;refine Bi fun K a=>?_
          refine Dj _ rfl (.tmp 79) (.tmp 98) _ rfl (Lo N0) w.heap.size 181 i2 _ 32 Tryz.underlying70 li k5 j0 l1 rfl (show 0<4 by decide) (by rw[Dk];simp) (by omega) (.slice An g.bF.length cn) g.bF rfl hv.bF O.heap.size [_,_,_,_] (kk,cc,IntKind.i64.wrap (y*50),IntKind.i64.wrap (IntKind.i64.wrap (z*50)-200)) rfl (qG _ _ _) (Vw _ _ _ _ _ _ _ (by unfold bK;omega) (by unfold bK;omega) (Fs _) (Fs _)) (by unfold maxLen;omega) (by omega) (by have:=hv.fr.size;omega) ?_;intro A7 c7 w7 z0 hd;obtain⟨z6,v2⟩:=hv.jI z0 hd;have z3:=a7.bj hv.bF hd (by decide);have b0:=z6.cell 6;have _b1:=z6.frozen 6;have _b2:=z6.lt;simp only[Az,Ba,Ay]at b0;have _hgk:gb≠G.heap.size:=by
           rintro e;have J:=z6;rw[e]at J;unfold aH at J z3;rw[z3]at J
           injection J with J
           injection J with _ h2
           exact absurd h2 (by decide)
          refine a _ _ (fun _=>⟨b0,e3.o _ z3⟩) ?_;clear a K;refine Be ?_;refine Bi fun K a=>?_;go_simp
          refine Bh a ?_;clear a K;refine Bb ?_;go_wp2_with fail
          go_meet;exact⟨z3.cZ (by simp;omega) _,a1,_,_,_,_,_,_,v2,E1.o,U,(by simp only[Ca,Bp,Bx];omega),C,E5.o⟩
       case rest =>
        have v5:=Aq hcut;clear hcut T e3;go_wp2_with fail
        go_roundw
        case rel=>exact⟨k+1,by omega,by go_num,v5.o⟩
        case measure=>simp[intOf];omega
      ·have g2:ld N0 m w gb (.slice d pl.length pc) pl.length 1 5 (11*0) wr:=by
        obtain⟨_,_,ve,va,vn,vd,vh,g,u,f,U,Q,C,H⟩:=T.o;exact⟨ve,va,vn,vd,vh,g,u,f,U,by omega,by omega,H⟩
       have c1:=Aq g2;clear g2 T;go_wp2_with fail
       go_loopw [7] (fun i wr=>∃k:Nat,k≤rn∧i=Aj k∧ld N0 m w gb (.slice d pl.length pc) pl.length 1 5 (11*k) wr) (fun i _=>rn-(intOf i).toNat)
       case atStart=>exact⟨0,by omega,rfl,c1.o⟩
       case round =>
        clear c1;obtain⟨k2,v1,rfl,hG⟩:=hrel;have B:=Aq hG;clear hG;obtain⟨ve,va,vn,vd,vh,g,u,hE⟩:=B.o;have q0:=u.am.cells.1 8 (by omega);have q1:=u.am.lt;simp only[Nat.reduceSub,Az,Ba,Ay]at q0;rw[H8.o]at q0;clear u hE;by_cases n9:(k2:Int)<(rn:Int)
        ·go_wp2_with fail
         clear q0 q1;go_loopw [8] (fun i wr=>∃p:Nat,p≤pl.length+1∧i=Aj ((p:Int)-1)∧ld N0 m w gb (.slice d pl.length pc) pl.length 1 5 (11*k2+p) wr) (fun i _=>(pl.length+1)-(intOf i+1).toNat)
         case atStart=>exact⟨0,by omega,rfl,B.o⟩
         case round =>
          clear B;obtain⟨p,hp,rfl,hG⟩:=hrel;have B:=Aq hG;clear hG;obtain⟨ve,va,vn,vd,vh,g,u,hE⟩:=B.o;have q0:=u.box.cell 3;have q1:=u.box.lt;simp only[Az,Ba,Ay]at q0;clear u hE;by_cases o4:(p:Int)-1<(pl.length:Int)
          ·go_upto_block 5 with(fail)
           go_cut [] (fun wx=>ld N0 m w gb (.slice d pl.length pc) pl.length 1 5 (11*k2+p+1) wx)
           case first =>
            clear q0 q1;obtain⟨ve,va,vn,vd,vh,g,u,f,U,Q,C,H⟩:=B.o;have q:=Aq u;have E1:=Aq f;have E5:=Aq H;clear u f H B;go_wp2_with fail
            refine(Bk _ m _ q.o.am (by omega) (by omega)).mono ?_;rintro e w5⟨z,i0,f6,rfl,e1,N,-⟩;have F:=q.o.next e1 N;have z5:=Aq F;clear F e1 N q;by_cases hz:z=0
            ·subst hz;go_wp2_with fail
             refine(Bk _ m _ z5.o.am (by omega) (by omega)).mono ?_;rintro e O⟨x6,n0,n3,rfl,y4,HG,-⟩;have j:=z5.o.next y4 HG;have hv:=j.alloc (.cells #[Aj k2,Aj ((p:Int)-1),Aj (x6-20),Aj 0] 183);have _hsz6:=j.fr.size;have e9:∀k',vd.ownBlock=some k'→k'<O.heap.size:=fun _ e=>(j.bX.block e).2.1
             have m3:=Aq e9;clear e9;have h6:∃y:Int,bK y∧aH (O.alloc (.cells #[Aj k2,Aj ((p:Int)-1),Aj (x6-20),Aj 0] 183)) O.heap.size 183 #[Aj k2,Aj ((p:Int)-1),Aj (x6-20),Aj y]∧cQ N0 m w gb (O.alloc (.cells #[Aj k2,Aj ((p:Int)-1),Aj (x6-20),Aj 0] 183)) (.slice d pl.length pc) ve va vn vd vh g:=⟨0,by unfold bK;omega,qG _ _ _,hv⟩;have H6:=Aq h6;clear j hv h6 y4 HG z5;go_upto_if 129 with(fail)
             obtain⟨w7,c4⟩:∃w7,w7=O.alloc (.cells #[Aj k2,Aj ((p:Int)-1),Aj (x6-20),Aj 0] 183):=⟨_,rfl⟩;rw[←c4]at H6 ⊢;clear c4;go_cut [] (fun wx=>∃y:Int,bK y∧aH wx O.heap.size 183 #[Aj k2,Aj ((p:Int)-1),Aj (x6-20),Aj y]∧cQ N0 m w gb wx (.slice d pl.length pc) ve va vn vd vh g)
             case first =>
              by_cases n8:(0:Int)≤(p:Int)-1
              ·obtain⟨y,hy,pA,u⟩:=H6.o;have q:=Aq u;have HB:=Aq pA;clear u pA H6;go_wp2_with fail
               refine(Bk _ m _ q.o.am (by omega) (by omega)).mono ?_;rintro e w8⟨x8,o1,n4,rfl,g7,v8,-⟩;have g8:=q.o.next g7 v8;have hS:=v8.aG HB.o (by omega);have b0:=hS.cell 3;have _b1:=hS.frozen 3;have _b2:=hS.lt;simp only[Az,Ba,Ay]at b0;have c5:=hS.aX 3 (Aj (x8-20));have y5:=g8.dS hS (by decide) (by decide) (by rw[Dn];simp) (by rw[Ea];simp) (by rw[Ft];simp) (by omega) (fun k' e=>by have:=m3.o k' e;omega) 3 (Aj (x8-20));have z9:=Aq y5;have k1:=Aq c5;clear g8 hS g7 v8 c5 y5 q HB;go_wp2_with fail
               go_meet;exact⟨x8-20,by unfold bK;omega,by simpa using k1.o,z9.o⟩
              ·go_wp2_with fail
               go_meet;exact H6.o
             case rest =>
              clear H6;obtain⟨y,hy,pA,u⟩:=hcut;obtain⟨Ad,cd,rfl,-⟩:=u.bX.form;have _b0:=pA.cell;have _b2:=pA.lt;have d0:=u.box.cell 7;have _d1:=u.box.frozen 7;have _d2:=u.box.lt;have _hszc:=u.fr.size;have _hgne:gb≠O.heap.size:=by
               rintro e;have J:=u.box;rw[e]at J;unfold aH at J pA;rw[pA]at J
               injection J with J
               injection J with _ h2
               exact absurd h2 (by decide)
              simp only[Az,Ba,Ay]at d0;have q:=Aq u;have _HB:=Aq pA;clear u pA;go_wp2_with (at_builtin;refine Ek _ rfl (.tmp 135) (.tmp 137) _ rfl (Lo N0) w.heap.size 183 i3 _ 32 Tryz.underlying71 ki j5 k8 l2 rfl (show 0<4 by decide) (by rw[Dk];simp) (by omega) (.slice Ad g.bX.length cd) g.bX rfl (q.o.alloc _).bX wc.heap.size [_,_,_,_] ((k2:Int),(p:Int)-1,x6-20,y) rfl (qG _ _ _) (Vw _ _ _ _ _ _ _ (by unfold bK;omega) (by unfold bK;omega) (by unfold bK;omega) hy) (by unfold maxLen;omega) (by omega) (by simp;omega) ?_;intro A9 c9 w9 f8 f7;obtain⟨w6,y5⟩:=(q.o.alloc _).jZ f8 f7;have a0:=w6.cell 7;have _a1:=w6.frozen 7;have a2:=w6.lt;simp only[Az,Ba,Ay]at a0;have z9:=Aq y5;clear y5 w6 f8 f7)
              go_meet;exact⟨_,_,_,_,_,_,z9.o,E1.o,U,Q,(by simp only[Ca,Bp,Bx];omega),E5.o⟩
            ·have _hzb:(z==0)=false:=by simpa using hz
             go_wp2_with fail
             go_meet;exact⟨_,_,_,_,_,_,z5.o,E1.o,U,Q,by omega,E5.o⟩
           case rest =>
            have v5:=Aq hcut;clear hcut B q0 q1;go_wp2_with fail
            go_roundw
            case rel=>exact⟨p+1,by omega,by go_num,v5.o⟩
            case measure=>simp[intOf];omega
          ·have f5:ld N0 m w gb (.slice d pl.length pc) pl.length 1 5 (11*(k2+1)) wr:=by
            obtain⟨ve,va,vn,vd,vh,g,u,f,U,Q,C,H⟩:=B.o;exact⟨ve,va,vn,vd,vh,g,u,f,U,Q,by omega,H⟩
           have l4:=Aq f5;clear f5;go_wp2_with fail
           go_roundw
           case rel=>exact⟨k2+1,by omega,by go_num,l4.o⟩
           case measure=>simp[intOf];omega
        ·obtain⟨ve,va,vn,vd,vh,g,u,f,U,Q,C,H⟩:=B.o;obtain⟨Ae,ce,Ao,co,m2,rfl⟩:=Jh u.iK;obtain⟨Aa,ca,rfl,-⟩:=u.cB.form;obtain⟨An,cn,rfl,-⟩:=u.bF.form;obtain⟨Ad,cd,rfl,-⟩:=u.bX.form;have y0:=u.am.cells.1 11 (by omega);have y1:=u.am.cells.2 11;have y2:=u.am.lt;have i8:dY m.M wr (wr.setCell ⟨m.M,11,none⟩ (Aj 2)):=qU (S:=fun k=>k=m.M) (p:=⟨m.M,11,none⟩) (qF _ wr) (.inl rfl) _;have hI:=u.next (u.am.gz 2) i8;have a3:=Aq hI;have E1:=Aq f;clear u hI B m2 f i8 H;go_upto_region 25 with(fail)
         obtain⟨w5,b4⟩:∃w5,w5=wr.setCell ⟨m.M,11,none⟩ (Aj 2):=⟨_,rfl⟩;rw[←b4]at a3 ⊢;clear b4 y0 y1 y2 q0 q1;go_cut [] (fun wx=>∃(A:Option Addr) (c:Nat) (lo:Int) (l:List (Int×Int)),Jl l∧0≤lo∧lo≤2∧cQ N0 {m with fa:=Aj lo} w gb wx (.slice d pl.length pc) (.slice Ao g.aJ.length co) (.slice Aa g.cB.length ca) (.slice An g.bF.length cn) (.slice Ad g.bX.length cd) (.slice A l.length c) {g with dq:=l})
         case first =>
          have Z:=a3.o.drew;have c9:=Z.am.cells.1 9 (by omega);simp only[Nat.reduceSub,Az,Ba,Ay]at c9;rw[H9.o]at c9;have L:(fun w':World=>w'.cell? ⟨gb,3,none⟩=some (.slice d pl.length pc)∧w'.cell? ⟨m.M,9,none⟩=some (.slice fA fn fc)) w5.drew:=⟨by rw[Z.box.cell];rfl,c9⟩;go_wp2_with fail
          refine Bv (Cl [11,13]) (Bm [3,9]) (Bm [11]) [0,1,2,3,4,5,6,7,8,9,10,11,12,13] (fun w':World=>w'.cell? ⟨gb,3,none⟩=some (.slice d pl.length pc)∧w'.cell? ⟨m.M,9,none⟩=some (.slice fA fn fc)) (by kernel_rfl) (by kernel_rfl) (by kernel_rfl) (by kernel_rfl) ?_
          iterate 3 (refine Be ?_)
          refine Bj L ?_
          iterate 5 (refine Be ?_)
          refine Bj L ?_;refine Be ?_;refine Bi fun K a=>?_;go_simp
          refine(Vt N0 {m with fa:=Aj 2} _ (pl.length:Int) (fn:Int) 6 2 Z.am hN (by omega) (by omega) (by omega) (by omega) (by omega) (by omega) rfl ⟨by omega,by omega⟩).mono ?_;rintro e O⟨l6,A6,c6,v9,rfl,f1,f2,k7,b9,y4,g0,g1,HG,a5⟩;have m1:=Aq (Zci a5 g0 (by omega));clear a5;have j:=Z.next y4 HG;have z7:=j.am.cells.1 9 (by omega);simp only[Nat.reduceSub,Az,Ba,Ay]at z7;rw[H9.o]at z7;have b0:=j.box.cell 8;have _b1:=j.box.frozen 8;have _b2:=j.box.lt;simp only[Az,Ba,Ay]at b0;have v2:=j.set 8 (.slice A6 l6.length c6) (g' := {g with dq:=l6}) rfl j.iK j.cB j.bF j.bX ⟨_,_,rfl,f1,f2,k7⟩ j.dM;dsimp only;refine a _ _ (fun _=>⟨by rw[j.box.cell];rfl,z7⟩) ?_;clear a K;refine Be ?_;refine Bi fun K a=>?_;go_simp
          refine Bh a ?_;clear a K;refine Bb ?_;go_wp2_with fail
          go_meet;exact⟨A6,c6,v9,l6,m1.o,g0,g1,v2⟩
         case rest =>
          clear a3;obtain⟨A6,c6,v9,l6,b9,g0,g1,u⟩:=hcut;have y8:=u.fr;obtain⟨xM,m0⟩:=j9.o.aG;have y6:=b7.o.fr y8 m0 (Gz N0) hN;have Z:=u.drew;have f9:aK (Gd N0) 73 aN wc.drew (.slice gA gl.length gc) gl:=y6.below aI.drew Aw;have c3:=Z.am.cells.1 3 (by omega);simp only[Nat.reduceSub,Az,Ba,Ay]at c3;rw[H3.o]at c3;have L:(fun w':World=>w'.cell? ⟨m.M,3,none⟩=some (.slice gA gl.length gc)∧∀i,w'.cell? ⟨gb,i,none⟩=(#[.string g.name,Aj g.dM,.bool g.mark,.slice d pl.length pc,.slice Ao g.aJ.length co,.slice Aa g.cB.length ca,.slice An g.bF.length cn,.slice Ad g.bX.length cd,.slice A6 l6.length c6]:Array Value)[i]?) wc.drew:=⟨c3,Z.box.cell⟩;have _hszc:=y8.size;go_wp2_with fail
          refine Bv (Cl [7,8,12]) (Bm [5,6]) (Bm [7,8]) [0,1,2,3,4,5,6,7,8,9,10,11,12] (fun w':World=>w'.cell? ⟨m.M,3,none⟩=some (.slice gA gl.length gc)∧∀i,w'.cell? ⟨gb,i,none⟩=(#[.string g.name,Aj g.dM,.bool g.mark,.slice d pl.length pc,.slice Ao g.aJ.length co,.slice Aa g.cB.length ca,.slice An g.bF.length cn,.slice Ad g.bX.length cd,.slice A6 l6.length c6]:Array Value)[i]?) (by kernel_rfl) (by kernel_rfl) (by kernel_rfl) (by kernel_rfl) ?_
          iterate 5 (refine Be ?_)
          refine Bj L ?_;refine Bj L ?_;refine Bi fun K a=>?_;go_simp
          have HK:=Z.alloc (.cells #[.string g.name,Aj g.dM,.bool g.mark,.slice d pl.length pc,.slice Ao g.aJ.length co,.slice Aa g.cB.length ca,.slice An g.bF.length cn,.slice Ad g.bX.length cd,.slice A6 l6.length c6] 73);have y9:=HK.am.cells.1 3 (by omega);simp only[Nat.reduceSub,Az,Ba,Ay]at y9;rw[H3.o]at y9;refine a _ _ (fun _=>⟨y9,HK.box.cell⟩) ?_;clear a K;refine Bi fun K a=>?_
          have z1:aK (Gd N0) 73 aN _ (.slice gA gl.length gc) gl:=f9.below (aI.alloc Aw (.cells #[.string g.name,Aj g.dM,.bool g.mark,.slice d pl.length pc,.slice Ao g.aJ.length co,.slice Aa g.cB.length ca,.slice An g.bF.length cn,.slice Ad g.bX.length cd,.slice A6 l6.length c6] 73)) Aw;refine Dj _ rfl (.tmp 161) (.tmp 163) _ rfl (Gd N0) aN 73 i4 _ 176 Tryz.underlying57 pi j3 j2 j8 rfl (show 0<9 by decide) (Tx N0) (by omega) (.slice gA gl.length gc) gl rfl z1 wc.heap.size [_,_,_,_,_,_,_,_,_] {g with dq:=l6} rfl (qG _ _ _) HK.rel (by unfold maxLen;omega) (by omega) (by simp;omega) ?_;intro A7 c7 w7 z0 hd;have h1:=HK.am.grown z1 hd (by decide) k3;have f4:=HK.box.grown hd (fun e=>by have _h1:=(b7.o.block e.symm).2.1;have h2:=HK.bU;omega);have z2:=h1.cells.1 3 (by omega);have m4:=h1.cells.2 3;have g4:=h1.lt;simp only[Nat.reduceSub,Az,Ba,Ay]at z2 g4;rw[H3.o]at z2;have a9:Fr (fun k=>k=m.M∨aN≤k) w w7:=(((y8.mono (S':=fun k=>k=m.M∨aN≤k) (fun _ _ e=>.inl e)).drew).alloc _).nW hd (fun _ e=>.inr (z1.block e).1);refine a _ _ (fun _=>⟨z2,f4.cell⟩) ?_;clear a K
          iterate 3 (refine Be ?_)
          refine Bi fun K a=>?_;go_simp
          refine Bh a ?_;clear a K;refine Bb ?_;obtain⟨n1,i6⟩:=h1.aG;have b8:Zeb N0 m aN gl w (.returned (.tuple #[])) (w7.setCell ⟨m.M,3,none⟩ (.slice A7 (gl.length+1) c7)):=⟨_,A7,c7,_,v9,rfl,z0.setCell i6 (Gz N0) hN _ _,h1.nV _,g0,g1,by have:=E1.o;simp only;omega,b9,a9.setCell (.inl (.inl rfl)) _⟩;have Y:=Aq b8;obtain⟨w8,f0⟩:∃w8,w8=w7.setCell ⟨m.M,3,none⟩ (.slice A7 (gl.length+1) c7):=⟨_,rfl⟩;rw[←f0]at Y ⊢;clear f0 b8 a9 z2 m4 g4 i6 f4 h1 z0 hd z1 HK y9 L f9 Z y6 y8 u;go_wp2;refine bodyPost_end (v:=.tuple #[]) (by simp[results,Tryz.results58,go_sem]) rfl ?_;exact Y.o
end
end Go.Proofs.YtnhebmgibiomnaaGreat

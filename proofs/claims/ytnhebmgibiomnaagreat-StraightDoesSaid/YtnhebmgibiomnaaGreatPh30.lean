import Derived.Test.YtnhebmgibiomnaaGreatPh25
import Derived.Test.YtnhebmgibiomnaaGreatPh29
set_option linter.unusedVariables false
set_option linter.unusedSimpArgs false
set_option maxRecDepth 100000
set_option maxHeartbeats 8000000
namespace Go.Proofs.YtnhebmgibiomnaaGreat
section
open Go.RowKit Mc
theorem Wi (n d:Int)(y:0<d):(n.tmod d+d) % d=n % d∧-d≤n.tmod d∧n.tmod d<d:=by
 have x:=Ln n d y;have v:=oT n (show d≠0 by omega);have z:=oU n y;generalize n.tmod d=t at *;generalize n % d=r at *;by_cases u:t<0
 ·rw[if_pos u]at x;refine⟨?_,by omega,by omega⟩;rw[←x];exact Int.emod_eq_of_lt v z
 ·rw[if_neg u]at x;refine⟨?_,by omega,by omega⟩;rw[←x,Int.add_emod_right];exact Int.emod_eq_of_lt v z
theorem Qi (n d:Int)(w:World)(y:0<d)(k:d≤1000000):Calls Tryz.prog 31 #[Aj n,Aj d] w fun e w'=>e=.returned (Aj (n % d))∧w=w':=by
 obtain⟨x,p,u⟩:=Wi n d y;have z:=Aq x;have v:IntKind.i64.wrap (n.tmod d+d)=n.tmod d+d:=by rw[Do _ (by omega)]
 clear x;go_enter Tryz.func31,Tryz.ntmps31;go_wp2;go_ret;exact⟨Cl z.o,rfl⟩
def nh (s:List Int)(j:Nat):Int×Int:=(s.getD (2*j) 0 % 4000-1000,s.getD (2*j+1) 0 % 4000-1000)
def cZ (s:List Int)(j:Nat):Zn:=⟨(List.range j).map (nh s),(List.range j).map (nh s),List.replicate j 0,(List.range (j / 4)).map fun (t:Nat)=>4*(t:Int)+3⟩
def n4 (s:List Int):Nat:=min (s.length / 2) 40
theorem Zhh (s:List Int)(j:Nat):(List.range (j+1)).map (nh s)=(List.range j).map (nh s)++[nh s j]:=by rw[ge,nt];rfl
theorem Yl (j:Nat):List.replicate (j+1) (0:Int)=List.replicate j 0++[0]:=by rw[qd]
theorem Pr {j:Nat} (h:(j+1) % 4=0):(List.range ((j+1) / 4)).map (fun (t:Nat)=>4*(t:Int)+3)=(List.range (j / 4)).map (fun (t:Nat)=>4*(t:Int)+3)++[(j:Int)]:=by
 rw[show (j+1) / 4=j / 4+1 by omega,ge,nt]
 congr 1
 simp only[ol,oH,pq,and_true];omega
theorem Rx {j:Nat} (h:(j+1) % 4≠0):(j+1) / 4=j / 4:=by omega
theorem mT (s:List Int)(j:Nat)(h:j≤40):eu (cZ s j):=⟨by simp[cZ];omega,by simp[cZ];omega,by simp[cZ];omega,by simp[cZ];omega⟩
def P4I (w:World)(zb:Nat)(s:List Int)(i:Value)(wr:World):Prop:=∃(j:Nat) (vo vu vt ve:Value),j≤n4 s∧(∃k:Nat,k=2*j∧i=Aj (k:Int))∧gQ w zb wr vo vu vt ve (cZ s j)
theorem Sn (A:Option Addr)(c B:Nat)(s:List Int)(w:World) (h:aE w B 1 A s.length (ae s)) (hB:B≤w.heap.size) (hl:s.length≤1000000000) :
  Calls Tryz.prog 13 #[.slice A s.length c] w (Zhf w (cZ s (n4 s))):=by
 obtain⟨X,d⟩:∃X,X=((w.alloc (.cells #[.slice none 0 0,.slice none 0 0,.slice none 0 0,.slice none 0 0] 30)).alloc (.cells #[.slice none 0 0,.slice none 0 0,.slice none 0 0,.slice none 0 0] 30)):=⟨_,rfl⟩;have b0:bT w X:=by rw[d];exact((qu _ w).alloc _).alloc _
 have h0:X.heap.size=w.heap.size+1+1:=by rw[d];simp
 have b2:aH X w.heap.size 30 #[.slice none 0 0,.slice none 0 0,.slice none 0 0,.slice none 0 0]:=by rw[d];exact(qv _ _ _).alloc _
 have z7:aH X (w.heap.size+1) 30 #[.slice none 0 0,.slice none 0 0,.slice none 0 0,.slice none 0 0]:=by rw[d];exact qw _ _ _ (by simp)
 have cu:gQ X (w.heap.size+1) X (.slice none 0 0) (.slice none 0 0) (.slice none 0 0) (.slice none 0 0) (cZ s 0):=⟨z7,Eh _ _ _ _,Eh _ _ _ _,Eh _ _ _ _,Eh _ _ _ _,dB,dB,qu _ _,by omega⟩;have HR:=Aq (h.aQ (w':=X) fun q hq=>b0.cell (by omega) (fun x=>x));have H0:Hid (P4I X (w.heap.size+1) s (Aj 0) X):=Aq ⟨0,_,_,_,_,By _,⟨0,rfl,rfl⟩,cu⟩;have HX:=Aq d;have HZ5Q:=Aq b0;have Ae:=Aq h0;have HZ3Q:=Aq b2;have HL:=Aq hl;have HZ0Q:=Aq hB;obtain⟨n,hn⟩:∃n,n=s.length:=⟨_,rfl⟩;obtain⟨i0,y5,b1,h8,z8⟩:=Eu Tk;obtain⟨j0,x9,y7,x8,y8⟩:=Eu Hp;rw[←hn]at HR HL ⊢;have HN:=Aq hn;clear h d b0 b2 z7 cu hl hB h0 hn;go_enter Tryz.func13,Tryz.ntmps13;go_upto_region 2 with fail
 rw[←HX.o];go_wp2_with fail
 go_loopw [4] (fun i wr=>P4I X (w.heap.size+1) s i wr) (fun i _=>2*n4 s-(intOf i).toNat)
 case atStart=>exact H0.o
 case round =>
  clear H0;obtain⟨j,vo,vu,vt,ve,hj,⟨k,G,rfl⟩,u⟩:=hrel;have y9:n4 s=min (n / 2) 40:=by rw[HN.o];rfl
  by_cases W5:j<n4 s
  ·have v3:=HN.o;have c5:=HL.o;obtain⟨x,hx⟩:∃x,s[k]?=some x:=⟨_,Bg (by omega)⟩;obtain⟨y,hy⟩:∃y,s[k+1]?=some y:=⟨_,Bg (by omega)⟩;obtain⟨b,off,rfl,a5,ct⟩:=HR.o.2 (by omega);have v7:b<w.heap.size:=by have:=HZ0Q.o;omega
   have z1:¬ b=w.heap.size+1:=by omega
   have Ao:=Ae.o;have d0:=(u.fr.cell (p:=⟨b,off+k,none⟩) (by simp;omega) z1).trans (ct _ _ (Ph s k x hx));have d1:=(u.fr.cell (p:=⟨b,off+(k+1),none⟩) (by simp;omega) z1).trans (ct _ _ (Ph s (k+1) y hy));have dl:b<wr.heap.size:=by have:=u.fr.size;omega
   have v2:Hid (nh s j=(x % 4000-1000,y % 4000-1000)):=Aq (by unfold nh;rw[←G,Bn,Bn,hx,hy];rfl);have y1:(k:Int)+1<n∧(k:Int)<80:=by omega
   have bx:0≤x % 4000∧x % 4000<4000:=by omega
   have v6:0≤y % 4000∧y % 4000<4000:=by omega
   have y4:=Aq W5;have HK:=Aq G;have HI:=Aq u;have z9:=u.box.lt;have Q:=u.box.cell 0;have m:=u.box.cell 1;have z2:=u.box.cell 2;have z3:=u.box.cell 3;simp only[Az,Ay,Bc]at Q m z2 z3;clear ct hx hy u W5 hj y9 z1 G Ao v3 c5;go_wp2_with fail
   have HZ1Q:=HI.o.drew;have i1:k<n:=by omega
   have i2:(k:Int)+1<n:=y1.1;have i3:(0:Int)≤(k:Int)+1:=by omega
   have i4:IntKind.i64.wrap ((k:Int)+1)=(k:Int)+1:=by rw[Do _ (by omega)]
   have i6:IntKind.i64.wrap (x % 4000-1000)=x % 4000-1000:=by rw[Do _ (by omega)]
   have i7:IntKind.i64.wrap (y % 4000-1000)=y % 4000-1000:=by rw[Do _ (by omega)]
   have i5:((k:Int)+1).toNat=k+1:=by omega
   have a:wr.drew.cell? ⟨w.heap.size+1,1,none⟩=some vu∧wr.drew.cell? ⟨b,off+k,none⟩=some (Aj x)∧wr.drew.cell? ⟨b,off+(k+1),none⟩=some (Aj y):=⟨m,d0,d1⟩;refine Bq (fun i=>!([6,13,16,17,19]:List Nat).contains i) (fun i=>([1,5,12]:List Nat).contains i) (fun i=>([6,13,16]:List Nat).contains i) [0,1,2,3,4,5,8,9,10,11,12,6,7,13,14,15,16,17,18,19] (fun w'=>w'.cell? ⟨w.heap.size+1,1,none⟩=some vu∧w'.cell? ⟨b,off+k,none⟩=some (Aj x)∧w'.cell? ⟨b,off+(k+1),none⟩=some (Aj y)) (by kernel_rfl) (by kernel_rfl) (by kernel_rfl) (by kernel_rfl) ?_;refine Be ?_;refine Bj a ?_
   iterate 3 (refine Be ?_)
   refine Bj a ?_
   iterate 4 (refine Be ?_)
   refine Bj a ?_;refine Bi fun K z=>?_;go_simp
   refine(Qi x 4000 wr.drew (by decide) (by decide)).mono ?_;rintro e w2⟨rfl,rfl⟩;dsimp only;refine z _ _ (fun _=>a) ?_;clear z K;refine Be ?_;refine Bi fun K z=>?_;go_simp
   refine(Qi y 4000 wr.drew (by decide) (by decide)).mono ?_;rintro e w2⟨rfl,rfl⟩;dsimp only;refine z _ _ (fun _=>a) ?_;clear z K;refine Be ?_;refine Be ?_;refine Bi fun K z=>?_;go_simp
   have hI:=(HI.o.alloc (.cells #[Aj (x % 4000-1000),Aj (y % 4000-1000)] 76)).drew;have hk:=(qv wr 76 #[Aj (x % 4000-1000),Aj (y % 4000-1000)]).drew;have h3:(cZ s j).aF.length=j:=by simp[cZ]
   have a8:j<40:=by have:=HK.o;omega
   have v9:=HI.o.fr.size;have A8:(wr.alloc (.cells #[Aj (x % 4000-1000),Aj (y % 4000-1000)] 76)).drew.cell? ⟨w.heap.size+1,1,none⟩=some vu:=by rw[hI.box.cell];rfl
   have z4:(wr.alloc (.cells #[Aj (x % 4000-1000),Aj (y % 4000-1000)] 76)).drew.cell? ⟨b,off+k,none⟩=some (Aj x):=by rw[←d0];exact Cb _ _ _ (by simpa using dl)
   have z5:(wr.alloc (.cells #[Aj (x % 4000-1000),Aj (y % 4000-1000)] 76)).drew.cell? ⟨b,off+(k+1),none⟩=some (Aj y):=by rw[←d1];exact Cb _ _ _ (by simpa using dl)
   refine z _ _ (fun _=>⟨A8,z4,z5⟩) ?_;clear z K;refine Bi fun K z=>?_
   refine Uh _ rfl (.tmp 17) (.tmp 32) _ rfl X.heap.size 76 i0 _ 2 16 Tryz.underlying28 y5 b1 h8 z8 rfl (show 0<2 by decide) vu (cZ s j).aF.length (bq (cZ s j).aF) rfl hI.aF _ _ 1 1 [Aj (x % 4000-1000),Aj (y % 4000-1000)] rfl (qB (cs:=[Aj (x % 4000-1000),Aj (y % 4000-1000)]) hk 2 1 rfl) (by simp[Value.oneCell']) (by unfold maxLen;omega) (by omega) (by simp[World.drew];omega) ?_;intro v' w3 hX x4 h5;obtain⟨cY,x5⟩:=hI.kM (p:=(x % 4000-1000,y % 4000-1000)) hX x4 h5;have g:=cY.cell 1;have I:=cY.frozen 1;have F:=cY.lt;obtain⟨A5,C,e5,_⟩:=Ba hX;subst e5;simp only[Az,Ay,Bc]at g;refine Bh z ?_;clear z K;refine Be ?_;refine Bi fun K z=>?_;go_simp
   refine Bh z ?_;clear z K;refine Bb ?_;have f:=Aq x5;clear HZ1Q hI hk A8 z4 z5 hX x4 h5 cY x5 g I F Q m z2 z3 a d0 d1 dl i1 i2 i3 i4 i5 i6 i7 HI z9 bx v6
   rw[h3]at f;generalize w3.setCell ⟨w.heap.size+1,1,none⟩ (.slice A5 (j+1) C)=l at f ⊢;go_wp2_with fail
   have HZ2Q:=f.o.drew;obtain⟨r,a7,e5,_,_,z0,y0⟩:=Ce f.o.aF (by simp);have HZ9Q:A5=some ⟨r,0,none⟩:=by injection e5
   subst HZ9Q;have hp:=Uu ((cZ s j).aF++[(x % 4000-1000,y % 4000-1000)]) j (x % 4000-1000,y % 4000-1000) (by rw[Dp (by omega),h3,pZ];rfl);have v0:=y0 _ _ hp.1;have v1:=y0 _ _ hp.2;have U:=f.o.box.cell 0;have P:=f.o.box.cell 1;simp only[Az,Ay,Bc]at U P;have yl:=f.o.box.lt;have i2:(j:Int)<(j:Int)+1:=by omega
   have i4:IntKind.i64.wrap (j:Int)=(j:Int):=by rw[Do _ (by omega)]
   clear hp y0 e5;have a:l.drew.cell? ⟨w.heap.size+1,0,none⟩=some vo∧l.drew.cell? ⟨w.heap.size+1,1,none⟩=some (.slice (some ⟨r,0,none⟩) (j+1) C)∧l.drew.cell? ⟨r,j*2,none⟩=some (Aj (x % 4000-1000))∧l.drew.cell? ⟨r,j*2+1,none⟩=some (Aj (y % 4000-1000)):=⟨U,P,v0,v1⟩;refine Cr [10,11,13] [1,3,5,9] [10] 14 (fun w'=>w'.cell? ⟨w.heap.size+1,0,none⟩=some vo∧w'.cell? ⟨w.heap.size+1,1,none⟩=some (.slice (some ⟨r,0,none⟩) (j+1) C)∧w'.cell? ⟨r,j*2,none⟩=some (Aj (x % 4000-1000))∧w'.cell? ⟨r,j*2+1,none⟩=some (Aj (y % 4000-1000))) ?_;refine Be ?_;refine Bj a ?_;refine Be ?_;refine Bj a ?_;refine Be ?_;refine Bj a ?_
   iterate 3 (refine Be ?_)
   refine Bj a ?_;refine Bi fun K z=>?_;go_simp
   have W:=(f.o.alloc (.cells #[Aj (x % 4000-1000),Aj (y % 4000-1000)] 76)).drew;have z6:=(qv l 76 #[Aj (x % 4000-1000),Aj (y % 4000-1000)]).drew;have HZ7Q:(cZ s j).aT.length=j:=by simp[cZ]
   have a6:=f.o.fr.size;have q0:(l.alloc (.cells #[Aj (x % 4000-1000),Aj (y % 4000-1000)] 76)).drew.cell? ⟨w.heap.size+1,0,none⟩=some vo:=by rw[W.box.cell];rfl
   have q1:(l.alloc (.cells #[Aj (x % 4000-1000),Aj (y % 4000-1000)] 76)).drew.cell? ⟨w.heap.size+1,1,none⟩=some (.slice (some ⟨r,0,none⟩) (j+1) C):=by rw[W.box.cell];rfl
   have q2:(l.alloc (.cells #[Aj (x % 4000-1000),Aj (y % 4000-1000)] 76)).drew.cell? ⟨r,j*2,none⟩=some (Aj (x % 4000-1000)):=by rw[←v0];exact Cb _ _ _ (by simpa using z0)
   have q3:(l.alloc (.cells #[Aj (x % 4000-1000),Aj (y % 4000-1000)] 76)).drew.cell? ⟨r,j*2+1,none⟩=some (Aj (y % 4000-1000)):=by rw[←v1];exact Cb _ _ _ (by simpa using z0)
   refine z _ _ (fun _=>⟨q0,q1,q2,q3⟩) ?_;clear z K;refine Bi fun K z=>?_
   refine Uh _ rfl (.tmp 36) (.tmp 45) _ rfl X.heap.size 76 i0 _ 2 16 Tryz.underlying28 y5 b1 h8 z8 rfl (show 0<2 by decide) vo (cZ s j).aT.length (bq (cZ s j).aT) rfl W.aT _ _ 1 1 [Aj (x % 4000-1000),Aj (y % 4000-1000)] rfl (qB (cs:=[Aj (x % 4000-1000),Aj (y % 4000-1000)]) z6 2 1 rfl) (by simp[Value.oneCell']) (by unfold maxLen;omega) (by omega) (by simp[World.drew];omega) ?_;intro v' w6 Au h6 h7;obtain⟨cY,hS⟩:=W.kY (p:=(x % 4000-1000,y % 4000-1000)) Au h6 h7;have g:=cY.cell 0;have I:=cY.frozen 0;have F:=cY.lt;obtain⟨A7,c7,e7,_⟩:=Ba Au;subst e7;simp only[Az,Ay]at g;refine Bh z ?_;clear z K;refine Be ?_;refine Bi fun K z=>?_;go_simp
   refine Bh z ?_;clear z K;refine Bb ?_;rw[HZ7Q]at hS;have Z:=Aq hS;clear HZ2Q W z6 q0 q1 q2 q3 Au h6 h7 cY hS g I F U P v0 v1 a f i2 z0 yl;generalize w6.setCell ⟨w.heap.size+1,0,none⟩ (.slice A7 (j+1) c7)=W6 at Z ⊢;have Q:=Z.o.box.cell 2;have m:=Z.o.box.cell 1;simp only[Az,Ay,Bc]at Q m;have zl:=Z.o.box.lt;have g5:(cZ s j).aB.length=j:=by simp[cZ]
   have a3:=Z.o.fr.size;go_upto_region 8 with(at_builtin;refine Cm _ rfl (.tmp 49) (.tmp 50) _ rfl X.heap.size 3 j0 _ 1 8 Tryz.underlying22 x9 y7 x8 y8 rfl (show 0<1 by decide) vt (cZ s j).aB.length (ae (cZ s j).aB) rfl (Z.o.alloc _).aB _ _ 1 1 [Aj 0] rfl (qB (cs:=[Aj 0]) (qv _ _ _) 1 1 rfl) (by simp[Value.oneCell']) (by unfold maxLen;omega) (by omega) (by simp;omega) ?_;intro v' w8 S N M;obtain⟨cY,O⟩:=(Z.o.alloc _).jY (p:=0) S N M;have g:=cY.cell 2;have I:=cY.frozen 2;have F:=cY.lt;obtain⟨T,L,e8,_⟩:=Ba S;subst e8;simp only[Az,Ay,Bc]at g;have hK:=Aq O;clear O S N M cY)
   have y6:gQ X (w.heap.size+1) (w8.setCell ⟨w.heap.size+1,2,none⟩ (.slice T (j+1) L)) (.slice A7 (j+1) c7) (.slice (some ⟨r,0,none⟩) (j+1) C) (.slice T (j+1) L) ve ⟨(cZ s (j+1)).aT,(cZ s (j+1)).aF,(cZ s (j+1)).aB,(cZ s j).aJ⟩:=by
    have:=hK.o;rw[g5,←v2.o]at this;simp only[cZ,Zhh,Yl]at this ⊢;exact this
   have Y:=Aq y6;clear y6 Z hK g I F Q m zl g5;generalize w8.setCell ⟨w.heap.size+1,2,none⟩ (.slice T (j+1) L)=W8 at Y ⊢;have Q:=Y.o.box.cell 3;have m:=Y.o.box.cell 1;simp only[Az,Ay,Bc]at Q m;have zl:=Y.o.box.lt;have g5:(cZ s j).aJ.length=j / 4:=by simp[cZ]
   have a4:=Y.o.fr.size;have v4:((j:Int)+1).tmod 4=(((j+1) % 4:Nat):Int):=by rw[qo (by omega)];omega
   by_cases hm:(j+1) % 4=0
   ·rw[hm]at v4;go_wp2_with (at_builtin;refine Cm _ rfl (.tmp 59) (.tmp 64) _ rfl X.heap.size 3 j0 _ 1 8 Tryz.underlying22 x9 y7 x8 y8 rfl (show 0<1 by decide) ve (cZ s j).aJ.length (ae (cZ s j).aJ) rfl (Y.o.alloc _).aJ _ _ 1 1 [Aj (j:Int)] rfl (qB (cs:=[Aj (j:Int)]) (qv _ _ _) 1 1 rfl) (by simp[Value.oneCell']) (by unfold maxLen;omega) (by omega) (by simp;omega) ?_;intro v' a0 S N M;obtain⟨cY,O⟩:=(Y.o.alloc _).jx (p:=(j:Int)) S N M;have g:=cY.cell 3;have I:=cY.frozen 3;have F:=cY.lt;obtain⟨HZ4Q,fS,e8,_⟩:=Ba S;subst e8;simp only[Az,Ay,Bc]at g;have hK:=Aq O;clear O S N M cY)
    have HZ8Q:=HK.o;have v5:=y4.o;refine⟨⟨j+1,.slice A7 (j+1) c7,.slice (some ⟨r,0,none⟩) (j+1) C,.slice T (j+1) L,.slice HZ4Q (j / 4+1) fS,by omega,⟨k+2,by omega,by simp⟩,?_⟩,by simp[intOf];omega⟩;have:=hK.o;rw[g5]at this;have h9:cZ s (j+1)=⟨(cZ s (j+1)).aT,(cZ s (j+1)).aF,(cZ s (j+1)).aB,(cZ s j).aJ++[(j:Int)]⟩:=by simp only[cZ,Pr hm]
    rw[h9];exact this
   ·have a1:((((j+1) % 4:Nat):Int)==0)=false:=by simp;omega
    go_wp2_with fail
    have HZ8Q:=HK.o;have v5:=y4.o;refine⟨⟨j+1,.slice A7 (j+1) c7,.slice (some ⟨r,0,none⟩) (j+1) C,.slice T (j+1) L,ve,by omega,⟨k+2,by omega,by simp⟩,?_⟩,by simp[intOf];omega⟩;have h9:cZ s (j+1)=⟨(cZ s (j+1)).aT,(cZ s (j+1)).aF,(cZ s (j+1)).aB,(cZ s j).aJ⟩:=by simp only[cZ,Rx hm]
    rw[h9];exact Y.o
  ·obtain⟨D,co,rfl,_⟩:=Ba u.aT;obtain⟨V,E,rfl,_⟩:=Ba u.aF;obtain⟨At,R,rfl,_⟩:=Ba u.aB;obtain⟨J,ce,rfl,_⟩:=Ba u.aJ;have x7:j=n4 s:=by omega
   have y1:¬ ((k:Int)+1<n∧(k:Int)<80):=by have:=HL.o;omega
   have c5:=HL.o;have HE:Hid (gQ X (w.heap.size+1) wr (.slice D (cZ s j).aT.length co) (.slice V (cZ s j).aF.length E) (.slice At (cZ s j).aB.length R) (.slice J (cZ s j).aJ.length ce) (cZ s (n4 s))):=Aq (x7 ▸ u);have Ao:=Ae.o;have H:=u.fr.aG HZ3Q.o (by omega);have HZ6Q:=Aq H;have x0:=u.box.cell 0;have x1:=u.box.cell 1;have x2:=u.box.cell 2;have x3:=u.box.cell 3;simp only[Az,Ay,Bc]at x0 x1 x2 x3;have xl:=u.box.lt;have U:=H.cell 0;have P:=H.cell 1;have y2:=H.cell 2;have y3:=H.cell 3;simp only[Az,Ay,Bc]at U P y2 y3;have yf:=H.frozen;have yl:=H.lt;have a2:w.heap.size+1≠w.heap.size:=by omega
   have c8:∀W',W'=((((wr.setCell ⟨w.heap.size,0,none⟩ (.slice D (cZ s j).aT.length co)).setCell ⟨w.heap.size,1,none⟩ (.slice V (cZ s j).aF.length E)).setCell ⟨w.heap.size,2,none⟩ (.slice At (cZ s j).aB.length R)).setCell ⟨w.heap.size,3,none⟩ (.slice J (cZ s j).aJ.length ce))→Zhf w (cZ s (n4 s)) (.returned (.agg #[(.slice D (cZ s j).aT.length co),(.slice V (cZ s j).aF.length E),(.slice At (cZ s j).aB.length R),(.slice J (cZ s j).aJ.length ce)])) W':=by
    intro W' h4;have h:=HE.o;have k0:=HZ6Q.o;have k1:=k0.aZ 0 (.slice D (cZ s j).aT.length co);have k2:=k1.aZ 1 (.slice V (cZ s j).aF.length E);have k3:=k2.aZ 2 (.slice At (cZ s j).aB.length R);have d:=HZ5Q.o;refine⟨(.slice D (cZ s j).aT.length co),(.slice V (cZ s j).aF.length E),(.slice At (cZ s j).aB.length R),(.slice J (cZ s j).aJ.length ce),rfl,?_,?_⟩
    ·rw[h4];have hb:w.heap.size≤X.heap.size:=by omega
     exact⟨Co (Co (Co (Co (Cj h.aT hb) k0 (by decide) _ _) k1 (by decide) _ _) k2 (by decide) _ _) k3 (by decide) _ _,
      Co (Co (Co (Co (Cj h.aF hb) k0 (by decide) _ _) k1 (by decide) _ _) k2 (by decide) _ _) k3 (by decide) _ _,
      Co (Co (Co (Co (Cj h.aB hb) k0 (by decide) _ _) k1 (by decide) _ _) k2 (by decide) _ _) k3 (by decide) _ _,
      Co (Co (Co (Co (Cj h.aJ hb) k0 (by decide) _ _) k1 (by decide) _ _) k2 (by decide) _ _) k3 (by decide) _ _⟩
    ·rw[h4];have hf:bT w wr:=⟨h.fr.os.trans d.os,h.fr.tape.trans d.tape,h.fr.output.trans d.output,by have:=h.fr.size;omega,fun k G _=>(h.fr.block k (by omega) (by omega)).trans (d.block k G (fun x=>x))⟩;exact(((hf.setCell (.inr Aw) _).setCell (.inr Aw) _).setCell (.inr Aw) _).setCell (.inr Aw) _
   have x6:=Aq c8;have v8:(k:Int)≤80:=by omega
   clear c8 H u x7 Ao c5 W5 hj y9 G;by_cases h1:(k:Int)+1<n
   ·have h2:¬ (k:Int)<80:=fun h=>y1 ⟨h1,h⟩
    go_wp2;refine bodyPost_ret (v:=.agg #[(.slice D (cZ s j).aT.length co),(.slice V (cZ s j).aF.length E),(.slice At (cZ s j).aB.length R),(.slice J (cZ s j).aJ.length ce)]) (by simp[results,Tryz.results13,go_sem,U,P,y2,y3]) rfl ?_;exact x6.o _ rfl
   ·go_wp2;refine bodyPost_ret (v:=.agg #[(.slice D (cZ s j).aT.length co),(.slice V (cZ s j).aF.length E),(.slice At (cZ s j).aB.length R),(.slice J (cZ s j).aJ.length ce)]) (by simp[results,Tryz.results13,go_sem,U,P,y2,y3]) rfl ?_;exact x6.o _ rfl
theorem Zab {w:World}{B size n m:Nat}{A:Option Addr}{xs:List Value}(h:aE w B size A n xs)(v:m≤n):aE w B size A m (xs.take (m*size)):=by
 refine⟨by rw[Dn,h.1];exact oV (pd _ v),fun k=>?_⟩;obtain⟨b,off,e,z,y⟩:=h.2 (by omega);refine⟨b,off,e,z,fun j u x=>y j u ?_⟩;rw[oe]at x;split at x
 ·exact x
 ·cases x
theorem Vc {w:World}{A:Option Addr}{xs:List Int} (h:af (Repr.int (N0:=w.heap.size)) 3 w w.heap.size A xs) (k:Nat):∃m,(m=min xs.length k)∧aE w w.heap.size 1 A m (ae (xs.take m))∧(xs.take m).length=m∧∀x∈xs.take m,bS x:=by
 refine⟨min xs.length k,rfl,?_,by rw[Dn];omega,fun x z=>?_⟩
 ·have y:aE w w.heap.size 1 A xs.length (ae xs):=by
   have:=h.iN (fun x=>[Aj x]) fun _ _ h=>h.1
   rw[Nw]at this;exact this
  have:=Zab y (m:=min xs.length k) (by omega);rw[ox]at this;rw[show ae (xs.take (min xs.length k))=(ae xs).take (min xs.length k) by simp[ae,px]];exact this
 ·obtain⟨i,hi⟩:=oS (p_ z);obtain⟨_,_,_,_,_,hrel,_⟩:=h.get hi;exact hrel.2
theorem Vt {N0:Nat}{w:World}{B:Nat}{A:Option Addr} {l:List (Int×Int)} (h:af (Qx N0) 96 w B A l):∀x∈l,bS x.2:=fun x y=>by
 obtain⟨i,hi⟩:=oS y;obtain⟨_,_,_,_,_,hrel,_⟩:=h.get hi;obtain⟨_,_,_,_,z⟩:=hrel;exact z.2
theorem Zew {N0:Nat}{w:World}{B:Nat}{A:Option Addr} {ll:List (List (Int×Int))} (h:af (Fk N0) 24 w B A ll):∀l∈ll,∀x∈l,bS x.2:=fun l y=>by
 obtain⟨i,hi⟩:=oS y;obtain⟨_,_,_,_,_,hrel,_⟩:=h.get hi;obtain⟨_,_,_,_,_,z⟩:=hrel;exact Vt z
theorem cR.nums {N0 B:Nat}{W:World}{z u y:Option Addr}{c0 k c2:Nat} {fl:List (List (Int×Int))} {v:List (Int×Int)} {cl:List Int} {size:Int} (h:cR N0 B W z u y c0 k c2 fl v cl size):aE W B 1 y cl.length (ae cl):=by
 have:=h.c.2.2.iN (fun x=>[Aj x]) fun _ _ h=>h.1
 rw[Nw]at this;exact this
theorem cR.go {N0:Nat}{X Y:World}{x z y:Option Addr}{c0 k c2:Nat} {fl:List (List (Int×Int))} {u:List (Int×Int)} {cl:List Int} {size:Int} (h:cR N0 X.heap.size X x z y c0 k c2 fl u cl size) (v:Below X.heap.size X Y):cR N0 Y.heap.size Y x z y c0 k c2 fl u cl size:=(h.below v Aw).a_ v.size
theorem Zci {N0:Nat}(W:World){p u y:Option Addr}{c0 v c3:Nat} {fl:List (List (Int×Int))} {x:List (Int×Int)} {cl:List Int} {size:Int} (h:cR N0 W.heap.size W p u y c0 v c3 fl x cl size) (c:fl.length≤30) (q:∀f∈fl,f.length≤300) (b:x.length≤300) (z:Zn) (oA uA tA eA:Option Addr) (oc uc tc ec:Nat) (r:cz W W.heap.size z oA uA tA eA) (s:eu z) :
  Calls Tryz.prog 27 #[.agg #[.slice p fl.length c0,.slice u x.length v,.slice y cl.length c3,Aj size],.agg #[.slice oA z.aT.length oc,.slice uA z.aF.length uc,.slice tA z.aB.length tc,.slice eA z.aJ.length ec]] W fun e w'=>e=.returned (.bool true)∧Below W.heap.size W w' :=
 Zge fl x cl size z p u y oA uA tA eA c0 v c3 oc uc tc ec W (Zex h.f.2.2) (Mu h.m.2.2) h.nums r s (by omega) (fun f a=>by have:=q f a;omega) (by omega) (by have:=h.k;omega) (Zew h.f.2.2) (Vt h.m.2.2)
theorem Kb (A P:Option Addr)(g pc:Nat)(xs ps:List Int)(w:World)(h1:xs.length≤g)(h2:g≤maxLen) (hr:af (Repr.int (N0:=w.heap.size)) 3 w w.heap.size A xs) (p1:ps.length≤pc) (p2:pc≤maxLen) (F:af (Repr.int (N0:=w.heap.size)) 3 w w.heap.size P ps) :
  Calls Tryz.prog 9 #[.slice A xs.length g,.slice P ps.length pc] w fun e w'=>e=.returned (.bool true)∧Below w.heap.size w w':=by
 obtain⟨m,hm,I,c3,ho⟩:=Vc hr 300;obtain⟨n,hn,N,J,_⟩:=Vc F 80;have pb:m≤xs.length∧m≤300:=by omega
 have w7:n≤ps.length∧n≤80:=by omega
 have qs:(if (300:Int)<(xs.length:Int) then(300:Int) else(xs.length:Int))=(m:Int):=by split <;> omega
 have ac:(if (80:Int)<(ps.length:Int) then(80:Int) else(ps.length:Int))=(n:Int):=by split <;> omega
 have hz:n≤pc:=by omega
 have HR:=Aq I;have HX:=Aq ho;have Z:=Aq J;have W:=Aq N;unfold maxLen at h2 p2;have _h2i:(g:Int)≤9223372036854775807:=by omega
 have _p2i:(pc:Int)≤9223372036854775807:=by omega
 clear hr I ho h2 F N p2 J c3 hm hn;generalize xs.length=nx at *;generalize xs.take m=ys at *;generalize ps.length=np at *;generalize ps.take n=d at *;go_enter Tryz.func9,Tryz.ntmps9;go_wp2_with fail
 refine(Xj w.heap.size w A m _ ys Aw HR.o HX.o (by omega)).mono ?_;rintro e w2⟨s,k,q,c0,r,a,fl,p,cl,size,rfl,A1,B,C,O,i⟩;have H:=Aq (i.alloc i.size (.cells #[.slice s fl.length c0,.slice k p.length r,.slice q cl.length a,Aj size] 26));have T:=Aq (A1.go (Hl w2 (.cells #[.slice s fl.length c0,.slice k p.length r,.slice q cl.length a,Aj size] 26)));have A0:=Aq (qv w2 26 #[.slice s fl.length c0,.slice k p.length r,.slice q cl.length a,Aj size]);have HF:=Aq B;have hk:=Aq C;have HM:=Aq O;clear A1 B C O i qs HR HX;go_upto_region 2 with fail
 generalize w2.alloc (.cells #[.slice s fl.length c0,.slice k p.length r,.slice q cl.length a,Aj size] 26)=X at *;generalize w2.heap.size=j at *;have L:=Aq (show aH X j 26 #[.slice s fl.length c0,.slice k p.length r,.slice q cl.length a,Aj size] from A0.o);have S:aH X.drew j 26 #[.slice s fl.length c0,.slice k p.length r,.slice q cl.length a,Aj size]:=L.o;refine Cr [0,8,9] [2] [8] 12 (fun wq=>aH wq j 26 #[.slice s fl.length c0,.slice k p.length r,.slice q cl.length a,Aj size]) ?_;refine Bi fun K u=>?_;go_simp
 refine(Zcz _).mono ?_;rintro e w6⟨rfl,x⟩;have c:=Aq (H.o.drew.trans (x.mono H.o.size));have f:=Aq (qE S x);have A3:=Aq (T.o.go (((ds X.heap.size X).drew).trans x));have M:=Aq ((W.o.below c.o Aw).a_ c.o.size);clear H L S T W x;refine u _ _ (fun _=>f.o) ?_;clear u K
 iterate 1 (refine Be ?_)
 refine Gf (v:=_) rfl rfl (by kernel_rfl) (fun _ _ _ h=>h) f.o rfl (fun wq Q=>by have b:=Q;have q0:=b.cell 0;have q1:=b.cell 1;have q2:=b.cell 2;have q3:=b.cell 3;simp only[Az,Ay,Bc]at q0 q1 q2 q3;have ql:=b.lt;clear b Q;first|(go_simp;done)|(go_simp;rfl)) ?_
 iterate 4 (refine Be ?_)
 go_simp
 iterate 1 (refine Be ?_)
 refine Bi fun K u=>?_;go_simp
 have V:=Sn P pc w6.heap.size d w6 (by rw[Z.o];exact M.o) Aw (by have:=Z.o;omega);rw[Z.o]at V;refine V.mono ?_;obtain⟨z,l⟩:∃z,z=cZ d (n4 d):=⟨_,rfl⟩;have HZ:=Aq (show eu z by rw[l];exact mT d (n4 d) (by unfold n4;omega));rw[←l];clear l V M;rintro e Y⟨og,cu,tu,en,rfl,y,G⟩;obtain⟨D,o1,rfl,_⟩:=Ba y.1;obtain⟨R,o2,rfl,_⟩:=Ba y.2.1;obtain⟨E,o3,rfl,_⟩:=Ba y.2.2.1;obtain⟨O4,o4,rfl,_⟩:=Ba y.2.2.2;have x:=qG G Aw;have U:=Aq (c.o.trans (x.mono c.o.size));have hb:=Aq (qE f.o x);have ml:=Aq (A3.o.go x);have hK:=Aq (show cz Y Y.heap.size z D R E O4 from⟨qx y.1,qx y.2.1,qx y.2.2.1,qx y.2.2.2⟩);clear c f A3 y G x;refine u _ _ (fun _=>hb.o) ?_;clear u K;refine Bi fun K u=>?_;go_simp
 refine(Zci Y ml.o HF.o hk.o HM.o z D R E O4 o1 o2 o3 o4 hK.o HZ.o).mono ?_;rintro e w8⟨rfl,x⟩;have c1:=U.o.trans (x.mono U.o.size);clear U hb ml hK x;refine Bh u ?_;clear u K
 iterate 2 (refine Be ?_)
 refine Bb ?_;go_wp2_with fail
 go_ret;exact⟨rfl,c1⟩
end
end Go.Proofs.YtnhebmgibiomnaaGreat

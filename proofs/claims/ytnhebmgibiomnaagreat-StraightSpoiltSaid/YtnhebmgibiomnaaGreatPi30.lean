import Derived.Test.YtnhebmgibiomnaaGreatPi25
import Derived.Test.YtnhebmgibiomnaaGreatPi29
set_option linter.unusedVariables false
set_option linter.unusedSimpArgs false
set_option maxRecDepth 100000
set_option maxHeartbeats 8000000
namespace Go.Proofs.YtnhebmgibiomnaaGreat
section
open Go.RowKit Mc
theorem Ws (n d:Int)(y:0<d):(n.tmod d+d) % d=n % d∧-d≤n.tmod d∧n.tmod d<d:=by
 have x:=Ma n d y;have z:=pm n (show d≠0 by omega);have v:=po n y;generalize n.tmod d=t at *;generalize n % d=r at *;by_cases u:t<0
 ·rw[if_pos u]at x;refine⟨?_,by omega,by omega⟩;rw[←x];exact Int.emod_eq_of_lt z v
 ·rw[if_neg u]at x;refine⟨?_,by omega,by omega⟩;rw[←x,Int.add_emod_right];exact Int.emod_eq_of_lt z v
theorem Qu (n d:Int)(w:World)(y:0<d)(v:d≤1000000):Calls Tryz.prog 31 #[Aj n,Aj d] w fun e w'=>e=.returned (Aj (n % d))∧w=w':=by
 obtain⟨x,k,p⟩:=Ws n d y;have z:=Aq x;have u:IntKind.i64.wrap (n.tmod d+d)=n.tmod d+d:=by rw[Do _ (by omega)]
 clear x;go_enter Tryz.func31,Tryz.ntmps31;go_wp2;go_ret;exact⟨Co z.o,rfl⟩
def mf (s:List Int)(j:Nat):Int×Int:=(s.getD (2*j) 0 % 4000-1000,s.getD (2*j+1) 0 % 4000-1000)
def cq (s:List Int)(j:Nat):Zn:=⟨(List.range j).map (mf s),(List.range j).map (mf s),List.replicate j 0,(List.range (j / 4)).map fun (t:Nat)=>4*(t:Int)+3⟩
def n4 (s:List Int):Nat:=min (s.length / 2) 40
theorem Zhu (s:List Int)(j:Nat):(List.range (j+1)).map (mf s)=(List.range j).map (mf s)++[mf s j]:=by rw[od,oq];rfl
theorem Yw (j:Nat):List.replicate (j+1) (0:Int)=List.replicate j 0++[0]:=by rw[qv]
theorem Qd {j:Nat} (h:(j+1) % 4=0):(List.range ((j+1) / 4)).map (fun (t:Nat)=>4*(t:Int)+3)=(List.range (j / 4)).map (fun (t:Nat)=>4*(t:Int)+3)++[(j:Int)]:=by
 rw[show (j+1) / 4=j / 4+1 by omega,od,oq]
 congr 1
 simp only[oD,oR,pH,and_true];omega
theorem Sh {j:Nat} (h:(j+1) % 4≠0):(j+1) / 4=j / 4:=by omega
theorem nE (s:List Int)(j:Nat)(h:j≤40):ek (cq s j):=⟨by simp[cq];omega,by simp[cq];omega,by simp[cq];omega,by simp[cq];omega⟩
def P4I (w:World)(zb:Nat)(s:List Int)(i:Value)(wr:World):Prop:=∃(j:Nat) (vo vu vt ve:Value),j≤n4 s∧(∃k:Nat,k=2*j∧i=Aj (k:Int))∧gC w zb wr vo vu vt ve (cq s j)
theorem Ta (A:Option Addr)(c B:Nat)(s:List Int)(w:World) (h:aE w B 1 A s.length (ae s)) (hB:B≤w.heap.size) (hl:s.length≤1000000000) :
  Calls Tryz.prog 13 #[.slice A s.length c] w (Zhs w (cq s (n4 s))):=by
 obtain⟨X,a⟩:∃X,X=((w.alloc (.cells #[.slice none 0 0,.slice none 0 0,.slice none 0 0,.slice none 0 0] 30)).alloc (.cells #[.slice none 0 0,.slice none 0 0,.slice none 0 0,.slice none 0 0] 30)):=⟨_,rfl⟩;have W5:bJ w X:=by rw[a];exact((qF _ w).alloc _).alloc _
 have y7:X.heap.size=w.heap.size+1+1:=by rw[a];simp
 have x4:aH X w.heap.size 30 #[.slice none 0 0,.slice none 0 0,.slice none 0 0,.slice none 0 0]:=by rw[a];exact(qG _ _ _).alloc _
 have z8:aH X (w.heap.size+1) 30 #[.slice none 0 0,.slice none 0 0,.slice none 0 0,.slice none 0 0]:=by rw[a];exact qH _ _ _ (by simp)
 have hb:gC X (w.heap.size+1) X (.slice none 0 0) (.slice none 0 0) (.slice none 0 0) (.slice none 0 0) (cq s 0):=⟨z8,Eo _ _ _ _,Eo _ _ _ _,Eo _ _ _ _,Eo _ _ _ _,dD,dD,qF _ _,by omega⟩;have HR:=Aq (h.aQ (w':=X) fun q hq=>W5.cell (by omega) (fun x=>x));have H0:Hid (P4I X (w.heap.size+1) s (Aj 0) X):=Aq ⟨0,_,_,_,_,By _,⟨0,rfl,rfl⟩,hb⟩;have HX:=Aq a;have a8:=Aq W5;have z4:=Aq y7;have a3:=Aq x4;have HL:=Aq hl;have a7:=Aq hB;obtain⟨n,hn⟩:∃n,n=s.length:=⟨_,rfl⟩;obtain⟨i0,y8,b2,hk,z6⟩:=Fe Tw;obtain⟨j0,Ae,A8,v3,v2⟩:=Fe Hv;rw[←hn]at HR HL ⊢;have HN:=Aq hn;clear h a W5 x4 z8 hb hl hB y7 hn;go_enter Tryz.func13,Tryz.ntmps13;go_upto_region 2 with fail
 rw[←HX.o];go_wp2_with fail
 go_loopw [4] (fun Ao wr=>P4I X (w.heap.size+1) s Ao wr) (fun Ao _=>2*n4 s-(intOf Ao).toNat)
 case atStart=>exact H0.o
 case round =>
  clear H0;obtain⟨j,vo,vu,vt,ve,hj,⟨k,F,rfl⟩,z⟩:=hrel;have z7:n4 s=min (n / 2) 40:=by rw[HN.o];rfl
  by_cases b0:j<n4 s
  ·have v8:=HN.o;have c5:=HL.o;obtain⟨x,hx⟩:∃x,s[k]?=some x:=⟨_,Bf (by omega)⟩;obtain⟨y,hy⟩:∃y,s[k+1]?=some y:=⟨_,Bf (by omega)⟩;obtain⟨b,off,rfl,b7,hX⟩:=HR.o.2 (by omega);have b9:b<w.heap.size:=by have:=a7.o;omega
   have hS:¬ b=w.heap.size+1:=by omega
   have y0:=z4.o;have d0:=(z.fr.cell (p:=⟨b,off+k,none⟩) (by simp;omega) hS).trans (hX _ _ (Pu s k x hx));have d1:=(z.fr.cell (p:=⟨b,off+(k+1),none⟩) (by simp;omega) hS).trans (hX _ _ (Pu s (k+1) y hy));have dl:b<wr.heap.size:=by have:=z.fr.size;omega
   have a1:Hid (mf s j=(x % 4000-1000,y % 4000-1000)):=Aq (by unfold mf;rw[←F,Bo,Bo,hx,hy];rfl);have z0:(k:Int)+1<n∧(k:Int)<80:=by omega
   have bx:0≤x % 4000∧x % 4000<4000:=by omega
   have a9:0≤y % 4000∧y % 4000<4000:=by omega
   have c8:=Aq b0;have HK:=Aq F;have HI:=Aq z;have v6:=z.box.lt;have V:=z.box.cell 0;have m:=z.box.cell 1;have z2:=z.box.cell 2;have z3:=z.box.cell 3;simp only[Az,Ay,Ba]at V m z2 z3;clear hX hx hy z b0 hj z7 hS F y0 v8 c5;go_wp2_with fail
   have a4:=HI.o.drew;have i1:k<n:=by omega
   have i2:(k:Int)+1<n:=z0.1;have i3:(0:Int)≤(k:Int)+1:=by omega
   have i4:IntKind.i64.wrap ((k:Int)+1)=(k:Int)+1:=by rw[Do _ (by omega)]
   have i6:IntKind.i64.wrap (x % 4000-1000)=x % 4000-1000:=by rw[Do _ (by omega)]
   have i7:IntKind.i64.wrap (y % 4000-1000)=y % 4000-1000:=by rw[Do _ (by omega)]
   have i5:((k:Int)+1).toNat=k+1:=by omega
   have r:wr.drew.cell? ⟨w.heap.size+1,1,none⟩=some vu∧wr.drew.cell? ⟨b,off+k,none⟩=some (Aj x)∧wr.drew.cell? ⟨b,off+(k+1),none⟩=some (Aj y):=⟨m,d0,d1⟩;refine Bs (Cl [6,13,16,17,19]) (Bm [1,5,12]) (Bm [6,13,16]) [0,1,2,3,4,5,8,9,10,11,12,6,7,13,14,15,16,17,18,19] (fun w'=>w'.cell? ⟨w.heap.size+1,1,none⟩=some vu∧w'.cell? ⟨b,off+k,none⟩=some (Aj x)∧w'.cell? ⟨b,off+(k+1),none⟩=some (Aj y)) (by kernel_rfl) (by kernel_rfl) (by kernel_rfl) (by kernel_rfl) ?_;refine Be ?_;refine Bj r ?_
   iterate 3 (refine Be ?_)
   refine Bj r ?_
   iterate 4 (refine Be ?_)
   refine Bj r ?_;refine Bi fun K i=>?_;go_simp
   refine(Qu x 4000 wr.drew (by decide) (by decide)).mono ?_;rintro e w2⟨rfl,rfl⟩;dsimp only;refine i _ _ (fun _=>r) ?_;clear i K;refine Be ?_;refine Bi fun K i=>?_;go_simp
   refine(Qu y 4000 wr.drew (by decide) (by decide)).mono ?_;rintro e w2⟨rfl,rfl⟩;dsimp only;refine i _ _ (fun _=>r) ?_;clear i K;refine Be ?_;refine Be ?_;refine Bi fun K i=>?_;go_simp
   have hK:=(HI.o.alloc (.cells #[Aj (x % 4000-1000),Aj (y % 4000-1000)] 76)).drew;have b1:=(qG wr 76 #[Aj (x % 4000-1000),Aj (y % 4000-1000)]).drew;have x6:(cq s j).aF.length=j:=by simp[cq]
   have b4:j<40:=by have:=HK.o;omega
   have c3:=HI.o.fr.size;have y9:(wr.alloc (.cells #[Aj (x % 4000-1000),Aj (y % 4000-1000)] 76)).drew.cell? ⟨w.heap.size+1,1,none⟩=some vu:=by rw[hK.box.cell];rfl
   have v4:(wr.alloc (.cells #[Aj (x % 4000-1000),Aj (y % 4000-1000)] 76)).drew.cell? ⟨b,off+k,none⟩=some (Aj x):=by rw[←d0];exact Cc _ _ _ (by simpa using dl)
   have x9:(wr.alloc (.cells #[Aj (x % 4000-1000),Aj (y % 4000-1000)] 76)).drew.cell? ⟨b,off+(k+1),none⟩=some (Aj y):=by rw[←d1];exact Cc _ _ _ (by simpa using dl)
   refine i _ _ (fun _=>⟨y9,v4,x9⟩) ?_;clear i K;refine Bi fun K i=>?_
   refine Us _ rfl (.tmp 17) (.tmp 32) _ rfl X.heap.size 76 i0 _ 2 16 Tryz.underlying28 y8 b2 hk z6 rfl (show 0<2 by decide) vu (cq s j).aF.length (bu (cq s j).aF) rfl hK.aF _ _ 1 1 [Aj (x % 4000-1000),Aj (y % 4000-1000)] rfl (qM (cs:=[Aj (x % 4000-1000),Aj (y % 4000-1000)]) b1 2 1 rfl) (by simp[Value.oneCell']) (by unfold maxLen;omega) (by omega) (by simp[World.drew];omega) ?_;intro v' w3 y1 h8 h5;obtain⟨cg,x5⟩:=hK.k_ (p:=(x % 4000-1000,y % 4000-1000)) y1 h8 h5;have d:=cg.cell 1;have E:=cg.frozen 1;have I:=cg.lt;obtain⟨A5,D,e5,_⟩:=Bc y1;subst e5;simp only[Az,Ay,Ba]at d;refine Bh i ?_;clear i K;refine Be ?_;refine Bi fun K i=>?_;go_simp
   refine Bh i ?_;clear i K;refine Bb ?_;have f:=Aq x5;clear a4 hK b1 y9 v4 x9 y1 h8 h5 cg x5 d E I V m z2 z3 r d0 d1 dl i1 i2 i3 i4 i5 i6 i7 HI v6 bx a9
   rw[x6]at f;generalize w3.setCell ⟨w.heap.size+1,1,none⟩ (.slice A5 (j+1) D)=g at f ⊢;go_wp2_with fail
   have v5:=f.o.drew;obtain⟨u,b8,e5,_,_,Au,ct⟩:=Cf f.o.aF (by simp);have a6:A5=some ⟨u,0,none⟩:=by injection e5
   subst a6;have hp:=Ve ((cq s j).aF++[(x % 4000-1000,y % 4000-1000)]) j (x % 4000-1000,y % 4000-1000) (by rw[Dv (by omega),x6,qo];rfl);have v0:=ct _ _ hp.1;have v1:=ct _ _ hp.2;have S:=f.o.box.cell 0;have R:=f.o.box.cell 1;simp only[Az,Ay,Ba]at S R;have yl:=f.o.box.lt;have i2:(j:Int)<(j:Int)+1:=by omega
   have i4:IntKind.i64.wrap (j:Int)=(j:Int):=by rw[Do _ (by omega)]
   clear hp ct e5;have r:g.drew.cell? ⟨w.heap.size+1,0,none⟩=some vo∧g.drew.cell? ⟨w.heap.size+1,1,none⟩=some (.slice (some ⟨u,0,none⟩) (j+1) D)∧g.drew.cell? ⟨u,j*2,none⟩=some (Aj (x % 4000-1000))∧g.drew.cell? ⟨u,j*2+1,none⟩=some (Aj (y % 4000-1000)):=⟨S,R,v0,v1⟩;refine Cv [10,11,13] [1,3,5,9] [10] 14 (fun w'=>w'.cell? ⟨w.heap.size+1,0,none⟩=some vo∧w'.cell? ⟨w.heap.size+1,1,none⟩=some (.slice (some ⟨u,0,none⟩) (j+1) D)∧w'.cell? ⟨u,j*2,none⟩=some (Aj (x % 4000-1000))∧w'.cell? ⟨u,j*2+1,none⟩=some (Aj (y % 4000-1000))) ?_;refine Be ?_;refine Bj r ?_;refine Be ?_;refine Bj r ?_;refine Be ?_;refine Bj r ?_
   iterate 3 (refine Be ?_)
   refine Bj r ?_;refine Bi fun K i=>?_;go_simp
   have N:=(f.o.alloc (.cells #[Aj (x % 4000-1000),Aj (y % 4000-1000)] 76)).drew;have y4:=(qG g 76 #[Aj (x % 4000-1000),Aj (y % 4000-1000)]).drew;have v9:(cq s j).aT.length=j:=by simp[cq]
   have b6:=f.o.fr.size;have q0:(g.alloc (.cells #[Aj (x % 4000-1000),Aj (y % 4000-1000)] 76)).drew.cell? ⟨w.heap.size+1,0,none⟩=some vo:=by rw[N.box.cell];rfl
   have q1:(g.alloc (.cells #[Aj (x % 4000-1000),Aj (y % 4000-1000)] 76)).drew.cell? ⟨w.heap.size+1,1,none⟩=some (.slice (some ⟨u,0,none⟩) (j+1) D):=by rw[N.box.cell];rfl
   have q2:(g.alloc (.cells #[Aj (x % 4000-1000),Aj (y % 4000-1000)] 76)).drew.cell? ⟨u,j*2,none⟩=some (Aj (x % 4000-1000)):=by rw[←v0];exact Cc _ _ _ (by simpa using Au)
   have q3:(g.alloc (.cells #[Aj (x % 4000-1000),Aj (y % 4000-1000)] 76)).drew.cell? ⟨u,j*2+1,none⟩=some (Aj (y % 4000-1000)):=by rw[←v1];exact Cc _ _ _ (by simpa using Au)
   refine i _ _ (fun _=>⟨q0,q1,q2,q3⟩) ?_;clear i K;refine Bi fun K i=>?_
   refine Us _ rfl (.tmp 36) (.tmp 45) _ rfl X.heap.size 76 i0 _ 2 16 Tryz.underlying28 y8 b2 hk z6 rfl (show 0<2 by decide) vo (cq s j).aT.length (bu (cq s j).aT) rfl N.aT _ _ 1 1 [Aj (x % 4000-1000),Aj (y % 4000-1000)] rfl (qM (cs:=[Aj (x % 4000-1000),Aj (y % 4000-1000)]) y4 2 1 rfl) (by simp[Value.oneCell']) (by unfold maxLen;omega) (by omega) (by simp[World.drew];omega) ?_;intro v' w6 cu x8 h7;obtain⟨cg,z1⟩:=N.lB (p:=(x % 4000-1000,y % 4000-1000)) cu x8 h7;have d:=cg.cell 0;have E:=cg.frozen 0;have I:=cg.lt;obtain⟨A7,c7,e7,_⟩:=Bc cu;subst e7;simp only[Az,Ay]at d;refine Bh i ?_;clear i K;refine Be ?_;refine Bi fun K i=>?_;go_simp
   refine Bh i ?_;clear i K;refine Bb ?_;rw[v9]at z1;have l:=Aq z1;clear v5 N y4 q0 q1 q2 q3 cu x8 h7 cg z1 d E I S R v0 v1 r f i2 Au yl;generalize w6.setCell ⟨w.heap.size+1,0,none⟩ (.slice A7 (j+1) c7)=W6 at l ⊢;have V:=l.o.box.cell 2;have m:=l.o.box.cell 1;simp only[Az,Ay,Ba]at V m;have zl:=l.o.box.lt;have g5:(cq s j).aB.length=j:=by simp[cq]
   have c2:=l.o.fr.size;go_upto_region 8 with(at_builtin;refine Cp _ rfl (.tmp 49) (.tmp 50) _ rfl X.heap.size 3 j0 _ 1 8 Tryz.underlying22 Ae A8 v3 v2 rfl (show 0<1 by decide) vt (cq s j).aB.length (ae (cq s j).aB) rfl (l.o.alloc _).aB _ _ 1 1 [Aj 0] rfl (qM (cs:=[Aj 0]) (qG _ _ _) 1 1 rfl) (by simp[Value.oneCell']) (by unfold maxLen;omega) (by omega) (by simp;omega) ?_;intro v' w8 Z T O;obtain⟨cg,J⟩:=(l.o.alloc _).j_ (p:=0) Z T O;have d:=cg.cell 2;have E:=cg.frozen 2;have I:=cg.lt;obtain⟨M,L,e8,_⟩:=Bc Z;subst e8;simp only[Az,Ay,Ba]at d;have hI:=Aq J;clear J Z T O cg)
   have z9:gC X (w.heap.size+1) (w8.setCell ⟨w.heap.size+1,2,none⟩ (.slice M (j+1) L)) (.slice A7 (j+1) c7) (.slice (some ⟨u,0,none⟩) (j+1) D) (.slice M (j+1) L) ve ⟨(cq s (j+1)).aT,(cq s (j+1)).aF,(cq s (j+1)).aB,(cq s j).aJ⟩:=by
    have:=hI.o;rw[g5,←a1.o]at this;simp only[cq,Zhu,Yw]at this ⊢;exact this
   have H:=Aq z9;clear z9 l hI d E I V m zl g5;generalize w8.setCell ⟨w.heap.size+1,2,none⟩ (.slice M (j+1) L)=W8 at H ⊢;have V:=H.o.box.cell 3;have m:=H.o.box.cell 1;simp only[Az,Ay,Ba]at V m;have zl:=H.o.box.lt;have g5:(cq s j).aJ.length=j / 4:=by simp[cq]
   have c6:=H.o.fr.size;have a5:((j:Int)+1).tmod 4=(((j+1) % 4:Nat):Int):=by rw[qB (by omega)];omega
   by_cases hm:(j+1) % 4=0
   ·rw[hm]at a5;go_wp2_with (at_builtin;refine Cp _ rfl (.tmp 59) (.tmp 64) _ rfl X.heap.size 3 j0 _ 1 8 Tryz.underlying22 Ae A8 v3 v2 rfl (show 0<1 by decide) ve (cq s j).aJ.length (ae (cq s j).aJ) rfl (H.o.alloc _).aJ _ _ 1 1 [Aj (j:Int)] rfl (qM (cs:=[Aj (j:Int)]) (qG _ _ _) 1 1 rfl) (by simp[Value.oneCell']) (by unfold maxLen;omega) (by omega) (by simp;omega) ?_;intro v' c1 Z T O;obtain⟨cg,J⟩:=(H.o.alloc _).kG (p:=(j:Int)) Z T O;have d:=cg.cell 3;have E:=cg.frozen 3;have I:=cg.lt;obtain⟨a2,fS,e8,_⟩:=Bc Z;subst e8;simp only[Az,Ay,Ba]at d;have hI:=Aq J;clear J Z T O cg)
    have a0:=HK.o;have b3:=c8.o;refine⟨⟨j+1,.slice A7 (j+1) c7,.slice (some ⟨u,0,none⟩) (j+1) D,.slice M (j+1) L,.slice a2 (j / 4+1) fS,by omega,⟨k+2,by omega,by simp⟩,?_⟩,by simp[intOf];omega⟩;have:=hI.o;rw[g5]at this;have h9:cq s (j+1)=⟨(cq s (j+1)).aT,(cq s (j+1)).aF,(cq s (j+1)).aB,(cq s j).aJ++[(j:Int)]⟩:=by simp only[cq,Qd hm]
    rw[h9];exact this
   ·have c4:((((j+1) % 4:Nat):Int)==0)=false:=by simp;omega
    go_wp2_with fail
    have a0:=HK.o;have b3:=c8.o;refine⟨⟨j+1,.slice A7 (j+1) c7,.slice (some ⟨u,0,none⟩) (j+1) D,.slice M (j+1) L,ve,by omega,⟨k+2,by omega,by simp⟩,?_⟩,by simp[intOf];omega⟩;have h9:cq s (j+1)=⟨(cq s (j+1)).aT,(cq s (j+1)).aF,(cq s (j+1)).aB,(cq s j).aJ⟩:=by simp only[cq,Sh hm]
    rw[h9];exact H.o
  ·obtain⟨Q,co,rfl,_⟩:=Bc z.aT;obtain⟨P,U,rfl,_⟩:=Bc z.aF;obtain⟨At,C,rfl,_⟩:=Bc z.aB;obtain⟨G,ce,rfl,_⟩:=Bc z.aJ;have y6:j=n4 s:=by omega
   have z0:¬ ((k:Int)+1<n∧(k:Int)<80):=by have:=HL.o;omega
   have c5:=HL.o;have HE:Hid (gC X (w.heap.size+1) wr (.slice Q (cq s j).aT.length co) (.slice P (cq s j).aF.length U) (.slice At (cq s j).aB.length C) (.slice G (cq s j).aJ.length ce) (cq s (n4 s))):=Aq (y6 ▸ z);have y0:=z4.o;have Y:=z.fr.aG a3.o (by omega);have v7:=Aq Y;have x0:=z.box.cell 0;have x1:=z.box.cell 1;have x2:=z.box.cell 2;have x3:=z.box.cell 3;simp only[Az,Ay,Ba]at x0 x1 x2 x3;have xl:=z.box.lt;have S:=Y.cell 0;have R:=Y.cell 1;have y2:=Y.cell 2;have y3:=Y.cell 3;simp only[Az,Ay,Ba]at S R y2 y3;have yf:=Y.frozen;have yl:=Y.lt;have c0:w.heap.size+1≠w.heap.size:=by omega
   have x7:∀W',W'=((((wr.setCell ⟨w.heap.size,0,none⟩ (.slice Q (cq s j).aT.length co)).setCell ⟨w.heap.size,1,none⟩ (.slice P (cq s j).aF.length U)).setCell ⟨w.heap.size,2,none⟩ (.slice At (cq s j).aB.length C)).setCell ⟨w.heap.size,3,none⟩ (.slice G (cq s j).aJ.length ce))→Zhs w (cq s (n4 s)) (.returned (.agg #[(.slice Q (cq s j).aT.length co),(.slice P (cq s j).aF.length U),(.slice At (cq s j).aB.length C),(.slice G (cq s j).aJ.length ce)])) W':=by
    intro W' y5;have h:=HE.o;have k0:=v7.o;have k1:=k0.aX 0 (.slice Q (cq s j).aT.length co);have k2:=k1.aX 1 (.slice P (cq s j).aF.length U);have k3:=k2.aX 2 (.slice At (cq s j).aB.length C);have a:=a8.o;refine⟨(.slice Q (cq s j).aT.length co),(.slice P (cq s j).aF.length U),(.slice At (cq s j).aB.length C),(.slice G (cq s j).aJ.length ce),rfl,?_,?_⟩
    ·rw[y5];have W:w.heap.size≤X.heap.size:=by omega
     exact⟨Cs (Cs (Cs (Cs (Cm h.aT W) k0 (by decide) _ _) k1 (by decide) _ _) k2 (by decide) _ _) k3 (by decide) _ _,
      Cs (Cs (Cs (Cs (Cm h.aF W) k0 (by decide) _ _) k1 (by decide) _ _) k2 (by decide) _ _) k3 (by decide) _ _,
      Cs (Cs (Cs (Cs (Cm h.aB W) k0 (by decide) _ _) k1 (by decide) _ _) k2 (by decide) _ _) k3 (by decide) _ _,
      Cs (Cs (Cs (Cs (Cm h.aJ W) k0 (by decide) _ _) k1 (by decide) _ _) k2 (by decide) _ _) k3 (by decide) _ _⟩
    ·rw[y5];have hf:bJ w wr:=⟨h.fr.os.trans a.os,h.fr.tape.trans a.tape,h.fr.output.trans a.output,by have:=h.fr.size;omega,fun k F _=>(h.fr.block k (by omega) (by omega)).trans (a.block k F (fun x=>x))⟩;exact(((hf.setCell (.inr Aw) _).setCell (.inr Aw) _).setCell (.inr Aw) _).setCell (.inr Aw) _
   have z5:=Aq x7;have b5:(k:Int)≤80:=by omega
   clear x7 Y z y6 y0 c5 b0 hj z7 F;by_cases h1:(k:Int)+1<n
   ·have h2:¬ (k:Int)<80:=fun h=>z0 ⟨h1,h⟩
    go_wp2;refine bodyPost_ret (v:=.agg #[(.slice Q (cq s j).aT.length co),(.slice P (cq s j).aF.length U),(.slice At (cq s j).aB.length C),(.slice G (cq s j).aJ.length ce)]) (by simp[results,Tryz.results13,go_sem,S,R,y2,y3]) rfl ?_;exact z5.o _ rfl
   ·go_wp2;refine bodyPost_ret (v:=.agg #[(.slice Q (cq s j).aT.length co),(.slice P (cq s j).aF.length U),(.slice At (cq s j).aB.length C),(.slice G (cq s j).aJ.length ce)]) (by simp[results,Tryz.results13,go_sem,S,R,y2,y3]) rfl ?_;exact z5.o _ rfl
theorem Zam {w:World}{B size n m:Nat}{A:Option Addr}{xs:List Value}(h:aE w B size A n xs)(y:m≤n):aE w B size A m (xs.take (m*size)):=by
 refine⟨by rw[Du,h.1];exact pp (pD _ y),fun k=>?_⟩;obtain⟨b,off,e,z,v⟩:=h.2 (by omega);refine⟨b,off,e,z,fun j u x=>v j u ?_⟩;rw[oB]at x;split at x
 ·exact x
 ·cases x
theorem Vm {w:World}{A:Option Addr}{xs:List Int} (h:af (Repr.int (N0:=w.heap.size)) 3 w w.heap.size A xs) (k:Nat):∃m,(m=min xs.length k)∧aE w w.heap.size 1 A m (ae (xs.take m))∧(xs.take m).length=m∧∀x∈xs.take m,bK x:=by
 refine⟨min xs.length k,rfl,?_,by rw[Du];omega,fun x z=>?_⟩
 ·have y:aE w w.heap.size 1 A xs.length (ae xs):=by
   have:=h.iO (fun x=>[Aj x]) fun _ _ h=>h.1
   rw[Oi]at this;exact this
  have:=Zam y (m:=min xs.length k) (by omega);rw[ow]at this;rw[show ae (xs.take (min xs.length k))=(ae xs).take (min xs.length k) by simp[ae,pK]];exact this
 ·obtain⟨i,hi⟩:=pd (qp z);obtain⟨_,_,_,_,_,hrel,_⟩:=h.get hi;exact hrel.2
theorem We {N0:Nat}{w:World}{B:Nat}{A:Option Addr} {l:List (Int×Int)} (h:af (Jp N0) 96 w B A l):∀x∈l,bK x.2:=fun x z=>by
 obtain⟨i,hi⟩:=pd z;obtain⟨_,_,_,_,_,hrel,_⟩:=h.get hi;obtain⟨_,_,_,_,y⟩:=hrel;exact y.2
theorem Zfj {N0:Nat}{w:World}{B:Nat}{A:Option Addr} {ll:List (List (Int×Int))} (h:af (Em N0) 24 w B A ll):∀l∈ll,∀x∈l,bK x.2:=fun l y=>by
 obtain⟨i,hi⟩:=pd y;obtain⟨_,_,_,_,_,hrel,_⟩:=h.get hi;obtain⟨_,_,_,_,_,z⟩:=hrel;exact We z
theorem bv.nums {N0 B:Nat}{W:World}{v z y:Option Addr}{c0 k c2:Nat} {fl:List (List (Int×Int))} {u:List (Int×Int)} {cl:List Int} {size:Int} (h:bv N0 B W v z y c0 k c2 fl u cl size):aE W B 1 y cl.length (ae cl):=by
 have:=h.c.2.2.iO (fun x=>[Aj x]) fun _ _ h=>h.1
 rw[Oi]at this;exact this
theorem bv.go {N0:Nat}{X Y:World}{u x z:Option Addr}{c0 k c2:Nat} {fl:List (List (Int×Int))} {y:List (Int×Int)} {cl:List Int} {size:Int} (h:bv N0 X.heap.size X u x z c0 k c2 fl y cl size) (v:Below X.heap.size X Y):bv N0 Y.heap.size Y u x z c0 k c2 fl y cl size:=(h.below v Aw).aY v.size
theorem Zcv {N0:Nat}(W:World){u y p:Option Addr}{c0 v c3:Nat} {fl:List (List (Int×Int))} {x:List (Int×Int)} {cl:List Int} {size:Int} (h:bv N0 W.heap.size W u y p c0 v c3 fl x cl size) (b:fl.length≤30) (q:∀f∈fl,f.length≤300) (c:x.length≤300) (z:Zn) (oA uA tA eA:Option Addr) (oc uc tc ec:Nat) (r:dC W W.heap.size z oA uA tA eA) (a:ek z) :
  Calls Tryz.prog 27 #[.agg #[.slice u fl.length c0,.slice y x.length v,.slice p cl.length c3,Aj size],.agg #[.slice oA z.aT.length oc,.slice uA z.aF.length uc,.slice tA z.aB.length tc,.slice eA z.aJ.length ec]] W fun e w'=>e=.returned (.bool true)∧Below W.heap.size W w' :=
 Zgr fl x cl size z u y p oA uA tA eA c0 v c3 oc uc tc ec W (Zfk h.f.2.2) (Nh h.m.2.2) h.nums r a (by omega) (fun f s=>by have:=q f s;omega) (by omega) (by have:=h.k;omega) (Zfj h.f.2.2) (We h.m.2.2)
def SpV (N0 r:Nat)(A:Option Addr)(q m z:Nat)(q0 q1 q2 q3:Int)(i:Nat)(v:Value)(W:World):Prop :=
 match i with
 |0|1=>v=.slice A q z
 |2=>v=Aj (q:Int)
 |3=>v=Aj (m:Int)
 |4=>v=.slice A m z
 |5|7=>∃B u y p c0 k c2 fl x cl size,B≤W.heap.size∧v=.agg #[.slice u (List.length fl) c0,.slice y (List.length x) k,.slice p (List.length cl) c2,Aj size]∧bv N0 B W u y p c0 k c2 fl x cl size∧fl.length≤30∧(∀f∈fl,f.length≤300)∧x.length≤300
 |6=>v=.agg #[Aj q0,Aj q1,Aj q2,Aj q3]
 |8=>∃g,v=.pointer (some ⟨g,0,none⟩)∧r≤g∧aH W g 26 #[.slice none 0 0,.slice none 0 0,.slice none 0 0,Aj 0]
 |_=>True
theorem SpV.cW {N0 p:Nat}{A:Option Addr}{n m k:Nat}{q0 q1 q2 q3:Int}{i:Nat}{v:Value}{W W':World}(h:SpV N0 p A n m k q0 q1 q2 q3 i v W)(z:bJ W W'):SpV N0 p A n m k q0 q1 q2 q3 i v W':=by
 match i with
 |0|1|2|3|4|6=>exact h
 |5|7=>obtain⟨B,c,r,j,c0,b,d,fl,s,cl,size,q,e,u,y,f,a⟩:=h;exact⟨B,c,r,j,c0,b,d,fl,s,cl,size,Ex q z.size,e,u.below (qO z Aw) q,y,f,a⟩
 |8=>obtain⟨g,e,u,y⟩:=h;exact⟨g,e,u,z.aG y (fun x=>x)⟩
 |i+9=>trivial
theorem Jm (A P:Option Addr)(H pc:Nat)(xs ps:List Int)(q0 q1 q2 q3:Int)(w:World)(h1:xs.length≤H)(h2:H≤maxLen) (hr:af (Repr.int (N0:=w.heap.size)) 3 w w.heap.size A xs) (p1:ps.length≤pc) (p2:pc≤maxLen) (pr:af (Repr.int (N0:=w.heap.size)) 3 w w.heap.size P ps) (y7:bK q0) (z5:bK q1) (z0:bK q2) (y5:bK q3) :
  Calls Tryz.prog 11 #[.slice A xs.length H,.slice P ps.length pc,.agg #[Aj q0,Aj q1,Aj q2,Aj q3]] w fun e w'=>e=.returned (.bool true)∧Below w.heap.size w w':=by
 obtain⟨m,hm,hp,z6,hK⟩:=Vm hr 300;obtain⟨n,hn,hv,qs,_⟩:=Vm pr 80;have z9:m≤xs.length∧m≤300:=by omega
 have v9:n≤ps.length∧n≤80:=by omega
 have v1:(if (300:Int)<(xs.length:Int) then(300:Int) else(xs.length:Int))=(m:Int):=by split <;> omega
 have v3:(if (80:Int)<(ps.length:Int) then(80:Int) else(ps.length:Int))=(n:Int):=by split <;> omega
 have v0:n≤pc:=by omega
 have v5:m≤H:=by omega
 have HR:=Aq hp;have HX:=Aq hK;have ml:=Aq qs;have hd:=Aq hv;unfold maxLen at h2 p2;have _h2i:(H:Int)≤9223372036854775807:=by omega
 have _p2i:(pc:Int)≤9223372036854775807:=by omega
 clear hr hp hK h2 pr hv p2 qs z6 hm hn;generalize xs.length=nx at *;generalize xs.take m=ys at *;generalize ps.length=np at *;generalize ps.take n=J at *;have x8:=Aq (qG w 54 #[Aj q0,Aj q1,Aj q2,Aj q3]);have V:=Aq (Hr w (.cells #[Aj q0,Aj q1,Aj q2,Aj q3] 54));have z8:w.heap.size<(w.alloc (.cells #[Aj q0,Aj q1,Aj q2,Aj q3] 54)).heap.size:=by simp
 go_enter Tryz.func11,Tryz.ntmps11;go_upto_region 1 with fail
 generalize w.alloc (.cells #[Aj q0,Aj q1,Aj q2,Aj q3] 54)=X at *;refine Et (SpV w.heap.size X.heap.size A nx m H q0 q1 q2 q3) (fun W=>bJ X W) bJ (by as_aux_lemma=>kernel_rfl) (by as_aux_lemma=>kernel_rfl) 9 rfl ?_ ?_ ?_ ?_
 ·intro y9 v W W' G hr;exact G.cW hr
 ·exact(qF _ _).drew
 ·intro z1 ev val W hj E a D;have _ec:=a.const;have _ef:=a.func;have s:=Aq E;have z4:=E.size;clear E
  match z1,hj with
  |0,_ =>
   have _s0:ev (.tmp 0)=.slice A nx H:=a.dS 0 (by kernel_rfl);refine⟨_,rfl,rfl,?_⟩;unfold Bl;go_simp;exact⟨rfl,s.o,qF _ _⟩
  |1,_ =>
   have _s0:ev (.tmp 0)=.slice A nx H:=a.dS 0 (by kernel_rfl);refine⟨_,rfl,rfl,?_⟩;unfold Bl;go_simp;exact⟨rfl,s.o,qF _ _⟩
  |2,_ =>
   have d1:=D 1 (by kernel_rfl);have x1:=a.bY 1 9;simp only[SpV]at d1;rw[d1]at x1;refine⟨_,rfl,rfl,?_⟩;unfold Bl;go_simp;exact⟨rfl,s.o,qF _ _⟩
  |3,_ =>
   have d2:=D 2 (by kernel_rfl);have x2:=a.bY 2 10;simp only[SpV]at d2;rw[d2]at x2;refine⟨_,rfl,rfl,?_⟩;unfold Bl;go_simp;exact⟨rfl,s.o,qF _ _⟩
  |4,_ =>
   have d0:=D 0 (by kernel_rfl);have x0:=a.bY 0 8;simp only[SpV]at d0;have d3:=D 3 (by kernel_rfl);have x3:=a.bY 3 11;simp only[SpV]at d3;rw[d0]at x0;rw[d3]at x3;refine⟨_,rfl,rfl,?_⟩;unfold Bl;go_simp;exact⟨rfl,s.o,qF _ _⟩
  |5,_ =>
   have d4:=D 4 (by kernel_rfl);have x4:=a.bY 4 12;simp only[SpV]at d4;rw[d4]at x4;refine⟨_,rfl,rfl,?_⟩;unfold Bl;go_simp;have y8:=qO s.o Aw;have C:=V.o.trans (y8.mono V.o.size);refine(Xu w.heap.size W A m H ys C.size ((HR.o.below C Aw).aY C.size) HX.o (by omega)).mono ?_;rintro e O⟨z3,z7,y4,k0,k1,k2,fl,j,cl,size,rfl,g,U,l,Z,A3⟩;have N:bJ W O:=qN A3 (fun k d _=>d);exact⟨_,rfl,⟨O.heap.size,_,_,_,_,_,_,_,_,_,_,Aw,rfl,g,U,l,Z⟩,s.o.trans N,N⟩
  |6,_ =>
   have _s5:ev (.tmp 5)=.pointer (some ⟨w.heap.size,0,none⟩):=a.dS 5 (by kernel_rfl);have I:=s.o.aG x8.o (fun x=>x);have y0:=I.cell 0;have y1:=I.cell 1;have y2:=I.cell 2;have y3:=I.cell 3;simp only[Az,Ay,Ba]at y0 y1 y2 y3;have pl:=I.lt;clear I;refine⟨_,rfl,rfl,?_⟩;unfold Bl;go_simp;exact⟨rfl,s.o,qF _ _⟩
  |7,_ =>
   have d5:=D 5 (by kernel_rfl);have x5:=a.bY 5 13;simp only[SpV]at d5;have d6:=D 6 (by kernel_rfl);have x6:=a.bY 6 14;simp only[SpV]at d6;rw[d6]at x6;obtain⟨B,u,y,A2,c0,q,c2,fl,j,cl,size,hB,G,g,U,l,Z⟩:=d5;rw[G]at x5;have S:=Aq g;have hb:=Aq l;clear G g l;refine⟨_,rfl,rfl,?_⟩;unfold Bl;go_simp;have C:=V.o.trans ((qO s.o Aw).mono V.o.size);refine(Xc w.heap.size W u y A2 c0 q c2 fl j cl size q0 q1 q2 q3 C.size (S.o.aY hB) y7 z5 z0 y5 U hb.o Z).mono ?_;rintro e O⟨z3,z7,y4,k0,k1,k2,v4,v6,v2,size',rfl,g,U,l,Z,A3⟩;have N:bJ W O:=qN A3 (fun k d _=>d);exact⟨_,rfl,⟨O.heap.size,_,_,_,_,_,_,_,_,_,_,Aw,rfl,g,U,l,Z⟩,s.o.trans N,N⟩
  |8,_ =>
   refine⟨_,rfl,rfl,?_⟩;unfold Bl;go_simp;exact⟨⟨_,rfl,z4,qG _ _ _⟩,s.o.alloc _,(qF _ _).alloc _⟩
  |y9+9,hi=>exact absurd hi (by simp)
 intro val W E hV;have v7:=hV 7 (by simp);have v8:=hV 8 (by simp);simp only[SpV]at v7 v8;obtain⟨B,u,y,b,c0,q,c,fl,j,cl,size,hB,G,g,U,l,Z⟩:=v7;obtain⟨i,z2,y6,M⟩:=v8;have b0:=M.cell;have b1:=M.frozen;have b2:=M.lt;have S:=Aq (g.aY hB);have HG:=Aq E;have F:=Aq M;have hb:=Aq l;have HF:=Aq U;have HM:=Aq Z;clear hV E M g l hB U Z;unfold wpOp;change (if _ then _ else _);rw[if_pos (by kernel_rfl)];refine .inl ?_;simp only[Lp,Fw,Az,Ay,Ba,px];go_simp;have Q:w.heap.size≤i:=Ex V.o.size y6;have w5:Below w.heap.size w W:=V.o.trans ((qO HG.o Aw).mono V.o.size);have hG:Hid (aH ((((W.setCell ⟨i,0,none⟩ (.slice u fl.length c0)).setCell ⟨i,1,none⟩ (.slice y j.length q)).setCell ⟨i,2,none⟩ (.slice b cl.length c)).setCell ⟨i,3,none⟩ (Aj size)) i 26 #[.slice u fl.length c0,.slice y j.length q,.slice b cl.length c,Aj size]):=Aq (by simpa using (((F.o.aX 0 (.slice u fl.length c0)).aX 1 (.slice y j.length q)).aX 2 (.slice b cl.length c)).aX 3 (Aj size));have A0:Hid (bv w.heap.size ((((W.setCell ⟨i,0,none⟩ (.slice u fl.length c0)).setCell ⟨i,1,none⟩ (.slice y j.length q)).setCell ⟨i,2,none⟩ (.slice b cl.length c)).setCell ⟨i,3,none⟩ (Aj size)).heap.size ((((W.setCell ⟨i,0,none⟩ (.slice u fl.length c0)).setCell ⟨i,1,none⟩ (.slice y j.length q)).setCell ⟨i,2,none⟩ (.slice b cl.length c)).setCell ⟨i,3,none⟩ (Aj size)) u y b c0 q c fl j cl size):=Aq (by
  simp only[Br];exact(((S.o.setCell F.o Q 0 _).setCell (F.o.aX 0 _) Q 1 _).setCell ((F.o.aX 0 _).aX 1 _) Q 2 _).setCell (((F.o.aX 0 _).aX 1 _).aX 2 _) Q 3 _)
 have pb:Hid (Below w.heap.size w ((((W.setCell ⟨i,0,none⟩ (.slice u fl.length c0)).setCell ⟨i,1,none⟩ (.slice y j.length q)).setCell ⟨i,2,none⟩ (.slice b cl.length c)).setCell ⟨i,3,none⟩ (Aj size))):=Aq ((((w5.setCell (p:=⟨i,0,none⟩) Q _).setCell (p:=⟨i,1,none⟩) Q _).setCell (p:=⟨i,2,none⟩) Q _).setCell (p:=⟨i,3,none⟩) Q _);clear w5 x8 HG F S b0 b1 b2 G z2 V;generalize x9:((((W.setCell ⟨i,0,none⟩ (.slice u fl.length c0)).setCell ⟨i,1,none⟩ (.slice y j.length q)).setCell ⟨i,2,none⟩ (.slice b cl.length c)).setCell ⟨i,3,none⟩ (Aj size))=X1 at *;clear x9;clear z8;obtain⟨Y,hk⟩:∃Y,Y=X1:=⟨_,rfl⟩;rw[←hk]at hG A0 pb ⊢;clear hk;obtain⟨S,_⟩:Hid _∧True:=⟨A0,trivial⟩;clear A0;go_upto_region 2 with fail
 have HS:=Aq (show aH Y i 26 #[.slice u fl.length c0,.slice y j.length q,.slice b cl.length c,Aj size] from hG.o);have hS:aH Y.drew i 26 #[.slice u fl.length c0,.slice y j.length q,.slice b cl.length c,Aj size]:=HS.o;refine Cv [0,8,9] [2] [8] 12 (fun wq=>aH wq i 26 #[.slice u fl.length c0,.slice y j.length q,.slice b cl.length c,Aj size]) ?_;refine Bi fun K R=>?_;go_simp
 refine(Zdm _).mono ?_;rintro e w6⟨rfl,r⟩;have L:=Aq (pb.o.drew.trans (r.mono pb.o.size));have T:=Aq (qQ hS r);have ho:=Aq (S.o.go (((ny Y.heap.size Y).drew).trans r));have ac:=Aq ((hd.o.below L.o Aw).aY L.o.size);clear pb HS hS S hd r;refine R _ _ (fun _=>T.o) ?_;clear R K
 iterate 1 (refine Be ?_)
 refine Gl (v:=_) rfl rfl (by kernel_rfl) (fun _ _ _ h=>h) T.o rfl (fun wq hq=>by have d:=hq;have q0:=d.cell 0;have q1:=d.cell 1;have q2:=d.cell 2;have q3:=d.cell 3;simp only[Az,Ay,Ba]at q0 q1 q2 q3;have ql:=d.lt;clear d hq;first|(go_simp;done)|(go_simp;rfl)) ?_
 iterate 4 (refine Be ?_)
 go_simp
 iterate 1 (refine Be ?_)
 refine Bi fun K R=>?_;go_simp
 have A1:=Ta P pc w6.heap.size J w6 (by rw[ml.o];exact ac.o) Aw (by have:=ml.o;omega);rw[ml.o]at A1;refine A1.mono ?_;obtain⟨z,hz⟩:∃z,z=cq J (n4 J):=⟨_,rfl⟩;have HZ:=Aq (show ek z by rw[hz];exact nE J (n4 J) (by unfold n4;omega));rw[←hz];clear hz A1 ac;rintro e w7⟨og,cu,tu,en,rfl,f,hg⟩;obtain⟨O1,o1,rfl,_⟩:=Bc f.1;obtain⟨O2,o2,rfl,_⟩:=Bc f.2.1;obtain⟨O3,o3,rfl,_⟩:=Bc f.2.2.1;obtain⟨O4,o4,rfl,_⟩:=Bc f.2.2.2;have r:=qO hg Aw;have c1:=Aq (L.o.trans (r.mono L.o.size));have x7:=Aq (qQ T.o r);have c3:=Aq (ho.o.go r);have hf:=Aq (show dC w7 w7.heap.size z O1 O2 O3 O4 from⟨qI f.1,qI f.2.1,qI f.2.2.1,qI f.2.2.2⟩);clear L T ho f hg r;refine R _ _ (fun _=>x7.o) ?_;clear R K;refine Bi fun K R=>?_;go_simp
 refine(Zcv w7 c3.o HF.o hb.o HM.o z O1 O2 O3 O4 o1 o2 o3 o4 hf.o HZ.o).mono ?_;rintro e w8⟨rfl,r⟩;have C:=c1.o.trans (r.mono c1.o.size);clear c1 x7 c3 hf r;refine Bh R ?_;clear R K
 iterate 2 (refine Be ?_)
 refine Bb ?_;go_wp2_with fail
 go_ret;exact⟨rfl,C⟩
end
end Go.Proofs.YtnhebmgibiomnaaGreat

import Derived.Test.YtnhebmgibiomnaaGreatPi21
import Derived.Test.YtnhebmgibiomnaaGreatPi22
set_option linter.unusedVariables false
set_option linter.unusedSimpArgs false
set_option maxRecDepth 100000
set_option maxHeartbeats 8000000
namespace Go.Proofs.YtnhebmgibiomnaaGreat
section
open Mc
namespace Sr
theorem Ml {aA:List bE}(h:right aA=true):1≤aA.length∧aA.length≤80000∧fitsAll aA=true∧0≤(aA.getD (aA.length-1) kK).n∧(aA.getD (aA.length-1) kK).n≤64:=by
 have v:=gJ h;unfold right at h;simp only[Fa,decide_eq_true_eq]at h;obtain⟨⟨⟨u,z⟩,k⟩,x⟩:=h;rw[qz]at x;obtain⟨r,y,_⟩:=v;rw[y]at x;simp only[decide_eq_true_eq]at x;exact⟨u,z,k,by rw[Bo,y];exact x⟩
theorem Zaa {aA:List bE}(y:fitsAll aA=true):∀(n:Nat) (s:St),s.pc<aA.length→s.steps≤s.pc→(runs n aA s).steps≤(runs n aA s).pc∧(runs n aA s).pc<aA.length
 |0,s,h,k=>⟨k,h⟩
 |n+1,s,h,k=>by
  by_cases x:(aA.getD s.pc kK).op=42
  ·rw[gp x];exact⟨k,h⟩
  ·rw[gI x];obtain⟨r,z⟩:∃r,aA[s.pc]?=some r:=⟨_,Bf h⟩;rw[Bo,z,oK]at x;obtain⟨v,p,u,_⟩:=iu y z x;exact Zaa y n _ u (by omega)
theorem gE (r:bE)(s:St):(deed r s).aW.length=s.aW.length:=by
 unfold deed;split
 all_goals first|rfl|(simp only[put,Dh];done)|(simp only[cC];split <;> rfl)|(split <;> rfl)
theorem Qs (aA:List bE):∀(n:Nat) (s:St),(runs n aA s).aW.length=s.aW.length
 |0,s=>rfl
 |n+1,s=>by
  unfold runs;split
  ·rfl
  ·rw[Qs aA n];unfold step;rw[gE]
theorem Zfg (aA:List bE)(aP:List Int)(size:Int)(z:Zn):(run aA aP size z).aW.length=64:=by
 unfold run;rw[Qs];simp[ah]
theorem Zad {aA:List bE}(h:right aA=true)(aP:List Int)(size:Int)(z:Zn):(run aA aP size z).steps<aA.length:=by
 obtain⟨u,y,x,_⟩:=Ml h;obtain⟨a,b⟩:=Zaa x aA.length (ah aP size z) (by show 0<aA.length;omega) Aw;unfold run;omega
theorem Nw {aA:List bE}(h:right aA=true)(aP:List Int)(size:Int)(z:Zn):((eM (run aA aP size z) (bm aA)).stack.length:Int)=(aA.getD (aA.length-1) kK).n:=by
 obtain⟨r,x,u,y⟩:=gJ h;unfold eM;simp only[oX,Du,Zfg];rw[Bo,x,oK];omega
def ahead:List bE:=[⟨35,0,0,0,2⟩,⟨34,0,0,0,0⟩,⟨1,3,0,0,9⟩]
end Sr
end
section
open Go.RowKit Mc
def Ot:List (Int×Int):=[(5,0)]
theorem Zo:Bu.build [] Md=(be,0):=by kernel_rfl
theorem Zdv:Bu.build [] Ot=([],51):=by kernel_rfl
theorem Mb:Sr.right be=true:=by kernel_rfl
theorem Zeq:Sr.right (be.take 3)=false:=by kernel_rfl
theorem Re:Sr.right []=false:=by kernel_rfl
theorem Zep:(Sr.eM (Sr.run be [] 0 ⟨[],[],[],[]⟩) (Sr.bm be)).stack=[12]∧(Sr.eM (Sr.run be [] 0 ⟨[],[],[],[]⟩) (Sr.bm be)).steps=3:=⟨by kernel_rfl,by kernel_rfl⟩
structure BtA (w:World) (pb g k:Nat) (X:World):Prop where
 p:aH X pb 26 #[.slice none 0 0,.slice (some ⟨g,0,none⟩) 3 3,.slice none 0 0,Aj 0]
 i:aE X X.heap.size 2 (some ⟨g,0,none⟩) 3 (Cu Md)
 r:aE X X.heap.size 5 (some ⟨k,0,none⟩) 4 (Ch be)
 b:Below w.heap.size w X
theorem aH.go {X Y:World}{g:Nat}{t:TypeId}{cs:Array Value}(h:aH X g t cs)(x:Below X.heap.size X Y):aH Y g t cs:=(x.block g h.lt).trans h
abbrev qQ:=@aH.go
theorem aE.go {X Y:World}{size:Nat}{A:Option Addr}{n:Nat}{xs:List Value}(h:aE X X.heap.size size A n xs)(x:Below X.heap.size X Y):aE Y Y.heap.size size A n xs:=(h.below x Aw).aY x.size
abbrev qL:=@aE.go
theorem Hr (X:World)(o:Obj):Below X.heap.size X (X.alloc o):=aI.alloc Aw _
theorem BtA.go {w:World}{y g k:Nat}{X Y:World}(h:BtA w y g k X)(x:Below X.heap.size X Y):BtA w y g k Y :=
 ⟨qQ h.p x,qL h.i x,qL h.r x,h.b.trans (x.mono h.b.size)⟩
structure m_ (rb:Nat) (cs:Array Value) (kA ko:Nat) (X:World):Prop where
 aG:aH X rb 39 cs
 lt:kA<X.heap.size
 aL:X.cell? ⟨kA,ko,none⟩=some (Aj 12)
theorem m_.go {rb:Nat}{cs:Array Value}{y x:Nat}{X Y:World}(h:m_ rb cs y x X)(z:Below X.heap.size X Y):m_ rb cs y x Y :=
 ⟨qQ h.aG z,by have:=z.size;have:=h.lt;omega,(z.cell (p:=⟨y,x,none⟩) h.lt).trans h.aL⟩
structure BtE (w:World) (pb g k:Nat) (A:Option Addr) (rb:Nat) (cs:Array Value) (kA ko sb:Nat) (cs':Array Value) (kA' ko' nb:Nat) (cs'':Array Value) (X:World):Prop where
 a:BtA w pb g k X
 v:aE X X.heap.size 5 A 4 (Ch be)
 r:m_ rb cs kA ko X
 s:m_ sb cs' kA' ko' X
 n:aH X nb 39 cs''
theorem BtE.go {w:World}{b g k:Nat}{A:Option Addr}{rb:Nat}{cs:Array Value}{c q sb:Nat}{cs':Array Value}{z p y:Nat}{u:Array Value}{X Y:World}(h:BtE w b g k A rb cs c q sb cs' z p y u X)(x:Below X.heap.size X Y):BtE w b g k A rb cs c q sb cs' z p y u Y :=
 ⟨h.a.go x,qL h.v x,h.r.go x,h.s.go x,qQ h.n x⟩
theorem Yv (X:World):dC X X.heap.size ⟨[],[],[],[]⟩ none none none none:=⟨qK,qK,qK,qK⟩
theorem Nt:ek ⟨[],[],[],[]⟩:=⟨by simp,by simp,by simp,by simp⟩
theorem Zl (X:World)(A:Option Addr)(c g:Nat) (h:aE X X.heap.size 5 A 4 (Ch be)) :
  Calls Tryz.prog 17 #[.slice A 4 c,.agg #[.slice none 0 0,.slice (some ⟨g,0,none⟩) 3 3,.slice none 0 0,Aj 0],.agg #[.slice none 0 0,.slice none 0 0,.slice none 0 0,.slice none 0 0]] X fun e Y =>
   ∃(v0:Option Addr) (S a:Nat) (v1:Option Addr) (w r:Nat) (k:Option Addr) (f z:Nat) (v3:Option Addr) (j u:Nat) (v4:Option Addr) (m p:Nat) (v:Option Addr) (s y d q:Nat),e=.returned (.agg #[.slice v0 S a,.slice v1 w r,.slice k f z,.slice v3 j u,.slice v4 m p,.slice v 32 s,.slice (some ⟨y,d,none⟩) 1 q,Aj 3,Aj 0,Aj 0])∧Below X.heap.size X Y∧y<Y.heap.size∧Y.cell? ⟨y,d,none⟩=some (Aj 12):=by
 refine(Uz X be A c [] 0 ⟨[],[],[],[]⟩ (by simp) Nt (by decide) none (some ⟨g,0,none⟩) none none none none none 0 0 3 3 0 0 0 0 0 h qK (Yv X) Mb).mono ?_;rintro e Y⟨B,D,C,en,cv,st,sk,rfl,x,l⟩;obtain⟨s1,o⟩:=Zep;have K:=x.og;have i:=x.cu;have V:=x.to;have H:=x.en;have U:=x.cv;have Q:=x.st;have Z:Y.ownsRow X.heap.size 3 1 sk 1 [Aj 12]:=by have:=x.sk;rw[s1]at this;exact this
 obtain⟨v0,a,rfl,_⟩:=Gi K;obtain⟨v1,r,rfl,_⟩:=Gi i;obtain⟨k,z,rfl,_⟩:=Gi V;obtain⟨v3,u,rfl,_⟩:=Gi H;obtain⟨v4,p,rfl,_⟩:=Gi U;obtain⟨v,s,rfl,_⟩:=Gi Q;obtain⟨y,q,rfl,n⟩:=Gi Z;obtain⟨b,off,rfl,R,P⟩:=n.2 (by decide);exact⟨v0,_,a,v1,_,r,k,_,z,v3,_,u,v4,_,p,v,s,b,off,q,by rw[o];rfl,l,R,P 0 _ rfl⟩
theorem Zii {X:World}{k:Nat} (h:aE X X.heap.size 5 (some ⟨k,0,none⟩) 4 (Ch be)):aE X X.heap.size 5 (some ⟨k,0,none⟩) (be.take 3).length (Ch (be.take 3)):=by
 obtain⟨_,z⟩:=h;obtain⟨b,off,e,v,p⟩:=z (by decide);refine⟨rfl,fun _=>⟨b,off,e,v,fun j u x=>p j u ?_⟩⟩;have y:Ch be=Ch (be.take 3)++[Aj 42,Aj 0,Aj 0,Aj 0,Aj 1]:=rfl;rw[y,Ez (aS.1 x).1];exact x
theorem Qv (X:World)(B:Nat):cN X B none []:=⟨[],qK,fun i l h=>by simp at h⟩
theorem Zm (X:World)(g:Nat) (h:aE X X.heap.size 2 (some ⟨g,0,none⟩) 3 (Cu Md)) :
  Calls Tryz.prog 14 #[.agg #[.slice none 0 0,.slice (some ⟨g,0,none⟩) 3 3,.slice none 0 0,Aj 0]] X fun e Y=>∃A c,e=.returned (.tuple #[.slice A 4 c,Aj 0])∧Below X.heap.size X Y∧aE Y Y.heap.size 5 A 4 (Ch be):=by
 refine(Ni none (some ⟨g,0,none⟩) 0 3 (.slice none 0 0) 0 [] Md X ⟨_,_,_,rfl⟩ (Qv X _) h (by simp) (by decide) (by simp) (by unfold bK Md;simp)).mono ?_;rintro e Y⟨v,rfl,z,x⟩;rw[Zo]at x ⊢;obtain⟨A,c,rfl,y⟩:=Gi x;exact⟨A,c,rfl,z,y⟩
theorem Zdu (X:World)(g:Nat) (h:aE X X.heap.size 2 (some ⟨g,0,none⟩) 1 (Cu Ot)) :
  Calls Tryz.prog 14 #[.agg #[.slice none 0 0,.slice (some ⟨g,0,none⟩) 1 1,.slice none 0 0,Aj 0]] X fun e Y=>∃v,e=.returned (.tuple #[v,Aj 51])∧Below X.heap.size X Y:=by
 refine(Ni none (some ⟨g,0,none⟩) 0 1 (.slice none 0 0) 0 [] Ot X ⟨_,_,_,rfl⟩ (Qv X _) h (by simp) (by decide) (by simp) (by unfold bK Ot;simp)).mono ?_;rintro e Y⟨v,rfl,x,y⟩;rw[Zdv];exact⟨v,rfl,x⟩
theorem Zkl (X:World)(g:Nat) :
  Calls Tryz.prog 17 #[.slice none 0 0,.agg #[.slice none 0 0,.slice (some ⟨g,0,none⟩) 3 3,.slice none 0 0,Aj 0],.agg #[.slice none 0 0,.slice none 0 0,.slice none 0 0,.slice none 0 0]] X (mD X) :=
 Zz X [] none 0 [] 0 ⟨[],[],[],[]⟩ (by simp) Nt (by simp) none (some ⟨g,0,none⟩) none none none none none 0 0 3 3 0 0 0 0 0 qK qK (Yv X) Re
theorem Zdm (w:World):Calls Tryz.prog 15 #[] w fun e w'=>e=.returned (.bool true)∧Below w.heap.size w w':=by
 go_enter Tryz.func15,Tryz.ntmps15;go_wp2_with fail
 refine(Zij w).mono ?_;rintro e w1⟨g,k,rfl,y,hg,hk⟩;go_upto_region 2 with fail
 have h1:BtA w w1.heap.size g k (w1.alloc (.cells #[.slice none 0 0,.slice (some ⟨g,0,none⟩) 3 3,.slice none 0 0,Aj 0] 26)):=⟨qG _ _ _,qL hg (Hr _ _),qL hk (Hr _ _),y.alloc y.size _⟩;have H1:=Aq h1;clear h1 y hg hk;generalize w1.alloc (.cells #[.slice none 0 0,.slice (some ⟨g,0,none⟩) 3 3,.slice none 0 0,Aj 0] 26)=X at *;generalize w1.heap.size=pb at *;have c0:=H1.o.p.cell 0;have q:=H1.o.p.cell 1;have u:=H1.o.p.cell 2;have d:=H1.o.p.cell 3;simp only[Az,Ay,Ba]at c0 q u d;have U:=H1.o.p.lt;go_wp2_with fail
 refine(Zm X g H1.o.i).mono ?_;rintro e w2⟨A,c,rfl,y,hv⟩;go_upto_region 3 with fail
 have V:=Aq (H1.o.go y);have sl:=Aq hv;clear c0 q u d U H1 y hv;have c0:=V.o.p.cell 0;have q:=V.o.p.cell 1;have u:=V.o.p.cell 2;have d:=V.o.p.cell 3;simp only[Az,Ay,Ba]at c0 q u d;have U:=V.o.p.lt;go_wp2_with fail
 refine(Zl w2 A c g sl.o).mono ?_;rintro e w3⟨a0,n9,hl,a1,c1,H3,a2,J,L,a3,N,H5,a4,r5,c3,a5,a6,D,C,kc,rfl,y,F,E⟩;go_upto_region 4 with fail
 have z:=y.alloc y.size (.cells #[.slice a0 n9 hl,.slice a1 c1 H3,.slice a2 J L,.slice a3 N H5,.slice a4 r5 c3,.slice a5 32 a6,.slice (some ⟨D,C,none⟩) 1 kc,Aj 3,Aj 0,Aj 0] 39);have H:=Aq (V.o.go z);have lo:=Aq (qL sl.o z);have b3:Hid (m_ w3.heap.size #[.slice a0 n9 hl,.slice a1 c1 H3,.slice a2 J L,.slice a3 N H5,.slice a4 r5 c3,.slice a5 32 a6,.slice (some ⟨D,C,none⟩) 1 kc,Aj 3,Aj 0,Aj 0] D C (w3.alloc (.cells #[.slice a0 n9 hl,.slice a1 c1 H3,.slice a2 J L,.slice a3 N H5,.slice a4 r5 c3,.slice a5 32 a6,.slice (some ⟨D,C,none⟩) 1 kc,Aj 3,Aj 0,Aj 0] 39))):=Aq ⟨qG _ _ _,by simp;omega,(Cc _ _ _ F).trans E⟩;clear c0 q u d U V sl y z F E;generalize w3.alloc (.cells #[.slice a0 n9 hl,.slice a1 c1 H3,.slice a2 J L,.slice a3 N H5,.slice a4 r5 c3,.slice a5 32 a6,.slice (some ⟨D,C,none⟩) 1 kc,Aj 3,Aj 0,Aj 0] 39)=X3 at *;generalize w3.heap.size=rb at *;have c0:=H.o.p.cell 0;have q:=H.o.p.cell 1;have u:=H.o.p.cell 2;have d:=H.o.p.cell 3;simp only[Az,Ay,Ba]at c0 q u d;have U:=H.o.p.lt;go_wp2_with fail
 refine(Zl X3 (some ⟨k,0,none⟩) 4 g H.o.r).mono ?_;rintro e w4⟨I,O,HE,W,nl,T,b2,M,c2,G,kl,H2,b4,hb,r9,b5,b6,B,S,lc,rfl,y,F,E⟩;go_upto_region 5 with fail
 have z:=y.alloc y.size (.cells #[.slice I O HE,.slice W nl T,.slice b2 M c2,.slice G kl H2,.slice b4 hb r9,.slice b5 32 b6,.slice (some ⟨B,S,none⟩) 1 lc,Aj 3,Aj 0,Aj 0] 39);have H4:=Aq (H.o.go z);have b0:=Aq (qL lo.o z);have lA:=Aq (b3.o.go z);have kA:Hid (m_ w4.heap.size #[.slice I O HE,.slice W nl T,.slice b2 M c2,.slice G kl H2,.slice b4 hb r9,.slice b5 32 b6,.slice (some ⟨B,S,none⟩) 1 lc,Aj 3,Aj 0,Aj 0] B S (w4.alloc (.cells #[.slice I O HE,.slice W nl T,.slice b2 M c2,.slice G kl H2,.slice b4 hb r9,.slice b5 32 b6,.slice (some ⟨B,S,none⟩) 1 lc,Aj 3,Aj 0,Aj 0] 39))):=Aq ⟨qG _ _ _,by simp;omega,(Cc _ _ _ F).trans E⟩;clear c0 q u d U H lo b3 y z F E;generalize w4.alloc (.cells #[.slice I O HE,.slice W nl T,.slice b2 M c2,.slice G kl H2,.slice b4 hb r9,.slice b5 32 b6,.slice (some ⟨B,S,none⟩) 1 lc,Aj 3,Aj 0,Aj 0] 39)=X4 at *;generalize w4.heap.size=sb at *;go_wp2_with fail
 refine(Zdu _ X4.heap.size (qM (cs:=Cu Ot) (qG X4 96 _) 2 1 rfl)).mono ?_;rintro e w5⟨av,rfl,y⟩;go_upto_region 6 with fail
 have z:=(Hr X4 (.cells (Cu Ot).toArray 96)).trans (y.mono (by simp));have K:=Aq (H4.o.go z);have b1:=Aq (qL b0.o z);have x0:=Aq (lA.o.go z);have ko:=Aq (kA.o.go z);clear H4 b0 lA kA y z;have c0:=K.o.p.cell 0;have q:=K.o.p.cell 1;have u:=K.o.p.cell 2;have d:=K.o.p.cell 3;simp only[Az,Ay,Ba]at c0 q u d;have U:=K.o.p.lt;go_wp2_with fail
 refine(Zkl w5 g).mono ?_;rintro e w6⟨rfl,y⟩;go_upto_region 7 with fail
 have z:=y.alloc y.size (.cells #[.slice none 0 0,.slice none 0 0,.slice none 0 0,.slice none 0 0,.slice none 0 0,.slice none 0 0,.slice none 0 0,Aj 0,Aj 0,Aj 50] 39);have x:Hid (BtE w pb g k A rb _ D C sb _ B S w6.heap.size _ _):=Aq ⟨K.o.go z,qL b1.o z,x0.o.go z,ko.o.go z,qG _ _ _⟩;clear K b1 x0 ko y z c0 q u d U;generalize w6.alloc (.cells #[.slice none 0 0,.slice none 0 0,.slice none 0 0,.slice none 0 0,.slice none 0 0,.slice none 0 0,.slice none 0 0,Aj 0,Aj 0,Aj 50] 39)=X6 at *;generalize w6.heap.size=nb at *;have l:=x.o.r.aG.cell 6;have j:=x.o.r.aG.cell 9;have s5:=x.o.s.aG.cell 5;have s6:=x.o.s.aG.cell 6;have s7:=x.o.s.aG.cell 7;have f:=x.o.n.cell 9;simp only[Az,Ay,Ba]at l j s5 s6 s7 f;have rl:=x.o.r.aG.lt;have Q:=x.o.s.aG.lt;have Z:=x.o.n.lt;have Y:=x.o.r.lt;have ll:=x.o.s.lt;have R:=x.o.r.aL;have P:=x.o.s.aL;go_wp2_with fail
 refine(Gq A c _ be _ x.o.v Aw (by decide)).mono ?_;rintro e w7⟨rfl,y⟩;rw[Mb];have m:=Aq (x.o.go y);clear l j s5 s6 s7 f rl Q Z Y ll R P x y;obtain⟨x,_⟩:Hid _∧True:=⟨m,trivial⟩;clear m;have l:=x.o.r.aG.cell 6;have j:=x.o.r.aG.cell 9;have s5:=x.o.s.aG.cell 5;have s6:=x.o.s.aG.cell 6;have s7:=x.o.s.aG.cell 7;have f:=x.o.n.cell 9;simp only[Az,Ay,Ba]at l j s5 s6 s7 f;have rl:=x.o.r.aG.lt;have Q:=x.o.s.aG.lt;have Z:=x.o.n.lt;have Y:=x.o.r.lt;have ll:=x.o.s.lt;have R:=x.o.r.aL;have P:=x.o.s.aL;go_wp2_with fail
 refine(Gq (some ⟨k,0,none⟩) 4 _ be _ x.o.a.r Aw (by decide)).mono ?_;rintro e w8⟨rfl,y⟩;rw[Mb];have m:=Aq (x.o.go y);clear l j s5 s6 s7 f rl Q Z Y ll R P x y;obtain⟨x,_⟩:Hid _∧True:=⟨m,trivial⟩;clear m;have l:=x.o.r.aG.cell 6;have j:=x.o.r.aG.cell 9;have s5:=x.o.s.aG.cell 5;have s6:=x.o.s.aG.cell 6;have s7:=x.o.s.aG.cell 7;have f:=x.o.n.cell 9;simp only[Az,Ay,Ba]at l j s5 s6 s7 f;have rl:=x.o.r.aG.lt;have Q:=x.o.s.aG.lt;have Z:=x.o.n.lt;have Y:=x.o.r.lt;have ll:=x.o.s.lt;have R:=x.o.r.aL;have P:=x.o.s.aL;go_wp2_with fail
 refine(Gq none 0 _ [] _ qK Aw (by decide)).mono ?_;rintro e w9⟨rfl,y⟩;rw[Re];have m:=Aq (x.o.go y);clear l j s5 s6 s7 f rl Q Z Y ll R P x y;obtain⟨x,_⟩:Hid _∧True:=⟨m,trivial⟩;clear m;have l:=x.o.r.aG.cell 6;have j:=x.o.r.aG.cell 9;have s5:=x.o.s.aG.cell 5;have s6:=x.o.s.aG.cell 6;have s7:=x.o.s.aG.cell 7;have f:=x.o.n.cell 9;simp only[Az,Ay,Ba]at l j s5 s6 s7 f;have rl:=x.o.r.aG.lt;have Q:=x.o.s.aG.lt;have Z:=x.o.n.lt;have Y:=x.o.r.lt;have ll:=x.o.s.lt;have R:=x.o.r.aL;have P:=x.o.s.aL;go_wp2_with fail
 refine(Gq (some ⟨k,0,none⟩) 4 _ (be.take 3) _ (Zii x.o.a.r) Aw (by decide)).mono ?_;rintro e x2⟨rfl,y⟩;rw[Zeq];have m:=Aq (x.o.go y);clear l j s5 s6 s7 f rl Q Z Y ll R P x y;obtain⟨x,_⟩:Hid _∧True:=⟨m,trivial⟩;clear m;have x1:=x.o.a.b;go_wp2_with fail
 go_ret;exact⟨rfl,x1⟩
end
end Go.Proofs.YtnhebmgibiomnaaGreat

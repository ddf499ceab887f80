import Derived.Test.YtnhebmgibiomnaaGreatPh21
import Derived.Test.YtnhebmgibiomnaaGreatPh22
set_option linter.unusedVariables false
set_option linter.unusedSimpArgs false
set_option maxRecDepth 100000
set_option maxHeartbeats 8000000
namespace Go.Proofs.YtnhebmgibiomnaaGreat
section
open Mc
namespace Sr
theorem Lw {aA:List bE}(h:right aA=true):1≤aA.length∧aA.length≤80000∧fitsAll aA=true∧0≤(aA.getD (aA.length-1) jz).n∧(aA.getD (aA.length-1) jz).n≤64:=by
 have u:=gL h;unfold right at h;simp only[Eo,decide_eq_true_eq]at h;obtain⟨⟨⟨k,v⟩,z⟩,x⟩:=h;rw[qm]at x;obtain⟨r,y,_⟩:=u;rw[y]at x;simp only[decide_eq_true_eq]at x;exact⟨k,v,z,by rw[Bn,y];exact x⟩
theorem Zp {aA:List bE}(y:fitsAll aA=true):∀(n:Nat) (s:St),s.pc<aA.length→s.steps≤s.pc→(runs n aA s).steps≤(runs n aA s).pc∧(runs n aA s).pc<aA.length
 |0,s,h,k=>⟨k,h⟩
 |n+1,s,h,k=>by
  by_cases x:(aA.getD s.pc jz).op=42
  ·rw[gz x];exact⟨k,h⟩
  ·rw[gP x];obtain⟨r,z⟩:∃r,aA[s.pc]?=some r:=⟨_,Bg h⟩;rw[Bn,z,ow]at x;obtain⟨p,v,u,_⟩:=ip y z x;exact Zp y n _ u (by omega)
theorem gE (r:bE)(s:St):(deed r s).aW.length=s.aW.length:=by
 unfold deed;split
 all_goals first|rfl|(simp only[put,Dd];done)|(simp only[bv];split <;> rfl)|(split <;> rfl)
theorem Qg (aA:List bE):∀(n:Nat) (s:St),(runs n aA s).aW.length=s.aW.length
 |0,s=>rfl
 |n+1,s=>by
  unfold runs;split
  ·rfl
  ·rw[Qg aA n];unfold step;rw[gE]
theorem Zet (aA:List bE)(aP:List Int)(size:Int)(z:Zn):(run aA aP size z).aW.length=64:=by
 unfold run;rw[Qg];simp[ah]
theorem Zs {aA:List bE}(h:right aA=true)(aP:List Int)(size:Int)(z:Zn):(run aA aP size z).steps<aA.length:=by
 obtain⟨u,y,x,_⟩:=Lw h;obtain⟨a,b⟩:=Zp x aA.length (ah aP size z) (by show 0<aA.length;omega) Aw;unfold run;omega
theorem Nl {aA:List bE}(h:right aA=true)(aP:List Int)(size:Int)(z:Zn):((eN (run aA aP size z) (bk aA)).stack.length:Int)=(aA.getD (aA.length-1) jz).n:=by
 obtain⟨r,x,y,u⟩:=gL h;unfold eN;simp only[oN,Dn,Zet];rw[Bn,x,ow];omega
def ahead:List bE:=[⟨35,0,0,0,2⟩,⟨34,0,0,0,0⟩,⟨1,3,0,0,9⟩]
end Sr
end
section
open Go.RowKit Mc
def Od:List (Int×Int):=[(5,0)]
theorem Zc:Bu.build [] Lp=(be,0):=by kernel_rfl
theorem Zdi:Bu.build [] Od=([],51):=by kernel_rfl
theorem Lo:Sr.right be=true:=by kernel_rfl
theorem Zed:Sr.right (be.take 3)=false:=by kernel_rfl
theorem Qr:Sr.right []=false:=by kernel_rfl
theorem Zec:(Sr.eN (Sr.run be [] 0 ⟨[],[],[],[]⟩) (Sr.bk be)).stack=[12]∧(Sr.eN (Sr.run be [] 0 ⟨[],[],[],[]⟩) (Sr.bk be)).steps=3:=⟨by kernel_rfl,by kernel_rfl⟩
structure BtA (w:World) (pb g k:Nat) (X:World):Prop where
 p:aH X pb 26 #[.slice none 0 0,.slice (some ⟨g,0,none⟩) 3 3,.slice none 0 0,Aj 0]
 i:aE X X.heap.size 2 (some ⟨g,0,none⟩) 3 (Cq Lp)
 r:aE X X.heap.size 5 (some ⟨k,0,none⟩) 4 (Cg be)
 b:Below w.heap.size w X
theorem aH.go {X Y:World}{g:Nat}{t:TypeId}{cs:Array Value}(h:aH X g t cs)(x:Below X.heap.size X Y):aH Y g t cs:=(x.block g h.lt).trans h
abbrev qE:=@aH.go
theorem aE.go {X Y:World}{size:Nat}{A:Option Addr}{n:Nat}{xs:List Value}(h:aE X X.heap.size size A n xs)(x:Below X.heap.size X Y):aE Y Y.heap.size size A n xs:=(h.below x Aw).a_ x.size
abbrev qA:=@aE.go
theorem Hl (X:World)(o:Obj):Below X.heap.size X (X.alloc o):=aI.alloc Aw _
theorem BtA.go {w:World}{y g k:Nat}{X Y:World}(h:BtA w y g k X)(x:Below X.heap.size X Y):BtA w y g k Y :=
 ⟨qE h.p x,qA h.i x,qA h.r x,h.b.trans (x.mono h.b.size)⟩
structure mw (rb:Nat) (cs:Array Value) (kA ko:Nat) (X:World):Prop where
 aG:aH X rb 39 cs
 lt:kA<X.heap.size
 aK:X.cell? ⟨kA,ko,none⟩=some (Aj 12)
theorem mw.go {rb:Nat}{cs:Array Value}{z x:Nat}{X Y:World}(h:mw rb cs z x X)(y:Below X.heap.size X Y):mw rb cs z x Y :=
 ⟨qE h.aG y,by have:=y.size;have:=h.lt;omega,(y.cell (p:=⟨z,x,none⟩) h.lt).trans h.aK⟩
structure BtE (w:World) (pb g k:Nat) (A:Option Addr) (rb:Nat) (cs:Array Value) (kA ko sb:Nat) (cs':Array Value) (kA' ko' nb:Nat) (cs'':Array Value) (X:World):Prop where
 a:BtA w pb g k X
 v:aE X X.heap.size 5 A 4 (Cg be)
 r:mw rb cs kA ko X
 s:mw sb cs' kA' ko' X
 n:aH X nb 39 cs''
theorem BtE.go {w:World}{z g k:Nat}{A:Option Addr}{rb:Nat}{cs:Array Value}{c p sb:Nat}{cs':Array Value}{u b y:Nat}{q:Array Value}{X Y:World}(h:BtE w z g k A rb cs c p sb cs' u b y q X)(x:Below X.heap.size X Y):BtE w z g k A rb cs c p sb cs' u b y q Y :=
 ⟨h.a.go x,qA h.v x,h.r.go x,h.s.go x,qE h.n x⟩
theorem Yk (X:World):cz X X.heap.size ⟨[],[],[],[]⟩ none none none none:=⟨qy,qy,qy,qy⟩
theorem Ni:eu ⟨[],[],[],[]⟩:=⟨by simp,by simp,by simp,by simp⟩
theorem Za (X:World)(A:Option Addr)(c g:Nat) (h:aE X X.heap.size 5 A 4 (Cg be)) :
  Calls Tryz.prog 17 #[.slice A 4 c,.agg #[.slice none 0 0,.slice (some ⟨g,0,none⟩) 3 3,.slice none 0 0,Aj 0],.agg #[.slice none 0 0,.slice none 0 0,.slice none 0 0,.slice none 0 0]] X fun e Y =>
   ∃(v0:Option Addr) (Z a:Nat) (v1:Option Addr) (S q:Nat) (k:Option Addr) (j u:Nat) (v3:Option Addr) (f r:Nat) (v4:Option Addr) (i s:Nat) (z:Option Addr) (p y d v:Nat),e=.returned (.agg #[.slice v0 Z a,.slice v1 S q,.slice k j u,.slice v3 f r,.slice v4 i s,.slice z 32 p,.slice (some ⟨y,d,none⟩) 1 v,Aj 3,Aj 0,Aj 0])∧Below X.heap.size X Y∧y<Y.heap.size∧Y.cell? ⟨y,d,none⟩=some (Aj 12):=by
 refine(Uo X be A c [] 0 ⟨[],[],[],[]⟩ (by simp) Ni (by decide) none (some ⟨g,0,none⟩) none none none none none 0 0 3 3 0 0 0 0 0 h qy (Yk X) Lo).mono ?_;rintro e Y⟨B,D,C,en,cv,st,sk,rfl,x,R⟩;obtain⟨s1,w⟩:=Zec;have P:=x.og;have m:=x.cu;have o:=x.to;have n:=x.en;have H:=x.cv;have V:=x.st;have K:Y.ownsRow X.heap.size 3 1 sk 1 [Aj 12]:=by have:=x.sk;rw[s1]at this;exact this
 obtain⟨v0,a,rfl,_⟩:=Gc P;obtain⟨v1,q,rfl,_⟩:=Gc m;obtain⟨k,u,rfl,_⟩:=Gc o;obtain⟨v3,r,rfl,_⟩:=Gc n;obtain⟨v4,s,rfl,_⟩:=Gc H;obtain⟨z,p,rfl,_⟩:=Gc V;obtain⟨y,v,rfl,U⟩:=Gc K;obtain⟨b,off,rfl,Q,l⟩:=U.2 (by decide);exact⟨v0,_,a,v1,_,q,k,_,u,v3,_,r,v4,_,s,z,p,b,off,v,by rw[w];rfl,R,Q,l 0 _ rfl⟩
theorem Zhv {X:World}{k:Nat} (h:aE X X.heap.size 5 (some ⟨k,0,none⟩) 4 (Cg be)):aE X X.heap.size 5 (some ⟨k,0,none⟩) (be.take 3).length (Cg (be.take 3)):=by
 obtain⟨_,p⟩:=h;obtain⟨b,off,e,z,y⟩:=p (by decide);refine⟨rfl,fun _=>⟨b,off,e,z,fun j u x=>y j u ?_⟩⟩;have v:Cg be=Cg (be.take 3)++[Aj 42,Aj 0,Aj 0,Aj 0,Aj 1]:=rfl;rw[v,En (aS.1 x).1];exact x
theorem Qj (X:World)(B:Nat):cK X B none []:=⟨[],qy,fun i l h=>by simp at h⟩
theorem Zb (X:World)(g:Nat) (h:aE X X.heap.size 2 (some ⟨g,0,none⟩) 3 (Cq Lp)) :
  Calls Tryz.prog 14 #[.agg #[.slice none 0 0,.slice (some ⟨g,0,none⟩) 3 3,.slice none 0 0,Aj 0]] X fun e Y=>∃A c,e=.returned (.tuple #[.slice A 4 c,Aj 0])∧Below X.heap.size X Y∧aE Y Y.heap.size 5 A 4 (Cg be):=by
 refine(Mv none (some ⟨g,0,none⟩) 0 3 (.slice none 0 0) 0 [] Lp X ⟨_,_,_,rfl⟩ (Qj X _) h (by simp) (by decide) (by simp) (by unfold bS Lp;simp)).mono ?_;rintro e Y⟨v,rfl,y,x⟩;rw[Zc]at x ⊢;obtain⟨A,c,rfl,z⟩:=Gc x;exact⟨A,c,rfl,y,z⟩
theorem Zdh (X:World)(g:Nat) (h:aE X X.heap.size 2 (some ⟨g,0,none⟩) 1 (Cq Od)) :
  Calls Tryz.prog 14 #[.agg #[.slice none 0 0,.slice (some ⟨g,0,none⟩) 1 1,.slice none 0 0,Aj 0]] X fun e Y=>∃v,e=.returned (.tuple #[v,Aj 51])∧Below X.heap.size X Y:=by
 refine(Mv none (some ⟨g,0,none⟩) 0 1 (.slice none 0 0) 0 [] Od X ⟨_,_,_,rfl⟩ (Qj X _) h (by simp) (by decide) (by simp) (by unfold bS Od;simp)).mono ?_;rintro e Y⟨v,rfl,x,y⟩;rw[Zdi];exact⟨v,rfl,x⟩
theorem Zjy (X:World)(g:Nat) :
  Calls Tryz.prog 17 #[.slice none 0 0,.agg #[.slice none 0 0,.slice (some ⟨g,0,none⟩) 3 3,.slice none 0 0,Aj 0],.agg #[.slice none 0 0,.slice none 0 0,.slice none 0 0,.slice none 0 0]] X (mD X) :=
 Zo X [] none 0 [] 0 ⟨[],[],[],[]⟩ (by simp) Ni (by simp) none (some ⟨g,0,none⟩) none none none none none 0 0 3 3 0 0 0 0 0 qy qy (Yk X) Qr
theorem Zcz (w:World):Calls Tryz.prog 15 #[] w fun e w'=>e=.returned (.bool true)∧Below w.heap.size w w':=by
 go_enter Tryz.func15,Tryz.ntmps15;go_wp2_with fail
 refine(Zhw w).mono ?_;rintro e w1⟨g,k,rfl,y,hg,hk⟩;go_upto_region 2 with fail
 have h1:BtA w w1.heap.size g k (w1.alloc (.cells #[.slice none 0 0,.slice (some ⟨g,0,none⟩) 3 3,.slice none 0 0,Aj 0] 26)):=⟨qv _ _ _,qA hg (Hl _ _),qA hk (Hl _ _),y.alloc y.size _⟩;have H1:=Aq h1;clear h1 y hg hk;generalize w1.alloc (.cells #[.slice none 0 0,.slice (some ⟨g,0,none⟩) 3 3,.slice none 0 0,Aj 0] 26)=X at *;generalize w1.heap.size=pb at *;have c0:=H1.o.p.cell 0;have l:=H1.o.p.cell 1;have u:=H1.o.p.cell 2;have m:=H1.o.p.cell 3;simp only[Az,Ay,Bc]at c0 l u m;have V:=H1.o.p.lt;go_wp2_with fail
 refine(Zb X g H1.o.i).mono ?_;rintro e w2⟨A,c,rfl,y,hv⟩;go_upto_region 3 with fail
 have Z:=Aq (H1.o.go y);have lo:=Aq hv;clear c0 l u m V H1 y hv;have c0:=Z.o.p.cell 0;have l:=Z.o.p.cell 1;have u:=Z.o.p.cell 2;have m:=Z.o.p.cell 3;simp only[Az,Ay,Bc]at c0 l u m;have V:=Z.o.p.lt;go_wp2_with fail
 refine(Za w2 A c g lo.o).mono ?_;rintro e w3⟨a0,H3,HE,N,hb,r9,a2,kl,O,a3,c1,hl,a4,c2,W,a5,a6,C,S,L,rfl,y,E,F⟩;go_upto_region 4 with fail
 have z:=y.alloc y.size (.cells #[.slice a0 H3 HE,.slice N hb r9,.slice a2 kl O,.slice a3 c1 hl,.slice a4 c2 W,.slice a5 32 a6,.slice (some ⟨C,S,none⟩) 1 L,Aj 3,Aj 0,Aj 0] 39);have H:=Aq (Z.o.go z);have w4:=Aq (qA lo.o z);have h0:Hid (mw w3.heap.size #[.slice a0 H3 HE,.slice N hb r9,.slice a2 kl O,.slice a3 c1 hl,.slice a4 c2 W,.slice a5 32 a6,.slice (some ⟨C,S,none⟩) 1 L,Aj 3,Aj 0,Aj 0] C S (w3.alloc (.cells #[.slice a0 H3 HE,.slice N hb r9,.slice a2 kl O,.slice a3 c1 hl,.slice a4 c2 W,.slice a5 32 a6,.slice (some ⟨C,S,none⟩) 1 L,Aj 3,Aj 0,Aj 0] 39))):=Aq ⟨qv _ _ _,by simp;omega,(Cb _ _ _ E).trans F⟩;clear c0 l u m V Z lo y z E F;generalize w3.alloc (.cells #[.slice a0 H3 HE,.slice N hb r9,.slice a2 kl O,.slice a3 c1 hl,.slice a4 c2 W,.slice a5 32 a6,.slice (some ⟨C,S,none⟩) 1 L,Aj 3,Aj 0,Aj 0] 39)=X3 at *;generalize w3.heap.size=rb at *;have c0:=H.o.p.cell 0;have l:=H.o.p.cell 1;have u:=H.o.p.cell 2;have m:=H.o.p.cell 3;simp only[Az,Ay,Bc]at c0 l u m;have V:=H.o.p.lt;go_wp2_with fail
 refine(Za X3 (some ⟨k,0,none⟩) 4 g H.o.r).mono ?_;rintro e I⟨b0,sl,r5,T,J,c3,G,H5,H2,b3,ko,M,b4,n9,nl,b5,b6,D,B,lc,rfl,y,E,F⟩;go_upto_region 5 with fail
 have z:=y.alloc y.size (.cells #[.slice b0 sl r5,.slice T J c3,.slice G H5 H2,.slice b3 ko M,.slice b4 n9 nl,.slice b5 32 b6,.slice (some ⟨D,B,none⟩) 1 lc,Aj 3,Aj 0,Aj 0] 39);have H4:=Aq (H.o.go z);have b1:=Aq (qA w4.o z);have a1:=Aq (h0.o.go z);have lA:Hid (mw I.heap.size #[.slice b0 sl r5,.slice T J c3,.slice G H5 H2,.slice b3 ko M,.slice b4 n9 nl,.slice b5 32 b6,.slice (some ⟨D,B,none⟩) 1 lc,Aj 3,Aj 0,Aj 0] D B (I.alloc (.cells #[.slice b0 sl r5,.slice T J c3,.slice G H5 H2,.slice b3 ko M,.slice b4 n9 nl,.slice b5 32 b6,.slice (some ⟨D,B,none⟩) 1 lc,Aj 3,Aj 0,Aj 0] 39))):=Aq ⟨qv _ _ _,by simp;omega,(Cb _ _ _ E).trans F⟩;clear c0 l u m V H w4 h0 y z E F;generalize I.alloc (.cells #[.slice b0 sl r5,.slice T J c3,.slice G H5 H2,.slice b3 ko M,.slice b4 n9 nl,.slice b5 32 b6,.slice (some ⟨D,B,none⟩) 1 lc,Aj 3,Aj 0,Aj 0] 39)=X4 at *;generalize I.heap.size=sb at *;go_wp2_with fail
 refine(Zdh _ X4.heap.size (qB (cs:=Cq Od) (qv X4 96 _) 2 1 rfl)).mono ?_;rintro e w5⟨av,rfl,y⟩;go_upto_region 6 with fail
 have z:=(Hl X4 (.cells (Cq Od).toArray 96)).trans (y.mono (by simp));have R:=Aq (H4.o.go z);have kc:=Aq (qA b1.o z);have kA:=Aq (a1.o.go z);have b2:=Aq (lA.o.go z);clear H4 b1 a1 lA y z;have c0:=R.o.p.cell 0;have l:=R.o.p.cell 1;have u:=R.o.p.cell 2;have m:=R.o.p.cell 3;simp only[Az,Ay,Bc]at c0 l u m;have V:=R.o.p.lt;go_wp2_with fail
 refine(Zjy w5 g).mono ?_;rintro e w6⟨rfl,y⟩;go_upto_region 7 with fail
 have z:=y.alloc y.size (.cells #[.slice none 0 0,.slice none 0 0,.slice none 0 0,.slice none 0 0,.slice none 0 0,.slice none 0 0,.slice none 0 0,Aj 0,Aj 0,Aj 50] 39);have x:Hid (BtE w pb g k A rb _ C S sb _ D B w6.heap.size _ _):=Aq ⟨R.o.go z,qA kc.o z,kA.o.go z,b2.o.go z,qv _ _ _⟩;clear R kc kA b2 y z c0 l u m V;generalize w6.alloc (.cells #[.slice none 0 0,.slice none 0 0,.slice none 0 0,.slice none 0 0,.slice none 0 0,.slice none 0 0,.slice none 0 0,Aj 0,Aj 0,Aj 50] 39)=X6 at *;generalize w6.heap.size=nb at *;have f:=x.o.r.aG.cell 6;have j:=x.o.r.aG.cell 9;have s5:=x.o.s.aG.cell 5;have s6:=x.o.s.aG.cell 6;have s7:=x.o.s.aG.cell 7;have q:=x.o.n.cell 9;simp only[Az,Ay,Bc]at f j s5 s6 s7 q;have rl:=x.o.r.aG.lt;have K:=x.o.s.aG.lt;have U:=x.o.n.lt;have P:=x.o.r.lt;have ll:=x.o.s.lt;have Y:=x.o.r.aK;have Q:=x.o.s.aK;go_wp2_with fail
 refine(Gj A c _ be _ x.o.v Aw (by decide)).mono ?_;rintro e w7⟨rfl,y⟩;rw[Lo];have d:=Aq (x.o.go y);clear f j s5 s6 s7 q rl K U P ll Y Q x y;obtain⟨x,_⟩:Hid _∧True:=⟨d,trivial⟩;clear d;have f:=x.o.r.aG.cell 6;have j:=x.o.r.aG.cell 9;have s5:=x.o.s.aG.cell 5;have s6:=x.o.s.aG.cell 6;have s7:=x.o.s.aG.cell 7;have q:=x.o.n.cell 9;simp only[Az,Ay,Bc]at f j s5 s6 s7 q;have rl:=x.o.r.aG.lt;have K:=x.o.s.aG.lt;have U:=x.o.n.lt;have P:=x.o.r.lt;have ll:=x.o.s.lt;have Y:=x.o.r.aK;have Q:=x.o.s.aK;go_wp2_with fail
 refine(Gj (some ⟨k,0,none⟩) 4 _ be _ x.o.a.r Aw (by decide)).mono ?_;rintro e w8⟨rfl,y⟩;rw[Lo];have d:=Aq (x.o.go y);clear f j s5 s6 s7 q rl K U P ll Y Q x y;obtain⟨x,_⟩:Hid _∧True:=⟨d,trivial⟩;clear d;have f:=x.o.r.aG.cell 6;have j:=x.o.r.aG.cell 9;have s5:=x.o.s.aG.cell 5;have s6:=x.o.s.aG.cell 6;have s7:=x.o.s.aG.cell 7;have q:=x.o.n.cell 9;simp only[Az,Ay,Bc]at f j s5 s6 s7 q;have rl:=x.o.r.aG.lt;have K:=x.o.s.aG.lt;have U:=x.o.n.lt;have P:=x.o.r.lt;have ll:=x.o.s.lt;have Y:=x.o.r.aK;have Q:=x.o.s.aK;go_wp2_with fail
 refine(Gj none 0 _ [] _ qy Aw (by decide)).mono ?_;rintro e w9⟨rfl,y⟩;rw[Qr];have d:=Aq (x.o.go y);clear f j s5 s6 s7 q rl K U P ll Y Q x y;obtain⟨x,_⟩:Hid _∧True:=⟨d,trivial⟩;clear d;have f:=x.o.r.aG.cell 6;have j:=x.o.r.aG.cell 9;have s5:=x.o.s.aG.cell 5;have s6:=x.o.s.aG.cell 6;have s7:=x.o.s.aG.cell 7;have q:=x.o.n.cell 9;simp only[Az,Ay,Bc]at f j s5 s6 s7 q;have rl:=x.o.r.aG.lt;have K:=x.o.s.aG.lt;have U:=x.o.n.lt;have P:=x.o.r.lt;have ll:=x.o.s.lt;have Y:=x.o.r.aK;have Q:=x.o.s.aK;go_wp2_with fail
 refine(Gj (some ⟨k,0,none⟩) 4 _ (be.take 3) _ (Zhv x.o.a.r) Aw (by decide)).mono ?_;rintro e h3⟨rfl,y⟩;rw[Zed];have d:=Aq (x.o.go y);clear f j s5 s6 s7 q rl K U P ll Y Q x y;obtain⟨x,_⟩:Hid _∧True:=⟨d,trivial⟩;clear d;have h2:=x.o.a.b;go_wp2_with fail
 go_ret;exact⟨rfl,h2⟩
end
end Go.Proofs.YtnhebmgibiomnaaGreat

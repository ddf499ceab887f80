import Derived.BigRegion
import Derived.Deep.RegionHeld3
import Derived.Test.YtnhebmgibiomnaaGreatPh9
set_option linter.unusedVariables false
set_option linter.unusedSimpArgs false
set_option maxRecDepth 100000
set_option maxHeartbeats 8000000
namespace Go.Proofs.YtnhebmgibiomnaaGreat
section
open Go.RowKit Mc
theorem Oc (c:Nat×Nat)(p:Nat)(w:World)(v:p≤1000000) :
  Calls Tryz.prog 256 #[.agg #[Aj c.1,Aj c.2],Aj p] w fun e w'=>e=.returned (Aj (De c p))∧Below w.heap.size w w':=by
 obtain⟨z,x⟩:=c;by_cases h:p=x
 ·have y:Hid (De (z,x) p=z):=Aq (by unfold De;rw[if_pos h]);subst h;go_enter Tryz.func256,Tryz.ntmps256;go_wp2;go_ret;exact⟨Fp (by rw[y.o]),aI.alloc Aw _⟩
 ·have y:Hid (De (z,x) p=p+1):=Aq (by unfold De;rw[if_neg h]);have u:¬ (p:Int)=(x:Int):=by omega
  go_enter Tryz.func256,Tryz.ntmps256;go_wp2;go_ret;exact⟨Fp (by rw[y.o];simp),aI.alloc Aw _⟩
def fx (aB:List Int)(axis:Int)(a n:Nat):List Nat:=((List.range n).map (· + a)).filter fun p=>bit axis (aB.getD p 0)
theorem Zcd (aB:List Int)(axis:Int)(a n:Nat):fx aB axis a (n+1)=fx aB axis a n++(if bit axis (aB.getD (n+a) 0) then[n+a] else[]):=by
 unfold fx;rw[ge,nt,List.filter_append];simp only[ol,oH,List.filter_cons,List.filter_nil]
theorem Zhc {aB:List Int}{axis:Int}{a n p:Nat}(h:p∈fx aB axis a n):a≤p∧p<a+n:=by
 unfold fx at h;obtain⟨z,_⟩:=List.mem_filter.1 h;obtain⟨x,y,rfl⟩:=List.mem_map.1 z;have:=List.mem_range.1 y;omega
theorem Vk (aB:List Int)(axis:Int)(a n:Nat):(fx aB axis a n).length≤n:=by
 unfold fx;refine Ex (List.length_filter_le _ _) (by simp)
theorem Vw {axis t:Int}(u:0≤axis∧axis≤1)(z:0≤t∧t≤3):(bits BinOp.and IntKind.i64 t (axis+1) != 0)=bit axis t:=by
 obtain⟨q,p⟩:=u;obtain⟨k,v⟩:=z;have y:axis=0∨axis=1:=by omega
 have x:t=0∨t=1∨t=2∨t=3:=by omega
 rcases y with rfl|rfl <;> rcases x with rfl|rfl|rfl|rfl <;> rfl
def lP (c:Nat×Nat)(b p:Nat):Nat:=if p≤b then b-p else c.2+1-p+(b-c.1)
theorem Re {c:Nat×Nat}{b p:Nat}(x:c.1≤c.2)(v:c.1≤p)(u:p≤c.2)(z:c.1≤b)(y:b≤c.2)(h:p≠b):lP c b (De c p)+1=lP c b p∧c.1≤De c p∧De c p≤c.2:=by
 unfold lP De
 repeat' split
 all_goals omega
theorem Zcm {c:Nat×Nat}{b p:Nat}(u:c.1≤p)(z:p≤c.2)(y:c.1≤b)(x:b≤c.2):lP c b p≤c.2+1-c.1:=by
 unfold lP;split <;> omega
theorem Zk (aT:List (Int×Int)) (axis:Int) (c:Nat×Nat) (a b n:Nat) (aF:List (Int×Int)):seg aT axis c a b n b aF=aF:=by
 cases n with
 |zero=>rfl
 |succ n=>unfold seg;rw[if_pos rfl]
theorem Un {aT:List (Int×Int)} {axis:Int} {c:Nat×Nat} {a b n p:Nat} {aF:List (Int×Int)} (h:p≠b):seg aT axis c a b (n+1) p aF=seg aT axis c a b n (De c p) (Pc aT axis aF p a b):=by
 conv=>lhs;unfold seg
 rw[if_neg h]
def Um (aT:List (Int×Int)) (l:List Nat) (axis:Int) (c:Nat×Nat) (aF:List (Int×Int)) (k:Nat):List (Int×Int) :=
 (List.range k).foldl (fun aF i=>let a:=l.getD i 0;seg aT axis c a (l.getD ((i+1) % l.length) 0) (c.2+1-c.1) (De c a) aF) aF
theorem Qe {aT:List (Int×Int)} {l:List Nat} {axis:Int} {c:Nat×Nat} {aF:List (Int×Int)} {k a b:Nat} (y:l[k]?=some a) (x:l[(k+1) % l.length]?=some b) :
  Um aT l axis c aF (k+1)=seg aT axis c a b (c.2+1-c.1) (De c a) (Um aT l axis c aF k):=by
 unfold Um;rw[ge,pM];simp only[pN,List.foldl_nil];rw[Da y,Da x]
theorem Nz (aT:List (Int×Int)) (aB:List Int) (axis:Int) (aF:List (Int×Int)) (c:Nat×Nat):Ij aT aB axis aF c=Um aT (fx aB axis c.1 (c.2+1-c.1)) axis c aF (fx aB axis c.1 (c.2+1-c.1)).length:=rfl
theorem aM.ae {t:TypeId}{aN:Nat}{w:World}{v:Value}{l:List Int} (h:aM (Repr.int (N0:=0)) t aN w v l) :
  ∃g A c,v=.slice A l.length c∧l.length≤c∧aN≤g∧∀(i:Nat) x,l[i]?=some x→A=some ⟨g,0,none⟩∧g<w.heap.size∧w.cell? ⟨g,i,none⟩=some (Aj x):=by
 obtain⟨A,c,rfl,p,_,d⟩:=h.form;cases z:l with
 |nil=>subst z;exact⟨aN,A,c,rfl,p,Aw,fun i x u=>by simp at u⟩
 |cons y r =>
  obtain⟨H,s,_⟩:=h;rcases s.2 with⟨_,k⟩|⟨g,dA,aF,k,a,n,_⟩
  ·rw[z]at k;simp at k
  ·injection k with j _ _
   subst j;refine⟨g,_,c,by rw[←z],by rw[←z];exact p,a,fun i x u=>?_⟩;rw[←z]at u;obtain⟨b,off,cs,e,_,f,q⟩:=d.get u
   injection e with e
   injection e with o m
   subst o m;obtain⟨rfl,_⟩:=f;refine⟨rfl,(bN.1 n).1,?_⟩;have:=q 0 _ rfl
   simpa [Repr.int]using this
theorem Ms {l:List (Nat×Nat)} {i:Nat} {c:Nat×Nat} (h:l[i]?=some c):(ir l)[i*2]?=some (Aj c.1)∧(ir l)[i*2+1]?=some (Aj c.2):=by
 induction l generalizing i with
 |nil=>simp at h
 |cons a r ih =>
  cases i with
  |zero=>simp only[Ay,Bv]at h;subst h;exact⟨rfl,rfl⟩
  |succ i =>
   simp only[Bc]at h;have:=ih h;simp only[ir,pa]at this ⊢;rw[show (i+1)*2=i*2+1+1 by omega];exact⟨this.1,this.2⟩
theorem ag.below {w w':World}{mb:Nat}{O:Nat→Prop}{L:bd}{s:St}(h:ag w mb O L s)(y:Below w.heap.size w w'):ag w' mb O L s :=
 h.aQ (fun k x=>y.block k (h.eQ k x)) (fun _ h=>h) (fun k x=>Dm (h.eQ k x) y.size)
def InA (w:World)(mb:Nat)(O:Nat→Prop)(L:bd)(s:St)(axis:Int)(i:Value)(wr:World):Prop :=
 ∃k:Nat,k≤s.bH.length∧i=Aj k∧ag wr mb O L { s with aF:=(s.bH.take k).foldl (fun aF c=>Ij s.aT s.aB axis aF c) s.aF }∧Fr O w wr
def InB (w:World)(mb:Nat)(O:Nat→Prop)(L:bd)(s:St)(axis:Int)(c:Nat×Nat)(cb:Nat)(v p:Value)(wq:World):Prop :=
 ∃(q:Nat) (A:Option Addr) (cc:Nat),c.1≤q∧q≤c.2+1∧p=Aj q∧v=.slice A (fx s.aB axis c.1 (q-c.1)).length cc∧aM (Repr.int (N0:=0)) 3 (cb+1) wq v ((fx s.aB axis c.1 (q-c.1)).map Int.ofNat) ∧
  ag wq mb O L s∧aH wq cb 252 #[Aj c.1,Aj c.2]∧Fr O w wq
structure Jn (w:World) (mb:Nat) (O:Nat→Prop) (L:bd) (s:St) (c:Nat×Nat) (cb g:Nat) (l:List Nat) (aF:List (Int×Int)) (wq:World):Prop where
 ma:ag wq mb O L { s with aF:=aF }
 kF:∀(i x:Nat),l[i]?=some x→g<wq.heap.size∧wq.cell? ⟨g,i,none⟩=some (Aj x)
 aG:aH wq cb 252 #[Aj c.1,Aj c.2]
 fr:Fr O w wq
 gno:¬ O g
 cno:¬ O cb
section
variable {w wq w2 : World} {mb : Nat} {O : Nat → Prop} {L : bd} {s : St} {c : Nat × Nat} {cb g : Nat} {l : List Nat} {aF cur' : List (Int × Int)}
theorem Jn.go (h:Jn w mb O L s c cb g l aF wq)(y:Fr O wq w2) (u:ag w2 mb O L { s with aF:=cur' }):Jn w mb O L s c cb g l cur' w2 :=
 ⟨u,fun i x z=>⟨Dm (h.kF i x z).1 y.size,(y.cell (p:=⟨g,i,none⟩) (h.kF i x z).1 h.gno).trans (h.kF i x z).2⟩,y.aG h.aG h.cno,h.fr.trans y,h.gno,h.cno⟩
theorem Jn.below (h:Jn w mb O L s c cb g l aF wq)(x:Below wq.heap.size wq w2):Jn w mb O L s c cb g l aF w2 :=
 h.go (qC x (fun _ y _=>y)) (h.ma.below x)
end
def InC (w:World)(mb:Nat)(O:Nat→Prop)(L:bd)(s:St)(axis:Int)(c:Nat×Nat)(cb g:Nat)(l:List Nat) (aF:List (Int×Int)) (i:Value) (wq:World):Prop :=
 ∃k:Nat,k≤l.length∧i=Aj k∧Jn w mb O L s c cb g l (Um s.aT l axis c aF k) wq
def InD (w:World)(mb:Nat)(O:Nat→Prop)(L:bd)(s:St)(axis:Int)(c:Nat×Nat)(cb g:Nat)(l:List Nat)(a b:Nat) (T:List (Int×Int)) (p:Value) (wq:World):Prop :=
 ∃(q n:Nat) (aF:List (Int×Int)),c.1≤q∧q≤c.2∧p=Aj q∧lP c b q≤n∧seg s.aT axis c a b n q aF=T∧Jn w mb O L s c cb g l aF wq
theorem Zbq (w:World)(mb:Nat)(O:Nat→Prop)(L:bd)(s:St)(h:ag w mb O L s)(axis:Int)(ha:0≤axis∧axis≤1) :
  Calls Tryz.prog 214 #[.pointer (some ⟨mb,0,none⟩),Aj axis] w (Zla w mb O L (Nf s axis)):=by
 have H0:Hid (InA w mb O L s axis (Aj 0) w):=Aq ⟨0,By _,rfl,by simpa using h,qu _ _⟩;obtain⟨i0,b1,v5,v8,c5⟩:=Eu Hp;obtain⟨Ac,cc,hk,_,_⟩:=h.co.form;have c6:=h.aG.cell 6;rw[h.c.c6,hk]at c6;have c7:=Aq hk;have e8:=h.ok.ej;have d9:=h.ok.cX;have x2:=Aq h.ok;clear h hk;go_enter Tryz.func214,Tryz.ntmps214;go_wp2_with fail
 go_loopw [17] (fun i wr=>InA w mb O L s axis i wr) (fun i _=>s.bH.length-(intOf i).toNat)
 case atStart=>exact H0.o
 case round =>
  clear H0 c6;obtain⟨k,f,rfl,H,l⟩:=hrel;have G:=Aq H;have HF:=Aq l;by_cases d4:(k:Int)<s.bH.length
  ·obtain⟨c,P⟩:∃c,s.bH[k]?=some c:=⟨_,Bg (by omega)⟩;obtain⟨u5,a2⟩:=x2.o.bH c (Bx P);obtain⟨gc,d2,u7,d7,_,_,ht,h8,_⟩:=H.co.aK (by simp only;omega);rw[c7.o]at u7
   injection u7 with e1 _ e2
   subst e1 e2;have x0:=h8 _ _ (Ms P).1;have x1:=h8 _ _ (Ms P).2;have h3:=Aq H.eQ;have HT:Hid (s.bH.take (k+1)=s.bH.take k++[c]):=Aq (by rw[oh,P];rfl);have e3:=H.aG.lt;generalize y2:(s.bH.take k).foldl (fun aF c=>Ij s.aT s.aB axis aF c) s.aF=ck at *;have a3:=Aq y2;obtain⟨y,z⟩:=c;dsimp only at u5 a2 x0 x1;clear H l h8 P y2;go_wp2_with fail
   generalize h2:({ s with aF:=ck }:St)=s1 at G;have X:s1.aT=s.aT∧s1.aB=s.aB∧s1.aF=ck∧s1.aF.length=s.aF.length:=by subst h2;exact⟨rfl,rfl,rfl,by have:=G.o.ok.dL;have:=x2.o.dL;simp only at *;omega⟩
   have v9:=Aq h2;clear h2;have y1:Hid (InB w mb O L s1 axis (y,z) wr.heap.size (.slice none 0 0) (Aj y) (wr.alloc (.cells #[Aj y,Aj z] 252))):=Aq ⟨y,none,0,Aw,by simp only;omega,rfl,by simp[fx],by simpa [fx]using qz _ _ _ _,G.o.alloc _,qv _ _ _,HF.o.alloc _⟩;generalize wr.alloc (.cells #[Aj y,Aj z] 252)=w1 at *;generalize b5:wr.heap.size=cb at *;have d3:w.heap.size≤cb:=by have:=HF.o.size;omega
   have u2:¬ O cb:=fun e=>by have:=h3.o cb e;omega
   have x9:=Aq (show ∀k,cb≤k→¬ O k from fun k f e=>by have:=h3.o k e;omega);have a5:=Aq u2;clear G HF h3 x0 x1 ht b5 u2;go_loopw [6,7] (fun v p wq=>InB w mb O L s1 axis (y,z) cb v p wq) (fun _ p _=>z+1-(intOf p).toNat)
   case atStart=>exact y1.o
   case round =>
    clear y1;obtain⟨q,A,ac,a8,a0,rfl,rfl,U,r,m,l⟩:=hrel;dsimp only at a8 a0 U;have h9:=Aq r;have h1:=Aq m;have hM:=Aq l;have HM:=Aq U;have k0:=m.cell 0;have k1:=m.cell 1;simp only[Az,Ay,Bc]at k0 k1;have R:=m.lt;by_cases e0:(q:Int)≤(z:Int)
    ·have a1:q<s1.aB.length:=by rw[r.ok.tl,X.2.2.2];omega
     obtain⟨t,W⟩:∃t,s1.aB[q]?=some t:=⟨_,Bg a1⟩;have v6:=r.ok.aB t (Bx W);obtain⟨gt,ct,x5,e9,_,f1,d6,u8,_⟩:=r.to.aK (by omega);have d0:=u8 _ _ (Ck W);have c4:=r.aG.cell 4;rw[r.c.c4,x5]at c4;have c9:=r.aG.lt;have h4:=r.ok.tl;rw[X.2.2.2]at h4;have e4:(q:Int)<(s1.aB.length:Int):=by omega
     have d:=Aq (Zcd s1.aB axis y (q-y));rw[show q-y+y=q by omega,Da W,show q-y+1=q+1-y by omega]at d;have J:=Aq (Vw ha v6);have K:=Aq X;have d8:=Aq h4;clear r m l U W u8 x5 X h4;go_wp2_with fail
     go_region_held3 (fun w'=>w'.cell? ⟨mb,4,none⟩=some (.slice (some ⟨gt,0,none⟩) s1.aB.length ct)∧w'.cell? ⟨gt,q,none⟩=some (Aj t)) (go_keep)
      (first|(go_at_call 255;refine(Lm _ _ ha.1 ha.2).mono ?_;rintro e w5⟨rfl,rfl⟩))
     rename_i a9;clear a9 c4 d0;have x4:=Aq h9.o.drew;have y6:=Aq h1.o.drew;have z9:=Aq hM.o.drew;have x3:=Aq (HM.o.below ((ds wr.heap.size wr).drew) Aw);have e5:wr.drew.heap.size=wr.heap.size:=rfl;have b0:=Vk s1.aB axis y (q-y);have N:Hid (((fx s1.aB axis y (q-y)).map Int.ofNat).length=(fx s1.aB axis y (q-y)).length):=Aq (Fu _);generalize hc:fx s1.aB axis y (q-y)=F at *;by_cases z5:(bits BinOp.and .i64 t (axis+1) != 0)=true
     ·rw[z5]at J;rw[←J.o,if_pos rfl]at d;have z6:=Aq (x3.o.below ((ds wr.drew.heap.size wr.drew).alloc Aw (.cells #[Aj (q:Int)] 3)) Aw);have y8:Hid (aM (Repr.int (N0:=0)) 3 (cb+1) (wr.drew.alloc (.cells #[Aj (q:Int)] 3)) (.slice A (F.map Int.ofNat).length ac) (F.map Int.ofNat)):=Aq (by rw[N.o];exact z6.o);have d1:(F.map Int.ofNat).length≤1000000:=by rw[N.o];omega
      clear hc HM h9 h1 hM x3 z6;rw[←N.o];go_wp2_with (at_builtin;refine Ee _ rfl (.tmp 41) (.tmp 43) _ rfl (Repr.int (N0:=0)) (cb+1) 3 i0 _ 8 Tryz.underlying22 b1 v5 v8 c5 rfl (show 0<1 by decide) (by simp[Repr.int]) (By _) (.slice A (F.map Int.ofNat).length ac) (F.map Int.ofNat) rfl y8.o wr.heap.size [_] (q:Int) rfl (qv _ _ _) ⟨rfl,(by unfold bS;omega)⟩ (by unfold maxLen;omega) (by omega) (by simp;omega) ?_;intro A3 c3 w3 b6 Q)
      have b2:∀g,(Value.slice A (F.map Int.ofNat).length ac).ownBlock=some g→cb<g:=fun g e=>(y8.o.block e).1
      have u0:=x4.o.alloc (.cells #[Aj (q:Int)] 3);have h5:∀k,k≤cb→w3.heap[k]?=(wr.drew.alloc (.cells #[Aj (q:Int)] 3)).heap[k]?:=fun k f=>Q.block k (by simp;omega) (fun e=>by have:=b2 k e.symm;omega)
      have z8:(wr.drew.alloc (.cells #[Aj (q:Int)] 3)).heap.size≤w3.heap.size:=Q.size;refine⟨⟨q+1,A3,c3,by simp only;omega,by simp only;omega,by go_num,?_,?_,?_,?_,?_⟩,by simp[intOf];omega⟩
      ·simp only[d.o,Bz,nr]
      ·simp only[d.o,nt,ol,oH];rw[←N.o];exact b6
      ·refine u0.aQ (fun k f=>h5 k ?_) (fun _ h=>h) (fun k f=>Dm (u0.eQ k f) z8);rcases le cb k with h|h
       ·exact absurd f (x9.o k (by omega))
       ·exact h
      ·exact(h5 cb Aw).trans (y6.o.alloc _)
      ·have Y:=z9.o.alloc (.cells #[Aj (q:Int)] 3);exact⟨Q.os.trans Y.os,Q.tape.trans Y.tape,Q.output.trans Y.output,Ex Y.size z8,fun k f hs=>(h5 k (by omega)).trans (Y.block k f hs)⟩
     ·have v7:(bits BinOp.and .i64 t (axis+1) != 0)=false:=by simpa using z5
      rw[v7]at J;rw[←J.o]at d;simp only[pC,if_false,oC]at d;go_wp2_with fail
      refine⟨⟨q+1,A,ac,by simp only;omega,by simp only;omega,by go_num,?_,?_,x4.o,y6.o,z9.o⟩,by simp[intOf];omega⟩
      ·simp only[d.o]
      ·simp only[d.o];exact x3.o
    ·obtain⟨g,A',f0,v1,y4,c8,E⟩:=U.ae;simp only[Fu]at v1 y4
     injection v1 with e1 _ e2
     subst e1 e2;have h6:q-y=z+1-y:=by omega
     rw[h6]at E y4;have b0:=Vk s1.aB axis y (z+1-y);have HFM:Hid (∀p∈fx s1.aB axis y (z+1-y),y≤p∧p≤z):=Aq (fun p hp=>by have:=Zhc hp;omega);have z7:=Aq (Nz s1.aT s1.aB axis s1.aF (y,z));simp only at z7;rw[h6];generalize hc:fx s1.aB axis y (z+1-y)=F at *;have HJ:Hid (InC w mb O L s1 axis (y,z) cb g F s1.aF (Aj 0) wr):=Aq ⟨0,By _,rfl,by
      refine⟨by simpa [Um]using r,fun i x hx=>?_,m,l,x9.o g (by omega),a5.o⟩;have:=E i (x:Int) (by rw[Cc,hx];rfl);exact this.2⟩
     have hA:0<F.length→A=some ⟨g,0,none⟩:=fun h0=>(E 0 (F[0]:Int) (by rw[Cc,Bg h0];rfl)).1
     have HA:=Aq hA;have K:=Aq X;clear r m l U E hA hc h9 h1 hM HM h6 X;go_wp2_with fail
     clear k0 k1 R;go_loopw [47] (fun i wq=>InC w mb O L s1 axis (y,z) cb g F s1.aF i wq) (fun i _=>F.length-(intOf i).toNat)
     case atStart=>exact HJ.o
     case round =>
      clear HJ;obtain⟨j,hj,rfl,u⟩:=hrel;have D:=Aq u;by_cases d5:(j:Int)<F.length
      ·obtain⟨a,S⟩:∃a,F[j]?=some a:=⟨_,Bg (by omega)⟩;have x6:(j+1) % F.length<F.length:=Nat.mod_lt _ (by omega);obtain⟨b,M⟩:∃b,F[(j+1) % F.length]?=some b:=⟨_,Bg x6⟩;obtain⟨e7,u6⟩:=HFM.o a (Bx S);obtain⟨v0,I⟩:=HFM.o b (Bx M);have y3:=Aq (Qe (aT:=s1.aT) (axis:=axis) (c:=(y,z)) (aF:=s1.aF) S M);have m0:=(u.kF _ _ S).2;have m1:=(u.kF _ _ M).2;have ht:=(u.kF _ _ S).1;have k0:=u.aG.cell 0;have k1:=u.aG.cell 1;simp only[Az,Ay,Bc]at k0 k1;have R:=u.aG.lt;have b9:=HA.o (by omega);subst b9;have b4:Int.tmod ((j:Int)+1) (F.length:Int)=(((j+1) % F.length:Nat):Int):=by
        rw[qo (by omega)];simp
       have b8:¬ (F.length:Int)=0:=by omega
       have v3:(((j+1) % F.length:Nat):Int)<(F.length:Int):=by omega
       generalize (j+1) % F.length=jm at *;clear u S M;go_wp2_with fail
       refine(Oc (y,z) a _ (by omega)).mono ?_;rintro e w2⟨rfl,B⟩;have Z:y≤De (y,z) a∧De (y,z) a≤z:=by unfold De;split <;> simp only at * <;> omega
       have u4:Hid (InD w mb O L s1 axis (y,z) cb g F a b (Um s1.aT F axis (y,z) s1.aF (j+1)) (Aj (De (y,z) a)) w2):=Aq ⟨_,_,_,Z.1,Z.2,rfl,Zcm Z.1 Z.2 v0 I,y3.o.symm,D.o.below B⟩;clear D y3 m0 m1 k0 k1 ht R B b4 b8 v3 x6 Z;generalize De (y,z) a=p0 at *;go_wp2_with fail
       go_loopw [11] (fun p wq=>InD w mb O L s1 axis (y,z) cb g F a b (Um s1.aT F axis (y,z) s1.aF (j+1)) p wq) (fun p _=>lP (y,z) b (intOf p).toNat)
       case atStart=>exact u4.o
       case round =>
        clear u4;obtain⟨p,n,aF,z2,c1,rfl,e6,V,u⟩:=hrel;dsimp only at z2 c1;by_cases h7:p=b
        ·subst h7;rw[Zk]at V;subst V;have v4:Hid (InC w mb O L s1 axis (y,z) cb g F s1.aF (Aj ((j:Int)+1)) wr):=Aq ⟨j+1,by omega,by simp,u⟩;clear u;go_wp2;go_roundw
         case rel=>exact v4.o
         case measure=>simp[intOf];omega
        ·have f2:¬ (p:Int)=(b:Int):=by omega
         obtain⟨y9,v2,a7⟩:=Re (c:=(y,z)) (b:=b) (p:=p) u5 z2 c1 v0 I h7;obtain⟨n',rfl⟩:∃n',n=n'+1:=⟨n-1,by omega⟩;rw[Un h7]at V;have y7:=u.ma.ok.dL;have c0:=K.o.2.2.2;simp only at y7;have a4:s1.aT.length=s1.aF.length:=by rw[K.o.1,x2.o.dL];omega
         have T:∀i,i≤z→∃x,s1.aT[i]?=some x:=fun i hi=>⟨_,Bg (by omega)⟩
         have c2:∀i,i≤z→∃x,aF[i]?=some x:=fun i hi=>⟨_,Bg (by omega)⟩
         obtain⟨xp,z0⟩:=T p c1;obtain⟨xa,x8⟩:=T a u6;obtain⟨xb,y0⟩:=T b I;obtain⟨yp,hyp⟩:=c2 p c1;obtain⟨ya,z3⟩:=c2 a u6;obtain⟨yb,x7⟩:=c2 b I;have HC:=Aq (Tx wr mb O L { s1 with aF:=aF } u.ma axis p a b xp xa xb yp ya yb z0 x8 y0 hyp z3 x7);have D:=Aq u;have z1:=Aq y9;have u3:=Aq V;clear u y9 V z0 x8 y0 hyp z3 x7 T c2 y7 c0 a4;go_wp2_with fail
         refine HC.o.mono ?_;rintro e w2⟨rfl,u1,y5⟩;have C:=Aq (D.o.go y5 u1);clear HC D u1 y5;have k0:=C.o.aG.cell 0;have k1:=C.o.aG.cell 1;simp only[Az,Ay,Bc]at k0 k1;have R:=C.o.aG.lt;go_wp2_with fail
         refine(Oc (y,z) p _ (by omega)).mono ?_;rintro e w3⟨rfl,B⟩;have z4:=Aq (C.o.below B);clear k0 k1 R B C;have b3:Hid (InD w mb O L s1 axis (y,z) cb g F a b (Um s1.aT F axis (y,z) s1.aF (j+1)) (Aj (De (y,z) p)) w3):=Aq ⟨_,n',_,v2,a7,rfl,by have:=z1.o;omega,u3.o,z4.o⟩;clear z4 u3;generalize De (y,z) p=p1 at *;go_wp2;go_roundw
         case rel=>exact b3.o
         case measure=>have:=z1.o;simp[intOf];omega
      ·have a6:j=F.length:=by omega
       subst a6;rw[←z7.o]at u;have b7:Hid (InA w mb O L s axis (Aj ((k:Int)+1)) wr):=Aq ⟨k+1,by omega,by simp,by
        rw[HT.o,pM];simp only[pN,List.foldl_nil];rw[a3.o,←K.o.2.2.1,←K.o.1,←K.o.2.1];have:=u.ma;rw[←v9.o]at this ⊢;exact this,u.fr⟩
       clear u;go_wp2;go_roundw
       case rel=>exact b7.o
       case measure=>simp[intOf];omega
  ·go_wp2;go_end0;refine⟨rfl,?_,l⟩;rw[oy (by omega)]at H;exact H
end
section
open Go.RowKit Mc
theorem Ls (c:Nat×Nat)(p:Nat)(w:World)(v:p≤1000000) :
  Calls Tryz.prog 229 #[.agg #[Aj c.1,Aj c.2],Aj p] w fun e w'=>e=.returned (Aj (De c p))∧Below w.heap.size w w':=by
 obtain⟨z,x⟩:=c;by_cases h:p=x
 ·have y:Hid (De (z,x) p=z):=Aq (by unfold De;rw[if_pos h]);subst h;go_enter Tryz.func229,Tryz.ntmps229;go_wp2;go_ret;exact⟨Fp (by rw[y.o]),aI.alloc Aw _⟩
 ·have y:Hid (De (z,x) p=p+1):=Aq (by unfold De;rw[if_neg h]);have u:¬ (p:Int)=(x:Int):=by omega
  go_enter Tryz.func229,Tryz.ntmps229;go_wp2;go_ret;exact⟨Fp (by rw[y.o];simp),aI.alloc Aw _⟩
theorem Zeo {axis:Int}(x:0≤axis∧axis≤1):RowKit.wrap64 (2 ^ min axis.toNat 64)=axis+1:=by
 obtain⟨y,z⟩:=x;rcases(show axis=0∨axis=1 by omega) with rfl|rfl <;> simp[RowKit.wrap64]
theorem Zg {axis:Int}(x:0≤axis∧axis≤1):RowKit.wrap64 (2 ^ axis.toNat)=axis+1:=by
 obtain⟨y,z⟩:=x;rcases(show axis=0∨axis=1 by omega) with rfl|rfl <;> simp[RowKit.wrap64]
theorem au.eQ {w:World}{sb:Nat}{L:bK}{s:Sr.St}(h:au w sb L s){k:Nat}(x:eZ L sb k):k<w.heap.size:=h.lt (by
 rcases x with e|e|e|e|e
 ·exact .inl e
 ·exact .inr (.inr (.inl e))
 ·exact .inr (.inr (.inr (.inl e)))
 ·exact .inr (.inr (.inr (.inr (.inr (.inr (.inl e))))))
 ·exact .inr (.inr (.inr (.inr (.inr (.inr (.inr e)))))))
theorem au.drewN {w:World}{sb:Nat}{L:bK}{s:Sr.St}(h:au w sb L s)(n:Nat):au (w.drewN n) sb L s:=h.aQ fun _ _=>rfl
theorem au.below {w w':World}{sb:Nat}{L:bK}{s:Sr.St}(h:au w sb L s)(x:Below w.heap.size w w'):au w' sb L s:=h.aQ fun k y=>x.block k (h.lt y)
def mY (w:World)(sb:Nat)(L:bK)(s:Sr.St)(axis:Int)(i:Value)(wr:World):Prop :=
 ∃k:Nat,k≤s.m.bH.length∧i=Aj k∧au wr sb L { s with m := { s.m with aF:=(s.m.bH.take k).foldl (fun aF c=>Ij s.m.aT s.m.aB axis aF c) s.m.aF } }∧Fr (eZ L sb) w wr
def SInB (w:World)(sb:Nat)(L:bK)(s:Sr.St)(axis:Int)(c:Nat×Nat)(cb:Nat)(v p:Value)(wq:World):Prop :=
 ∃(q:Nat) (A:Option Addr) (cc:Nat),c.1≤q∧q≤c.2+1∧p=Aj q∧v=.slice A (fx s.m.aB axis c.1 (q-c.1)).length cc∧aM (Repr.int (N0:=0)) 3 (cb+1) wq v ((fx s.m.aB axis c.1 (q-c.1)).map Int.ofNat) ∧
  au wq sb L s∧aH wq cb 157 #[Aj c.1,Aj c.2]∧Fr (eZ L sb) w wq
structure ly (w:World) (sb:Nat) (L:bK) (s:Sr.St) (c:Nat×Nat) (cb g:Nat) (l:List Nat) (aF:List (Int×Int)) (wq:World):Prop where
 ma:au wq sb L { s with m := { s.m with aF:=aF } }
 kF:∀(i x:Nat),l[i]?=some x→g<wq.heap.size∧wq.cell? ⟨g,i,none⟩=some (Aj x)
 aG:aH wq cb 157 #[Aj c.1,Aj c.2]
 fr:Fr (eZ L sb) w wq
 gno:¬ eZ L sb g
 cno:¬ eZ L sb cb
section
variable {w wq w2 : World} {sb : Nat} {L : bK} {s : Sr.St} {c : Nat × Nat} {cb g : Nat} {l : List Nat} {aF cur' : List (Int × Int)}
theorem ly.go (h:ly w sb L s c cb g l aF wq) (y:Fr (eZ L sb) wq w2) (u:au w2 sb L { s with m := { s.m with aF:=cur' } }):ly w sb L s c cb g l cur' w2 :=
 ⟨u,fun i x z=>⟨Dm (h.kF i x z).1 y.size,(y.cell (p:=⟨g,i,none⟩) (h.kF i x z).1 h.gno).trans (h.kF i x z).2⟩,y.aG h.aG h.cno,h.fr.trans y,h.gno,h.cno⟩
theorem ly.below (h:ly w sb L s c cb g l aF wq)(x:Below wq.heap.size wq w2):ly w sb L s c cb g l aF w2 :=
 h.go (qC x (fun _ y _=>y)) (h.ma.below x)
end
def nM (w:World)(sb:Nat)(L:bK)(s:Sr.St)(axis:Int)(c:Nat×Nat)(cb g:Nat)(l:List Nat) (aF:List (Int×Int)) (i:Value) (wq:World):Prop :=
 ∃k:Nat,k≤l.length∧i=Aj k∧ly w sb L s c cb g l (Um s.m.aT l axis c aF k) wq
def mr (w:World)(sb:Nat)(L:bK)(s:Sr.St)(axis:Int)(c:Nat×Nat)(cb g:Nat)(l:List Nat)(a b:Nat) (T:List (Int×Int)) (p:Value) (wq:World):Prop :=
 ∃(q n:Nat) (aF:List (Int×Int)),c.1≤q∧q≤c.2∧p=Aj q∧lP c b q≤n∧seg s.m.aT axis c a b n q aF=T∧ly w sb L s c cb g l aF wq
theorem Wu (w:World)(sb:Nat)(L:bK)(s:Sr.St)(h:au w sb L s)(axis:Int)(ha:0≤axis∧axis≤1) :
  Calls Tryz.prog 147 #[.pointer (some ⟨sb,0,none⟩),Aj axis] w (bB w sb L { s with m:=Nf s.m axis }):=by
 have H0:Hid (mY w sb L s axis (Aj 0) w):=Aq ⟨0,By _,rfl,by simpa using h,qu _ _⟩;obtain⟨i0,b1,v4,v7,c9⟩:=Eu Hp;obtain⟨Ac,cc,hk,_,_⟩:=Ba h.co;have c6:=h.c68;rw[hk]at c6;have d1:=Aq hk;have f1:=h.ok.m.ej;have e4:=h.ok.m.cX;have x2:=Aq h.ok.m;clear h hk;go_enter Tryz.func147,Tryz.ntmps147;go_wp2_with fail
 go_loopw [17] (fun i wr=>mY w sb L s axis i wr) (fun i _=>s.m.bH.length-(intOf i).toNat)
 case atStart=>exact H0.o
 case round =>
  clear H0 c6;obtain⟨k,r,rfl,f,H⟩:=hrel;have V:=Aq f;have T:=Aq H;by_cases d7:(k:Int)<s.m.bH.length
  ·obtain⟨c,R⟩:∃c,s.m.bH[k]?=some c:=⟨_,Bg (by omega)⟩;obtain⟨u2,a1⟩:=x2.o.bH c (Bx R);obtain⟨gc,d5,u4,e0,_,HF,h8⟩:=Ce f.co (by simp only;omega);rw[d1.o]at u4
   injection u4 with e1 _ e2
   subst e1 e2;have x0:=h8 _ _ (Ms R).1;have x1:=h8 _ _ (Ms R).2;have b0:=Aq (show ∀k,(k=sb∨L.og.ownBlock=some k∨L.cu.ownBlock=some k∨L.tq.ownBlock=some k∨L.en.ownBlock=some k∨L.co.ownBlock=some k∨L.cv.ownBlock=some k∨L.st.ownBlock=some k)→k<wr.heap.size from fun k r=>f.lt r);have h3:=Aq (show ∀k,eZ L sb k→k<wr.heap.size from fun k r=>f.eQ r);have HT:Hid (s.m.bH.take (k+1)=s.m.bH.take k++[c]):=Aq (by rw[oh,R];rfl);have e6:=f.aG.lt;generalize y1:(s.m.bH.take k).foldl (fun aF c=>Ij s.m.aT s.m.aB axis aF c) s.m.aF=ck at *;have a2:=Aq y1;obtain⟨y,z⟩:=c;dsimp only at u2 a1 x0 x1;clear f H h8 R y1;go_wp2_with fail
   generalize h2:({ s with m := { s.m with aF:=ck } }:Sr.St)=s1 at V;have Y:s1.m.aT=s.m.aT∧s1.m.aB=s.m.aB∧s1.m.aF=ck∧s1.m.aF.length=s.m.aF.length:=by subst h2;exact⟨rfl,rfl,rfl,by have:=V.o.ok.m.dL;have:=x2.o.dL;simp only at *;omega⟩
   have v8:=Aq h2;clear h2;have y0:Hid (SInB w sb L s1 axis (y,z) wr.heap.size (.slice none 0 0) (Aj y) (wr.alloc (.cells #[Aj y,Aj z] 157))):=Aq ⟨y,none,0,Aw,by simp only;omega,rfl,by simp[fx],by simpa [fx]using qz _ _ _ _,V.o.alloc _,qv _ _ _,T.o.alloc _⟩;generalize wr.alloc (.cells #[Aj y,Aj z] 157)=w1 at *;generalize b5:wr.heap.size=cb at *;have d6:w.heap.size≤cb:=by have:=T.o.size;omega
   have z9:¬ eZ L sb cb:=fun e=>by have:=h3.o cb e;omega
   have v1:=Aq (show ∀k,cb≤k→¬ eZ L sb k from fun k r e=>by have:=h3.o k e;omega);have a5:=Aq z9;have c7:=Aq (show ∀k,(k=sb∨L.og.ownBlock=some k∨L.cu.ownBlock=some k∨L.tq.ownBlock=some k∨L.en.ownBlock=some k∨L.co.ownBlock=some k∨L.cv.ownBlock=some k∨L.st.ownBlock=some k)→k≤cb from fun k r=>by have:=b0.o k r;omega);clear V T h3 x0 x1 HF b5 z9;go_loopw [6,7] (fun v p wq=>SInB w sb L s1 axis (y,z) cb v p wq) (fun _ p _=>z+1-(intOf p).toNat)
   case atStart=>exact y0.o
   case round =>
    clear y0;obtain⟨q,A,ac,a8,v9,rfl,rfl,P,d,K,H⟩:=hrel;dsimp only at a8 v9 P;have h9:=Aq d;have h1:=Aq K;have hM:=Aq H;have hc:=Aq P;have k0:=K.cell 0;have k1:=K.cell 1;simp only[Az,Ay,Bc]at k0 k1;have B:=K.lt;by_cases e5:(q:Int)≤(z:Int)
    ·have a0:q<s1.m.aB.length:=by rw[d.ok.m.tl,Y.2.2.2];omega
     obtain⟨t,ht⟩:∃t,s1.m.aB[q]?=some t:=⟨_,Bg a0⟩;have v5:=d.ok.m.aB t (Bx ht);obtain⟨gt,ct,x5,f2,_,d9,u5⟩:=Ce d.tq (by omega);have d0:=u5 _ _ (Ck ht);have c4:=d.c66;rw[x5]at c4;have d3:=d.aG.lt;have h4:=d.ok.m.tl;rw[Y.2.2.2]at h4;have e7:(q:Int)<(s1.m.aB.length:Int):=by omega
     have l:=Aq (Zcd s1.m.aB axis y (q-y));rw[show q-y+y=q by omega,Da ht,show q-y+1=q+1-y by omega]at l;have M:=Aq (Vw ha v5);have X:=Aq Y;have e3:=Aq h4;clear d K H P ht u5 x5 Y h4;go_wp2_with fail
     have a4:=Zeo ha;have v3:=Zg ha;go_quiet (fail);rename_i nq;clear c4 d0 a4 v3;have x4:=Aq (h9.o.drewN nq);have y5:=Aq (show aH (wr.drewN nq) cb 157 #[Aj y,Aj z] from h1.o);have z7:=Aq (show Fr (eZ L sb) w (wr.drewN nq) from hM.o.trans ⟨rfl,rfl,rfl,Aw,fun _ _ _=>rfl⟩);have x3:=Aq (hc.o.below (below_drewN (ds wr.heap.size wr) nq) Aw);have e8:(wr.drewN nq).heap.size=wr.heap.size:=rfl;have a9:=Vk s1.m.aB axis y (q-y);have O:Hid (((fx s1.m.aB axis y (q-y)).map Int.ofNat).length=(fx s1.m.aB axis y (q-y)).length):=Aq (Fu _);generalize HM:fx s1.m.aB axis y (q-y)=F at *;by_cases z4:(bits BinOp.and .i64 t (axis+1) != 0)=true
     ·rw[z4]at M;rw[←M.o,if_pos rfl]at l;have z5:=Aq (x3.o.below ((ds (wr.drewN nq).heap.size (wr.drewN nq)).alloc Aw (.cells #[Aj (q:Int)] 3)) Aw);have y7:Hid (aM (Repr.int (N0:=0)) 3 (cb+1) ((wr.drewN nq).alloc (.cells #[Aj (q:Int)] 3)) (.slice A (F.map Int.ofNat).length ac) (F.map Int.ofNat)):=Aq (by rw[O.o];exact z5.o);have d4:(F.map Int.ofNat).length≤1000000:=by rw[O.o];omega
      clear HM hc h9 h1 hM x3 z5;rw[←O.o];go_wp2_with (at_builtin;refine Ee _ rfl (.tmp 41) (.tmp 43) _ rfl (Repr.int (N0:=0)) (cb+1) 3 i0 _ 8 Tryz.underlying22 b1 v4 v7 c9 rfl (show 0<1 by decide) (by simp[Repr.int]) (By _) (.slice A (F.map Int.ofNat).length ac) (F.map Int.ofNat) rfl y7.o wr.heap.size [_] (q:Int) rfl (qv _ _ _) ⟨rfl,(by unfold bS;omega)⟩ (by unfold maxLen;omega) (by omega) (by simp;omega) ?_;intro A3 c3 w3 b7 S)
      have b2:∀g,(Value.slice A (F.map Int.ofNat).length ac).ownBlock=some g→cb<g:=fun g e=>(y7.o.block e).1
      have c0:=x4.o.alloc (.cells #[Aj (q:Int)] 3);have h5:∀k,k≤cb→w3.heap[k]?=((wr.drewN nq).alloc (.cells #[Aj (q:Int)] 3)).heap[k]?:=fun k r=>S.block k (by simp;omega) (fun e=>by have:=b2 k e.symm;omega)
      have b6:((wr.drewN nq).alloc (.cells #[Aj (q:Int)] 3)).heap.size≤w3.heap.size:=S.size;refine⟨⟨q+1,A3,c3,by simp only;omega,by simp only;omega,by go_num,?_,?_,?_,?_,?_⟩,by simp[intOf];omega⟩
      ·simp only[l.o,Bz,nr]
      ·simp only[l.o,nt,ol,oH];rw[←O.o];exact b7
      ·exact c0.aQ fun k r=>h5 k (c7.o k r)
      ·exact(h5 cb Aw).trans (y5.o.alloc _)
      ·have Z:=z7.o.alloc (.cells #[Aj (q:Int)] 3);exact⟨S.os.trans Z.os,S.tape.trans Z.tape,S.output.trans Z.output,Ex Z.size b6,fun k r hs=>(h5 k (by omega)).trans (Z.block k r hs)⟩
     ·have v6:(bits BinOp.and .i64 t (axis+1) != 0)=false:=by simpa using z4
      rw[v6]at M;rw[←M.o]at l;simp only[pC,if_false,oC]at l;go_wp2_with fail
      refine⟨⟨q+1,A,ac,by simp only;omega,by simp only;omega,by go_num,?_,?_,x4.o,y5.o,z7.o⟩,by simp[intOf];omega⟩
      ·simp only[l.o]
      ·simp only[l.o];exact x3.o
    ·obtain⟨g,A',f3,u8,y3,d2,I⟩:=P.ae;simp only[Fu]at u8 y3
     injection u8 with e1 _ e2
     subst e1 e2;have h6:q-y=z+1-y:=by omega
     rw[h6]at I y3;have a9:=Vk s1.m.aB axis y (z+1-y);have u6:Hid (∀p∈fx s1.m.aB axis y (z+1-y),y≤p∧p≤z):=Aq (fun p hp=>by have:=Zhc hp;omega);have z6:=Aq (Nz s1.m.aT s1.m.aB axis s1.m.aF (y,z));simp only at z6;rw[h6];generalize HM:fx s1.m.aB axis y (z+1-y)=F at *;have HJ:Hid (nM w sb L s1 axis (y,z) cb g F s1.m.aF (Aj 0) wr):=Aq ⟨0,By _,rfl,by
      refine⟨by simpa [Um]using d,fun i x hx=>?_,K,H,v1.o g (by omega),a5.o⟩;have:=I i (x:Int) (by rw[Cc,hx];rfl);exact this.2⟩
     have hA:0<F.length→A=some ⟨g,0,none⟩:=fun h0=>(I 0 (F[0]:Int) (by rw[Cc,Bg h0];rfl)).1
     have HA:=Aq hA;have X:=Aq Y;clear d K H P I hA HM h9 h1 hM hc h6 Y;go_wp2_with fail
     clear k0 k1 B;go_loopw [47] (fun i wq=>nM w sb L s1 axis (y,z) cb g F s1.m.aF i wq) (fun i _=>F.length-(intOf i).toNat)
     case atStart=>exact HJ.o
     case round =>
      clear HJ;obtain⟨j,hj,rfl,u⟩:=hrel;have G:=Aq u;by_cases d8:(j:Int)<F.length
      ·obtain⟨a,C⟩:∃a,F[j]?=some a:=⟨_,Bg (by omega)⟩;have x6:(j+1) % F.length<F.length:=Nat.mod_lt _ (by omega);obtain⟨b,N⟩:∃b,F[(j+1) % F.length]?=some b:=⟨_,Bg x6⟩;obtain⟨f0,u3⟩:=u6.o a (Bx C);obtain⟨u7,J⟩:=u6.o b (Bx N);have y2:=Aq (Qe (aT:=s1.m.aT) (axis:=axis) (c:=(y,z)) (aF:=s1.m.aF) C N);have m0:=(u.kF _ _ C).2;have m1:=(u.kF _ _ N).2;have HF:=(u.kF _ _ C).1;have k0:=u.aG.cell 0;have k1:=u.aG.cell 1;simp only[Az,Ay,Bc]at k0 k1;have B:=u.aG.lt;have c5:=HA.o (by omega);subst c5;have b4:Int.tmod ((j:Int)+1) (F.length:Int)=(((j+1) % F.length:Nat):Int):=by
        rw[qo (by omega)];simp
       have b9:¬ (F.length:Int)=0:=by omega
       have v0:(((j+1) % F.length:Nat):Int)<(F.length:Int):=by omega
       generalize (j+1) % F.length=jm at *;clear u C N;go_wp2_with fail
       refine(Ls (y,z) a _ (by omega)).mono ?_;rintro e w2⟨rfl,D⟩;have U:y≤De (y,z) a∧De (y,z) a≤z:=by unfold De;split <;> simp only at * <;> omega
       have u1:Hid (mr w sb L s1 axis (y,z) cb g F a b (Um s1.m.aT F axis (y,z) s1.m.aF (j+1)) (Aj (De (y,z) a)) w2):=Aq ⟨_,_,_,U.1,U.2,rfl,Zcm U.1 U.2 u7 J,y2.o.symm,G.o.below D⟩;clear G y2 m0 m1 k0 k1 HF B D b4 b9 v0 x6 U;generalize De (y,z) a=p0 at *;go_wp2_with fail
       go_loopw [11] (fun p wq=>mr w sb L s1 axis (y,z) cb g F a b (Um s1.m.aT F axis (y,z) s1.m.aF (j+1)) p wq) (fun p _=>lP (y,z) b (intOf p).toNat)
       case atStart=>exact u1.o
       case round =>
        clear u1;obtain⟨p,n,aF,z1,c1,rfl,e9,Q,u⟩:=hrel;dsimp only at z1 c1;by_cases h7:p=b
        ·subst h7;rw[Zk]at Q;subst Q;have v2:Hid (nM w sb L s1 axis (y,z) cb g F s1.m.aF (Aj ((j:Int)+1)) wr):=Aq ⟨j+1,by omega,by simp,u⟩;clear u;go_wp2;go_roundw
         case rel=>exact v2.o
         case measure=>simp[intOf];omega
        ·have f4:¬ (p:Int)=(b:Int):=by omega
         obtain⟨y8,u9,a7⟩:=Re (c:=(y,z)) (b:=b) (p:=p) u2 z1 c1 u7 J h7;obtain⟨n',rfl⟩:∃n',n=n'+1:=⟨n-1,by omega⟩;rw[Un h7]at Q;have y6:=u.ma.ok.m.dL;have c8:=X.o.2.2.2;simp only at y6;have a3:s1.m.aT.length=s1.m.aF.length:=by rw[X.o.1,x2.o.dL];omega
         have W:∀i,i≤z→∃x,s1.m.aT[i]?=some x:=fun i hi=>⟨_,Bg (by omega)⟩
         have c2:∀i,i≤z→∃x,aF[i]?=some x:=fun i hi=>⟨_,Bg (by omega)⟩
         obtain⟨xp,y9⟩:=W p c1;obtain⟨xa,x8⟩:=W a u3;obtain⟨xb,x9⟩:=W b J;obtain⟨yp,hyp⟩:=c2 p c1;obtain⟨ya,z2⟩:=c2 a u3;obtain⟨yb,x7⟩:=c2 b J;have HC:=Aq (Qf wr sb L { s1 with m := { s1.m with aF:=aF } } u.ma axis ha p a b xp xa xb yp ya yb y9 x8 x9 hyp z2 x7);have G:=Aq u;have z0:=Aq y8;have u0:=Aq Q;clear u y8 Q y9 x8 x9 hyp z2 x7 W c2 y6 c8 a3;go_wp2_with fail
         refine HC.o.mono ?_;rintro e w2⟨rfl,z8,y4⟩;have E:=Aq (G.o.go y4 z8);clear HC G z8 y4;have k0:=E.o.aG.cell 0;have k1:=E.o.aG.cell 1;simp only[Az,Ay,Bc]at k0 k1;have B:=E.o.aG.lt;go_wp2_with fail
         refine(Ls (y,z) p _ (by omega)).mono ?_;rintro e w3⟨rfl,D⟩;have z3:=Aq (E.o.below D);clear k0 k1 B D E;have b3:Hid (mr w sb L s1 axis (y,z) cb g F a b (Um s1.m.aT F axis (y,z) s1.m.aF (j+1)) (Aj (De (y,z) p)) w3):=Aq ⟨_,n',_,u9,a7,rfl,by have:=z0.o;omega,u0.o,z3.o⟩;clear z3 u0;generalize De (y,z) p=p1 at *;go_wp2;go_roundw
         case rel=>exact b3.o
         case measure=>have:=z0.o;simp[intOf];omega
      ·have a6:j=F.length:=by omega
       subst a6;rw[←z6.o]at u;have b8:Hid (mY w sb L s axis (Aj ((k:Int)+1)) wr):=Aq ⟨k+1,by omega,by simp,by
        rw[HT.o,pM];simp only[pN,List.foldl_nil];rw[a2.o,←X.o.2.2.1,←X.o.1,←X.o.2.1];have:=u.ma;rw[←v8.o]at this ⊢;exact this,u.fr⟩
       clear u;go_wp2;go_roundw
       case rel=>exact b8.o
       case measure=>simp[intOf];omega
  ·clear f H;go_wp2;go_end0;have f:=V.o;rw[oy (by omega)]at f;exact .to f T.o
end
end Go.Proofs.YtnhebmgibiomnaaGreat

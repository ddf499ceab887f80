import Derived.BigRegion
import Derived.Deep.RegionHeld3
import Derived.Test.YtnhebmgibiomnaaGreatPi9
set_option linter.unusedVariables false
set_option linter.unusedSimpArgs false
set_option maxRecDepth 100000
set_option maxHeartbeats 8000000
namespace Go.Proofs.YtnhebmgibiomnaaGreat
section
open Go.RowKit Mc
theorem Oq (c:Nat×Nat)(p:Nat)(w:World)(u:p≤1000000) :
  Calls Tryz.prog 256 #[.agg #[Aj c.1,Aj c.2],Aj p] w fun e w'=>e=.returned (Aj (Di c p))∧Below w.heap.size w w':=by
 obtain⟨z,x⟩:=c;by_cases h:p=x
 ·have y:Hid (Di (z,x) p=z):=Aq (by unfold Di;rw[if_pos h]);subst h;go_enter Tryz.func256,Tryz.ntmps256;go_wp2;go_ret;exact⟨Fz (by rw[y.o]),aI.alloc Aw _⟩
 ·have y:Hid (Di (z,x) p=p+1):=Aq (by unfold Di;rw[if_neg h]);have v:¬ (p:Int)=(x:Int):=by omega
  go_enter Tryz.func256,Tryz.ntmps256;go_wp2;go_ret;exact⟨Fz (by rw[y.o];simp),aI.alloc Aw _⟩
def fx (aB:List Int)(axis:Int)(a n:Nat):List Nat:=((List.range n).map (· + a)).filter fun p=>bit axis (aB.getD p 0)
theorem Zcq (aB:List Int)(axis:Int)(a n:Nat):fx aB axis a (n+1)=fx aB axis a n++(if bit axis (aB.getD (n+a) 0) then[n+a] else[]):=by
 unfold fx;rw[od,oq,List.filter_append];simp only[oD,oR,List.filter_cons,List.filter_nil]
theorem Zhp {aB:List Int}{axis:Int}{a n p:Nat}(h:p∈fx aB axis a n):a≤p∧p<a+n:=by
 unfold fx at h;obtain⟨y,_⟩:=List.mem_filter.1 h;obtain⟨x,z,rfl⟩:=List.mem_map.1 y;have:=List.mem_range.1 z;omega
theorem Vv (aB:List Int)(axis:Int)(a n:Nat):(fx aB axis a n).length≤n:=by
 unfold fx;refine Ex (List.length_filter_le _ _) (by simp)
theorem Wh {axis t:Int}(y:0≤axis∧axis≤1)(z:0≤t∧t≤3):(bits BinOp.and IntKind.i64 t (axis+1) != 0)=bit axis t:=by
 obtain⟨p,v⟩:=y;obtain⟨q,k⟩:=z;have x:axis=0∨axis=1:=by omega
 have u:t=0∨t=1∨t=2∨t=3:=by omega
 rcases x with rfl|rfl <;> rcases u with rfl|rfl|rfl|rfl <;> rfl
def lS (c:Nat×Nat)(b p:Nat):Nat:=if p≤b then b-p else c.2+1-p+(b-c.1)
theorem Rq {c:Nat×Nat}{b p:Nat}(v:c.1≤c.2)(z:c.1≤p)(x:p≤c.2)(u:c.1≤b)(y:b≤c.2)(h:p≠b):lS c b (Di c p)+1=lS c b p∧c.1≤Di c p∧Di c p≤c.2:=by
 unfold lS Di
 repeat' split
 all_goals omega
theorem Zcz {c:Nat×Nat}{b p:Nat}(z:c.1≤p)(x:p≤c.2)(u:c.1≤b)(y:b≤c.2):lS c b p≤c.2+1-c.1:=by
 unfold lS;split <;> omega
theorem Zw (aT:List (Int×Int)) (axis:Int) (c:Nat×Nat) (a b n:Nat) (aF:List (Int×Int)):seg aT axis c a b n b aF=aF:=by
 cases n with
 |zero=>rfl
 |succ n=>unfold seg;rw[if_pos rfl]
theorem Uy {aT:List (Int×Int)} {axis:Int} {c:Nat×Nat} {a b n p:Nat} {aF:List (Int×Int)} (h:p≠b):seg aT axis c a b (n+1) p aF=seg aT axis c a b n (Di c p) (Pq aT axis aF p a b):=by
 conv=>lhs;unfold seg
 rw[if_neg h]
def Ux (aT:List (Int×Int)) (l:List Nat) (axis:Int) (c:Nat×Nat) (aF:List (Int×Int)) (k:Nat):List (Int×Int) :=
 (List.range k).foldl (fun aF i=>let a:=l.getD i 0;seg aT axis c a (l.getD ((i+1) % l.length) 0) (c.2+1-c.1) (Di c a) aF) aF
theorem Qq {aT:List (Int×Int)} {l:List Nat} {axis:Int} {c:Nat×Nat} {aF:List (Int×Int)} {k a b:Nat} (x:l[k]?=some a) (y:l[(k+1) % l.length]?=some b) :
  Ux aT l axis c aF (k+1)=seg aT axis c a b (c.2+1-c.1) (Di c a) (Ux aT l axis c aF k):=by
 unfold Ux;rw[od,pX];simp only[pY,List.foldl_nil];rw[De x,De y]
theorem Om (aT:List (Int×Int)) (aB:List Int) (axis:Int) (aF:List (Int×Int)) (c:Nat×Nat):Ir aT aB axis aF c=Ux aT (fx aB axis c.1 (c.2+1-c.1)) axis c aF (fx aB axis c.1 (c.2+1-c.1)).length:=rfl
theorem aK.ae {t:TypeId}{aN:Nat}{w:World}{v:Value}{l:List Int} (h:aK (Repr.int (N0:=0)) t aN w v l) :
  ∃g A c,v=.slice A l.length c∧l.length≤c∧aN≤g∧∀(i:Nat) x,l[i]?=some x→A=some ⟨g,0,none⟩∧g<w.heap.size∧w.cell? ⟨g,i,none⟩=some (Aj x):=by
 obtain⟨A,c,rfl,p,_,o⟩:=h.form;cases z:l with
 |nil=>subst z;exact⟨aN,A,c,rfl,p,Aw,fun i x k=>by simp at k⟩
 |cons y r =>
  obtain⟨H,f,_⟩:=h;rcases f.2 with⟨_,u⟩|⟨g,cY,aF,u,q,j,_⟩
  ·rw[z]at u;simp at u
  ·injection u with s _ _
   subst s;refine⟨g,_,c,by rw[←z],by rw[←z];exact p,q,fun i x k=>?_⟩;rw[←z]at k;obtain⟨b,off,cs,e,_,m,d⟩:=o.get k
   injection e with e
   injection e with n a
   subst n a;obtain⟨rfl,_⟩:=m;refine⟨rfl,(bO.1 j).1,?_⟩;have:=d 0 _ rfl
   simpa [Repr.int]using this
theorem Nf {l:List (Nat×Nat)} {i:Nat} {c:Nat×Nat} (h:l[i]?=some c):(it l)[i*2]?=some (Aj c.1)∧(it l)[i*2+1]?=some (Aj c.2):=by
 induction l generalizing i with
 |nil=>simp at h
 |cons a r ih =>
  cases i with
  |zero=>simp only[Ay,Bw]at h;subst h;exact⟨rfl,rfl⟩
  |succ i =>
   simp only[Ba]at h;have:=ih h;simp only[it,pC]at this ⊢;rw[show (i+1)*2=i*2+1+1 by omega];exact⟨this.1,this.2⟩
theorem ag.below {w w':World}{mb:Nat}{O:Nat→Prop}{L:bd}{s:St}(h:ag w mb O L s)(y:Below w.heap.size w w'):ag w' mb O L s :=
 h.aQ (fun k x=>y.block k (h.eO k x)) (fun _ h=>h) (fun k x=>Dq (h.eO k x) y.size)
def InA (w:World)(mb:Nat)(O:Nat→Prop)(L:bd)(s:St)(axis:Int)(i:Value)(wr:World):Prop :=
 ∃k:Nat,k≤s.bH.length∧i=Aj k∧ag wr mb O L { s with aF:=(s.bH.take k).foldl (fun aF c=>Ir s.aT s.aB axis aF c) s.aF }∧Fr O w wr
def InB (w:World)(mb:Nat)(O:Nat→Prop)(L:bd)(s:St)(axis:Int)(c:Nat×Nat)(cb:Nat)(v p:Value)(wq:World):Prop :=
 ∃(q:Nat) (A:Option Addr) (cc:Nat),c.1≤q∧q≤c.2+1∧p=Aj q∧v=.slice A (fx s.aB axis c.1 (q-c.1)).length cc∧aK (Repr.int (N0:=0)) 3 (cb+1) wq v ((fx s.aB axis c.1 (q-c.1)).map Int.ofNat) ∧
  ag wq mb O L s∧aH wq cb 252 #[Aj c.1,Aj c.2]∧Fr O w wq
structure Jn (w:World) (mb:Nat) (O:Nat→Prop) (L:bd) (s:St) (c:Nat×Nat) (cb g:Nat) (l:List Nat) (aF:List (Int×Int)) (wq:World):Prop where
 ma:ag wq mb O L { s with aF:=aF }
 kC:∀(i x:Nat),l[i]?=some x→g<wq.heap.size∧wq.cell? ⟨g,i,none⟩=some (Aj x)
 aG:aH wq cb 252 #[Aj c.1,Aj c.2]
 fr:Fr O w wq
 gno:¬ O g
 cno:¬ O cb
section
variable {w wq w2 : World} {mb : Nat} {O : Nat → Prop} {L : bd} {s : St} {c : Nat × Nat} {cb g : Nat} {l : List Nat} {aF cur' : List (Int × Int)}
theorem Jn.go (h:Jn w mb O L s c cb g l aF wq)(y:Fr O wq w2) (u:ag w2 mb O L { s with aF:=cur' }):Jn w mb O L s c cb g l cur' w2 :=
 ⟨u,fun i x z=>⟨Dq (h.kC i x z).1 y.size,(y.cell (p:=⟨g,i,none⟩) (h.kC i x z).1 h.gno).trans (h.kC i x z).2⟩,y.aG h.aG h.cno,h.fr.trans y,h.gno,h.cno⟩
theorem Jn.below (h:Jn w mb O L s c cb g l aF wq)(x:Below wq.heap.size wq w2):Jn w mb O L s c cb g l aF w2 :=
 h.go (qN x (fun _ y _=>y)) (h.ma.below x)
end
def InC (w:World)(mb:Nat)(O:Nat→Prop)(L:bd)(s:St)(axis:Int)(c:Nat×Nat)(cb g:Nat)(l:List Nat) (aF:List (Int×Int)) (i:Value) (wq:World):Prop :=
 ∃k:Nat,k≤l.length∧i=Aj k∧Jn w mb O L s c cb g l (Ux s.aT l axis c aF k) wq
def InD (w:World)(mb:Nat)(O:Nat→Prop)(L:bd)(s:St)(axis:Int)(c:Nat×Nat)(cb g:Nat)(l:List Nat)(a b:Nat) (T:List (Int×Int)) (p:Value) (wq:World):Prop :=
 ∃(q n:Nat) (aF:List (Int×Int)),c.1≤q∧q≤c.2∧p=Aj q∧lS c b q≤n∧seg s.aT axis c a b n q aF=T∧Jn w mb O L s c cb g l aF wq
theorem Zcd (w:World)(mb:Nat)(O:Nat→Prop)(L:bd)(s:St)(h:ag w mb O L s)(axis:Int)(ha:0≤axis∧axis≤1) :
  Calls Tryz.prog 214 #[.pointer (some ⟨mb,0,none⟩),Aj axis] w (Zll w mb O L (Nq s axis)):=by
 have H0:Hid (InA w mb O L s axis (Aj 0) w):=Aq ⟨0,By _,rfl,by simpa using h,qF _ _⟩;obtain⟨i0,e3,c5,b5,e8⟩:=Fe Hv;obtain⟨Ac,cc,x6,_,_⟩:=h.co.form;have c6:=h.aG.cell 6;rw[h.c.c6,x6]at c6;have b3:=Aq x6;have f7:=h.ok.eg;have g0:=h.ok.c_;have x5:=Aq h.ok;clear h x6;go_enter Tryz.func214,Tryz.ntmps214;go_wp2_with fail
 go_loopw [17] (fun i wr=>InA w mb O L s axis i wr) (fun i _=>s.bH.length-(intOf i).toNat)
 case atStart=>exact H0.o
 case round =>
  clear H0 c6;obtain⟨k,d,rfl,H,f⟩:=hrel;have E:=Aq H;have HF:=Aq f;by_cases f6:(k:Int)<s.bH.length
  ·obtain⟨c,V⟩:∃c,s.bH[k]?=some c:=⟨_,Bf (by omega)⟩;obtain⟨b0,c9⟩:=x5.o.bH c (Bz V);obtain⟨gc,g3,a1,g7,_,_,ht,HM,_⟩:=H.co.aL (by simp only;omega);rw[b3.o]at a1
   injection a1 with e1 _ e2
   subst e1 e2;have x0:=HM _ _ (Nf V).1;have x1:=HM _ _ (Nf V).2;have x4:=Aq H.eO;have HT:Hid (s.bH.take (k+1)=s.bH.take k++[c]):=Aq (by rw[oC,V];rfl);have g9:=H.aG.lt;generalize z0:(s.bH.take k).foldl (fun aF c=>Ir s.aT s.aB axis aF c) s.aF=ck at *;have b7:=Aq z0;obtain⟨y,z⟩:=c;dsimp only at b0 c9 x0 x1;clear H f HM V z0;go_wp2_with fail
   generalize x8:({ s with aF:=ck }:St)=s1 at E;have K:s1.aT=s.aT∧s1.aB=s.aB∧s1.aF=ck∧s1.aF.length=s.aF.length:=by subst x8;exact⟨rfl,rfl,rfl,by have:=E.o.ok.dK;have:=x5.o.dK;simp only at *;omega⟩
   have b2:=Aq x8;clear x8;have v5:Hid (InB w mb O L s1 axis (y,z) wr.heap.size (.slice none 0 0) (Aj y) (wr.alloc (.cells #[Aj y,Aj z] 252))):=Aq ⟨y,none,0,Aw,by simp only;omega,rfl,by simp[fx],by simpa [fx]using qJ _ _ _ _,E.o.alloc _,qG _ _ _,HF.o.alloc _⟩;generalize wr.alloc (.cells #[Aj y,Aj z] 252)=w1 at *;generalize e5:wr.heap.size=cb at *;have g8:w.heap.size≤cb:=by have:=HF.o.size;omega
   have z8:¬ O cb:=fun e=>by have:=x4.o cb e;omega
   have z5:=Aq (show ∀k,cb≤k→¬ O k from fun k d e=>by have:=x4.o k e;omega);have d4:=Aq z8;clear E HF x4 x0 x1 ht e5 z8;go_loopw [6,7] (fun v p wq=>InB w mb O L s1 axis (y,z) cb v p wq) (fun _ p _=>z+1-(intOf p).toNat)
   case atStart=>exact v5.o
   case round =>
    clear v5;obtain⟨q,A,ac,e6,d3,rfl,rfl,C,r,m,f⟩:=hrel;dsimp only at e6 d3 C;have hc:=Aq r;have x9:=Aq m;have x2:=Aq f;have y0:=Aq C;have k0:=m.cell 0;have k1:=m.cell 1;simp only[Az,Ay,Ba]at k0 k1;have Z:=m.lt;by_cases f8:(q:Int)≤(z:Int)
    ·have e4:q<s1.aB.length:=by rw[r.ok.tl,K.2.2.2];omega
     obtain⟨t,I⟩:∃t,s1.aB[q]?=some t:=⟨_,Bf e4⟩;have b8:=r.ok.aB t (Bz I);obtain⟨gt,ct,v9,f5,_,f1,f9,z1,_⟩:=r.to.aL (by omega);have d0:=z1 _ _ (Cn I);have c4:=r.aG.cell 4;rw[r.c.c4,v9]at c4;have g1:=r.aG.lt;have y1:=r.ok.tl;rw[K.2.2.2]at y1;have i1:(q:Int)<(s1.aB.length:Int):=by omega
     have l:=Aq (Zcq s1.aB axis y (q-y));rw[show q-y+y=q by omega,De I,show q-y+1=q+1-y by omega]at l;have hk:=Aq (Wh ha b8);have X:=Aq K;have g5:=Aq y1;clear r m f C I z1 v9 K y1;go_wp2_with fail
     go_region_held3 (fun w'=>w'.cell? ⟨mb,4,none⟩=some (.slice (some ⟨gt,0,none⟩) s1.aB.length ct)∧w'.cell? ⟨gt,q,none⟩=some (Aj t)) (go_keep)
      (first|(go_at_call 255;refine(Lz _ _ ha.1 ha.2).mono ?_;rintro e w5⟨rfl,rfl⟩))
     rename_i e7;clear e7 c4 d0;have a6:=Aq hc.o.drew;have z6:=Aq x9.o.drew;have v6:=Aq x2.o.drew;have x7:=Aq (y0.o.below ((ny wr.heap.size wr).drew) Aw);have g4:wr.drew.heap.size=wr.heap.size:=rfl;have c8:=Vv s1.aB axis y (q-y);have c2:Hid (((fx s1.aB axis y (q-y)).map Int.ofNat).length=(fx s1.aB axis y (q-y)).length):=Aq (Gc _);generalize x3:fx s1.aB axis y (q-y)=F at *;by_cases y6:(bits BinOp.and .i64 t (axis+1) != 0)=true
     ·rw[y6]at hk;rw[←hk.o,if_pos rfl]at l;have a7:=Aq (x7.o.below ((ny wr.drew.heap.size wr.drew).alloc Aw (.cells #[Aj (q:Int)] 3)) Aw);have v2:Hid (aK (Repr.int (N0:=0)) 3 (cb+1) (wr.drew.alloc (.cells #[Aj (q:Int)] 3)) (.slice A (F.map Int.ofNat).length ac) (F.map Int.ofNat)):=Aq (by rw[c2.o];exact a7.o);have g2:(F.map Int.ofNat).length≤1000000:=by rw[c2.o];omega
      clear x3 y0 hc x9 x2 x7 a7;rw[←c2.o];go_wp2_with (at_builtin;refine Ek _ rfl (.tmp 41) (.tmp 43) _ rfl (Repr.int (N0:=0)) (cb+1) 3 i0 _ 8 Tryz.underlying22 e3 c5 b5 e8 rfl (show 0<1 by decide) (by simp[Repr.int]) (By _) (.slice A (F.map Int.ofNat).length ac) (F.map Int.ofNat) rfl v2.o wr.heap.size [_] (q:Int) rfl (qG _ _ _) ⟨rfl,(by unfold bK;omega)⟩ (by unfold maxLen;omega) (by omega) (by simp;omega) ?_;intro A3 c3 N c7 P)
      have e0:∀g,(Value.slice A (F.map Int.ofNat).length ac).ownBlock=some g→cb<g:=fun g e=>(v2.o.block e).1
      have v7:=a6.o.alloc (.cells #[Aj (q:Int)] 3);have y2:∀k,k≤cb→N.heap[k]?=(wr.drew.alloc (.cells #[Aj (q:Int)] 3)).heap[k]?:=fun k d=>P.block k (by simp;omega) (fun e=>by have:=e0 k e.symm;omega)
      have a4:(wr.drew.alloc (.cells #[Aj (q:Int)] 3)).heap.size≤N.heap.size:=P.size;refine⟨⟨q+1,A3,c3,by simp only;omega,by simp only;omega,by go_num,?_,?_,?_,?_,?_⟩,by simp[intOf];omega⟩
      ·simp only[l.o,Ca,om]
      ·simp only[l.o,oq,oD,oR];rw[←c2.o];exact c7
      ·refine v7.aQ (fun k d=>y2 k ?_) (fun _ h=>h) (fun k d=>Dq (v7.eO k d) a4);rcases oe cb k with h|h
       ·exact absurd d (z5.o k (by omega))
       ·exact h
      ·exact(y2 cb Aw).trans (z6.o.alloc _)
      ·have Y:=v6.o.alloc (.cells #[Aj (q:Int)] 3);exact⟨P.os.trans Y.os,P.tape.trans Y.tape,P.output.trans Y.output,Ex Y.size a4,fun k d hs=>(y2 k (by omega)).trans (Y.block k d hs)⟩
     ·have d7:(bits BinOp.and .i64 t (axis+1) != 0)=false:=by simpa using y6
      rw[d7]at hk;rw[←hk.o]at l;simp only[pN,if_false,oO]at l;go_wp2_with fail
      refine⟨⟨q+1,A,ac,by simp only;omega,by simp only;omega,by go_num,?_,?_,a6.o,z6.o,v6.o⟩,by simp[intOf];omega⟩
      ·simp only[l.o]
      ·simp only[l.o];exact x7.o
    ·obtain⟨g,A',f3,z2,v3,i2,T⟩:=C.ae;simp only[Gc]at z2 v3
     injection z2 with e1 _ e2
     subst e1 e2;have w3:q-y=z+1-y:=by omega
     rw[w3]at T v3;have c8:=Vv s1.aB axis y (z+1-y);have y3:Hid (∀p∈fx s1.aB axis y (z+1-y),y≤p∧p≤z):=Aq (fun p hp=>by have:=Zhp hp;omega);have z9:=Aq (Om s1.aT s1.aB axis s1.aF (y,z));simp only at z9;rw[w3];generalize x3:fx s1.aB axis y (z+1-y)=F at *;have HJ:Hid (InC w mb O L s1 axis (y,z) cb g F s1.aF (Aj 0) wr):=Aq ⟨0,By _,rfl,by
      refine⟨by simpa [Ux]using r,fun i x hx=>?_,m,f,z5.o g (by omega),d4.o⟩;have:=T i (x:Int) (by rw[Cd,hx];rfl);exact this.2⟩
     have hA:0<F.length→A=some ⟨g,0,none⟩:=fun h0=>(T 0 (F[0]:Int) (by rw[Cd,Bf h0];rfl)).1
     have HA:=Aq hA;have X:=Aq K;clear r m f C T hA x3 hc x9 x2 y0 w3 K;go_wp2_with fail
     clear k0 k1 Z;go_loopw [47] (fun i wq=>InC w mb O L s1 axis (y,z) cb g F s1.aF i wq) (fun i _=>F.length-(intOf i).toNat)
     case atStart=>exact HJ.o
     case round =>
      clear HJ;obtain⟨j,hj,rfl,u⟩:=hrel;have U:=Aq u;by_cases f2:(j:Int)<F.length
      ·obtain⟨a,S⟩:∃a,F[j]?=some a:=⟨_,Bf (by omega)⟩;have y7:(j+1) % F.length<F.length:=Nat.mod_lt _ (by omega);obtain⟨b,J⟩:∃b,F[(j+1) % F.length]?=some b:=⟨_,Bf y7⟩;obtain⟨f0,a5⟩:=y3.o a (Bz S);obtain⟨a8,W⟩:=y3.o b (Bz J);have a3:=Aq (Qq (aT:=s1.aT) (axis:=axis) (c:=(y,z)) (aF:=s1.aF) S J);have m0:=(u.kC _ _ S).2;have m1:=(u.kC _ _ J).2;have ht:=(u.kC _ _ S).1;have k0:=u.aG.cell 0;have k1:=u.aG.cell 1;simp only[Az,Ay,Ba]at k0 k1;have Z:=u.aG.lt;have b1:=HA.o (by omega);subst b1;have d6:Int.tmod ((j:Int)+1) (F.length:Int)=(((j+1) % F.length:Nat):Int):=by
        rw[qB (by omega)];simp
       have b4:¬ (F.length:Int)=0:=by omega
       have d5:(((j+1) % F.length:Nat):Int)<(F.length:Int):=by omega
       generalize (j+1) % F.length=jm at *;clear u S J;go_wp2_with fail
       refine(Oq (y,z) a _ (by omega)).mono ?_;rintro e w2⟨rfl,R⟩;have D:y≤Di (y,z) a∧Di (y,z) a≤z:=by unfold Di;split <;> simp only at * <;> omega
       have y4:Hid (InD w mb O L s1 axis (y,z) cb g F a b (Ux s1.aT F axis (y,z) s1.aF (j+1)) (Aj (Di (y,z) a)) w2):=Aq ⟨_,_,_,D.1,D.2,rfl,Zcz D.1 D.2 a8 W,a3.o.symm,U.o.below R⟩;clear U a3 m0 m1 k0 k1 ht Z R d6 b4 d5 y7 D;generalize Di (y,z) a=p0 at *;go_wp2_with fail
       go_loopw [11] (fun p wq=>InD w mb O L s1 axis (y,z) cb g F a b (Ux s1.aT F axis (y,z) s1.aF (j+1)) p wq) (fun p _=>lS (y,z) b (intOf p).toNat)
       case atStart=>exact y4.o
       case round =>
        clear y4;obtain⟨p,n,aF,a0,c1,rfl,f4,B,u⟩:=hrel;dsimp only at a0 c1;by_cases hM:p=b
        ·subst hM;rw[Zw]at B;subst B;have d8:Hid (InC w mb O L s1 axis (y,z) cb g F s1.aF (Aj ((j:Int)+1)) wr):=Aq ⟨j+1,by omega,by simp,u⟩;clear u;go_wp2;go_roundw
         case rel=>exact d8.o
         case measure=>simp[intOf];omega
        ·have g6:¬ (p:Int)=(b:Int):=by omega
         obtain⟨z7,d1,b6⟩:=Rq (c:=(y,z)) (b:=b) (p:=p) b0 a0 c1 a8 W hM;obtain⟨n',rfl⟩:∃n',n=n'+1:=⟨n-1,by omega⟩;rw[Uy hM]at B;have z4:=u.ma.ok.dK;have e9:=X.o.2.2.2;simp only at z4;have d2:s1.aT.length=s1.aF.length:=by rw[X.o.1,x5.o.dK];omega
         have G:∀i,i≤z→∃x,s1.aT[i]?=some x:=fun i hi=>⟨_,Bf (by omega)⟩
         have M:∀i,i≤z→∃x,aF[i]?=some x:=fun i hi=>⟨_,Bf (by omega)⟩
         obtain⟨xp,y8⟩:=G p c1;obtain⟨xa,v1⟩:=G a a5;obtain⟨xb,v8⟩:=G b W;obtain⟨yp,hyp⟩:=M p c1;obtain⟨ya,y9⟩:=M a a5;obtain⟨yb,y5⟩:=M b W;have HC:=Aq (Ui wr mb O L { s1 with aF:=aF } u.ma axis p a b xp xa xb yp ya yb y8 v1 v8 hyp y9 y5);have U:=Aq u;have a9:=Aq z7;have z3:=Aq B;clear u z7 B y8 v1 v8 hyp y9 y5 G M z4 e9 d2;go_wp2_with fail
         refine HC.o.mono ?_;rintro e w2⟨rfl,v0,v4⟩;have Q:=Aq (U.o.go v4 v0);clear HC U v0 v4;have k0:=Q.o.aG.cell 0;have k1:=Q.o.aG.cell 1;simp only[Az,Ay,Ba]at k0 k1;have Z:=Q.o.aG.lt;go_wp2_with fail
         refine(Oq (y,z) p _ (by omega)).mono ?_;rintro e N⟨rfl,R⟩;have a2:=Aq (Q.o.below R);clear k0 k1 Z R Q;have b9:Hid (InD w mb O L s1 axis (y,z) cb g F a b (Ux s1.aT F axis (y,z) s1.aF (j+1)) (Aj (Di (y,z) p)) N):=Aq ⟨_,n',_,d1,b6,rfl,by have:=a9.o;omega,z3.o,a2.o⟩;clear a2 z3;generalize Di (y,z) p=p1 at *;go_wp2;go_roundw
         case rel=>exact b9.o
         case measure=>have:=a9.o;simp[intOf];omega
      ·have d9:j=F.length:=by omega
       subst d9;rw[←z9.o]at u;have c0:Hid (InA w mb O L s axis (Aj ((k:Int)+1)) wr):=Aq ⟨k+1,by omega,by simp,by
        rw[HT.o,pX];simp only[pY,List.foldl_nil];rw[b7.o,←X.o.2.2.1,←X.o.1,←X.o.2.1];have:=u.ma;rw[←b2.o]at this ⊢;exact this,u.fr⟩
       clear u;go_wp2;go_roundw
       case rel=>exact c0.o
       case measure=>simp[intOf];omega
  ·go_wp2;go_end0;refine⟨rfl,?_,f⟩;rw[oL (by omega)]at H;exact H
end
section
open Go.RowKit Mc
theorem Mg (c:Nat×Nat)(p:Nat)(w:World)(u:p≤1000000) :
  Calls Tryz.prog 229 #[.agg #[Aj c.1,Aj c.2],Aj p] w fun e w'=>e=.returned (Aj (Di c p))∧Below w.heap.size w w':=by
 obtain⟨z,x⟩:=c;by_cases h:p=x
 ·have y:Hid (Di (z,x) p=z):=Aq (by unfold Di;rw[if_pos h]);subst h;go_enter Tryz.func229,Tryz.ntmps229;go_wp2;go_ret;exact⟨Fz (by rw[y.o]),aI.alloc Aw _⟩
 ·have y:Hid (Di (z,x) p=p+1):=Aq (by unfold Di;rw[if_neg h]);have v:¬ (p:Int)=(x:Int):=by omega
  go_enter Tryz.func229,Tryz.ntmps229;go_wp2;go_ret;exact⟨Fz (by rw[y.o];simp),aI.alloc Aw _⟩
theorem Zfb {axis:Int}(x:0≤axis∧axis≤1):RowKit.wrap64 (2 ^ min axis.toNat 64)=axis+1:=by
 obtain⟨z,y⟩:=x;rcases(show axis=0∨axis=1 by omega) with rfl|rfl <;> simp[RowKit.wrap64]
theorem Zs {axis:Int}(x:0≤axis∧axis≤1):RowKit.wrap64 (2 ^ axis.toNat)=axis+1:=by
 obtain⟨z,y⟩:=x;rcases(show axis=0∨axis=1 by omega) with rfl|rfl <;> simp[RowKit.wrap64]
theorem ar.eO {w:World}{sb:Nat}{L:bN}{s:Sr.St}(h:ar w sb L s){k:Nat}(x:eY L sb k):k<w.heap.size:=h.lt (by
 rcases x with e|e|e|e|e
 ·exact .inl e
 ·exact .inr (.inr (.inl e))
 ·exact .inr (.inr (.inr (.inl e)))
 ·exact .inr (.inr (.inr (.inr (.inr (.inr (.inl e))))))
 ·exact .inr (.inr (.inr (.inr (.inr (.inr (.inr e)))))))
theorem ar.drewN {w:World}{sb:Nat}{L:bN}{s:Sr.St}(h:ar w sb L s)(n:Nat):ar (w.drewN n) sb L s:=h.aQ fun _ _=>rfl
theorem ar.below {w w':World}{sb:Nat}{L:bN}{s:Sr.St}(h:ar w sb L s)(y:Below w.heap.size w w'):ar w' sb L s:=h.aQ fun k x=>y.block k (h.lt x)
def mY (w:World)(sb:Nat)(L:bN)(s:Sr.St)(axis:Int)(i:Value)(wr:World):Prop :=
 ∃k:Nat,k≤s.m.bH.length∧i=Aj k∧ar wr sb L { s with m := { s.m with aF:=(s.m.bH.take k).foldl (fun aF c=>Ir s.m.aT s.m.aB axis aF c) s.m.aF } }∧Fr (eY L sb) w wr
def SInB (w:World)(sb:Nat)(L:bN)(s:Sr.St)(axis:Int)(c:Nat×Nat)(cb:Nat)(v p:Value)(wq:World):Prop :=
 ∃(q:Nat) (A:Option Addr) (cc:Nat),c.1≤q∧q≤c.2+1∧p=Aj q∧v=.slice A (fx s.m.aB axis c.1 (q-c.1)).length cc∧aK (Repr.int (N0:=0)) 3 (cb+1) wq v ((fx s.m.aB axis c.1 (q-c.1)).map Int.ofNat) ∧
  ar wq sb L s∧aH wq cb 157 #[Aj c.1,Aj c.2]∧Fr (eY L sb) w wq
structure lz (w:World) (sb:Nat) (L:bN) (s:Sr.St) (c:Nat×Nat) (cb g:Nat) (l:List Nat) (aF:List (Int×Int)) (wq:World):Prop where
 ma:ar wq sb L { s with m := { s.m with aF:=aF } }
 kC:∀(i x:Nat),l[i]?=some x→g<wq.heap.size∧wq.cell? ⟨g,i,none⟩=some (Aj x)
 aG:aH wq cb 157 #[Aj c.1,Aj c.2]
 fr:Fr (eY L sb) w wq
 gno:¬ eY L sb g
 cno:¬ eY L sb cb
section
variable {w wq w2 : World} {sb : Nat} {L : bN} {s : Sr.St} {c : Nat × Nat} {cb g : Nat} {l : List Nat} {aF cur' : List (Int × Int)}
theorem lz.go (h:lz w sb L s c cb g l aF wq) (y:Fr (eY L sb) wq w2) (u:ar w2 sb L { s with m := { s.m with aF:=cur' } }):lz w sb L s c cb g l cur' w2 :=
 ⟨u,fun i x z=>⟨Dq (h.kC i x z).1 y.size,(y.cell (p:=⟨g,i,none⟩) (h.kC i x z).1 h.gno).trans (h.kC i x z).2⟩,y.aG h.aG h.cno,h.fr.trans y,h.gno,h.cno⟩
theorem lz.below (h:lz w sb L s c cb g l aF wq)(x:Below wq.heap.size wq w2):lz w sb L s c cb g l aF w2 :=
 h.go (qN x (fun _ y _=>y)) (h.ma.below x)
end
def mu (w:World)(sb:Nat)(L:bN)(s:Sr.St)(axis:Int)(c:Nat×Nat)(cb g:Nat)(l:List Nat) (aF:List (Int×Int)) (i:Value) (wq:World):Prop :=
 ∃k:Nat,k≤l.length∧i=Aj k∧lz w sb L s c cb g l (Ux s.m.aT l axis c aF k) wq
def nR (w:World)(sb:Nat)(L:bN)(s:Sr.St)(axis:Int)(c:Nat×Nat)(cb g:Nat)(l:List Nat)(a b:Nat) (T:List (Int×Int)) (p:Value) (wq:World):Prop :=
 ∃(q n:Nat) (aF:List (Int×Int)),c.1≤q∧q≤c.2∧p=Aj q∧lS c b q≤n∧seg s.m.aT axis c a b n q aF=T∧lz w sb L s c cb g l aF wq
theorem Xf (w:World)(sb:Nat)(L:bN)(s:Sr.St)(h:ar w sb L s)(axis:Int)(ha:0≤axis∧axis≤1) :
  Calls Tryz.prog 147 #[.pointer (some ⟨sb,0,none⟩),Aj axis] w (bB w sb L { s with m:=Nq s.m axis }):=by
 have H0:Hid (mY w sb L s axis (Aj 0) w):=Aq ⟨0,By _,rfl,by simpa using h,qF _ _⟩;obtain⟨i0,e4,b8,b2,f1⟩:=Fe Hv;obtain⟨Ac,cc,x6,_,_⟩:=Bc h.co;have c6:=h.c68;rw[x6]at c6;have b0:=Aq x6;have f9:=h.ok.m.eg;have g2:=h.ok.m.c_;have x5:=Aq h.ok.m;clear h x6;go_enter Tryz.func147,Tryz.ntmps147;go_wp2_with fail
 go_loopw [17] (fun i wr=>mY w sb L s axis i wr) (fun i _=>s.m.bH.length-(intOf i).toNat)
 case atStart=>exact H0.o
 case round =>
  clear H0 c6;obtain⟨k,r,rfl,d,l⟩:=hrel;have Z:=Aq d;have T:=Aq l;by_cases f8:(k:Int)<s.m.bH.length
  ·obtain⟨c,Q⟩:∃c,s.m.bH[k]?=some c:=⟨_,Bf (by omega)⟩;obtain⟨a7,c8⟩:=x5.o.bH c (Bz Q);obtain⟨gc,g5,v9,g9,_,w3,ht⟩:=Cf d.co (by simp only;omega);rw[b0.o]at v9
   injection v9 with e1 _ e2
   subst e1 e2;have x0:=ht _ _ (Nf Q).1;have x1:=ht _ _ (Nf Q).2;have b9:=Aq (show ∀k,(k=sb∨L.og.ownBlock=some k∨L.cu.ownBlock=some k∨L.tq.ownBlock=some k∨L.en.ownBlock=some k∨L.co.ownBlock=some k∨L.cv.ownBlock=some k∨L.st.ownBlock=some k)→k<wr.heap.size from fun k r=>d.lt r);have x4:=Aq (show ∀k,eY L sb k→k<wr.heap.size from fun k r=>d.eO r);have HT:Hid (s.m.bH.take (k+1)=s.m.bH.take k++[c]):=Aq (by rw[oC,Q];rfl);have i2:=d.aG.lt;generalize z0:(s.m.bH.take k).foldl (fun aF c=>Ir s.m.aT s.m.aB axis aF c) s.m.aF=ck at *;have b4:=Aq z0;obtain⟨y,z⟩:=c;dsimp only at a7 c8 x0 x1;clear d l ht Q z0;go_wp2_with fail
   generalize x8:({ s with m := { s.m with aF:=ck } }:Sr.St)=s1 at Z;have X:s1.m.aT=s.m.aT∧s1.m.aB=s.m.aB∧s1.m.aF=ck∧s1.m.aF.length=s.m.aF.length:=by subst x8;exact⟨rfl,rfl,rfl,by have:=Z.o.ok.m.dK;have:=x5.o.dK;simp only at *;omega⟩
   have a9:=Aq x8;clear x8;have v4:Hid (SInB w sb L s1 axis (y,z) wr.heap.size (.slice none 0 0) (Aj y) (wr.alloc (.cells #[Aj y,Aj z] 157))):=Aq ⟨y,none,0,Aw,by simp only;omega,rfl,by simp[fx],by simpa [fx]using qJ _ _ _ _,Z.o.alloc _,qG _ _ _,T.o.alloc _⟩;generalize wr.alloc (.cells #[Aj y,Aj z] 157)=w1 at *;generalize e6:wr.heap.size=cb at *;have i1:w.heap.size≤cb:=by have:=T.o.size;omega
   have z7:¬ eY L sb cb:=fun e=>by have:=x4.o cb e;omega
   have c5:=Aq (show ∀k,cb≤k→¬ eY L sb k from fun k r e=>by have:=x4.o k e;omega);have d3:=Aq z7;have e8:=Aq (show ∀k,(k=sb∨L.og.ownBlock=some k∨L.cu.ownBlock=some k∨L.tq.ownBlock=some k∨L.en.ownBlock=some k∨L.co.ownBlock=some k∨L.cv.ownBlock=some k∨L.st.ownBlock=some k)→k≤cb from fun k r=>by have:=b9.o k r;omega);clear Z T x4 x0 x1 w3 e6 z7;go_loopw [6,7] (fun v p wq=>SInB w sb L s1 axis (y,z) cb v p wq) (fun _ p _=>z+1-(intOf p).toNat)
   case atStart=>exact v4.o
   case round =>
    clear v4;obtain⟨q,A,ac,e7,d2,rfl,rfl,E,f,K,l⟩:=hrel;dsimp only at e7 d2 E;have hc:=Aq f;have x9:=Aq K;have x2:=Aq l;have y0:=Aq E;have k0:=K.cell 0;have k1:=K.cell 1;simp only[Az,Ay,Ba]at k0 k1;have V:=K.lt;by_cases g0:(q:Int)≤(z:Int)
    ·have e5:q<s1.m.aB.length:=by rw[f.ok.m.tl,X.2.2.2];omega
     obtain⟨t,J⟩:∃t,s1.m.aB[q]?=some t:=⟨_,Bf e5⟩;have b5:=f.ok.m.aB t (Bz J);obtain⟨gt,ct,v7,f7,_,g1,z1⟩:=Cf f.tq (by omega);have d0:=z1 _ _ (Cn J);have c4:=f.c66;rw[v7]at c4;have g3:=f.aG.lt;have y1:=f.ok.m.tl;rw[X.2.2.2]at y1;have i3:(q:Int)<(s1.m.aB.length:Int):=by omega
     have H:=Aq (Zcq s1.m.aB axis y (q-y));rw[show q-y+y=q by omega,De J,show q-y+1=q+1-y by omega]at H;have hM:=Aq (Wh ha b5);have Y:=Aq X;have g7:=Aq y1;clear f K l E J z1 v7 X y1;go_wp2_with fail
     have f0:=Zfb ha;have d8:=Zs ha;go_quiet (fail);rename_i nq;clear c4 d0 f0 d8;have a3:=Aq (hc.o.drewN nq);have z5:=Aq (show aH (wr.drewN nq) cb 157 #[Aj y,Aj z] from x9.o);have v5:=Aq (show Fr (eY L sb) w (wr.drewN nq) from x2.o.trans ⟨rfl,rfl,rfl,Aw,fun _ _ _=>rfl⟩);have x7:=Aq (y0.o.below (below_drewN (ny wr.heap.size wr) nq) Aw);have g6:(wr.drewN nq).heap.size=wr.heap.size:=rfl;have c7:=Vv s1.m.aB axis y (q-y);have hk:Hid (((fx s1.m.aB axis y (q-y)).map Int.ofNat).length=(fx s1.m.aB axis y (q-y)).length):=Aq (Gc _);generalize x3:fx s1.m.aB axis y (q-y)=F at *;by_cases y6:(bits BinOp.and .i64 t (axis+1) != 0)=true
     ·rw[y6]at hM;rw[←hM.o,if_pos rfl]at H;have a4:=Aq (x7.o.below ((ny (wr.drewN nq).heap.size (wr.drewN nq)).alloc Aw (.cells #[Aj (q:Int)] 3)) Aw);have v1:Hid (aK (Repr.int (N0:=0)) 3 (cb+1) ((wr.drewN nq).alloc (.cells #[Aj (q:Int)] 3)) (.slice A (F.map Int.ofNat).length ac) (F.map Int.ofNat)):=Aq (by rw[hk.o];exact a4.o);have g4:(F.map Int.ofNat).length≤1000000:=by rw[hk.o];omega
      clear x3 y0 hc x9 x2 x7 a4;rw[←hk.o];go_wp2_with (at_builtin;refine Ek _ rfl (.tmp 41) (.tmp 43) _ rfl (Repr.int (N0:=0)) (cb+1) 3 i0 _ 8 Tryz.underlying22 e4 b8 b2 f1 rfl (show 0<1 by decide) (by simp[Repr.int]) (By _) (.slice A (F.map Int.ofNat).length ac) (F.map Int.ofNat) rfl v1.o wr.heap.size [_] (q:Int) rfl (qG _ _ _) ⟨rfl,(by unfold bK;omega)⟩ (by unfold maxLen;omega) (by omega) (by simp;omega) ?_;intro A3 c3 O c0 R)
      have e3:∀g,(Value.slice A (F.map Int.ofNat).length ac).ownBlock=some g→cb<g:=fun g e=>(v1.o.block e).1
      have d5:=a3.o.alloc (.cells #[Aj (q:Int)] 3);have y2:∀k,k≤cb→O.heap[k]?=((wr.drewN nq).alloc (.cells #[Aj (q:Int)] 3)).heap[k]?:=fun k r=>R.block k (by simp;omega) (fun e=>by have:=e3 k e.symm;omega)
      have e9:((wr.drewN nq).alloc (.cells #[Aj (q:Int)] 3)).heap.size≤O.heap.size:=R.size;refine⟨⟨q+1,A3,c3,by simp only;omega,by simp only;omega,by go_num,?_,?_,?_,?_,?_⟩,by simp[intOf];omega⟩
      ·simp only[H.o,Ca,om]
      ·simp only[H.o,oq,oD,oR];rw[←hk.o];exact c0
      ·exact d5.aQ fun k r=>y2 k (e8.o k r)
      ·exact(y2 cb Aw).trans (z5.o.alloc _)
      ·have U:=v5.o.alloc (.cells #[Aj (q:Int)] 3);exact⟨R.os.trans U.os,R.tape.trans U.tape,R.output.trans U.output,Ex U.size e9,fun k r hs=>(y2 k (by omega)).trans (U.block k r hs)⟩
     ·have d7:(bits BinOp.and .i64 t (axis+1) != 0)=false:=by simpa using y6
      rw[d7]at hM;rw[←hM.o]at H;simp only[pN,if_false,oO]at H;go_wp2_with fail
      refine⟨⟨q+1,A,ac,by simp only;omega,by simp only;omega,by go_num,?_,?_,a3.o,z5.o,v5.o⟩,by simp[intOf];omega⟩
      ·simp only[H.o]
      ·simp only[H.o];exact x7.o
    ·obtain⟨g,A',f5,z2,v2,i4,W⟩:=E.ae;simp only[Gc]at z2 v2
     injection z2 with e1 _ e2
     subst e1 e2;have HF:q-y=z+1-y:=by omega
     rw[HF]at W v2;have c7:=Vv s1.m.aB axis y (z+1-y);have y3:Hid (∀p∈fx s1.m.aB axis y (z+1-y),y≤p∧p≤z):=Aq (fun p hp=>by have:=Zhp hp;omega);have z8:=Aq (Om s1.m.aT s1.m.aB axis s1.m.aF (y,z));simp only at z8;rw[HF];generalize x3:fx s1.m.aB axis y (z+1-y)=F at *;have HJ:Hid (mu w sb L s1 axis (y,z) cb g F s1.m.aF (Aj 0) wr):=Aq ⟨0,By _,rfl,by
      refine⟨by simpa [Ux]using f,fun i x hx=>?_,K,l,c5.o g (by omega),d3.o⟩;have:=W i (x:Int) (by rw[Cd,hx];rfl);exact this.2⟩
     have hA:0<F.length→A=some ⟨g,0,none⟩:=fun h0=>(W 0 (F[0]:Int) (by rw[Cd,Bf h0];rfl)).1
     have HA:=Aq hA;have Y:=Aq X;clear f K l E W hA x3 hc x9 x2 y0 HF X;go_wp2_with fail
     clear k0 k1 V;go_loopw [47] (fun i wq=>mu w sb L s1 axis (y,z) cb g F s1.m.aF i wq) (fun i _=>F.length-(intOf i).toNat)
     case atStart=>exact HJ.o
     case round =>
      clear HJ;obtain⟨j,hj,rfl,u⟩:=hrel;have P:=Aq u;by_cases f4:(j:Int)<F.length
      ·obtain⟨a,C⟩:∃a,F[j]?=some a:=⟨_,Bf (by omega)⟩;have y7:(j+1) % F.length<F.length:=Nat.mod_lt _ (by omega);obtain⟨b,M⟩:∃b,F[(j+1) % F.length]?=some b:=⟨_,Bf y7⟩;obtain⟨f3,a2⟩:=y3.o a (Bz C);obtain⟨a5,c1⟩:=y3.o b (Bz M);have a1:=Aq (Qq (aT:=s1.m.aT) (axis:=axis) (c:=(y,z)) (aF:=s1.m.aF) C M);have m0:=(u.kC _ _ C).2;have m1:=(u.kC _ _ M).2;have w3:=(u.kC _ _ C).1;have k0:=u.aG.cell 0;have k1:=u.aG.cell 1;simp only[Az,Ay,Ba]at k0 k1;have V:=u.aG.lt;have a8:=HA.o (by omega);subst a8;have d6:Int.tmod ((j:Int)+1) (F.length:Int)=(((j+1) % F.length:Nat):Int):=by
        rw[qB (by omega)];simp
       have b1:¬ (F.length:Int)=0:=by omega
       have d4:(((j+1) % F.length:Nat):Int)<(F.length:Int):=by omega
       generalize (j+1) % F.length=jm at *;clear u C M;go_wp2_with fail
       refine(Mg (y,z) a _ (by omega)).mono ?_;rintro e w2⟨rfl,B⟩;have G:y≤Di (y,z) a∧Di (y,z) a≤z:=by unfold Di;split <;> simp only at * <;> omega
       have y4:Hid (nR w sb L s1 axis (y,z) cb g F a b (Ux s1.m.aT F axis (y,z) s1.m.aF (j+1)) (Aj (Di (y,z) a)) w2):=Aq ⟨_,_,_,G.1,G.2,rfl,Zcz G.1 G.2 a5 c1,a1.o.symm,P.o.below B⟩;clear P a1 m0 m1 k0 k1 w3 V B d6 b1 d4 y7 G;generalize Di (y,z) a=p0 at *;go_wp2_with fail
       go_loopw [11] (fun p wq=>nR w sb L s1 axis (y,z) cb g F a b (Ux s1.m.aT F axis (y,z) s1.m.aF (j+1)) p wq) (fun p _=>lS (y,z) b (intOf p).toNat)
       case atStart=>exact y4.o
       case round =>
        clear y4;obtain⟨p,n,aF,v8,c2,rfl,f6,D,u⟩:=hrel;dsimp only at v8 c2;by_cases HM:p=b
        ·subst HM;rw[Zw]at D;subst D;have d9:Hid (mu w sb L s1 axis (y,z) cb g F s1.m.aF (Aj ((j:Int)+1)) wr):=Aq ⟨j+1,by omega,by simp,u⟩;clear u;go_wp2;go_roundw
         case rel=>exact d9.o
         case measure=>simp[intOf];omega
        ·have g8:¬ (p:Int)=(b:Int):=by omega
         obtain⟨z6,c9,b3⟩:=Rq (c:=(y,z)) (b:=b) (p:=p) a7 v8 c2 a5 c1 HM;obtain⟨n',rfl⟩:∃n',n=n'+1:=⟨n-1,by omega⟩;rw[Uy HM]at D;have z4:=u.ma.ok.m.dK;have f2:=Y.o.2.2.2;simp only at z4;have d1:s1.m.aT.length=s1.m.aF.length:=by rw[Y.o.1,x5.o.dK];omega
         have I:∀i,i≤z→∃x,s1.m.aT[i]?=some x:=fun i hi=>⟨_,Bf (by omega)⟩
         have N:∀i,i≤z→∃x,aF[i]?=some x:=fun i hi=>⟨_,Bf (by omega)⟩
         obtain⟨xp,y8⟩:=I p c2;obtain⟨xa,v0⟩:=I a a2;obtain⟨xb,v6⟩:=I b c1;obtain⟨yp,hyp⟩:=N p c2;obtain⟨ya,y9⟩:=N a a2;obtain⟨yb,y5⟩:=N b c1;have HC:=Aq (Qr wr sb L { s1 with m := { s1.m with aF:=aF } } u.ma axis ha p a b xp xa xb yp ya yb y8 v0 v6 hyp y9 y5);have P:=Aq u;have a6:=Aq z6;have z3:=Aq D;clear u z6 D y8 v0 v6 hyp y9 y5 I N z4 f2 d1;go_wp2_with fail
         refine HC.o.mono ?_;rintro e w2⟨rfl,z9,v3⟩;have S:=Aq (P.o.go v3 z9);clear HC P z9 v3;have k0:=S.o.aG.cell 0;have k1:=S.o.aG.cell 1;simp only[Az,Ay,Ba]at k0 k1;have V:=S.o.aG.lt;go_wp2_with fail
         refine(Mg (y,z) p _ (by omega)).mono ?_;rintro e O⟨rfl,B⟩;have a0:=Aq (S.o.below B);clear k0 k1 V B S;have b6:Hid (nR w sb L s1 axis (y,z) cb g F a b (Ux s1.m.aT F axis (y,z) s1.m.aF (j+1)) (Aj (Di (y,z) p)) O):=Aq ⟨_,n',_,c9,b3,rfl,by have:=a6.o;omega,z3.o,a0.o⟩;clear a0 z3;generalize Di (y,z) p=p1 at *;go_wp2;go_roundw
         case rel=>exact b6.o
         case measure=>have:=a6.o;simp[intOf];omega
      ·have e0:j=F.length:=by omega
       subst e0;rw[←z8.o]at u;have b7:Hid (mY w sb L s axis (Aj ((k:Int)+1)) wr):=Aq ⟨k+1,by omega,by simp,by
        rw[HT.o,pX];simp only[pY,List.foldl_nil];rw[b4.o,←Y.o.2.2.1,←Y.o.1,←Y.o.2.1];have:=u.ma;rw[←a9.o]at this ⊢;exact this,u.fr⟩
       clear u;go_wp2;go_roundw
       case rel=>exact b7.o
       case measure=>simp[intOf];omega
  ·clear d l;go_wp2;go_end0;have d:=Z.o;rw[oL (by omega)]at d;exact .to d T.o
end
end Go.Proofs.YtnhebmgibiomnaaGreat

import Derived.Test.YtnhebmgibiomnaaGreatPh14
import Derived.Test.YtnhebmgibiomnaaGreatPh16
set_option linter.unusedVariables false
set_option linter.unusedSimpArgs false
set_option maxRecDepth 100000
set_option maxHeartbeats 8000000
namespace Go.Proofs.YtnhebmgibiomnaaGreat
section
open Go.RowKit Mc
theorem Hz (A Q:Option Addr)(c M B B':Nat)(l l':List Int)(w:World) (h:aE w B 1 A l.length (ae l)) (z:aE w B' 1 Q l'.length (ae l')) (D:l.length≤1000000) (_hl':l'.length≤1000000) :
  Calls Tryz.prog 43 #[.slice A l.length c,.slice Q l'.length M] w fun e w'=>e=.returned (.bool (decide (l=l')))∧bT w w':=by
 by_cases u:l.length=l'.length
 ·obtain⟨n,s⟩:∃n,n=l.length:=⟨_,rfl⟩;rw[←u]at z _hl' ⊢;rw[←s]at h z D ⊢;have v:=Aq s;have X:=Aq u;have H:=Aq h;have C:=Aq z;clear h z s u _hl';have R:((n:Int) != (n:Int))=false:=by simp
  go_enter Tryz.func43,Tryz.ntmps43;go_wp2_with fail
  go_loopw [5] (fun i wr=>∃k:Nat,k≤n∧i=Aj k∧bT w wr∧wr.heap=w.heap∧l.take k=l'.take k) (fun i _=>n-(intOf i).toNat)
  case atStart=>exact⟨0,by omega,rfl,qu _ _,rfl,rfl⟩
  case round =>
   obtain⟨k,hk,rfl,P,d,j⟩:=hrel;have J:=Aq d;have g:∀p,wr.cell? p=w.cell? p:=fun p=>by unfold World.cell?;rw[d]
   have I:=Aq g;have V:=Aq j;have r:=Aq P;clear d g j P;by_cases T:k<n
   ·obtain⟨x,q⟩:∃x,l[k]?=some x:=⟨_,Bg (by have:=v.o;omega)⟩;obtain⟨y,a⟩:∃y,l'[k]?=some y:=⟨_,Bg (by have:=v.o;have:=X.o;omega)⟩;obtain⟨b,off,rfl,hx,K⟩:=H.o.2 (by omega);obtain⟨b',W,rfl,HN,m⟩:=C.o.2 (by omega);have L:=K _ _ (Ph l k x q);have G:=m _ _ (Ph l' k y a);rw[←I.o]at L G;have Z:=Aq q;have Y:=Aq a;clear K m q a;have O:(0:Int)≤(k:Int):=by omega
    have N:(k:Int)<(n:Int):=by omega
    by_cases f:x=y
    ·subst f;go_wp2_with fail
     go_quiet (fail);go_wp2;go_roundw
     case rel=>exact⟨k+1,by omega,by go_num,r.o.drewN _,J.o,Px Z.o Y.o V.o⟩
     case measure=>simp[intOf];omega
    ·have h':(x != y)=true:=by simpa using f
     go_wp2_with fail
     go_quiet (fail);go_wp2;go_ret;exact⟨Cs (decide_eq_false (Sa Z.o Y.o f)).symm,r.o.drewN _⟩
   ·have S:k=n:=by omega
    subst S;go_wp2;go_ret;have E:l=l':=by
     have:=V.o;rw[oy (by have:=v.o;omega),oy (by have:=v.o;have:=X.o;omega)]at this;exact this
    exact⟨Cs (decide_eq_true E).symm,r.o⟩
 ·have R:((l.length:Int) != (l'.length:Int))=true:=by simp;omega
  have U:¬ l=l':=fun e=>u (by rw[e])
  have F:=Aq U;clear h z U;generalize l.length=n at *;generalize l'.length=n' at *;go_enter Tryz.func43,Tryz.ntmps43;go_wp2_with fail
  go_ret;exact⟨Cs (decide_eq_false F.o).symm,qu _ _⟩
theorem Lv (A N:Option Addr)(c c' B B':Nat) (l l':List (Int×Int)) (w:World) (h:aE w B 2 A l.length (bq l)) (z:aE w B' 2 N l'.length (bq l')) (hl:l.length≤1000000) (_hl':l'.length≤1000000) :
  Calls Tryz.prog 54 #[.slice A l.length c,.slice N l'.length c'] w fun e w'=>e=.returned (.bool (decide (l=l')))∧bT w w':=by
 by_cases u:l.length=l'.length
 ·obtain⟨n,j⟩:∃n,n=l.length:=⟨_,rfl⟩;rw[←u]at z _hl' ⊢;rw[←j]at h z hl ⊢;have q:=Aq j;have R:=Aq u;have H:=Aq h;have W:=Aq z;clear h z j u _hl';have O:((n:Int) != (n:Int))=false:=by simp
  go_enter Tryz.func54,Tryz.ntmps54;go_wp2_with fail
  go_loopw [5] (fun i wr=>∃k:Nat,k≤n∧i=Aj k∧bT w wr∧wr.heap=w.heap∧l.take k=l'.take k) (fun i _=>n-(intOf i).toNat)
  case atStart=>exact⟨0,by omega,rfl,qu _ _,rfl,rfl⟩
  case round =>
   obtain⟨k,hk,rfl,I,Y,V⟩:=hrel;have HH:=Aq Y;have U:∀p,wr.cell? p=w.cell? p:=fun p=>by unfold World.cell?;rw[Y]
   have HB:=Aq U;have F:=Aq V;have v:=Aq I;clear Y U V I;by_cases hy:k<n
   ·obtain⟨x,s⟩:∃x,l[k]?=some x:=⟨_,Bg (by have:=q.o;omega)⟩;obtain⟨y,m⟩:∃y,l'[k]?=some y:=⟨_,Bg (by have:=q.o;have:=R.o;omega)⟩;obtain⟨b,off,rfl,hn,d⟩:=H.o.2 (by omega);obtain⟨b',hx,rfl,HY,a⟩:=W.o.2 (by omega);obtain⟨g0,L⟩:=Uu l k x s;obtain⟨M,J⟩:=Uu l' k y m;have E:=d _ _ g0;have X:=d _ _ L;have S:=a _ _ M;have Z:=a _ _ J;rw[←Lb]at X Z;rw[←HB.o]at E X S Z;have K:=Aq s;have f:=Aq m;clear d a s m g0 L M J;have i1:(0:Int)≤(k:Int):=by omega
    have i2:(k:Int)<(n:Int):=by omega
    obtain⟨G,Q⟩:=x;obtain⟨P,D⟩:=y;simp only at E X S Z;by_cases g:G=P
    ·subst g;by_cases r:Q=D
     ·subst r;go_wp2_with fail
      go_quiet (fail);go_wp2;go_roundw
      case rel=>exact⟨k+1,by omega,by go_num,v.o.drewN _,HH.o,Px K.o f.o F.o⟩
      case measure=>simp[intOf];omega
     ·have HN:(Q != D)=true:=by simpa using r
      go_wp2_with fail
      go_quiet (fail);go_wp2;go_ret;exact⟨Cs (decide_eq_false (Sa K.o f.o (fun e=>r (by injection e)))).symm,v.o.drewN _⟩
    ·have HN:(G != P)=true:=by simpa using g
     go_wp2_with fail
     go_quiet (fail);go_wp2;go_ret;exact⟨Cs (decide_eq_false (Sa K.o f.o (fun e=>g (by injection e)))).symm,v.o.drewN _⟩
   ·have T:k=n:=by omega
    subst T;go_wp2;go_ret;have he:l=l':=by
     have:=F.o;rw[oy (by have:=q.o;omega),oy (by have:=q.o;have:=R.o;omega)]at this;exact this
    exact⟨Cs (decide_eq_true he).symm,v.o⟩
 ·have O:((l.length:Int) != (l'.length:Int))=true:=by simp;omega
  have C:¬ l=l':=fun e=>u (by rw[e])
  have h':=Aq C;clear h z C;generalize l.length=n at *;generalize l'.length=n' at *;go_enter Tryz.func54,Tryz.ntmps54;go_wp2_with fail
  go_ret;exact⟨Cs (decide_eq_false h'.o).symm,qu _ _⟩
theorem Oq (z y:Zn)(B:Nat)(oA uA tA eA K Z Y U:Option Addr)(oc uc tc ec P C S R:Nat)(w:World)(hB:B≤w.heap.size)(h:cz w B z oA uA tA eA)(G:cz w B y K Z Y U)(M:eu z)(I:eu y) :
  Calls Tryz.prog 26 #[.agg #[.slice oA z.aT.length oc,.slice uA z.aF.length uc,.slice tA z.aB.length tc,.slice eA z.aJ.length ec],.agg #[.slice K y.aT.length P,.slice Z y.aF.length C,.slice Y y.aB.length S,.slice U y.aJ.length R]] w
   fun e w'=>e=.returned (.bool (decide (z.aT=y.aT∧z.aF=y.aF∧z.aB=y.aB∧z.aJ=y.aJ)))∧bT w w':=by
 obtain⟨X,V⟩:∃X,X=(w.alloc (.cells #[.slice oA z.aT.length oc,.slice uA z.aF.length uc,.slice tA z.aB.length tc,.slice eA z.aJ.length ec] 30)).alloc (.cells #[.slice K y.aT.length P,.slice Z y.aF.length C,.slice Y y.aB.length S,.slice U y.aJ.length R] 30):=⟨_,rfl⟩;have Q:bT w X:=by rw[V];exact((qu _ w).alloc _).alloc _
 have E:aH X w.heap.size 30 #[.slice oA z.aT.length oc,.slice uA z.aF.length uc,.slice tA z.aB.length tc,.slice eA z.aJ.length ec]:=by rw[V];exact(qv _ _ _).alloc _
 have HZ:aH X (w.heap.size+1) 30 #[.slice K y.aT.length P,.slice Z y.aF.length C,.slice Y y.aB.length S,.slice U y.aJ.length R]:=by rw[V];exact qw _ _ _ (by simp)
 have r:=Aq (h.aQ (W':=X) fun q g=>Q.cell (by omega) (fun x=>x));have s:=Aq (G.aQ (W':=X) fun q g=>Q.cell (by omega) (fun x=>x));have v:=Aq Q;have W:=Aq V;have A:=Aq M;have D:=Aq I;have i:=Aq hB;have k:=Aq E;have p:=Aq HZ;have HO:w.heap.size<X.heap.size:=E.lt;clear h G M I V Q E HZ hB;go_enter Tryz.func26,Tryz.ntmps26;go_upto_region 1 with fail
 rw[←W.o];have p0:=k.o.cell 0;have q0:=p.o.cell 0;simp only[Az,Ay]at p0 q0;go_wp2_with fail
 refine(Lv oA K oc P B B z.aT y.aT _ r.o.aT s.o.aT A.o.aT D.o.aT).mono ?_;rintro e w1⟨rfl,u⟩;have N:=Aq (v.o.trans u);have b:=Aq (u.aG k.o (fun x=>x));have c:=Aq (u.aG p.o (fun x=>x));have f:=Aq (r.o.aQ (W':=w1) fun q g=>u.cell (by have:=i.o;have:=v.o.size;omega) (fun x=>x));have d:=Aq (s.o.aQ (W':=w1) fun q g=>u.cell (by have:=i.o;have:=v.o.size;omega) (fun x=>x));clear p0 q0 u v k p r s W;obtain⟨v,k,p,r,s⟩:Hid _∧Hid _∧Hid _∧Hid _∧Hid _:=⟨N,b,c,f,d⟩;clear N b c f d;by_cases l:z.aT=y.aT
 ·rw[decide_eq_true l];have HB:=Aq l;clear l;have J:=k.o.cell 1;have q1:=p.o.cell 1;simp only[Az,Ay,Bc]at J q1;go_wp2_with fail
  refine(Lv uA Z uc C B B z.aF y.aF _ r.o.aF s.o.aF A.o.aF D.o.aF).mono ?_;rintro e w2⟨rfl,u⟩;have T:=Aq (v.o.trans u);have b:=Aq (u.aG k.o (fun x=>x));have c:=Aq (u.aG p.o (fun x=>x));have f:=Aq (r.o.aQ (W':=w2) fun q g=>u.cell (by have:=i.o;have:=v.o.size;omega) (fun x=>x));have d:=Aq (s.o.aQ (W':=w2) fun q g=>u.cell (by have:=i.o;have:=v.o.size;omega) (fun x=>x));clear J q1 u v k p r s;obtain⟨v,k,p,r,s⟩:Hid _∧Hid _∧Hid _∧Hid _∧Hid _:=⟨T,b,c,f,d⟩;clear T b c f d;by_cases H:z.aF=y.aF
  ·rw[decide_eq_true H];have hX:=Aq H;clear H;have p2:=k.o.cell 2;have q2:=p.o.cell 2;simp only[Az,Ay,Bc]at p2 q2;go_wp2_with fail
   refine(Hz tA Y tc S B B z.aB y.aB _ r.o.aB s.o.aB A.o.aB D.o.aB).mono ?_;rintro e O⟨rfl,u⟩;have hg:=Aq (v.o.trans u);have b:=Aq (u.aG k.o (fun x=>x));have c:=Aq (u.aG p.o (fun x=>x));have f:=Aq (r.o.aQ (W':=O) fun q g=>u.cell (by have:=i.o;have:=v.o.size;omega) (fun x=>x));have d:=Aq (s.o.aQ (W':=O) fun q g=>u.cell (by have:=i.o;have:=v.o.size;omega) (fun x=>x));clear p2 q2 u v k p r s;obtain⟨v,k,p,r,s⟩:Hid _∧Hid _∧Hid _∧Hid _∧Hid _:=⟨hg,b,c,f,d⟩;clear hg b c f d;by_cases n:z.aB=y.aB
   ·rw[decide_eq_true n];have hq:=Aq n;clear n;have L:=k.o.cell 3;have q3:=p.o.cell 3;simp only[Az,Ay,Bc]at L q3;go_wp2_with fail
    refine(Hz eA U ec R B B z.aJ y.aJ _ r.o.aJ s.o.aJ A.o.aJ D.o.aJ).mono ?_;rintro e F⟨rfl,u⟩;have z':=Aq (v.o.trans u);have b:=Aq (u.aG k.o (fun x=>x));have c:=Aq (u.aG p.o (fun x=>x));have f:=Aq (r.o.aQ (W':=F) fun q g=>u.cell (by have:=i.o;have:=v.o.size;omega) (fun x=>x));have d:=Aq (s.o.aQ (W':=F) fun q g=>u.cell (by have:=i.o;have:=v.o.size;omega) (fun x=>x));clear L q3 u v k p r s;obtain⟨v,k,p,r,s⟩:Hid _∧Hid _∧Hid _∧Hid _∧Hid _:=⟨z',b,c,f,d⟩;clear z' b c f d;by_cases m:z.aJ=y.aJ
    ·rw[decide_eq_true m];have HY:=Aq m;clear m;go_wp2_with fail
     go_ret;exact⟨Cs (decide_eq_true ⟨HB.o,hX.o,hq.o,HY.o⟩).symm,v.o⟩
    ·have a:¬ (z.aT=y.aT∧z.aF=y.aF∧z.aB=y.aB∧z.aJ=y.aJ):=fun h=>m h.2.2.2
     have j:=Aq a;rw[decide_eq_false m];clear a m;go_wp2_with fail
     go_ret;exact⟨Cs (decide_eq_false j.o).symm,v.o⟩
   ·have a:¬ (z.aT=y.aT∧z.aF=y.aF∧z.aB=y.aB∧z.aJ=y.aJ):=fun h=>n h.2.2.1
    have j:=Aq a;rw[decide_eq_false n];clear a n;go_wp2_with fail
    go_ret;exact⟨Cs (decide_eq_false j.o).symm,v.o⟩
  ·have a:¬ (z.aT=y.aT∧z.aF=y.aF∧z.aB=y.aB∧z.aJ=y.aJ):=fun h=>H h.2.1
   have j:=Aq a;rw[decide_eq_false H];clear a H;go_wp2_with fail
   go_ret;exact⟨Cs (decide_eq_false j.o).symm,v.o⟩
 ·have a:¬ (z.aT=y.aT∧z.aF=y.aF∧z.aB=y.aB∧z.aJ=y.aJ):=fun h=>l h.1
  have j:=Aq a;rw[decide_eq_false l];clear a l;go_wp2_with fail
  go_ret;exact⟨Cs (decide_eq_false j.o).symm,v.o⟩
theorem bT.fi {w w1 w2:World}(h:bT w w1)(k:bT w1 w2):bT w w2:=Fr.trans h (k.mono fun _ _ x=>x)
theorem Qh (w:World)(B:Nat)(W:B≤w.heap.size)(z:Zn)(cv st sk:List Int)(n p n' T r:Int)(i m U D Q P l B1 j S C f g Z:Option Addr)(L c2 c3 c4 c5 c6 c7 G N E J d5 d6 d7:Nat)(hz:eu z)(B5:cv.length≤1000000)(m0:st.length≤1000000)(B6:sk.length≤1000000)
  (h:cz w B z i m U D) (h5:aE w B 1 Q cv.length (ae cv)) (h6:aE w B 1 P st.length (ae st)) (h7:aE w B 1 l sk.length (ae sk)) (k:cz w B z B1 j S C) (k5:aE w B 1 f cv.length (ae cv)) (k6:aE w B 1 g st.length (ae st)) (k7:aE w B 1 Z sk.length (ae sk)) :
  Calls Tryz.prog 18 #[.agg #[.slice i z.aT.length L,.slice m z.aF.length c2,.slice U z.aB.length c3,.slice D z.aJ.length c4,.slice Q cv.length c5,.slice P st.length c6,.slice l sk.length c7,Aj n,Aj p,Aj r],.agg #[.slice B1 z.aT.length G,.slice j z.aF.length N,.slice S z.aB.length E,.slice C z.aJ.length J,.slice f cv.length d5,.slice g st.length d6,.slice Z sk.length d7,Aj n',Aj T,Aj r]] w fun e w'=>e=.returned (.bool true)∧bT w w':=by
 obtain⟨X,A⟩:∃X,X=(w.alloc (.cells #[.slice i z.aT.length L,.slice m z.aF.length c2,.slice U z.aB.length c3,.slice D z.aJ.length c4,.slice Q cv.length c5,.slice P st.length c6,.slice l sk.length c7,Aj n,Aj p,Aj r] 39)).alloc (.cells #[.slice B1 z.aT.length G,.slice j z.aF.length N,.slice S z.aB.length E,.slice C z.aJ.length J,.slice f cv.length d5,.slice g st.length d6,.slice Z sk.length d7,Aj n',Aj T,Aj r] 39):=⟨_,rfl⟩;have F:bT w X:=by rw[A];exact((qu _ w).alloc _).alloc _
 have V2:aH X w.heap.size 39 #[.slice i z.aT.length L,.slice m z.aF.length c2,.slice U z.aB.length c3,.slice D z.aJ.length c4,.slice Q cv.length c5,.slice P st.length c6,.slice l sk.length c7,Aj n,Aj p,Aj r]:=by rw[A];exact(qv _ _ _).alloc _
 have B2:aH X (w.heap.size+1) 39 #[.slice B1 z.aT.length G,.slice j z.aF.length N,.slice S z.aB.length E,.slice C z.aJ.length J,.slice f cv.length d5,.slice g st.length d6,.slice Z sk.length d7,Aj n',Aj T,Aj r]:=by rw[A];exact qw _ _ _ (by simp)
 have key:∀q:Addr,q.block<B→X.cell? q=w.cell? q:=fun q b=>F.cell (by omega) (fun x=>x)
 have H:=Aq (h.aQ key);have K:=Aq (k.aQ key);have H5:=Aq (h5.aQ key);have H6:=Aq (h6.aQ key);have H7:=Aq (h7.aQ key);have K5:=Aq (k5.aQ key);have K6:=Aq (k6.aQ key);have K7:=Aq (k7.aQ key);have hq:=Aq F;have HX:=Aq A;have HO:=Aq hz;have HB:=Aq W;have y:=Aq V2;have u:=Aq B2;have A7:B≤X.heap.size:=Ex W F.size;have A1:=Aq B5;have m1:=Aq m0;have hg:=Aq B6;clear h h5 h6 h7 k k5 k6 k7 A F V2 B2 W key hz B5 m0 B6;go_enter Tryz.func18,Tryz.ntmps18;go_upto_region 1 with fail
 rw[←HX.o];have p0:=y.o.cell 0;have p1:=y.o.cell 1;have p2:=y.o.cell 2;have p3:=y.o.cell 3;have q0:=u.o.cell 0;have q1:=u.o.cell 1;have q2:=u.o.cell 2;have q3:=u.o.cell 3;simp only[Az,Ay,Bc]at p0 p1 p2 p3 q0 q1 q2 q3;have l0:=y.o.lt;have l1:=u.o.lt;go_wp2_with fail
 have hn:=Oq z z B i m U D B1 j S C L c2 c3 c4 G N E J X A7 H.o K.o HO.o HO.o;rw[decide_eq_true ⟨rfl,rfl,rfl,rfl⟩]at hn;refine hn.mono ?_;rintro e w1⟨rfl,O⟩;clear hn p0 p1 p2 p3 q0 q1 q2 q3 l0 l1 HX;have G1:=Aq (bT.fi hq.o O);have V:=Aq O;clear O;have a5:=(V.o.aG y.o (fun x=>x)).cell 4;have b5:=(V.o.aG u.o (fun x=>x)).cell 4;simp only[Az,Ay,Bc]at a5 b5;have c:=(V.o.aG y.o (fun x=>x)).lt;have d:=(V.o.aG u.o (fun x=>x)).lt;go_wp2_with fail
 have v:=Hz Q f c5 d5 B B cv cv w1 (H5.o.aQ fun q b=>V.o.cell (by omega) (fun x=>x)) (K5.o.aQ fun q b=>V.o.cell (by omega) (fun x=>x)) A1.o A1.o;rw[decide_eq_true rfl]at v;refine v.mono ?_;rintro e w2⟨rfl,s⟩;have a:=Aq (bT.fi V.o s);clear v s a5 b5 c d V;obtain⟨V,_⟩:Hid _∧True:=⟨a,trivial⟩;clear a;have a6:=(V.o.aG y.o (fun x=>x)).cell 5;have b6:=(V.o.aG u.o (fun x=>x)).cell 5;simp only[Az,Ay,Bc]at a6 b6;have c:=(V.o.aG y.o (fun x=>x)).lt;have d:=(V.o.aG u.o (fun x=>x)).lt;go_wp2_with fail
 have v:=Hz P g c6 d6 B B st st w2 (H6.o.aQ fun q b=>V.o.cell (by omega) (fun x=>x)) (K6.o.aQ fun q b=>V.o.cell (by omega) (fun x=>x)) m1.o m1.o;rw[decide_eq_true rfl]at v;refine v.mono ?_;rintro e w3⟨rfl,s⟩;have a:=Aq (bT.fi V.o s);clear v s a6 b6 c d V;obtain⟨V,_⟩:Hid _∧True:=⟨a,trivial⟩;clear a;have M:=(V.o.aG y.o (fun x=>x)).cell 6;have I:=(V.o.aG u.o (fun x=>x)).cell 6;simp only[Az,Ay,Bc]at M I;have c:=(V.o.aG y.o (fun x=>x)).lt;have d:=(V.o.aG u.o (fun x=>x)).lt;go_wp2_with fail
 have v:=Hz l Z c7 d7 B B sk sk w3 (H7.o.aQ fun q b=>V.o.cell (by omega) (fun x=>x)) (K7.o.aQ fun q b=>V.o.cell (by omega) (fun x=>x)) hg.o hg.o;rw[decide_eq_true rfl]at v;refine v.mono ?_;rintro e w4⟨rfl,s⟩;have a:=Aq (bT.fi V.o s);clear v s M I c d V;obtain⟨V,_⟩:Hid _∧True:=⟨a,trivial⟩;clear a;have Y:=V.o.aG y.o (fun x=>x);have R:=V.o.aG u.o (fun x=>x);have M:=Y.cell 7;have a8:=Y.cell 8;have a9:=Y.cell 9;have I:=R.cell 7;have b8:=R.cell 8;have b9:=R.cell 9;simp only[Az,Ay,Bc]at M a8 a9 I b8 b9;have c:=Y.lt;have d:=R.lt;have HE:=Aq (bT.fi hq.o V.o);clear Y R V;go_wp2_with fail
 go_ret;exact⟨rfl,HE.o⟩
def Lp:List (Int×Int):=[(1,5),(1,7),(5,0)]
def be:List Sr.bE:=[⟨1,0,0,0,5⟩,⟨1,1,0,0,7⟩,⟨5,0,0,1,0⟩,⟨42,0,0,0,1⟩]
theorem Zhw (w:World):Calls Tryz.prog 37 #[] w fun e w'=>∃g k,e=.returned (.tuple #[.agg #[.slice none 0 0,.slice (some ⟨g,0,none⟩) 3 3,.slice none 0 0,Aj 0],.slice (some ⟨k,0,none⟩) 4 4]) ∧
  Below w.heap.size w w'∧aE w' w'.heap.size 2 (some ⟨g,0,none⟩) 3 (Cq Lp)∧aE w' w'.heap.size 5 (some ⟨k,0,none⟩) 4 (Cg be):=by
 go_enter Tryz.func37,Tryz.ntmps37;go_wp2_with fail
 refine bodyPost_ret (v:=.tuple #[.agg #[.slice none 0 0,.slice (some ⟨w.heap.size+1,0,none⟩) 3 3,.slice none 0 0,Aj 0],.slice (some ⟨w.heap.size+1+1,0,none⟩) 4 4]) (by simp[results,Tryz.results37,go_sem]) rfl ⟨w.heap.size+1,w.heap.size+1+1,rfl,(((aI.alloc Aw _).alloc (by simp) _).alloc (by simp;omega) _),?_,?_⟩
 ·exact qB (cs:=Cq Lp) ((qw _ _ _ (by simp)).alloc _) 2 3 rfl
 ·exact qB (cs:=Cg be) (qw _ _ _ (by simp)) 5 4 rfl
end
end Go.Proofs.YtnhebmgibiomnaaGreat

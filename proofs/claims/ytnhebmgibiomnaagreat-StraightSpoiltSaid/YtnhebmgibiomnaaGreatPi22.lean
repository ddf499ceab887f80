import Derived.Test.YtnhebmgibiomnaaGreatPi14
import Derived.Test.YtnhebmgibiomnaaGreatPi16
set_option linter.unusedVariables false
set_option linter.unusedSimpArgs false
set_option maxRecDepth 100000
set_option maxHeartbeats 8000000
namespace Go.Proofs.YtnhebmgibiomnaaGreat
section
open Go.RowKit Mc
theorem Ii (A Y:Option Addr)(c C B B':Nat)(l l':List Int)(w:World) (h:aE w B 1 A l.length (ae l)) (z:aE w B' 1 Y l'.length (ae l')) (G:l.length≤1000000) (_hl':l'.length≤1000000) :
  Calls Tryz.prog 43 #[.slice A l.length c,.slice Y l'.length C] w fun e w'=>e=.returned (.bool (decide (l=l')))∧bJ w w':=by
 by_cases u:l.length=l'.length
 ·obtain⟨n,f⟩:∃n,n=l.length:=⟨_,rfl⟩;rw[←u]at z _hl' ⊢;rw[←f]at h z G ⊢;have v:=Aq f;have Z:=Aq u;have H:=Aq h;have M:=Aq z;clear h z f u _hl';have L:((n:Int) != (n:Int))=false:=by simp
  go_enter Tryz.func43,Tryz.ntmps43;go_wp2_with fail
  go_loopw [5] (fun i wr=>∃k:Nat,k≤n∧i=Aj k∧bJ w wr∧wr.heap=w.heap∧l.take k=l'.take k) (fun i _=>n-(intOf i).toNat)
  case atStart=>exact⟨0,by omega,rfl,qF _ _,rfl,rfl⟩
  case round =>
   obtain⟨k,hk,rfl,m,a,j⟩:=hrel;have I:=Aq a;have X:∀p,wr.cell? p=w.cell? p:=fun p=>by unfold World.cell?;rw[a]
   have E:=Aq X;have K:=Aq j;have q:=Aq m;clear a X j m;by_cases N:k<n
   ·obtain⟨x,d⟩:∃x,l[k]?=some x:=⟨_,Bf (by have:=v.o;omega)⟩;obtain⟨y,s⟩:∃y,l'[k]?=some y:=⟨_,Bf (by have:=v.o;have:=Z.o;omega)⟩;obtain⟨b,off,rfl,HB,V⟩:=H.o.2 (by omega);obtain⟨W,O,rfl,h',P⟩:=M.o.2 (by omega);have F:=V _ _ (Pu l k x d);have S:=P _ _ (Pu l' k y s);rw[←E.o]at F S;have Q:=Aq d;have U:=Aq s;clear V P d s;have i1:(0:Int)≤(k:Int):=by omega
    have T:(k:Int)<(n:Int):=by omega
    by_cases r:x=y
    ·subst r;go_wp2_with fail
     go_quiet (fail);go_wp2;go_roundw
     case rel=>exact⟨k+1,by omega,by go_num,q.o.drewN _,I.o,Qj Q.o U.o K.o⟩
     case measure=>simp[intOf];omega
    ·have HN:(x != y)=true:=by simpa using r
     go_wp2_with fail
     go_quiet (fail);go_wp2;go_ret;exact⟨Cw (decide_eq_false (Sk Q.o U.o r)).symm,q.o.drewN _⟩
   ·have R:k=n:=by omega
    subst R;go_wp2;go_ret;have J:l=l':=by
     have:=K.o;rw[oL (by have:=v.o;omega),oL (by have:=v.o;have:=Z.o;omega)]at this;exact this
    exact⟨Cw (decide_eq_true J).symm,q.o⟩
 ·have L:((l.length:Int) != (l'.length:Int))=true:=by simp;omega
  have g:¬ l=l':=fun e=>u (by rw[e])
  have D:=Aq g;clear h z g;generalize l.length=n at *;generalize l'.length=n' at *;go_enter Tryz.func43,Tryz.ntmps43;go_wp2_with fail
  go_ret;exact⟨Cw (decide_eq_false D.o).symm,qF _ _⟩
theorem Mj (A F:Option Addr)(c T B B':Nat) (l l':List (Int×Int)) (w:World) (h:aE w B 2 A l.length (bu l)) (z:aE w B' 2 F l'.length (bu l')) (hl:l.length≤1000000) (_hl':l'.length≤1000000) :
  Calls Tryz.prog 54 #[.slice A l.length c,.slice F l'.length T] w fun e w'=>e=.returned (.bool (decide (l=l')))∧bJ w w':=by
 by_cases u:l.length=l'.length
 ·obtain⟨n,K⟩:∃n,n=l.length:=⟨_,rfl⟩;rw[←u]at z _hl' ⊢;rw[←K]at h z hl ⊢;have q:=Aq K;have I:=Aq u;have H:=Aq h;have H':=Aq z;clear h z K u _hl';have HB:((n:Int) != (n:Int))=false:=by simp
  go_enter Tryz.func54,Tryz.ntmps54;go_wp2_with fail
  go_loopw [5] (fun i wr=>∃k:Nat,k≤n∧i=Aj k∧bJ w wr∧wr.heap=w.heap∧l.take k=l'.take k) (fun i _=>n-(intOf i).toNat)
  case atStart=>exact⟨0,by omega,rfl,qF _ _,rfl,rfl⟩
  case round =>
   obtain⟨k,hk,rfl,Q,g,P⟩:=hrel;have HH:=Aq g;have E:∀p,wr.cell? p=w.cell? p:=fun p=>by unfold World.cell?;rw[g]
   have h':=Aq E;have D:=Aq P;have v:=Aq Q;clear g E P Q;by_cases d1:k<n
   ·obtain⟨x,m⟩:∃x,l[k]?=some x:=⟨_,Bf (by have:=q.o;omega)⟩;obtain⟨y,f⟩:∃y,l'[k]?=some y:=⟨_,Bf (by have:=q.o;have:=I.o;omega)⟩;obtain⟨b,off,rfl,hh,j⟩:=H.o.2 (by omega);obtain⟨b',HY,rfl,hy,Y⟩:=H'.o.2 (by omega);obtain⟨g0,J⟩:=Ve l k x m;obtain⟨C,R⟩:=Ve l' k y f;have G:=j _ _ g0;have s:=j _ _ J;have V:=Y _ _ C;have X:=Y _ _ R;rw[←mt]at s X;rw[←h'.o]at G s V X;have Z:=Aq m;have d:=Aq f;clear j Y m f g0 J C R;have i1:(0:Int)≤(k:Int):=by omega
    have i2:(k:Int)<(n:Int):=by omega
    obtain⟨M,L⟩:=x;obtain⟨S,N⟩:=y;simp only at G s V X;by_cases a:M=S
    ·subst a;by_cases r:L=N
     ·subst r;go_wp2_with fail
      go_quiet (fail);go_wp2;go_roundw
      case rel=>exact⟨k+1,by omega,by go_num,v.o.drewN _,HH.o,Qj Z.o d.o D.o⟩
      case measure=>simp[intOf];omega
     ·have HN:(L != N)=true:=by simpa using r
      go_wp2_with fail
      go_quiet (fail);go_wp2;go_ret;exact⟨Cw (decide_eq_false (Sk Z.o d.o (fun e=>r (by injection e)))).symm,v.o.drewN _⟩
    ·have HN:(M != S)=true:=by simpa using a
     go_wp2_with fail
     go_quiet (fail);go_wp2;go_ret;exact⟨Cw (decide_eq_false (Sk Z.o d.o (fun e=>a (by injection e)))).symm,v.o.drewN _⟩
   ·have O:k=n:=by omega
    subst O;go_wp2;go_ret;have he:l=l':=by
     have:=D.o;rw[oL (by have:=q.o;omega),oL (by have:=q.o;have:=I.o;omega)]at this;exact this
    exact⟨Cw (decide_eq_true he).symm,v.o⟩
 ·have HB:((l.length:Int) != (l'.length:Int))=true:=by simp;omega
  have U:¬ l=l':=fun e=>u (by rw[e])
  have W:=Aq U;clear h z U;generalize l.length=n at *;generalize l'.length=n' at *;go_enter Tryz.func54,Tryz.ntmps54;go_wp2_with fail
  go_ret;exact⟨Cw (decide_eq_false W.o).symm,qF _ _⟩
theorem Pd (z y:Zn)(B:Nat)(oA uA tA eA Y U Z V:Option Addr)(oc uc tc ec S D C R:Nat)(w:World)(L:B≤w.heap.size)(h:dC w B z oA uA tA eA)(O:dC w B y Y U Z V)(I:ek z)(M:ek y) :
  Calls Tryz.prog 26 #[.agg #[.slice oA z.aT.length oc,.slice uA z.aF.length uc,.slice tA z.aB.length tc,.slice eA z.aJ.length ec],.agg #[.slice Y y.aT.length S,.slice U y.aF.length D,.slice Z y.aB.length C,.slice V y.aJ.length R]] w
   fun e w'=>e=.returned (.bool (decide (z.aT=y.aT∧z.aF=y.aF∧z.aB=y.aB∧z.aJ=y.aJ)))∧bJ w w':=by
 obtain⟨X,K⟩:∃X,X=(w.alloc (.cells #[.slice oA z.aT.length oc,.slice uA z.aF.length uc,.slice tA z.aB.length tc,.slice eA z.aJ.length ec] 30)).alloc (.cells #[.slice Y y.aT.length S,.slice U y.aF.length D,.slice Z y.aB.length C,.slice V y.aJ.length R] 30):=⟨_,rfl⟩;have P:bJ w X:=by rw[K];exact((qF _ w).alloc _).alloc _
 have E:aH X w.heap.size 30 #[.slice oA z.aT.length oc,.slice uA z.aF.length uc,.slice tA z.aB.length tc,.slice eA z.aJ.length ec]:=by rw[K];exact(qG _ _ _).alloc _
 have HZ:aH X (w.heap.size+1) 30 #[.slice Y y.aT.length S,.slice U y.aF.length D,.slice Z y.aB.length C,.slice V y.aJ.length R]:=by rw[K];exact qH _ _ _ (by simp)
 have k:=Aq (h.aQ (W':=X) fun q g=>P.cell (by omega) (fun x=>x));have p:=Aq (O.aQ (W':=X) fun q g=>P.cell (by omega) (fun x=>x));have v:=Aq P;have HX:=Aq K;have Q:=Aq I;have A:=Aq M;have i:=Aq L;have r:=Aq E;have s:=Aq HZ;have HO:w.heap.size<X.heap.size:=E.lt;clear h O I M K P E HZ L;go_enter Tryz.func26,Tryz.ntmps26;go_upto_region 1 with fail
 rw[←HX.o];have p0:=r.o.cell 0;have q0:=s.o.cell 0;simp only[Az,Ay]at p0 q0;go_wp2_with fail
 refine(Mj oA Y oc S B B z.aT y.aT _ k.o.aT p.o.aT Q.o.aT A.o.aT).mono ?_;rintro e w1⟨rfl,u⟩;have W:=Aq (v.o.trans u);have a:=Aq (u.aG r.o (fun x=>x));have c:=Aq (u.aG s.o (fun x=>x));have d:=Aq (k.o.aQ (W':=w1) fun q g=>u.cell (by have:=i.o;have:=v.o.size;omega) (fun x=>x));have f:=Aq (p.o.aQ (W':=w1) fun q g=>u.cell (by have:=i.o;have:=v.o.size;omega) (fun x=>x));clear p0 q0 u v r s k p HX;obtain⟨v,r,s,k,p⟩:Hid _∧Hid _∧Hid _∧Hid _∧Hid _:=⟨W,a,c,d,f⟩;clear W a c d f;by_cases n:z.aT=y.aT
 ·rw[decide_eq_true n];have hq:=Aq n;clear n;have p1:=r.o.cell 1;have q1:=s.o.cell 1;simp only[Az,Ay,Ba]at p1 q1;go_wp2_with fail
  refine(Mj uA U uc D B B z.aF y.aF _ k.o.aF p.o.aF Q.o.aF A.o.aF).mono ?_;rintro e w2⟨rfl,u⟩;have hg:=Aq (v.o.trans u);have a:=Aq (u.aG r.o (fun x=>x));have c:=Aq (u.aG s.o (fun x=>x));have d:=Aq (k.o.aQ (W':=w2) fun q g=>u.cell (by have:=i.o;have:=v.o.size;omega) (fun x=>x));have f:=Aq (p.o.aQ (W':=w2) fun q g=>u.cell (by have:=i.o;have:=v.o.size;omega) (fun x=>x));clear p1 q1 u v r s k p;obtain⟨v,r,s,k,p⟩:Hid _∧Hid _∧Hid _∧Hid _∧Hid _:=⟨hg,a,c,d,f⟩;clear hg a c d f;by_cases H:z.aF=y.aF
  ·rw[decide_eq_true H];have HB:=Aq H;clear H;have G:=r.o.cell 2;have q2:=s.o.cell 2;simp only[Az,Ay,Ba]at G q2;go_wp2_with fail
   refine(Ii tA Z tc C B B z.aB y.aB _ k.o.aB p.o.aB Q.o.aB A.o.aB).mono ?_;rintro e J⟨rfl,u⟩;have T:=Aq (v.o.trans u);have a:=Aq (u.aG r.o (fun x=>x));have c:=Aq (u.aG s.o (fun x=>x));have d:=Aq (k.o.aQ (W':=J) fun q g=>u.cell (by have:=i.o;have:=v.o.size;omega) (fun x=>x));have f:=Aq (p.o.aQ (W':=J) fun q g=>u.cell (by have:=i.o;have:=v.o.size;omega) (fun x=>x));clear G q2 u v r s k p;obtain⟨v,r,s,k,p⟩:Hid _∧Hid _∧Hid _∧Hid _∧Hid _:=⟨T,a,c,d,f⟩;clear T a c d f;by_cases l:z.aB=y.aB
   ·rw[decide_eq_true l];have HY:=Aq l;clear l;have F:=r.o.cell 3;have q3:=s.o.cell 3;simp only[Az,Ay,Ba]at F q3;go_wp2_with fail
    refine(Ii eA V ec R B B z.aJ y.aJ _ k.o.aJ p.o.aJ Q.o.aJ A.o.aJ).mono ?_;rintro e N⟨rfl,u⟩;have z':=Aq (v.o.trans u);have a:=Aq (u.aG r.o (fun x=>x));have c:=Aq (u.aG s.o (fun x=>x));have d:=Aq (k.o.aQ (W':=N) fun q g=>u.cell (by have:=i.o;have:=v.o.size;omega) (fun x=>x));have f:=Aq (p.o.aQ (W':=N) fun q g=>u.cell (by have:=i.o;have:=v.o.size;omega) (fun x=>x));clear F q3 u v r s k p;obtain⟨v,r,s,k,p⟩:Hid _∧Hid _∧Hid _∧Hid _∧Hid _:=⟨z',a,c,d,f⟩;clear z' a c d f;by_cases m:z.aJ=y.aJ
    ·rw[decide_eq_true m];have hX:=Aq m;clear m;go_wp2_with fail
     go_ret;exact⟨Cw (decide_eq_true ⟨hq.o,HB.o,HY.o,hX.o⟩).symm,v.o⟩
    ·have b:¬ (z.aT=y.aT∧z.aF=y.aF∧z.aB=y.aB∧z.aJ=y.aJ):=fun h=>m h.2.2.2
     have j:=Aq b;rw[decide_eq_false m];clear b m;go_wp2_with fail
     go_ret;exact⟨Cw (decide_eq_false j.o).symm,v.o⟩
   ·have b:¬ (z.aT=y.aT∧z.aF=y.aF∧z.aB=y.aB∧z.aJ=y.aJ):=fun h=>l h.2.2.1
    have j:=Aq b;rw[decide_eq_false l];clear b l;go_wp2_with fail
    go_ret;exact⟨Cw (decide_eq_false j.o).symm,v.o⟩
  ·have b:¬ (z.aT=y.aT∧z.aF=y.aF∧z.aB=y.aB∧z.aJ=y.aJ):=fun h=>H h.2.1
   have j:=Aq b;rw[decide_eq_false H];clear b H;go_wp2_with fail
   go_ret;exact⟨Cw (decide_eq_false j.o).symm,v.o⟩
 ·have b:¬ (z.aT=y.aT∧z.aF=y.aF∧z.aB=y.aB∧z.aJ=y.aJ):=fun h=>n h.1
  have j:=Aq b;rw[decide_eq_false n];clear b n;go_wp2_with fail
  go_ret;exact⟨Cw (decide_eq_false j.o).symm,v.o⟩
theorem bJ.fq {w w1 w2:World}(h:bJ w w1)(k:bJ w1 w2):bJ w w2:=Fr.trans h (k.mono fun _ _ x=>x)
theorem Qt (w:World)(B:Nat)(hB:B≤w.heap.size)(z:Zn)(cv st sk:List Int)(n p n' W r:Int)(g D j S m A l B1 Q U Y C P i:Option Addr)(L c2 c3 c4 c5 c6 c7 J E G M d5 d6 d7:Nat)(hz:ek z)(m1:cv.length≤1000000)(hg:st.length≤1000000)(hn:sk.length≤1000000)
  (h:dC w B z g D j S) (h5:aE w B 1 m cv.length (ae cv)) (h6:aE w B 1 A st.length (ae st)) (h7:aE w B 1 l sk.length (ae sk)) (k:dC w B z B1 Q U Y) (k5:aE w B 1 C cv.length (ae cv)) (k6:aE w B 1 P st.length (ae st)) (k7:aE w B 1 i sk.length (ae sk)) :
  Calls Tryz.prog 18 #[.agg #[.slice g z.aT.length L,.slice D z.aF.length c2,.slice j z.aB.length c3,.slice S z.aJ.length c4,.slice m cv.length c5,.slice A st.length c6,.slice l sk.length c7,Aj n,Aj p,Aj r],.agg #[.slice B1 z.aT.length J,.slice Q z.aF.length E,.slice U z.aB.length G,.slice Y z.aJ.length M,.slice C cv.length d5,.slice P st.length d6,.slice i sk.length d7,Aj n',Aj W,Aj r]] w fun e w'=>e=.returned (.bool true)∧bJ w w':=by
 obtain⟨X,f⟩:∃X,X=(w.alloc (.cells #[.slice g z.aT.length L,.slice D z.aF.length c2,.slice j z.aB.length c3,.slice S z.aJ.length c4,.slice m cv.length c5,.slice A st.length c6,.slice l sk.length c7,Aj n,Aj p,Aj r] 39)).alloc (.cells #[.slice B1 z.aT.length J,.slice Q z.aF.length E,.slice U z.aB.length G,.slice Y z.aJ.length M,.slice C cv.length d5,.slice P st.length d6,.slice i sk.length d7,Aj n',Aj W,Aj r] 39):=⟨_,rfl⟩;have I:bJ w X:=by rw[f];exact((qF _ w).alloc _).alloc _
 have V2:aH X w.heap.size 39 #[.slice g z.aT.length L,.slice D z.aF.length c2,.slice j z.aB.length c3,.slice S z.aJ.length c4,.slice m cv.length c5,.slice A st.length c6,.slice l sk.length c7,Aj n,Aj p,Aj r]:=by rw[f];exact(qG _ _ _).alloc _
 have A1:aH X (w.heap.size+1) 39 #[.slice B1 z.aT.length J,.slice Q z.aF.length E,.slice U z.aB.length G,.slice Y z.aJ.length M,.slice C cv.length d5,.slice P st.length d6,.slice i sk.length d7,Aj n',Aj W,Aj r]:=by rw[f];exact qH _ _ _ (by simp)
 have key:∀q:Addr,q.block<B→X.cell? q=w.cell? q:=fun q d=>I.cell (by omega) (fun x=>x)
 have H:=Aq (h.aQ key);have K:=Aq (k.aQ key);have H5:=Aq (h5.aQ key);have H6:=Aq (h6.aQ key);have H7:=Aq (h7.aQ key);have K5:=Aq (k5.aQ key);have K6:=Aq (k6.aQ key);have K7:=Aq (k7.aQ key);have hX:=Aq I;have HX:=Aq f;have HO:=Aq hz;have HB:=Aq hB;have y:=Aq V2;have u:=Aq A1;have A3:B≤X.heap.size:=Ex hB I.size;have m0:=Aq m1;have B7:=Aq hg;have hq:=Aq hn;clear h h5 h6 h7 k k5 k6 k7 f I V2 A1 hB key hz m1 hg hn;go_enter Tryz.func18,Tryz.ntmps18;go_upto_region 1 with fail
 rw[←HX.o];have p0:=y.o.cell 0;have p1:=y.o.cell 1;have p2:=y.o.cell 2;have p3:=y.o.cell 3;have q0:=u.o.cell 0;have q1:=u.o.cell 1;have q2:=u.o.cell 2;have q3:=u.o.cell 3;simp only[Az,Ay,Ba]at p0 p1 p2 p3 q0 q1 q2 q3;have l0:=y.o.lt;have l1:=u.o.lt;go_wp2_with fail
 have O:=Pd z z B g D j S B1 Q U Y L c2 c3 c4 J E G M X A3 H.o K.o HO.o HO.o;rw[decide_eq_true ⟨rfl,rfl,rfl,rfl⟩]at O;refine O.mono ?_;rintro e w1⟨rfl,T⟩;clear O p0 p1 p2 p3 q0 q1 q2 q3 l0 l1 HX;have G1:=Aq (bJ.fq hX.o T);have V:=Aq T;clear T;have a5:=(V.o.aG y.o (fun x=>x)).cell 4;have b5:=(V.o.aG u.o (fun x=>x)).cell 4;simp only[Az,Ay,Ba]at a5 b5;have b:=(V.o.aG y.o (fun x=>x)).lt;have c:=(V.o.aG u.o (fun x=>x)).lt;go_wp2_with fail
 have v:=Ii m C c5 d5 B B cv cv w1 (H5.o.aQ fun q d=>V.o.cell (by omega) (fun x=>x)) (K5.o.aQ fun q d=>V.o.cell (by omega) (fun x=>x)) m0.o m0.o;rw[decide_eq_true rfl]at v;refine v.mono ?_;rintro e w2⟨rfl,s⟩;have a:=Aq (bJ.fq V.o s);clear v s a5 b5 b c V;obtain⟨V,_⟩:Hid _∧True:=⟨a,trivial⟩;clear a;have a6:=(V.o.aG y.o (fun x=>x)).cell 5;have b6:=(V.o.aG u.o (fun x=>x)).cell 5;simp only[Az,Ay,Ba]at a6 b6;have b:=(V.o.aG y.o (fun x=>x)).lt;have c:=(V.o.aG u.o (fun x=>x)).lt;go_wp2_with fail
 have v:=Ii A P c6 d6 B B st st w2 (H6.o.aQ fun q d=>V.o.cell (by omega) (fun x=>x)) (K6.o.aQ fun q d=>V.o.cell (by omega) (fun x=>x)) B7.o B7.o;rw[decide_eq_true rfl]at v;refine v.mono ?_;rintro e w3⟨rfl,s⟩;have a:=Aq (bJ.fq V.o s);clear v s a6 b6 b c V;obtain⟨V,_⟩:Hid _∧True:=⟨a,trivial⟩;clear a;have F:=(V.o.aG y.o (fun x=>x)).cell 6;have N:=(V.o.aG u.o (fun x=>x)).cell 6;simp only[Az,Ay,Ba]at F N;have b:=(V.o.aG y.o (fun x=>x)).lt;have c:=(V.o.aG u.o (fun x=>x)).lt;go_wp2_with fail
 have v:=Ii l i c7 d7 B B sk sk w3 (H7.o.aQ fun q d=>V.o.cell (by omega) (fun x=>x)) (K7.o.aQ fun q d=>V.o.cell (by omega) (fun x=>x)) hq.o hq.o;rw[decide_eq_true rfl]at v;refine v.mono ?_;rintro e w4⟨rfl,s⟩;have a:=Aq (bJ.fq V.o s);clear v s F N b c V;obtain⟨V,_⟩:Hid _∧True:=⟨a,trivial⟩;clear a;have R:=V.o.aG y.o (fun x=>x);have Z:=V.o.aG u.o (fun x=>x);have F:=R.cell 7;have a8:=R.cell 8;have a9:=R.cell 9;have N:=Z.cell 7;have b8:=Z.cell 8;have b9:=Z.cell 9;simp only[Az,Ay,Ba]at F a8 a9 N b8 b9;have b:=R.lt;have c:=Z.lt;have HE:=Aq (bJ.fq hX.o V.o);clear R Z V;go_wp2_with fail
 go_ret;exact⟨rfl,HE.o⟩
def Md:List (Int×Int):=[(1,5),(1,7),(5,0)]
def be:List Sr.bE:=[⟨1,0,0,0,5⟩,⟨1,1,0,0,7⟩,⟨5,0,0,1,0⟩,⟨42,0,0,0,1⟩]
theorem Zij (w:World):Calls Tryz.prog 37 #[] w fun e w'=>∃g k,e=.returned (.tuple #[.agg #[.slice none 0 0,.slice (some ⟨g,0,none⟩) 3 3,.slice none 0 0,Aj 0],.slice (some ⟨k,0,none⟩) 4 4]) ∧
  Below w.heap.size w w'∧aE w' w'.heap.size 2 (some ⟨g,0,none⟩) 3 (Cu Md)∧aE w' w'.heap.size 5 (some ⟨k,0,none⟩) 4 (Ch be):=by
 go_enter Tryz.func37,Tryz.ntmps37;go_wp2_with fail
 refine bodyPost_ret (v:=.tuple #[.agg #[.slice none 0 0,.slice (some ⟨w.heap.size+1,0,none⟩) 3 3,.slice none 0 0,Aj 0],.slice (some ⟨w.heap.size+1+1,0,none⟩) 4 4]) (by simp[results,Tryz.results37,go_sem]) rfl ⟨w.heap.size+1,w.heap.size+1+1,rfl,(((aI.alloc Aw _).alloc (by simp) _).alloc (by simp;omega) _),?_,?_⟩
 ·exact qM (cs:=Cu Md) ((qH _ _ _ (by simp)).alloc _) 2 3 rfl
 ·exact qM (cs:=Ch be) (qH _ _ _ (by simp)) 5 4 rfl
end
end Go.Proofs.YtnhebmgibiomnaaGreat

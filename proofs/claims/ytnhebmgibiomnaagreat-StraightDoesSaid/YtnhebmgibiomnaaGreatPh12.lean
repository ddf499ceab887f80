import Derived.Test.YtnhebmgibiomnaaGreatPh11
set_option linter.unusedVariables false
set_option linter.unusedSimpArgs false
set_option maxRecDepth 100000
set_option maxHeartbeats 8000000
namespace Go.Proofs.YtnhebmgibiomnaaGreat
section
open Go.RowKit Mc
theorem Ny (n a:Int)(s:St):(deed n a s).steps=s.steps∧(deed n a s).aL=s.aL:=by
 unfold deed;simp only;split <;> first|exact⟨rfl,rfl⟩|skip
 all_goals first
  | (unfold bm;split <;> exact⟨rfl,rfl⟩)
  | (unfold bv;split <;> exact⟨rfl,rfl⟩)
  | (unfold call;split <;> exact⟨rfl,rfl⟩)
  | (unfold bv;split <;> split <;> exact⟨rfl,rfl⟩)
  | (unfold bv;split;(split <;> exact⟨rfl,rfl⟩);exact⟨rfl,rfl⟩)
theorem Qs {s s':St}{op a:Int} (h:next s=(s',some (op,a))) :
  ∃f r,s'.aD=f::r∧f.next<f.aA.length∧∃n:Nat,op=n∧1≤n∧n≤39∧Le s' = { s' with aD := { f with next:=f.next+1 } :: r }∧bV n a (Le s')∧s'.steps=s.steps∧s'.aL=s.aL:=by
 unfold next at h;split at h
 ·cases h
 ·cases b:Mc.settle s.aD with
  |nil=>rw[b]at h;cases h
  |cons f r =>
   rw[b]at h;simp only at h;generalize x:Fj { s with aD:=f::r } (f.aA.getD f.next (0,0)).1 (f.aA.getD f.next (0,0)).2 (f.aA.length-1-f.next:Int)=e at h;by_cases u:e=0
   ·rw[if_pos u]at h
    injection h with y v
    injection v with v
    rw[v]at x;simp only at x;rw[u]at x;have d:Le s' = { s' with aD := { f with next:=f.next+1 } :: r } := by subst y;rfl
    have m:f.next<f.aA.length:=by
     have:∀(l:List Fm) f r,Mc.settle l=f::r→f.next<f.aA.length:=by
      intro l
      induction l with
      |nil=>intro f r h;cases h
      |cons g q ih =>
       intro f r h;unfold Mc.settle at h;split at h
       ·injection h with p j;subst p;assumption
       ·split at h
        ·injection h with p j;subst p;simp only;omega
        ·exact ih f r h
     exact this _ _ _ b
    unfold Fj at x;split at x
    ·cases x
    ·split at x
     ·cases x
     ·split at x
      ·cases x
      ·split at x
       ·cases x
       ·rename_i q1 q2 q3 z;simp only at q2 q3 z;obtain⟨n,c⟩:=Ds (show 0≤op by omega);refine⟨f,r,by subst y;rfl,m,n,c,by omega,by omega,d,?_,by subst y;rfl,by subst y;rfl⟩;rw[d];rw[c]at q2 q3 z;subst y;refine⟨by simp only;omega,by simp only;omega,fun i=>⟨_,_,rfl,?_⟩,fun i=>?_⟩
        ·simp only;have:¬ (a<0∨(f.aA.length-1-f.next:Int)<a):=fun k=>q3 ⟨by omega,k⟩
         omega
        ·simp only[Bo]at z ⊢;have:¬ (a<0∨(s.funcs.length:Int)≤a∨20<r.length+1):=fun k=>z ⟨by omega,k⟩
         omega
   ·rw[if_neg u]at h;cases h
theorem dM {s s':St} (h:next s=(s',none)):Mc.step s=(s',false):=by unfold Mc.step;rw[h]
theorem fM {s s':St}{ins:Int×Int} (h:next s=(s',some ins)):Mc.step s=({ deed ins.1 ins.2 (Le s') with steps:=(deed ins.1 ins.2 (Le s')).steps+1,aL:=max (deed ins.1 ins.2 (Le s')).aL (deed ins.1 ins.2 (Le s')).stack.length },true):=by unfold Mc.step;rw[h]
def Oe (w:World)(mb:Nat)(O:Nat→Prop)(s:St)(e:Ending)(w':World):Prop:=e=.returned (.bool (Mc.step s).2)∧(∃L',ag w' mb (ext O w w') L' (Mc.step s).1)∧Fr O w w'
theorem Zkp {w:World}{O:Nat→Prop}{y:Nat}(h:eE w O y){n:Nat}(p:1≤n)(k:n≤39) :
  ∃bs,DeedBox w O bs n∧∀W:World,W.heap[y]?=w.heap[y]?→Sem.run Tryz.prog (Instr.lookup 207 (.map (some y)) (Aj (n:Int)) false) W=.ok (Ng bs n) W:=by
 obtain⟨_,bs,clock,v,cY⟩:=h;refine⟨bs,cY n p k,fun W z=>?_⟩;rw[v]at z;have u:(Gu bs 39).toArray.toList[n-1]?=some ⟨Aj ((n-1+1:Nat):Int),Ng bs (n-1+1),n-1⟩:=by
  unfold Gu;rw[pO,Cc,eq (by omega)];rfl
 rw[show n-1+1=n by omega]at u;refine Jo (P:=Tryz.prog) Tryz.underlying207 Tryz.underlying3 z u rfl fun r s q x=>?_
 unfold Gu at x;rw[pO,Cc,eq (by omega)]at x;simp only[ou,Bv]at x;subst x;exact⟨_,rfl,by omega⟩
theorem Zeg (w:World)(mb:Nat)(O:Nat→Prop)(L:bd)(s:St)(h:ag w mb O L s)(h6:s.steps≤1000000000) :
  Calls Tryz.prog 81 #[.pointer (some ⟨mb,0,none⟩)] w (Oe w mb O s):=by
 have HN:=Aq (Vf w mb O L s h);have u1:=h.aG.lt;clear h;go_enter Tryz.func81,Tryz.ntmps81;go_wp2_with fail
 refine HN.o.mono ?_;rintro e w1⟨⟨x,y,rfl,G⟩,⟨L1,K⟩,w3⟩;clear HN;rcases S:next s with⟨s',o⟩
 rw[S]at G K;simp only at G K;cases o with
 |none =>
  have U:Hid (Oe w mb O s (.returned (.bool false)) (w1.alloc (.cells #[Aj x,Aj y] 96))):=Aq ⟨by rw[dM S],⟨L1,by rw[dM S];exact(K.alloc _).mono (fun _ h=>.inl h) (fun k u=>by rcases u with u|u;exact(K.alloc _).eQ k u;exact u.2)⟩,w3.alloc _⟩;clear K w3 G;simp only[Option.isSome_none];go_wp2_with fail
  go_ret;exact U.o
 |some ins =>
  have:=G ins rfl;subst this;obtain⟨f,r,J,u6,n,rfl,x5,x4,x1,x6,h8,x9⟩:=Qs S;simp only[Option.isSome_some];have h3:=Aq (fM S);obtain⟨g,c,v,vs,ht⟩:=K.bk J;have h0:=K.ok.aD f (by rw[J];simp);have C:=K.alloc (.cells #[Aj (n:Int),Aj y] 96);have hF:=w3.alloc (.cells #[Aj (n:Int),Aj y] 96);have x0:g≠w1.heap.size:=fun e=>K.gY Aw (e ▸ ht.gO)
  have h2:=qv w1 96 #[Aj (n:Int),Aj y];have u2:=Aq (K.gY (pp w1.heap.size));have P:nj (w1.alloc (.cells #[Aj (n:Int),Aj y] 96)) mb O L1 s' f r g c v vs:=ht.aQ (fun k u=>oW _ _ _ (K.eQ k u)) (by simp);have z8:=Aq x6;have y6:=Aq h8;clear K w3 ht G x6 h8 x9 S;go_wp2_with fail
  generalize w1.alloc (.cells #[Aj (n:Int),Aj y] 96)=W at *;generalize w1.heap.size=ib at *;have R:Hid (ag ((W.setCell ⟨g,r.length*3+1,none⟩ (Aj ((f.next:Int)+1))).drew) mb O L1 (Le s')):=Aq (by
   rw[x1,show (f.next:Int)+1=((f.next+1:Nat):Int) by omega];exact(C.jb J P (f' := { f with next:=f.next+1 }) (n:=f.next+1) (j:=r.length*3+1) (by omega) rfl (Pk _ vs f r P.n_ _) ⟨by simp only;omega,h0.2.1⟩).drew)
  have hk:=Aq ((hF.setCell (p:=⟨g,r.length*3+1,none⟩) (.inl P.gO) (Aj ((f.next:Int)+1))).drew);have h4:=Aq ((h2.dE (p:=⟨g,r.length*3+1,none⟩) x0.symm (Aj ((f.next:Int)+1))).drew);have t1:=P.c1;have z7:=P.fz (r.length*3+1);have tg:=P.glt;have u4:=P.gmb;have y3:=P.dA;have c1:=C.aG.cell 1;rw[C.c.c1,P.fr]at c1;have z2:=C.aG.lt;have z0:=C.ok.fW;rw[J,Bo]at z0;obtain⟨u7,u3,u0⟩:=h0;clear C hF P J x1 h2 x0;generalize hm:r.length=m at *;generalize S:f.next=nx at *;clear hm S;obtain⟨k,z9,u5,u⟩:∃k,m<k∧k≤m+1∧m+1=k:=⟨m+1,by omega,by omega,rfl⟩;rw[u]at c1 y3;clear u;have y7:IntKind.i64.wrap ((k:Int)-1)=(m:Int):=by rw[Do _ (by omega)];omega
  have y1:IntKind.i64.wrap ((nx:Int)+1)=(nx:Int)+1:=by rw[Do _ (by omega)]
  go_region;go_wp2_with fail
  clear t1 z7 tg c1 z2 y7 y1;generalize (W.setCell ⟨g,m*3+1,none⟩ (Aj ((nx:Int)+1))).drew=H at *;generalize x3:Le s'=sb at *;have i0:=h4.o.cell 0;have i1:=h4.o.cell 1;simp only[Az,Ay,Bc]at i0 i1;have gx:=R.o.aG.cell 49;rw[R.o.c.gx]at gx;obtain⟨bs,cY,h1⟩:=Zkp R.o.dd x5 x4;have W2:=h1 H.drew rfl;obtain⟨id,h9,x7,Z⟩:=Zgg R.o.drew (a:=y) x5 x4 z8.o (cY.aQ rfl (fun _ _ _ h=>h.drew) (fun _ h=>h));have z4:∃N,Ng bs n=.func (.func id) #[] N∧(N = #[]∨∃p,N = #[p])∧Calls Tryz.prog id (#[.pointer (some ⟨mb,0,none⟩),Aj y]++N) H.drew (aw H.drew mb O (deed n y sb)):=by
   unfold Ng;rw[h9];cases hq:(Mq n).2 with
   |none=>rw[hq]at Z;exact⟨_,rfl,.inl rfl,Z⟩
   |some q=>rw[hq]at Z;exact⟨_,rfl,.inr ⟨_,rfl⟩,Z⟩
  obtain⟨N,hv,y5,Z⟩:=z4;rw[hv]at W2;have x2:=Aq (Ny (n:Int) y sb);have hM:sb.steps=s.steps:=by rw[←y6.o,←x3];unfold Le;split <;> rfl
  clear h1 cY hv h9 x3;have h7:=Aq hM;clear hM;rcases y5 with rfl|⟨p,rfl⟩
  ·have I:Hid (Calls Tryz.prog id #[.pointer (some ⟨mb,0,none⟩),Aj y] H.drew (aw H.drew mb O (deed n y sb))):=Aq (by first|exact Z|simpa using Z);go_still_tail 10,(by kernel_rfl);change wpList _ _ _ _ _ H.drew;go_wp2_with fail
   refine I.o.mono ?_;rintro e l⟨rfl,⟨L3,z⟩,A⟩;clear I Z W2 x7 i0 i1 gx h4;generalize deed n y sb=d at *;have y8:d.steps≤1000000000:=by rw[x2.o.1,h7.o];exact h6
   have y4:=z.ok.aL;have z6:=z.ok.dg;obtain⟨Ak,ck,M,_,_⟩:=z.sk.form;have dY:=z.aG.cell 40;rw[z.c.dY,M]at dY;have gV:=z.aG.cell 45;rw[z.c.gV]at gV;have gB:=z.aG.cell 46;rw[z.c.gB]at gB;have HP:=z.aG.frozen 45;have D:=z.aG.frozen 46;have F:=z.aG.lt;have b:=z.aZ (z.c.fC (d.steps+1)) (z.ok.dr z.ok.store z.ok.dR z.ok.look z.ok.move z.ok.bG z.ok.aL);have B:=A.setCell (p:=⟨mb,45,none⟩) (.inl R.o.ew) (Aj ((d.steps+1:Nat):Int));have X:=b.aZ (b.c.jg (max d.aL d.stack.length)) (b.ok.dr b.ok.store b.ok.dR b.ok.look b.ok.move b.ok.bG (by omega));have Q:=B.setCell (p:=⟨mb,46,none⟩) (.inl R.o.ew) (Aj ((max d.aL d.stack.length:Nat):Int));have E:((d.steps+1:Nat):Int)=(d.steps:Int)+1:=by omega
   have T:((max d.aL d.stack.length:Nat):Int)=max (d.aL:Int) (d.stack.length:Int):=by omega
   rw[E]at b X B Q;rw[T]at X Q;have U:Hid (Oe w mb O s (.returned (.bool true)) ((((l.setCell ⟨mb,45,none⟩ (Aj ((d.steps:Int)+1))).setCell ⟨mb,46,none⟩ (Aj (max (d.aL:Int) (d.stack.length:Int))))).drew)):=Aq (by
    have z3:=hk.o.size;have z5:=A.size;unfold Oe;rw[h3.o];refine⟨rfl,⟨_,X.drew.mono (fun k u=>?_) (fun k u=>?_)⟩,hk.o.drew.trans Q.drew⟩
    ·rcases u with u|u
     ·exact .inl u
     ·refine .inr ⟨?_,?_⟩
      ·have:H.drew.heap.size=H.heap.size:=rfl;omega
      ·have:=u.2;simpa [World.setCell]using this
    ·rcases u with u|u
     ·exact X.drew.eQ k (.inl u)
     ·exact u.2)
   clear b X B Q E T M z A;generalize d.steps=i at *;generalize d.aL=Y at *;generalize d.stack.length=V at *;have h5:IntKind.i64.wrap ((i:Int)+1)=(i:Int)+1:=by rw[Do _ (by omega)]
   go_wp2_with fail
   have z1:(l.setCell ⟨mb,45,none⟩ (Aj ((i:Int)+1))).cell? ⟨mb,46,none⟩=some (Aj Y):=(mt _ _ _ _ (fun e=>by injection e with e1 e2;omega)).trans gB;have y0:(l.setCell ⟨mb,45,none⟩ (Aj ((i:Int)+1))).cell? ⟨mb,40,none⟩=some (.slice Ak V ck):=(mt _ _ _ _ (fun e=>by injection e with e1 e2;omega)).trans dY;have y2:(l.setCell ⟨mb,45,none⟩ (Aj ((i:Int)+1))).frozen? ⟨mb,46,none⟩=false:=by rw[World.frozen?_setCell];exact D
   have x8:mb<(l.setCell ⟨mb,45,none⟩ (Aj ((i:Int)+1))).heap.size:=by simpa [World.setCell]using F
   clear dY gV gB HP D F h5;generalize l.setCell ⟨mb,45,none⟩ (Aj ((i:Int)+1))=W4 at *;by_cases y9:(Y:Int)<(V:Int)
   ·rw[show max (Y:Int) (V:Int)=V by omega]at U;go_region;go_wp2_with fail
    go_ret;exact U.o
   ·rw[show max (Y:Int) (V:Int)=Y by omega]at U;go_region;go_wp2_with fail
    go_ret;exact U.o
  ·have I:Hid (Calls Tryz.prog id #[.pointer (some ⟨mb,0,none⟩),Aj y,p] H.drew (aw H.drew mb O (deed n y sb))):=Aq (by first|exact Z|simpa using Z);go_still_tail 10,(by kernel_rfl);change wpList _ _ _ _ _ H.drew;go_wp2_with fail
   refine I.o.mono ?_;rintro e l⟨rfl,⟨L3,z⟩,A⟩;clear I Z W2 x7 i0 i1 gx h4;generalize deed n y sb=d at *;have y8:d.steps≤1000000000:=by rw[x2.o.1,h7.o];exact h6
   have y4:=z.ok.aL;have z6:=z.ok.dg;obtain⟨Ak,ck,M,_,_⟩:=z.sk.form;have dY:=z.aG.cell 40;rw[z.c.dY,M]at dY;have gV:=z.aG.cell 45;rw[z.c.gV]at gV;have gB:=z.aG.cell 46;rw[z.c.gB]at gB;have HP:=z.aG.frozen 45;have D:=z.aG.frozen 46;have F:=z.aG.lt;have b:=z.aZ (z.c.fC (d.steps+1)) (z.ok.dr z.ok.store z.ok.dR z.ok.look z.ok.move z.ok.bG z.ok.aL);have B:=A.setCell (p:=⟨mb,45,none⟩) (.inl R.o.ew) (Aj ((d.steps+1:Nat):Int));have X:=b.aZ (b.c.jg (max d.aL d.stack.length)) (b.ok.dr b.ok.store b.ok.dR b.ok.look b.ok.move b.ok.bG (by omega));have Q:=B.setCell (p:=⟨mb,46,none⟩) (.inl R.o.ew) (Aj ((max d.aL d.stack.length:Nat):Int));have E:((d.steps+1:Nat):Int)=(d.steps:Int)+1:=by omega
   have T:((max d.aL d.stack.length:Nat):Int)=max (d.aL:Int) (d.stack.length:Int):=by omega
   rw[E]at b X B Q;rw[T]at X Q;have U:Hid (Oe w mb O s (.returned (.bool true)) ((((l.setCell ⟨mb,45,none⟩ (Aj ((d.steps:Int)+1))).setCell ⟨mb,46,none⟩ (Aj (max (d.aL:Int) (d.stack.length:Int))))).drew)):=Aq (by
    have z3:=hk.o.size;have z5:=A.size;unfold Oe;rw[h3.o];refine⟨rfl,⟨_,X.drew.mono (fun k u=>?_) (fun k u=>?_)⟩,hk.o.drew.trans Q.drew⟩
    ·rcases u with u|u
     ·exact .inl u
     ·refine .inr ⟨?_,?_⟩
      ·have:H.drew.heap.size=H.heap.size:=rfl;omega
      ·have:=u.2;simpa [World.setCell]using this
    ·rcases u with u|u
     ·exact X.drew.eQ k (.inl u)
     ·exact u.2)
   clear b X B Q E T M z A;generalize d.steps=i at *;generalize d.aL=Y at *;generalize d.stack.length=V at *;have h5:IntKind.i64.wrap ((i:Int)+1)=(i:Int)+1:=by rw[Do _ (by omega)]
   go_wp2_with fail
   have z1:(l.setCell ⟨mb,45,none⟩ (Aj ((i:Int)+1))).cell? ⟨mb,46,none⟩=some (Aj Y):=(mt _ _ _ _ (fun e=>by injection e with e1 e2;omega)).trans gB;have y0:(l.setCell ⟨mb,45,none⟩ (Aj ((i:Int)+1))).cell? ⟨mb,40,none⟩=some (.slice Ak V ck):=(mt _ _ _ _ (fun e=>by injection e with e1 e2;omega)).trans dY;have y2:(l.setCell ⟨mb,45,none⟩ (Aj ((i:Int)+1))).frozen? ⟨mb,46,none⟩=false:=by rw[World.frozen?_setCell];exact D
   have x8:mb<(l.setCell ⟨mb,45,none⟩ (Aj ((i:Int)+1))).heap.size:=by simpa [World.setCell]using F
   clear dY gV gB HP D F h5;generalize l.setCell ⟨mb,45,none⟩ (Aj ((i:Int)+1))=W4 at *;by_cases y9:(Y:Int)<(V:Int)
   ·rw[show max (Y:Int) (V:Int)=V by omega]at U;go_region;go_wp2_with fail
    go_ret;exact U.o
   ·rw[show max (Y:Int) (V:Int)=Y by omega]at U;go_region;go_wp2_with fail
    go_ret;exact U.o
theorem ag.cr {w w':World}{mb:Nat}{O:Nat→Prop}{L:bd}{s:St}(h:ag w mb O L s)(z:bT w w'):ag w' mb O L s :=
 h.aQ (fun k y=>z.block k (h.eQ k y) (fun x=>x)) (fun _ h=>h) (fun k y=>Dm (h.eQ k y) z.size)
structure dZ (B:Nat) (s:St) (W:World) (og cu to en cv st sk:Value):Prop where
 og:W.ownsRow B 76 2 og s.aT.length (bq s.aT)
 cu:W.ownsRow B 76 2 cu s.aF.length (bq s.aF)
 to:W.ownsRow B 3 1 to s.aB.length (ae s.aB)
 en:W.ownsRow B 3 1 en s.aJ.length (ae s.aJ)
 cv:W.ownsRow B 3 1 cv s.aP.length (ae s.aP)
 st:W.ownsRow B 3 1 st 32 (ae s.store)
 sk:W.ownsRow B 3 1 sk s.stack.length (ae s.stack.reverse)
theorem dZ.cr {B:Nat}{s:St}{W W':World}{og cu to en cv st sk:Value}(h:dZ B s W og cu to en cv st sk)(x:bT W W'):dZ B s W' og cu to en cv st sk :=
 ⟨Ca h.og x,Ca h.cu x,Ca h.to x,Ca h.en x,Ca h.cv x,Ca h.st x,Ca h.sk x⟩
theorem dZ.aZ {B:Nat}{s:St}{W:World}{og cu to en cv st sk:Value}(h:dZ B s W og cu to en cv st sk){b:Nat}{cs:Array Value}(x:aH W b 39 cs)(i:Nat)(u:Value):dZ B s (W.setCell ⟨b,i,none⟩ u) og cu to en cv st sk :=
 ⟨Ci h.og x (by decide) i u,Ci h.cu x (by decide) i u,Ci h.to x (by decide) i u,Ci h.en x (by decide) i u,Ci h.cv x (by decide) i u,Ci h.st x (by decide) i u,Ci h.sk x (by decide) i u⟩
def di (W:World)(b:Nat)(p y u x r v z q u8 k:Value):World :=
 (((((((((W.setCell ⟨b,0,none⟩ p).setCell ⟨b,1,none⟩ y).setCell ⟨b,2,none⟩ u).setCell ⟨b,3,none⟩ x).setCell ⟨b,4,none⟩ r).setCell ⟨b,5,none⟩ v).setCell ⟨b,6,none⟩ z).setCell ⟨b,7,none⟩ q).setCell ⟨b,8,none⟩ u8).setCell ⟨b,9,none⟩ k
theorem He {B:Nat}{s:St}{w W:World}{og cu to en cv st sk:Value}{b:Nat}{cs:Array Value}(g:aH W b 39 cs)(h:dZ B s W og cu to en cv st sk)(e:B≤b)(f:Below B w W)(y v q x z r k c u8 a:Value) :
  dZ B s (di W b y v q x z r k c u8 a) og cu to en cv st sk∧Below B w (di W b y v q x z r k c u8 a)∧aH (di W b y v q x z r k c u8 a) b 39 ((((((((((cs.setIfInBounds 0 y).setIfInBounds 1 v).setIfInBounds 2 q).setIfInBounds 3 x).setIfInBounds 4 z).setIfInBounds 5 r).setIfInBounds 6 k).setIfInBounds 7 c).setIfInBounds 8 u8).setIfInBounds 9 a):=by
 have step:∀{W:World} {cs:Array Value} (i:Nat) (u:Value),(dZ B s W og cu to en cv st sk∧Below B w W∧aH W b 39 cs)→dZ B s (W.setCell ⟨b,i,none⟩ u) og cu to en cv st sk∧Below B w (W.setCell ⟨b,i,none⟩ u)∧aH (W.setCell ⟨b,i,none⟩ u) b 39 (cs.setIfInBounds i u) :=
  fun i u d=>⟨d.1.aZ d.2.2 i u,d.2.1.setCell (p:=⟨b,i,none⟩) e u,d.2.2.aZ i u⟩
 exact step 9 a (step 8 u8 (step 7 c (step 6 k (step 5 r (step 4 z (step 3 x (step 2 q (step 1 v (step 0 y ⟨h,f,g⟩)))))))))
def Ub (w:World)(s:St)(e:Ending)(w':World):Prop :=
 ∃og cu to en cv st sk,e=.returned (.agg #[og,cu,to,en,cv,st,sk,Aj s.steps,Aj s.aL,Aj s.bp])∧dZ w.heap.size s w' og cu to en cv st sk∧Below w.heap.size w w'
def RaV (mb B:Nat)(L:bd)(s:St)(i:Nat)(v:Value)(W:World):Prop :=
 match i with
 |0=>v=.pointer (some ⟨mb,0,none⟩)
 |1=>v=.pointer (some ⟨mb,0,none⟩)
 |2=>v=.pointer (some ⟨mb,2,none⟩)
 |3=>v=.pointer (some ⟨mb,2,none⟩)
 |4=>v=L.og
 |5=>W.ownsRow B 76 2 v s.aT.length (bq s.aT)
 |6=>v=.pointer (some ⟨mb,0,none⟩)
 |7=>v=.pointer (some ⟨mb,0,none⟩)
 |8=>v=.pointer (some ⟨mb,2,none⟩)
 |9=>v=.pointer (some ⟨mb,3,none⟩)
 |10=>v=L.cu
 |11=>W.ownsRow B 76 2 v s.aF.length (bq s.aF)
 |12=>v=.pointer (some ⟨mb,0,none⟩)
 |13=>v=.pointer (some ⟨mb,0,none⟩)
 |14=>v=.pointer (some ⟨mb,2,none⟩)
 |15=>v=.pointer (some ⟨mb,4,none⟩)
 |16=>v=L.to
 |17=>W.ownsRow B 3 1 v s.aB.length (ae s.aB)
 |18=>v=.pointer (some ⟨mb,0,none⟩)
 |19=>v=.pointer (some ⟨mb,0,none⟩)
 |20=>v=.pointer (some ⟨mb,2,none⟩)
 |21=>v=.pointer (some ⟨mb,5,none⟩)
 |22=>v=L.en
 |23=>W.ownsRow B 3 1 v s.aJ.length (ae s.aJ)
 |24=>∃og cu to en,v=.agg #[og,cu,to,en]∧W.ownsRow B 76 2 og s.aT.length (bq s.aT)∧W.ownsRow B 76 2 cu s.aF.length (bq s.aF)∧W.ownsRow B 3 1 to s.aB.length (ae s.aB)∧W.ownsRow B 3 1 en s.aJ.length (ae s.aJ)
 |25=>v=.pointer (some ⟨mb,0,none⟩)
 |26=>v=.pointer (some ⟨mb,0,none⟩)
 |27=>v=.pointer (some ⟨mb,7,none⟩)
 |28=>v=L.cv
 |29=>W.ownsRow B 3 1 v s.aP.length (ae s.aP)
 |30=>v=.pointer (some ⟨mb,0,none⟩)
 |31=>v=.pointer (some ⟨mb,0,none⟩)
 |32=>v=.pointer (some ⟨mb,8,none⟩)
 |33=>v=.slice (some ⟨mb,8,none⟩) 32 32
 |34=>W.ownsRow B 3 1 v 32 (ae s.store)
 |35=>v=.pointer (some ⟨mb,0,none⟩)
 |36=>v=.pointer (some ⟨mb,0,none⟩)
 |37=>v=.pointer (some ⟨mb,40,none⟩)
 |38=>v=L.sk
 |39=>W.ownsRow B 3 1 v s.stack.length (ae s.stack.reverse)
 |40=>v=.pointer (some ⟨mb,0,none⟩)
 |41=>v=.pointer (some ⟨mb,0,none⟩)
 |42=>v=.pointer (some ⟨mb,45,none⟩)
 |43=>v=Aj s.steps
 |44=>v=.pointer (some ⟨mb,0,none⟩)
 |45=>v=.pointer (some ⟨mb,0,none⟩)
 |46=>v=.pointer (some ⟨mb,46,none⟩)
 |47=>v=Aj s.aL
 |48=>v=.pointer (some ⟨mb,0,none⟩)
 |49=>v=.pointer (some ⟨mb,0,none⟩)
 |50=>v=.pointer (some ⟨mb,48,none⟩)
 |51=>v=Aj s.bp
 |52=>∃og cu to en cv st sk,v=.agg #[og,cu,to,en,cv,st,sk,Aj s.steps,Aj s.aL,Aj s.bp]∧dZ B s W og cu to en cv st sk
 |_=>True
theorem RaV.cr {mb B:Nat}{L:bd}{s:St}{i:Nat}{v:Value}{W W':World}(h:RaV mb B L s i v W)(x:bT W W'):RaV mb B L s i v W':=by
 match i with
 |0|1|2|3|4|6|7|8|9|10|12|13|14|15|16|18|19|20|21|22|25|26|27|28|30|31|32|33|35|36|37|38|40|41|42|43|44|45|46|47|48|49|50|51=>exact h
 |5|11|17|23|29|34|39=>exact Ca h x
 |24=>obtain⟨y,u,to,en,e,z,k,q,p⟩:=h;exact⟨y,u,to,en,e,Ca z x,Ca k x,Ca q x,Ca p x⟩
 |52=>obtain⟨y,u,to,en,cv,st,sk,e,z⟩:=h;exact⟨y,u,to,en,cv,st,sk,e,z.cr x⟩
 |i+53=>trivial
structure lq (og cu to en cv st sk:Value):Prop where
 p1:ar og cu
 p2:ar to en
 p3:ar to cv
 p4:ar to st
 p5:ar to sk
 p6:ar en cv
 p7:ar en st
 p8:ar en sk
 p9:ar cv st
 p10:ar cv sk
 p11:ar st sk
def nN (i:Nat)(v:Value)(j:Nat)(u:Value):Prop :=
 match i with
 |5=>match j with|11|17|23|29|34|39=>ar v u|24=>False|_=>True
 |11=>match j with|5|17|23|29|34|39=>ar v u|24=>False|_=>True
 |17=>match j with|5|11|23|29|34|39=>ar v u|24=>False|_=>True
 |23=>match j with|5|11|17|29|34|39=>ar v u|24=>False|_=>True
 |29=>match j with|5|11|17|23|34|39=>ar v u|52=>False|_=>True
 |34=>match j with|5|11|17|23|29|39=>ar v u|52=>False|_=>True
 |39=>match j with|5|11|17|23|29|34=>ar v u|52=>False|_=>True
 |24=>match j with
  |5=>∃b c d,v=.agg #[u,b,c,d]
  |11=>∃a c d,v=.agg #[a,u,c,d]
  |17=>∃a b d,v=.agg #[a,b,u,d]
  |23=>∃a b c,v=.agg #[a,b,c,u]
  |52=>False
  |_=>True
 |52=>match j with
  |24=>∃og cu to en cv st sk a b c,v=.agg #[og,cu,to,en,cv,st,sk,a,b,c]∧u=.agg #[og,cu,to,en]
  |29=>∃og cu to en st sk a b c,v=.agg #[og,cu,to,en,u,st,sk,a,b,c]
  |34=>∃og cu to en cv sk a b c,v=.agg #[og,cu,to,en,cv,u,sk,a,b,c]
  |39=>∃og cu to en cv st a b c,v=.agg #[og,cu,to,en,cv,st,u,a,b,c]
  |_=>True
 |_=>True
def Zgn (w:World)(s:St)(e:Ending)(w':World):Prop :=
 ∃og cu to en cv st sk,e=.returned (.agg #[og,cu,to,en,cv,st,sk,Aj s.steps,Aj s.aL,Aj s.bp])∧dZ w.heap.size s w' og cu to en cv st sk∧Below w.heap.size w w'∧lq og cu to en cv st sk
theorem Us (w:World)(mb:Nat)(O:Nat→Prop)(L:bd)(s:St)(h:ag w mb O L s) :
  Calls Tryz.prog 71 #[.pointer (some ⟨mb,0,none⟩)] w (Zgn w s):=by
 have j3:=h.aG.lt;have HX:=Aq (h.alloc (.cells #[.slice none 0 0,.slice none 0 0,.slice none 0 0,.slice none 0 0,.slice none 0 0,.slice none 0 0,.slice none 0 0,Aj 0,Aj 0,Aj 0] 39));have HB:=Aq (qv w 39 #[.slice none 0 0,.slice none 0 0,.slice none 0 0,.slice none 0 0,.slice none 0 0,.slice none 0 0,.slice none 0 0,Aj 0,Aj 0,Aj 0]);have HW:=Aq ((ds w.heap.size w).alloc Aw (.cells #[.slice none 0 0,.slice none 0 0,.slice none 0 0,.slice none 0 0,.slice none 0 0,.slice none 0 0,.slice none 0 0,Aj 0,Aj 0,Aj 0] 39));clear h;go_enter Tryz.func71,Tryz.ntmps71;go_wp2_with fail
 generalize w.alloc (.cells #[.slice none 0 0,.slice none 0 0,.slice none 0 0,.slice none 0 0,.slice none 0 0,.slice none 0 0,.slice none 0 0,Aj 0,Aj 0,Aj 0] 39)=X at *;have w5:=HW.o.size;refine Hw (RaV mb w.heap.size L s) nN (fun W=>bT X W) bT (by as_aux_lemma=>kernel_rfl) (by as_aux_lemma=>kernel_rfl) 53 rfl ?_ ?_ ?_ ?_
 ·intro i v W W' d hr;exact d.cr hr
 ·exact(qu _ _).drew
 ·intro j ev val W T q V z h8 u4 p;have Q:=Aq h8;have U:=Aq u4;have _e0:ev (.tmp 0)=.pointer (some ⟨mb,0,none⟩):=z.du 0 (by kernel_rfl);have _ec:=z.const;have _ef:=z.func;have hM:=HX.o.cr V;have y:=Aq hM;have k:=Aq V;have g4:=hM.aG.lt;have j4:=V.size;clear V hM h8 u4
  match j,q with
  |0,_ =>
   refine⟨_,rfl,rfl,?_⟩;unfold Bl;go_simp;exact⟨rfl,k.o,qu _ _,fun _ _=>trivial⟩
  |1,_ =>
   have d0:=p 0 (by kernel_rfl);have x0:=z.bX 0 6 (by kernel_rfl) (by kernel_rfl);simp only[RaV]at d0;rw[d0]at x0;refine⟨_,rfl,rfl,?_⟩;unfold Bl;go_simp;exact⟨rfl,k.o,qu _ _,fun _ _=>trivial⟩
  |2,_ =>
   have d1:=p 1 (by kernel_rfl);have x1:=z.bX 1 7 (by kernel_rfl) (by kernel_rfl);simp only[RaV]at d1;rw[d1]at x1;refine⟨_,rfl,rfl,?_⟩;unfold Bl;go_simp;exact⟨rfl,k.o,qu _ _,fun _ _=>trivial⟩
  |3,_ =>
   have d2:=p 2 (by kernel_rfl);have x2:=z.bX 2 8 (by kernel_rfl) (by kernel_rfl);simp only[RaV]at d2;rw[d2]at x2;refine⟨_,rfl,rfl,?_⟩;unfold Bl;go_simp;exact⟨rfl,k.o,qu _ _,fun _ _=>trivial⟩
  |4,_ =>
   have d3:=p 3 (by kernel_rfl);have x3:=z.bX 3 9 (by kernel_rfl) (by kernel_rfl);simp only[RaV]at d3;rw[d3]at x3;have c0:=y.o.aG.cell 2;rw[y.o.c.c2]at c0;refine⟨_,rfl,rfl,?_⟩;unfold Bl;go_simp;exact⟨rfl,k.o,qu _ _,fun _ _=>trivial⟩
  |5,_ =>
   have d4:=p 4 (by kernel_rfl);have x4:=z.bX 4 10 (by kernel_rfl) (by kernel_rfl);simp only[RaV]at d4;rw[d4]at x4;obtain⟨A,c,d,_,_⟩:=y.o.og.form;have r:=y.o.og.1;rw[d]at x4 r;have f:=qx r;have n:=Aq f;have ho:s.aT.length≤1000000:=by have:=y.o.ok.cX;have:=y.o.ok.dL;have:=y.o.ok.tl;have:=y.o.ok.iC;have:=y.o.ok.fY;have:=y.o.ok.dg;omega
   clear d r f;refine⟨_,rfl,rfl,?_⟩;unfold Bl;go_simp;refine(Vv W A _ c _ _ n.o (Ow _) (by omega)).mono ?_;rintro e E⟨F,rfl,g,l⟩;refine⟨_,rfl,Cj g (by omega),k.o.trans l,l,fun j q=>?_⟩;have H:=Q.o j q;have m:=U.o j q
   match j with
   |11|17|23|29|34|39=>exact Eg (by simpa only[RaV]using H) g
   |24=>exact absurd (m.symm.trans (by kernel_rfl)) od
   |0|1|2|3|4|5|6|7|8|9|10|12|13|14|15|16|18|19|20|21|22|25|26|27|28|30|31|32|33|35|36|37|38|40|41|42|43|44|45|46|47|48|49|50|51|52=>trivial
   |j+53=>trivial
  |6,_ =>
   refine⟨_,rfl,rfl,?_⟩;unfold Bl;go_simp;exact⟨rfl,k.o,qu _ _,fun _ _=>trivial⟩
  |7,_ =>
   have d6:=p 6 (by kernel_rfl);have x6:=z.bX 6 12 (by kernel_rfl) (by kernel_rfl);simp only[RaV]at d6;rw[d6]at x6;refine⟨_,rfl,rfl,?_⟩;unfold Bl;go_simp;exact⟨rfl,k.o,qu _ _,fun _ _=>trivial⟩
  |8,_ =>
   have d7:=p 7 (by kernel_rfl);have x7:=z.bX 7 13 (by kernel_rfl) (by kernel_rfl);simp only[RaV]at d7;rw[d7]at x7;refine⟨_,rfl,rfl,?_⟩;unfold Bl;go_simp;exact⟨rfl,k.o,qu _ _,fun _ _=>trivial⟩
  |9,_ =>
   have d8:=p 8 (by kernel_rfl);have x8:=z.bX 8 14 (by kernel_rfl) (by kernel_rfl);simp only[RaV]at d8;rw[d8]at x8;refine⟨_,rfl,rfl,?_⟩;unfold Bl;go_simp;exact⟨rfl,k.o,qu _ _,fun _ _=>trivial⟩
  |10,_ =>
   have d9:=p 9 (by kernel_rfl);have x9:=z.bX 9 15 (by kernel_rfl) (by kernel_rfl);simp only[RaV]at d9;rw[d9]at x9;have c0:=y.o.aG.cell 3;rw[y.o.c.c3]at c0;refine⟨_,rfl,rfl,?_⟩;unfold Bl;go_simp;exact⟨rfl,k.o,qu _ _,fun _ _=>trivial⟩
  |11,_ =>
   have kE:=p 10 (by kernel_rfl);have z9:=z.bX 10 16 (by kernel_rfl) (by kernel_rfl);simp only[RaV]at kE;rw[kE]at z9;obtain⟨A,c,d,_,_⟩:=y.o.cu.form;have r:=y.o.cu.1;rw[d]at z9 r;have f:=qx r;have n:=Aq f;have ho:s.aF.length≤1000000:=by have:=y.o.ok.cX;have:=y.o.ok.dL;have:=y.o.ok.tl;have:=y.o.ok.iC;have:=y.o.ok.fY;have:=y.o.ok.dg;omega
   clear d r f;refine⟨_,rfl,rfl,?_⟩;unfold Bl;go_simp;refine(Vv W A _ c _ _ n.o (Ow _) (by omega)).mono ?_;rintro e E⟨F,rfl,g,l⟩;refine⟨_,rfl,Cj g (by omega),k.o.trans l,l,fun j q=>?_⟩;have H:=Q.o j q;have m:=U.o j q
   match j with
   |5|17|23|29|34|39=>exact Eg (by simpa only[RaV]using H) g
   |24=>exact absurd (m.symm.trans (by kernel_rfl)) od
   |0|1|2|3|4|6|7|8|9|10|11|12|13|14|15|16|18|19|20|21|22|25|26|27|28|30|31|32|33|35|36|37|38|40|41|42|43|44|45|46|47|48|49|50|51|52=>trivial
   |j+53=>trivial
  |12,_ =>
   refine⟨_,rfl,rfl,?_⟩;unfold Bl;go_simp;exact⟨rfl,k.o,qu _ _,fun _ _=>trivial⟩
  |13,_ =>
   have jH:=p 12 (by kernel_rfl);have g5:=z.bX 12 18 (by kernel_rfl) (by kernel_rfl);simp only[RaV]at jH;rw[jH]at g5;refine⟨_,rfl,rfl,?_⟩;unfold Bl;go_simp;exact⟨rfl,k.o,qu _ _,fun _ _=>trivial⟩
  |14,_ =>
   have nU:=p 13 (by kernel_rfl);have g7:=z.bX 13 19 (by kernel_rfl) (by kernel_rfl);simp only[RaV]at nU;rw[nU]at g7;refine⟨_,rfl,rfl,?_⟩;unfold Bl;go_simp;exact⟨rfl,k.o,qu _ _,fun _ _=>trivial⟩
  |15,_ =>
   have nW:=p 14 (by kernel_rfl);have g6:=z.bX 14 20 (by kernel_rfl) (by kernel_rfl);simp only[RaV]at nW;rw[nW]at g6;refine⟨_,rfl,rfl,?_⟩;unfold Bl;go_simp;exact⟨rfl,k.o,qu _ _,fun _ _=>trivial⟩
  |16,_ =>
   have b5:=p 15 (by kernel_rfl);have j1:=z.bX 15 21 (by kernel_rfl) (by kernel_rfl);simp only[RaV]at b5;rw[b5]at j1;have c0:=y.o.aG.cell 4;rw[y.o.c.c4]at c0;refine⟨_,rfl,rfl,?_⟩;unfold Bl;go_simp;exact⟨rfl,k.o,qu _ _,fun _ _=>trivial⟩
  |17,_ =>
   have mW:=p 16 (by kernel_rfl);have v7:=z.bX 16 22 (by kernel_rfl) (by kernel_rfl);simp only[RaV]at mW;rw[mW]at v7;obtain⟨A,c,d,_,_⟩:=y.o.to.form;have r:=y.o.to.1;rw[d]at v7 r;have f:=qx r;have n:=Aq f;have ho:s.aB.length≤1000000:=by have:=y.o.ok.cX;have:=y.o.ok.dL;have:=y.o.ok.tl;have:=y.o.ok.iC;have:=y.o.ok.fY;have:=y.o.ok.dg;omega
   clear d r f;refine⟨_,rfl,rfl,?_⟩;unfold Bl;go_simp;refine(Gq W A _ c _ _ n.o (Ho _) (by omega)).mono ?_;rintro e E⟨F,rfl,g,l⟩;refine⟨_,rfl,Cj g (by omega),k.o.trans l,l,fun j q=>?_⟩;have H:=Q.o j q;have m:=U.o j q
   match j with
   |5|11|23|29|34|39=>exact Eg (by simpa only[RaV]using H) g
   |24=>exact absurd (m.symm.trans (by kernel_rfl)) od
   |0|1|2|3|4|6|7|8|9|10|12|13|14|15|16|17|18|19|20|21|22|25|26|27|28|30|31|32|33|35|36|37|38|40|41|42|43|44|45|46|47|48|49|50|51|52=>trivial
   |j+53=>trivial
  |18,_ =>
   refine⟨_,rfl,rfl,?_⟩;unfold Bl;go_simp;exact⟨rfl,k.o,qu _ _,fun _ _=>trivial⟩
  |19,_ =>
   have d18:=p 18 (by kernel_rfl);have g0:=z.bX 18 24 (by kernel_rfl) (by kernel_rfl);simp only[RaV]at d18;rw[d18]at g0;refine⟨_,rfl,rfl,?_⟩;unfold Bl;go_simp;exact⟨rfl,k.o,qu _ _,fun _ _=>trivial⟩
  |20,_ =>
   have d19:=p 19 (by kernel_rfl);have e4:=z.bX 19 25 (by kernel_rfl) (by kernel_rfl);simp only[RaV]at d19;rw[d19]at e4;refine⟨_,rfl,rfl,?_⟩;unfold Bl;go_simp;exact⟨rfl,k.o,qu _ _,fun _ _=>trivial⟩
  |21,_ =>
   have d20:=p 20 (by kernel_rfl);have e6:=z.bX 20 26 (by kernel_rfl) (by kernel_rfl);simp only[RaV]at d20;rw[d20]at e6;refine⟨_,rfl,rfl,?_⟩;unfold Bl;go_simp;exact⟨rfl,k.o,qu _ _,fun _ _=>trivial⟩
  |22,_ =>
   have d21:=p 21 (by kernel_rfl);have i4:=z.bX 21 27 (by kernel_rfl) (by kernel_rfl);simp only[RaV]at d21;rw[d21]at i4;have c0:=y.o.aG.cell 5;rw[y.o.c.c5]at c0;refine⟨_,rfl,rfl,?_⟩;unfold Bl;go_simp;exact⟨rfl,k.o,qu _ _,fun _ _=>trivial⟩
  |23,_ =>
   have v6:=p 22 (by kernel_rfl);have u0:=z.bX 22 28 (by kernel_rfl) (by kernel_rfl);simp only[RaV]at v6;rw[v6]at u0;obtain⟨A,c,d,_,_⟩:=y.o.en.form;have r:=y.o.en.1;rw[d]at u0 r;have f:=qx r;have n:=Aq f;have ho:s.aJ.length≤1000000:=by have:=y.o.ok.cX;have:=y.o.ok.dL;have:=y.o.ok.tl;have:=y.o.ok.iC;have:=y.o.ok.fY;have:=y.o.ok.dg;omega
   clear d r f;refine⟨_,rfl,rfl,?_⟩;unfold Bl;go_simp;refine(Gq W A _ c _ _ n.o (Ho _) (by omega)).mono ?_;rintro e E⟨F,rfl,g,l⟩;refine⟨_,rfl,Cj g (by omega),k.o.trans l,l,fun j q=>?_⟩;have H:=Q.o j q;have m:=U.o j q
   match j with
   |5|11|17|29|34|39=>exact Eg (by simpa only[RaV]using H) g
   |24=>exact absurd (m.symm.trans (by kernel_rfl)) od
   |0|1|2|3|4|6|7|8|9|10|12|13|14|15|16|18|19|20|21|22|23|25|26|27|28|30|31|32|33|35|36|37|38|40|41|42|43|44|45|46|47|48|49|50|51|52=>trivial
   |j+53=>trivial
  |24,_ =>
   have d5:=p 5 (by kernel_rfl);have x5:=z.bX 5 11 (by kernel_rfl) (by kernel_rfl);simp only[RaV]at d5;have iq:=p 11 (by kernel_rfl);have f6:=z.bX 11 17 (by kernel_rfl) (by kernel_rfl);simp only[RaV]at iq;have lB:=p 17 (by kernel_rfl);have j2:=z.bX 17 23 (by kernel_rfl) (by kernel_rfl);simp only[RaV]at lB;have e1:=p 23 (by kernel_rfl);have f5:=z.bX 23 29 (by kernel_rfl) (by kernel_rfl);simp only[RaV]at e1;obtain⟨A1,c1,B⟩:∃A c,val 5=.slice A _ c:=by obtain⟨A,c,e,_⟩:=Ba d5;exact⟨A,c,e⟩
   rw[B]at x5 d5;obtain⟨A2,c2,I⟩:∃A c,val 11=.slice A _ c:=by obtain⟨A,c,e,_⟩:=Ba iq;exact⟨A,c,e⟩
   rw[I]at f6 iq;obtain⟨A3,c3,J⟩:∃A c,val 17=.slice A _ c:=by obtain⟨A,c,e,_⟩:=Ba lB;exact⟨A,c,e⟩
   rw[J]at j2 lB;obtain⟨A4,c4,G⟩:∃A c,val 23=.slice A _ c:=by obtain⟨A,c,e,_⟩:=Ba e1;exact⟨A,c,e⟩
   rw[G]at f5 e1;have H1:=Aq d5;have H2:=Aq iq;have H3:=Aq lB;have H4:=Aq e1;clear d5 iq lB e1;refine⟨_,rfl,rfl,?_⟩;unfold Bl;go_simp;refine⟨⟨_,_,_,_,rfl,H1.o,H2.o,H3.o,H4.o⟩,k.o,qu _ _,fun j q=>?_⟩;have m:=U.o j q
   match j with
   |5=>exact⟨_,_,_,by rw[B]⟩
   |11=>exact⟨_,_,_,by rw[I]⟩
   |17=>exact⟨_,_,_,by rw[J]⟩
   |23=>exact⟨_,_,_,by rw[G]⟩
   |52=>exact absurd (m.symm.trans (by kernel_rfl)) od
   |0|1|2|3|4|6|7|8|9|10|12|13|14|15|16|18|19|20|21|22|24|25|26|27|28|29|30|31|32|33|34|35|36|37|38|39|40|41|42|43|44|45|46|47|48|49|50|51=>trivial
   |j+53=>trivial
  |25,_ =>
   refine⟨_,rfl,rfl,?_⟩;unfold Bl;go_simp;exact⟨rfl,k.o,qu _ _,fun _ _=>trivial⟩
  |26,_ =>
   have v3:=p 25 (by kernel_rfl);have e3:=z.bX 25 31 (by kernel_rfl) (by kernel_rfl);simp only[RaV]at v3;rw[v3]at e3;refine⟨_,rfl,rfl,?_⟩;unfold Bl;go_simp;exact⟨rfl,k.o,qu _ _,fun _ _=>trivial⟩
  |27,_ =>
   have b6:=p 26 (by kernel_rfl);have f3:=z.bX 26 32 (by kernel_rfl) (by kernel_rfl);simp only[RaV]at b6;rw[b6]at f3;refine⟨_,rfl,rfl,?_⟩;unfold Bl;go_simp;exact⟨rfl,k.o,qu _ _,fun _ _=>trivial⟩
  |28,_ =>
   have z1:=p 27 (by kernel_rfl);have g9:=z.bX 27 33 (by kernel_rfl) (by kernel_rfl);simp only[RaV]at z1;rw[z1]at g9;have c0:=y.o.aG.cell 7;rw[y.o.c.c7]at c0;refine⟨_,rfl,rfl,?_⟩;unfold Bl;go_simp;exact⟨rfl,k.o,qu _ _,fun _ _=>trivial⟩
  |29,_ =>
   have v4:=p 28 (by kernel_rfl);have v0:=z.bX 28 34 (by kernel_rfl) (by kernel_rfl);simp only[RaV]at v4;rw[v4]at v0;obtain⟨A,c,d,_,_⟩:=y.o.cv.form;have r:=y.o.cv.1;rw[d]at v0 r;have f:=qx r;have n:=Aq f;have ho:s.aP.length≤1000000:=by have:=y.o.ok.cX;have:=y.o.ok.dL;have:=y.o.ok.tl;have:=y.o.ok.iC;have:=y.o.ok.fY;have:=y.o.ok.dg;omega
   clear d r f;refine⟨_,rfl,rfl,?_⟩;unfold Bl;go_simp;refine(Gq W A _ c _ _ n.o (Ho _) (by omega)).mono ?_;rintro e E⟨F,rfl,g,l⟩;refine⟨_,rfl,Cj g (by omega),k.o.trans l,l,fun j q=>?_⟩;have H:=Q.o j q;have m:=U.o j q
   match j with
   |5|11|17|23|34|39=>exact Eg (by simpa only[RaV]using H) g
   |52=>exact absurd (m.symm.trans (by kernel_rfl)) od
   |0|1|2|3|4|6|7|8|9|10|12|13|14|15|16|18|19|20|21|22|24|25|26|27|28|29|30|31|32|33|35|36|37|38|40|41|42|43|44|45|46|47|48|49|50|51=>trivial
   |j+53=>trivial
  |30,_ =>
   refine⟨_,rfl,rfl,?_⟩;unfold Bl;go_simp;exact⟨rfl,k.o,qu _ _,fun _ _=>trivial⟩
  |31,_ =>
   have z0:=p 30 (by kernel_rfl);have g1:=z.bX 30 36 (by kernel_rfl) (by kernel_rfl);simp only[RaV]at z0;rw[z0]at g1;refine⟨_,rfl,rfl,?_⟩;unfold Bl;go_simp;exact⟨rfl,k.o,qu _ _,fun _ _=>trivial⟩
  |32,_ =>
   have z2:=p 31 (by kernel_rfl);have f4:=z.bX 31 37 (by kernel_rfl) (by kernel_rfl);simp only[RaV]at z2;rw[z2]at f4;refine⟨_,rfl,rfl,?_⟩;unfold Bl;go_simp;exact⟨rfl,k.o,qu _ _,fun _ _=>trivial⟩
  |33,_ =>
   have b4:=p 32 (by kernel_rfl);have j0:=z.bX 32 38 (by kernel_rfl) (by kernel_rfl);simp only[RaV]at b4;rw[b4]at j0;refine⟨_,rfl,rfl,?_⟩;unfold Bl;go_simp;exact⟨rfl,k.o,qu _ _,fun _ _=>trivial⟩
  |34,_ =>
   have hu:=p 33 (by kernel_rfl);have i5:=z.bX 33 39 (by kernel_rfl) (by kernel_rfl);simp only[RaV]at hu;rw[hu]at i5;have f:aE W W.heap.size 1 (some ⟨mb,8,none⟩) 32 (ae s.store):=⟨by rw[Dc,y.o.ok.dR],fun _=>⟨mb,8,rfl,g4,fun j u N=>by
    rw[y.o.aG.cell];simp only[ae,Cc]at N;cases q:s.store[j]? with
    |none=>rw[q]at N;cases N
    |some x =>
     rw[q]at N;simp only[ou,Bv]at N;subst N;exact y.o.c.st j x q⟩⟩
   have n:=Aq f;clear f;refine⟨_,rfl,rfl,?_⟩;unfold Bl;go_simp;refine(Gq W _ _ _ _ _ n.o (Ho _) (by omega)).mono ?_;rintro e E⟨F,rfl,g,l⟩;refine⟨_,rfl,Cj g (by omega),k.o.trans l,l,fun j q=>?_⟩;have H:=Q.o j q;have m:=U.o j q
   match j with
   |5|11|17|23|29|39=>exact Eg (by simpa only[RaV]using H) g
   |52=>exact absurd (m.symm.trans (by kernel_rfl)) od
   |0|1|2|3|4|6|7|8|9|10|12|13|14|15|16|18|19|20|21|22|24|25|26|27|28|30|31|32|33|34|35|36|37|38|40|41|42|43|44|45|46|47|48|49|50|51=>trivial
   |j+53=>trivial
  |35,_ =>
   refine⟨_,rfl,rfl,?_⟩;unfold Bl;go_simp;exact⟨rfl,k.o,qu _ _,fun _ _=>trivial⟩
  |36,_ =>
   have h7:=p 35 (by kernel_rfl);have i3:=z.bX 35 41 (by kernel_rfl) (by kernel_rfl);simp only[RaV]at h7;rw[h7]at i3;refine⟨_,rfl,rfl,?_⟩;unfold Bl;go_simp;exact⟨rfl,k.o,qu _ _,fun _ _=>trivial⟩
  |37,_ =>
   have u7:=p 36 (by kernel_rfl);have f9:=z.bX 36 42 (by kernel_rfl) (by kernel_rfl);simp only[RaV]at u7;rw[u7]at f9;refine⟨_,rfl,rfl,?_⟩;unfold Bl;go_simp;exact⟨rfl,k.o,qu _ _,fun _ _=>trivial⟩
  |38,_ =>
   have v1:=p 37 (by kernel_rfl);have i0:=z.bX 37 43 (by kernel_rfl) (by kernel_rfl);simp only[RaV]at v1;rw[v1]at i0;have c0:=y.o.aG.cell 40;rw[y.o.c.dY]at c0;refine⟨_,rfl,rfl,?_⟩;unfold Bl;go_simp;exact⟨rfl,k.o,qu _ _,fun _ _=>trivial⟩
  |39,_ =>
   have z8:=p 38 (by kernel_rfl);have u1:=z.bX 38 44 (by kernel_rfl) (by kernel_rfl);simp only[RaV]at z8;rw[z8]at u1;obtain⟨A,c,d,_,_⟩:=y.o.sk.form;have r:=y.o.sk.1;rw[d]at u1 r;have f:=qx r;have n:=Aq f;have ho:s.stack.length≤1000000:=by have:=y.o.ok.cX;have:=y.o.ok.dL;have:=y.o.ok.tl;have:=y.o.ok.iC;have:=y.o.ok.fY;have:=y.o.ok.dg;omega
   clear d r f;refine⟨_,rfl,rfl,?_⟩;unfold Bl;go_simp;refine(Gq W A _ c _ _ n.o (Ho _) (by omega)).mono ?_;rintro e E⟨F,rfl,g,l⟩;refine⟨_,rfl,Cj g (by omega),k.o.trans l,l,fun j q=>?_⟩;have H:=Q.o j q;have m:=U.o j q
   match j with
   |5|11|17|23|29|34=>exact Eg (by simpa only[RaV]using H) g
   |52=>exact absurd (m.symm.trans (by kernel_rfl)) od
   |0|1|2|3|4|6|7|8|9|10|12|13|14|15|16|18|19|20|21|22|24|25|26|27|28|30|31|32|33|35|36|37|38|39|40|41|42|43|44|45|46|47|48|49|50|51=>trivial
   |j+53=>trivial
  |40,_ =>
   refine⟨_,rfl,rfl,?_⟩;unfold Bl;go_simp;exact⟨rfl,k.o,qu _ _,fun _ _=>trivial⟩
  |41,_ =>
   have a0:=p 40 (by kernel_rfl);have e9:=z.bX 40 46 (by kernel_rfl) (by kernel_rfl);simp only[RaV]at a0;rw[a0]at e9;refine⟨_,rfl,rfl,?_⟩;unfold Bl;go_simp;exact⟨rfl,k.o,qu _ _,fun _ _=>trivial⟩
  |42,_ =>
   have u3:=p 41 (by kernel_rfl);have i8:=z.bX 41 47 (by kernel_rfl) (by kernel_rfl);simp only[RaV]at u3;rw[u3]at i8;refine⟨_,rfl,rfl,?_⟩;unfold Bl;go_simp;exact⟨rfl,k.o,qu _ _,fun _ _=>trivial⟩
  |43,_ =>
   have u2:=p 42 (by kernel_rfl);have g8:=z.bX 42 48 (by kernel_rfl) (by kernel_rfl);simp only[RaV]at u2;rw[u2]at g8;have c0:=y.o.aG.cell 45;rw[y.o.c.gV]at c0;refine⟨_,rfl,rfl,?_⟩;unfold Bl;go_simp;exact⟨rfl,k.o,qu _ _,fun _ _=>trivial⟩
  |44,_ =>
   refine⟨_,rfl,rfl,?_⟩;unfold Bl;go_simp;exact⟨rfl,k.o,qu _ _,fun _ _=>trivial⟩
  |45,_ =>
   have z4:=p 44 (by kernel_rfl);have f7:=z.bX 44 50 (by kernel_rfl) (by kernel_rfl);simp only[RaV]at z4;rw[z4]at f7;refine⟨_,rfl,rfl,?_⟩;unfold Bl;go_simp;exact⟨rfl,k.o,qu _ _,fun _ _=>trivial⟩
  |46,_ =>
   have z3:=p 45 (by kernel_rfl);have i2:=z.bX 45 51 (by kernel_rfl) (by kernel_rfl);simp only[RaV]at z3;rw[z3]at i2;refine⟨_,rfl,rfl,?_⟩;unfold Bl;go_simp;exact⟨rfl,k.o,qu _ _,fun _ _=>trivial⟩
  |47,_ =>
   have u6:=p 46 (by kernel_rfl);have e8:=z.bX 46 52 (by kernel_rfl) (by kernel_rfl);simp only[RaV]at u6;rw[u6]at e8;have c0:=y.o.aG.cell 46;rw[y.o.c.gB]at c0;refine⟨_,rfl,rfl,?_⟩;unfold Bl;go_simp;exact⟨rfl,k.o,qu _ _,fun _ _=>trivial⟩
  |48,_ =>
   refine⟨_,rfl,rfl,?_⟩;unfold Bl;go_simp;exact⟨rfl,k.o,qu _ _,fun _ _=>trivial⟩
  |49,_ =>
   have v9:=p 48 (by kernel_rfl);have g2:=z.bX 48 54 (by kernel_rfl) (by kernel_rfl);simp only[RaV]at v9;rw[v9]at g2;refine⟨_,rfl,rfl,?_⟩;unfold Bl;go_simp;exact⟨rfl,k.o,qu _ _,fun _ _=>trivial⟩
  |50,_ =>
   have c9:=p 49 (by kernel_rfl);have f0:=z.bX 49 55 (by kernel_rfl) (by kernel_rfl);simp only[RaV]at c9;rw[c9]at f0;refine⟨_,rfl,rfl,?_⟩;unfold Bl;go_simp;exact⟨rfl,k.o,qu _ _,fun _ _=>trivial⟩
  |51,_ =>
   have u5:=p 50 (by kernel_rfl);have f2:=z.bX 50 56 (by kernel_rfl) (by kernel_rfl);simp only[RaV]at u5;rw[u5]at f2;have c0:=y.o.aG.cell 48;rw[y.o.c.iH]at c0;refine⟨_,rfl,rfl,?_⟩;unfold Bl;go_simp;exact⟨rfl,k.o,qu _ _,fun _ _=>trivial⟩
  |52,_ =>
   have v8:=p 24 (by kernel_rfl);have i1:=z.bX 24 30 (by kernel_rfl) (by kernel_rfl);simp only[RaV]at v8;have hG:=p 29 (by kernel_rfl);have f8:=z.bX 29 35 (by kernel_rfl) (by kernel_rfl);simp only[RaV]at hG;have og:=p 34 (by kernel_rfl);have e7:=z.bX 34 40 (by kernel_rfl) (by kernel_rfl);simp only[RaV]at og;have hv:=p 39 (by kernel_rfl);have i9:=z.bX 39 45 (by kernel_rfl) (by kernel_rfl);simp only[RaV]at hv;have v5:=p 43 (by kernel_rfl);have i7:=z.bX 43 49 (by kernel_rfl) (by kernel_rfl);simp only[RaV]at v5;have u8:=p 47 (by kernel_rfl);have g3:=z.bX 47 53 (by kernel_rfl) (by kernel_rfl);simp only[RaV]at u8;have b9:=p 51 (by kernel_rfl);have i6:=z.bX 51 57 (by kernel_rfl) (by kernel_rfl);simp only[RaV]at b9;obtain⟨S,cu,to,en,hz,o1,o2,o3,o4⟩:=v8;rw[hz]at i1;obtain⟨A1,c1,B⟩:=Ba o1;obtain⟨A2,c2,I⟩:=Ba o2;obtain⟨A3,c3,J⟩:=Ba o3;obtain⟨A4,c4,G⟩:=Ba o4;obtain⟨B,_⟩:=B;obtain⟨I,_⟩:=I;obtain⟨J,_⟩:=J;obtain⟨G,_⟩:=G;subst B I J G;obtain⟨A5,c5,z6⟩:∃A c,val 29=.slice A _ c:=by obtain⟨A,c,e,_⟩:=Ba hG;exact⟨A,c,e⟩
   rw[z6]at f8 hG;obtain⟨A6,c6,v2⟩:∃A c,val 34=.slice A _ c:=by obtain⟨A,c,e,_⟩:=Ba og;exact⟨A,c,e⟩
   rw[v2]at e7 og;obtain⟨A7,c7,z5⟩:∃A c,val 39=.slice A _ c:=by obtain⟨A,c,e,_⟩:=Ba hv;exact⟨A,c,e⟩
   rw[z5]at i9 hv;rw[v5]at i7;rw[u8]at g3;rw[b9]at i6;have HR:=Aq (dZ.mk o1 o2 o3 o4 hG og hv);clear o1 o2 o3 o4 hG og hv;refine⟨_,rfl,rfl,?_⟩;unfold Bl;go_simp;refine⟨⟨_,_,_,_,_,_,_,rfl,HR.o⟩,k.o,qu _ _,fun j q=>?_⟩
   match j with
   |24=>exact⟨_,_,_,_,_,_,_,_,_,_,rfl,hz⟩
   |29=>exact⟨_,_,_,_,_,_,_,_,_,by rw[z6]⟩
   |34=>exact⟨_,_,_,_,_,_,_,_,_,by rw[v2]⟩
   |39=>exact⟨_,_,_,_,_,_,_,_,_,by rw[z5]⟩
   |0|1|2|3|4|5|6|7|8|9|10|11|12|13|14|15|16|17|18|19|20|21|22|23|25|26|27|28|30|31|32|33|35|36|37|38|40|41|42|43|44|45|46|47|48|49|50|51|52=>trivial
   |j+53=>trivial
  |i+53,hi=>exact absurd hi (by simp)
 ·intro val W V hV hD;have ap:∀i j,i<53→j<53→i≠j→nN i (val i) j (val j)∨nN j (val j) i (val i):=fun i j hi q hn=>hD i j hi q hn
  have fT:∀i j,i<53→j<53→i≠j→(nN i (val i) j (val j)↔ar (val i) (val j))→(nN j (val j) i (val i)↔ar (val j) (val i))→ar (val i) (val j):=fun i j hi q hn h1 h2=>by
   rcases ap i j hi q hn with h|h
   ·exact h1.1 h
   ·exact qK (h2.1 h)
  have a1:=fT 5 11 (by decide) (by decide) (by decide) Iff.rfl Iff.rfl;have a2:=fT 17 23 (by decide) (by decide) (by decide) Iff.rfl Iff.rfl;have a3:=fT 17 29 (by decide) (by decide) (by decide) Iff.rfl Iff.rfl;have a4:=fT 17 34 (by decide) (by decide) (by decide) Iff.rfl Iff.rfl;have a5:=fT 17 39 (by decide) (by decide) (by decide) Iff.rfl Iff.rfl;have a6:=fT 23 29 (by decide) (by decide) (by decide) Iff.rfl Iff.rfl;have a7:=fT 23 34 (by decide) (by decide) (by decide) Iff.rfl Iff.rfl;have a8:=fT 23 39 (by decide) (by decide) (by decide) Iff.rfl Iff.rfl;have a9:=fT 29 34 (by decide) (by decide) (by decide) Iff.rfl Iff.rfl;have c8:=fT 29 39 (by decide) (by decide) (by decide) Iff.rfl Iff.rfl;have b7:=fT 34 39 (by decide) (by decide) (by decide) Iff.rfl Iff.rfl;have pt:∀i j,i<53→j<53→i≠j→(nN j (val j) i (val i)→False)→nN i (val i) j (val j):=fun i j hi q hn h1=>(ap i j hi q hn).resolve_right h1
  have R:=pt 24 5 (by decide) (by decide) (by decide) (fun h=>h);have C:=pt 24 11 (by decide) (by decide) (by decide) (fun h=>h);have hj:=pt 24 17 (by decide) (by decide) (by decide) (fun h=>h);have HM:=pt 24 23 (by decide) (by decide) (by decide) (fun h=>h);have Y:=pt 52 24 (by decide) (by decide) (by decide) (fun h=>h);have M:=pt 52 29 (by decide) (by decide) (by decide) (fun h=>h);have hd:=pt 52 34 (by decide) (by decide) (by decide) (fun h=>h);have D:=pt 52 39 (by decide) (by decide) (by decide) (fun h=>h);have b8:∀S cu to en cv st sk a b c,val 52=.agg #[S,cu,to,en,cv,st,sk,a,b,c]→lq S cu to en cv st sk:=fun S cu to en cv st sk a b c h=>by
   obtain⟨_,_,_,R⟩:=R;obtain⟨_,_,_,C⟩:=C;obtain⟨_,_,_,hj⟩:=hj;obtain⟨_,_,_,HM⟩:=HM;obtain⟨_,_,_,_,_,_,_,_,_,_,Y,f1⟩:=Y;obtain⟨_,_,_,_,_,_,_,_,_,M⟩:=M;obtain⟨_,_,_,_,_,_,_,_,_,hd⟩:=hd;obtain⟨_,_,_,_,_,_,_,_,_,D⟩:=D;rw[h]at Y M hd D;rw[f1]at R C hj HM;simp only[Value.agg.injEq,Array.mk.injEq,pq,and_true]at Y M hd D R C hj HM;have h0:S=val 5:=Y.1.trans R.1;have h1:cu=val 11:=Y.2.1.trans C.2.1;have h2:to=val 17:=Y.2.2.1.trans hj.2.2.1;have h3:en=val 23:=Y.2.2.2.1.trans HM.2.2.2;have h4:cv=val 29:=M.2.2.2.2.1;have h5:st=val 34:=hd.2.2.2.2.2.1;have h6:sk=val 39:=D.2.2.2.2.2.2.1;rw[h0,h1,h2,h3,h4,h5,h6];exact⟨a1,a2,a3,a4,a5,a6,a7,a8,a9,c8,b7⟩
  have u9:=Aq b8;clear hD ap fT a1 a2 a3 a4 a5 a6 a7 a8 a9 c8 b7 pt R C hj HM Y M hd D b8;have h9:=hV 52 (by simp);simp only[RaV]at h9;obtain⟨S,cu,to,en,cv,st,sk,d,Z⟩:=h9;have HA:=Aq (u9.o _ _ _ _ _ _ _ _ _ _ d);clear u9;have e5:=V.aG HB.o (fun x=>x);have b3:=HW.o.trans (qG V w5);obtain⟨A1,c1,rfl,_⟩:=Ba Z.og;obtain⟨A2,c2,rfl,_⟩:=Ba Z.cu;obtain⟨A3,c3,rfl,_⟩:=Ba Z.to;obtain⟨A4,c4,rfl,_⟩:=Ba Z.en;obtain⟨A5,c5,rfl,_⟩:=Ba Z.cv;obtain⟨A6,c6,rfl,_⟩:=Ba Z.st;obtain⟨A7,c7,rfl,_⟩:=Ba Z.sk;have z7:=He e5 Z Aw b3 (.slice A1 s.aT.length c1) (.slice A2 s.aF.length c2) (.slice A3 s.aB.length c3) (.slice A4 s.aJ.length c4) (.slice A5 s.aP.length c5) (.slice A6 32 c6) (.slice A7 s.stack.length c7) (Aj s.steps) (Aj s.aL) (Aj s.bp);have P:=Aq z7;have b0:=e5.cell;have b1:=e5.frozen;have b2:=e5.lt;clear hV z7 e5 Z b3 V HW HX HB w5;unfold wpOp;change (if _ then _ else _);rw[if_pos (by kernel_rfl)];refine .inl ?_;simp only[Mn,Fx,Az,Ay,Bc,pu];go_simp;unfold di at P
  generalize ((((((((((W.setCell ⟨w.heap.size,0,none⟩ (.slice A1 s.aT.length c1)).setCell ⟨w.heap.size,1,none⟩ (.slice A2 s.aF.length c2)).setCell ⟨w.heap.size,2,none⟩ (.slice A3 s.aB.length c3)).setCell ⟨w.heap.size,3,none⟩ (.slice A4 s.aJ.length c4)).setCell ⟨w.heap.size,4,none⟩ (.slice A5 s.aP.length c5)).setCell ⟨w.heap.size,5,none⟩ (.slice A6 32 c6)).setCell ⟨w.heap.size,6,none⟩ (.slice A7 s.stack.length c7)).setCell ⟨w.heap.size,7,none⟩ (Aj s.steps)).setCell ⟨w.heap.size,8,none⟩ (Aj s.aL)).setCell ⟨w.heap.size,9,none⟩ (Aj s.bp))=W9 at P ⊢;have e2:=P.o.2.2.lt;have K:=P.o.2.2.cell;simp only[oz,oL,om]at K;have y0:=K 0;simp only[Az,Ay]at y0;have y1:=K 1;simp only[Az,Ay,Bc]at y1;have y2:=K 2;simp only[Az,Ay,Bc]at y2;have y3:=K 3;simp only[Az,Ay,Bc]at y3;have y4:=K 4;simp only[Az,Ay,Bc]at y4;have y5:=K 5;simp only[Az,Ay,Bc]at y5;have y6:=K 6;simp only[Az,Ay,Bc]at y6;have y7:=K 7;simp only[Az,Ay,Bc]at y7;have y8:=K 8;simp only[Az,Ay,Bc]at y8;have y9:=K 9;simp only[Az,Ay,Bc]at y9;have HR:=Aq P.o.1;have e0:=Aq P.o.2.1;clear P b0 b1 b2 K d;go_wp2_with fail
  refine bodyPost_ret (v:=.agg #[.slice A1 s.aT.length c1,.slice A2 s.aF.length c2,.slice A3 s.aB.length c3,.slice A4 s.aJ.length c4,.slice A5 s.aP.length c5,.slice A6 32 c6,.slice A7 s.stack.length c7,Aj s.steps,Aj s.aL,Aj s.bp]) (by simp[results,Tryz.results71,go_sem,y0,y1,y2,y3,y4,y5,y6,y7,y8,y9]) rfl ?_;exact⟨_,_,_,_,_,_,_,rfl,HR.o,e0.o,HA.o⟩
theorem Zac (w:World)(mb:Nat)(O:Nat→Prop)(L:bd)(s:St)(h:ag w mb O L s) :
  Calls Tryz.prog 71 #[.pointer (some ⟨mb,0,none⟩)] w (Ub w s) :=
 (Us w mb O L s h).mono fun _ _ ⟨y,x,to,en,cv,st,sk,e,u,z,_⟩=>⟨y,x,to,en,cv,st,sk,e,u,z⟩
theorem eH.setCo {L:bd}{s:St}(h:eH L s)(u:Value) (l:List (Nat×Nat)):eH { L with cs:=L.cs.setIfInBounds 6 u,co:=u } { s with bH:=l } := by
 have v:=h.sz;have z:=h.dR;refine⟨by simp only[Dr];exact h.sz,h.dR,fun j x y=>?_,?_,?_,?_,?_,?_,?_,?_,?_,?_,?_,?_,?_,?_,?_,?_,?_,?_,?_⟩
 ·have:j<s.store.length:=(aS.1 y).1;rw[Ax (by omega)];exact h.st j x y
 ·rw[Ax (by decide)];exact h.c0
 ·rw[Ax (by decide)];exact h.c1
 ·rw[Ax (by decide)];exact h.c2
 ·rw[Ax (by decide)];exact h.c3
 ·rw[Ax (by decide)];exact h.c4
 ·rw[Ax (by decide)];exact h.c5
 ·rw[Dw (by omega)]
 ·rw[Ax (by decide)];exact h.c7
 ·rw[Ax (by decide)];exact h.dY
 ·rw[Ax (by decide)];exact h.iJ
 ·rw[Ax (by decide)];exact h.dH
 ·rw[Ax (by decide)];exact h.dO
 ·rw[Ax (by decide)];exact h.gW
 ·rw[Ax (by decide)];exact h.gV
 ·rw[Ax (by decide)];exact h.gB
 ·rw[Ax (by decide)];exact h.ey
 ·rw[Ax (by decide)];exact h.iH
 ·rw[Ax (by decide)];exact h.gx
theorem eH.lZ {L:bd}{s:St}(h:eH L s)(y v z k:Value) (q p:List (Int×Int)) (a r:List Int):eH { L with cs:=(((L.cs.setIfInBounds 2 y).setIfInBounds 3 v).setIfInBounds 4 z).setIfInBounds 5 k,og:=y,cu:=v,to:=z,en:=k } { s with aT:=q,aF:=p,aB:=a,aJ:=r } := by
 have c:=h.sz;have b:=h.dR;refine⟨by simp only[Dr];exact h.sz,h.dR,fun j x u=>?_,?_,?_,?_,?_,?_,?_,?_,?_,?_,?_,?_,?_,?_,?_,?_,?_,?_,?_⟩
 ·have:j<s.store.length:=(aS.1 u).1;simp only;rw[Ax (by omega),Ax (by omega),Ax (by omega),Ax (by omega)];exact h.st j x u
 ·rw[Ax (by decide)];rw[Ax (by decide)];rw[Ax (by decide)];rw[Ax (by decide)];exact h.c0
 ·rw[Ax (by decide)];rw[Ax (by decide)];rw[Ax (by decide)];rw[Ax (by decide)];exact h.c1
 ·rw[Ax (by decide)];rw[Ax (by decide)];rw[Ax (by decide)];rw[Dw (by(try simp only[Dr]);omega)]
 ·rw[Ax (by decide)];rw[Ax (by decide)];rw[Dw (by(try simp only[Dr]);omega)]
 ·rw[Ax (by decide)];rw[Dw (by(try simp only[Dr]);omega)]
 ·rw[Dw (by(try simp only[Dr]);omega)]
 ·rw[Ax (by decide)];rw[Ax (by decide)];rw[Ax (by decide)];rw[Ax (by decide)];exact h.c6
 ·rw[Ax (by decide)];rw[Ax (by decide)];rw[Ax (by decide)];rw[Ax (by decide)];exact h.c7
 ·rw[Ax (by decide)];rw[Ax (by decide)];rw[Ax (by decide)];rw[Ax (by decide)];exact h.dY
 ·rw[Ax (by decide)];rw[Ax (by decide)];rw[Ax (by decide)];rw[Ax (by decide)];exact h.iJ
 ·rw[Ax (by decide)];rw[Ax (by decide)];rw[Ax (by decide)];rw[Ax (by decide)];exact h.dH
 ·rw[Ax (by decide)];rw[Ax (by decide)];rw[Ax (by decide)];rw[Ax (by decide)];exact h.dO
 ·rw[Ax (by decide)];rw[Ax (by decide)];rw[Ax (by decide)];rw[Ax (by decide)];exact h.gW
 ·rw[Ax (by decide)];rw[Ax (by decide)];rw[Ax (by decide)];rw[Ax (by decide)];exact h.gV
 ·rw[Ax (by decide)];rw[Ax (by decide)];rw[Ax (by decide)];rw[Ax (by decide)];exact h.gB
 ·rw[Ax (by decide)];rw[Ax (by decide)];rw[Ax (by decide)];rw[Ax (by decide)];exact h.ey
 ·rw[Ax (by decide)];rw[Ax (by decide)];rw[Ax (by decide)];rw[Ax (by decide)];exact h.iH
 ·rw[Ax (by decide)];rw[Ax (by decide)];rw[Ax (by decide)];rw[Ax (by decide)];exact h.gx
section
variable {w w' : World} {mb : Nat} {O O' : Nat → Prop} {L : bd} {s : St}
theorem ag.mi (h:ag w mb O L s) {l:List (Int×Int)} (a:l.length=s.aT.length) (b:dK w' O' 76 2 L.og s.aT.length (bq l)) (q:w'.heap[mb]?=w.heap[mb]?) (z:∀k,O k→k≠mb→some k≠L.og.ownBlock→w'.heap[k]?=w.heap[k]?) (y:∀k,O k→O' k) (d:∀k,O' k→k<w'.heap.size) (r:Ok { s with aT:=l }):ag w' mb O' L { s with aT:=l } := by
 exact⟨y _ h.ew,d,q.trans h.aG,⟨h.c.sz,h.c.dR,h.c.st,h.c.c0,h.c.c1,h.c.c2,h.c.c3,h.c.c4,h.c.c5,h.c.c6,h.c.c7,h.c.dY,h.c.iJ,h.c.dH,h.c.dO,h.c.gW,h.c.gV,h.c.gB,h.c.ey,h.c.iH,h.c.gx⟩,h.fu.k h.aG (by decide) z (fun g x=>h.fu.apart h.og (by decide) g x) y,h.fr.k h.aG (by decide) z (fun g x=>h.fr.apart h.og (by decide) g x) y,by rw[a];exact b,h.cu.k h.aG (by decide) z (fun g x=>h.bQ g x) y,h.to.k h.aG (by decide) z (fun g x=>h.to.apart h.og (by decide) g x) y,h.en.k h.aG (by decide) z (fun g x=>h.en.apart h.og (by decide) g x) y,h.co.k h.aG (by decide) z (fun g x=>h.co.apart h.og (by decide) g x) y,h.cv.k h.aG (by decide) z (fun g x=>h.cv.apart h.og (by decide) g x) y,h.sk.k h.aG (by decide) z (fun g x=>h.sk.apart h.og (by decide) g x) y,h.jZ.k h.aG z (fun g cs p e=>by obtain⟨_,_,v,u⟩:=h.og.block e;exact p.dF u (by decide) rfl) y,h.kH.k h.aG z (fun g cs p e=>by obtain⟨_,_,v,u⟩:=h.og.block e;exact p.dF u (by decide) rfl) y,h.bQ,h.cx,h.cS,h.cU,h.bW,h.cq,h.cH,h.dd.k h.aG z (t0:=76) (by decide) (by decide) (fun g e=>by obtain⟨_,_,v,u⟩:=h.og.block e;exact⟨v,u⟩) y,r⟩
theorem ag.jn (h:ag w mb O L s){u:Value}{cs':Array Value} {l:List (Nat×Nat)} (b:aH w' mb 212 cs') (r:eH { L with cs:=cs',co:=u } { s with bH:=l }) (a:dK w' O' 252 2 u l.length (ir l)) (_hnew:∀g,u.ownBlock=some g→L.co.ownBlock=some g∨w.heap.size≤g) (z:∀k,O k→k≠mb→some k≠L.co.ownBlock→w'.heap[k]?=w.heap[k]?) (y:∀k,O k→O' k) (d:∀k,O' k→k<w'.heap.size) (c:Ok { s with bH:=l }):ag w' mb O' { L with cs:=cs',co:=u } { s with bH:=l } := by
 exact⟨y _ h.ew,d,b,r,h.fu.k h.aG (by decide) z (fun g x=>h.fu.apart h.co (by decide) g x) y,h.fr.k h.aG (by decide) z (fun g x=>h.fr.apart h.co (by decide) g x) y,h.og.k h.aG (by decide) z (fun g x=>h.og.apart h.co (by decide) g x) y,h.cu.k h.aG (by decide) z (fun g x=>h.cu.apart h.co (by decide) g x) y,h.to.k h.aG (by decide) z (fun g x=>h.to.apart h.co (by decide) g x) y,h.en.k h.aG (by decide) z (fun g x=>h.en.apart h.co (by decide) g x) y,a,h.cv.k h.aG (by decide) z (fun g x=>h.cv.apart h.co (by decide) g x) y,h.sk.k h.aG (by decide) z (fun g x=>h.sk.apart h.co (by decide) g x) y,h.jZ.k h.aG z (fun g cs q e=>by obtain⟨_,_,p,v⟩:=h.co.block e;exact q.dF v (by decide) rfl) y,h.kH.k h.aG z (fun g cs q e=>by obtain⟨_,_,p,v⟩:=h.co.block e;exact q.dF v (by decide) rfl) y,h.bQ,h.cx,h.cS,h.cU,h.bW,h.cq,h.cH,h.dd.k h.aG z (t0:=252) (by decide) (by decide) (fun g e=>by obtain⟨_,_,p,v⟩:=h.co.block e;exact⟨p,v⟩) y,c⟩
theorem ag.jJ (h:ag w mb O L s){vs:List Value} {fs:List (List (Int×Int))} (q:cI w' O' vs fs) (r:dK w' O' 24 1 L.fu fs.length vs) (p:w'.heap[mb]?=w.heap[mb]?) (z:∀k,O k→k≠mb→some k≠L.fu.ownBlock→w'.heap[k]?=w.heap[k]?) (y:∀k,O k→O' k) (d:∀k,O' k→k<w'.heap.size) (a:Ok { s with funcs:=fs }):ag w' mb O' { L with mG:=vs } { s with funcs:=fs } := by
 exact⟨y _ h.ew,d,p.trans h.aG,⟨h.c.sz,h.c.dR,h.c.st,h.c.c0,h.c.c1,h.c.c2,h.c.c3,h.c.c4,h.c.c5,h.c.c6,h.c.c7,h.c.dY,h.c.iJ,h.c.dH,h.c.dO,h.c.gW,h.c.gV,h.c.gB,h.c.ey,h.c.iH,h.c.gx⟩,r,h.fr.k h.aG (by decide) z (fun g x=>h.fr.apart h.fu (by decide) g x) y,h.og.k h.aG (by decide) z (fun g x=>h.og.apart h.fu (by decide) g x) y,h.cu.k h.aG (by decide) z (fun g x=>h.cu.apart h.fu (by decide) g x) y,h.to.k h.aG (by decide) z (fun g x=>h.to.apart h.fu (by decide) g x) y,h.en.k h.aG (by decide) z (fun g x=>h.en.apart h.fu (by decide) g x) y,h.co.k h.aG (by decide) z (fun g x=>h.co.apart h.fu (by decide) g x) y,h.cv.k h.aG (by decide) z (fun g x=>h.cv.apart h.fu (by decide) g x) y,h.sk.k h.aG (by decide) z (fun g x=>h.sk.apart h.fu (by decide) g x) y,q,h.kH.k h.aG z (fun g cs b e=>by obtain⟨_,_,v,u⟩:=h.fu.block e;exact b.dF u (by decide) rfl) y,h.bQ,h.cx,h.cS,h.cU,h.bW,h.cq,h.cH,h.dd.k h.aG z (t0:=24) (by decide) (by decide) (fun g e=>by obtain⟨_,_,v,u⟩:=h.fu.block e;exact⟨v,u⟩) y,a⟩
theorem ag.kN (h:ag w mb O L s){cs':Array Value}{b c q r:Value} {v p:List (Int×Int)} {a d:List Int} (X:aH w' mb 212 cs') (m:eH { L with cs:=cs',og:=b,cu:=c,to:=q,en:=r } { s with aT:=v,aF:=p,aB:=a,aJ:=d }) (H:dK w' O' 76 2 b v.length (bq v)) (_nog:∀g,b.ownBlock=some g→w.heap.size≤g) (Z:dK w' O' 76 2 c p.length (bq p)) (_ncu:∀g,c.ownBlock=some g→w.heap.size≤g) (n:dK w' O' 3 1 q a.length (ae a)) (j:∀g,q.ownBlock=some g→w.heap.size≤g) (U:dK w' O' 3 1 r d.length (ae d)) (i:∀g,r.ownBlock=some g→w.heap.size≤g) (o:ar c b) (l:ar q r) (y:∀k,O k→k≠mb→some k≠none→w'.heap[k]?=w.heap[k]?) (x:∀k,O k→O' k) (V:∀k,O' k→k<w'.heap.size) (K:Ok { s with aT:=v,aF:=p,aB:=a,aJ:=d }):ag w' mb O' { L with cs:=cs',og:=b,cu:=c,to:=q,en:=r } { s with aT:=v,aF:=p,aB:=a,aJ:=d } := by
 exact⟨x _ h.ew,V,X,m,h.fu.k h.aG (by decide) y (fun g f e=>by cases e) x,h.fr.k h.aG (by decide) y (fun g f e=>by cases e) x,H,Z,n,U,h.co.k h.aG (by decide) y (fun g f e=>by cases e) x,h.cv.k h.aG (by decide) y (fun g f e=>by cases e) x,h.sk.k h.aG (by decide) y (fun g f e=>by cases e) x,h.jZ.k h.aG y (fun g cs Y e=>by cases e) x,h.kH.k h.aG y (fun g cs Y e=>by cases e) x,o,l,(fun g u z=>by have:=j g u;have:=(h.cv.block z).2.1;omega),(fun g u z=>by have:=j g u;have:=(h.sk.block z).2.1;omega),(fun g u z=>by have:=i g u;have:=(h.cv.block z).2.1;omega),(fun g u z=>by have:=i g u;have:=(h.sk.block z).2.1;omega),h.cH,h.dd.k h.aG y (t0:=3) (by decide) (by decide) (fun g e=>by cases e) x,K⟩
theorem Mc.Ok.mi (h:Ok s) {l:List (Int×Int)} (y:∀p∈l,bI p.1∧bI p.2) (x:l.length=s.aT.length):Ok { s with aT:=l } :=
 ⟨h.stack,h.dg,h.aP,h.store,h.dR,h.aF,y,by rw[←h.dL];exact x,h.aB,h.tl,h.size,h.look,h.move,h.bG,h.aL,h.aD,h.fW,h.funcs,h.jy,h.bH,h.ej,h.cX,h.iC,h.fY⟩
theorem Mc.Ok.jn (h:Ok s) {l:List (Nat×Nat)} (y:∀c∈l,c.1≤c.2∧c.2<s.aF.length) (x:l.length≤1000000):Ok { s with bH:=l } :=
 ⟨h.stack,h.dg,h.aP,h.store,h.dR,h.aF,h.aT,h.dL,h.aB,h.tl,h.size,h.look,h.move,h.bG,h.aL,h.aD,h.fW,h.funcs,h.jy,y,x,h.cX,h.iC,h.fY⟩
theorem Mc.Ok.jJ (h:Ok s) {l:List (List (Int×Int))} (y:∀c∈l,c.length≤1000000) (x:l.length≤1000000):Ok { s with funcs:=l } :=
 ⟨h.stack,h.dg,h.aP,h.store,h.dR,h.aF,h.aT,h.dL,h.aB,h.tl,h.size,h.look,h.move,h.bG,h.aL,h.aD,h.fW,y,x,h.bH,h.ej,h.cX,h.iC,h.fY⟩
theorem Mc.Ok.kN (h:Ok s) (q:s.bH=[]) {y x:List (Int×Int)} {z v:List Int} (e:∀p∈y,bI p.1∧bI p.2) (f:∀p∈x,bI p.1∧bI p.2) (r:∀t∈z,0≤t∧t≤3) (d:y.length=x.length) (k:z.length=x.length) (b:x.length≤1000000) (a:v.length≤1000000):Ok { s with aT:=y,aF:=x,aB:=z,aJ:=v } :=
 ⟨h.stack,h.dg,h.aP,h.store,h.dR,f,e,d,r,k,h.size,h.look,h.move,h.bG,h.aL,h.aD,h.fW,h.funcs,h.jy,(fun c u=>by simp only[q]at u;cases u),h.ej,b,h.iC,a⟩
theorem ag.layCu (h:ag w mb O L s){g m c:Nat} (u:L.cu=.slice (some ⟨g,0,none⟩) m c) {i:Nat} (hi:i<s.aF.length) {a b:Int} (v:bI a) (q:bI b):ag ((w.setCell ⟨g,i*2,none⟩ (Aj a)).setCell ⟨g,i*2+1,none⟩ (Aj b)) mb O L { s with aF:=s.aF.set i (a,b) } := by
 have bU:L.cu.ownBlock=some g:=by rw[u];rfl
 have z:g≠mb:=h.cu.bz h.aG (by decide) bU;refine h.kX (by simp) ?_ ((Bp _ _ _ _ z.symm).trans (Bp _ _ _ _ z.symm)) (fun k _ _ x=>(Bp _ _ _ _ (fun e=>x (by rw[bU,e]))).trans (Bp _ _ _ _ (fun e=>x (by rw[bU,e])))) (fun _ h=>h) (fun k x=>by have:=h.eQ k x;simpa [World.setCell]using this) (h.ok.kX (fun p y=>?_) (by simp))
 ·rw[Ov hi];exact(h.cu.aZ bU (by rw[Ia];omega) _).aZ bU (by rw[Dd,Ia];omega) _
 ·rcases oE y with y|rfl
  ·exact h.ok.aF p y
  ·exact⟨v,q⟩
theorem ag.mL (h:ag w mb O L s){g m c:Nat} (u:L.og=.slice (some ⟨g,0,none⟩) m c) {i:Nat} (hi:i<s.aT.length) {a b:Int} (v:bI a) (q:bI b):ag ((w.setCell ⟨g,i*2,none⟩ (Aj a)).setCell ⟨g,i*2+1,none⟩ (Aj b)) mb O L { s with aT:=s.aT.set i (a,b) } := by
 have bU:L.og.ownBlock=some g:=by rw[u];rfl
 have z:g≠mb:=h.og.bz h.aG (by decide) bU;refine h.mi (by simp) ?_ ((Bp _ _ _ _ z.symm).trans (Bp _ _ _ _ z.symm)) (fun k _ _ x=>(Bp _ _ _ _ (fun e=>x (by rw[bU,e]))).trans (Bp _ _ _ _ (fun e=>x (by rw[bU,e])))) (fun _ h=>h) (fun k x=>by have:=h.eQ k x;simpa [World.setCell]using this) (h.ok.mi (fun p y=>?_) (by simp))
 ·rw[Ov hi];exact(h.og.aZ bU (by rw[Ia];omega) _).aZ bU (by rw[Dd,Ia];omega) _
 ·rcases oE y with y|rfl
  ·exact h.ok.aT p y
  ·exact⟨v,q⟩
theorem ag.mf {w1:World}(h:ag w mb O L s){u:Value}{c:Nat×Nat}(d:c.1≤c.2∧c.2<s.aF.length)(m:s.bH.length<1000000)
  (q:dK w1 (ext O w w1) 252 2 u (s.bH.length+1) (ir s.bH++[Aj c.1,Aj c.2])) (x:w.grownBy w1 L.co.ownBlock) (j:∀g,u.ownBlock=some g→L.co.ownBlock=some g∨w.heap.size≤g) :
  (∃cs,aH w1 mb 212 cs∧cs.size=50)∧(∃L',ag (w1.setCell ⟨mb,6,none⟩ u) mb (ext O w w1) L' { s with bH:=s.bH++[c] })∧Fr O w (w1.setCell ⟨mb,6,none⟩ u):=by
 have p:aH w1 mb 212 L.cs:=h.aG.grown x fun e=>h.co.bz h.aG (by decide) e.symm rfl
 have f:=x.size;refine⟨⟨_,p,h.c.sz⟩,⟨_,h.jn (u:=u) (l:=s.bH++[c]) (p.aZ 6 u) (h.c.setCo _ _) ?_ j ?_ (fun _ h=>.inl h) ?_ (h.ok.jn ?_ ?_)⟩,?_⟩
 ·have:=q.aQ (w':=w1.setCell ⟨mb,6,none⟩ u) (O':=ext O w w1) (fun g a=>Bp _ _ _ _ (fun (e:g=mb)=>q.bz p (by decide) a e)) (fun _ h=>h)
  simpa [ir]using this
 ·intro k v i b;rw[Bp _ _ _ _ i];exact x.block k (h.eQ k v) b
 ·intro k v;have:=h.gu f k v
  simpa [World.setCell]using this
 ·intro y z;rcases List.mem_append.1 z with z|z
  ·exact h.ok.bH y z
  ·simp only[oZ]at z;subst z;exact d
 ·simp only[Bz,nr];omega
 ·exact qJ (⟨x.os,x.tape,x.output,x.size,fun k v r=>x.block k v (fun e=>r (h.co.2 k e.symm))⟩) (.inl h.ew) _
theorem cI.aZ {w:World}{O:Nat→Prop}:∀{vs:List Value} {cs:List (List (Int×Int))} (i:Nat) {v:Value} {c:List (Int×Int)},cI w O vs cs→dK w O 96 2 v c.length (bq c)→cI w O (vs.set i v) (cs.set i c)
 | [],[],_,_,_,h,_=>h
 |_::_,_::_,0,_,_,h,hr=>⟨hr,h.2⟩
 |_::_,_::_,i+1,_,_,h,hr=>⟨h.1,cI.aZ i h.2 hr⟩
 | [],_::_,_,_,_,h,_=>h.elim
 |_::_,[],_,_,_,h,_=>h.elim
theorem ag.setFu (h:ag w mb O L s){g m c:Nat} (b:L.fu=.slice (some ⟨g,0,none⟩) m c) {i:Nat} (hi:i<s.funcs.length) {v:Value} {aA:List (Int×Int)} (r:dK w O' 96 2 v aA.length (bq aA)) (d:aA.length≤1000000) (y:∀k,O k→O' k) (f:∀k,O' k→k<w.heap.size) :
  ag (w.setCell ⟨g,i,none⟩ v) mb O' { L with mG:=L.mG.set i v } { s with funcs:=s.funcs.set i aA } := by
 have bU:L.fu.ownBlock=some g:=by rw[b];rfl
 have a:g≠mb:=h.fu.bz h.aG (by decide) bU;obtain⟨_,_,l,q⟩:=h.fu.block bU;refine h.jJ (w':=w.setCell ⟨g,i,none⟩ v) (vs:=L.mG.set i v) (fs:=s.funcs.set i aA) ?_ ?_ (Bp _ _ _ _ a.symm) (fun k _ _ x=>Bp _ _ _ _ (fun e=>x (by rw[bU,e]))) y (fun k x=>by have:=f k x;simpa [World.setCell]using this) (h.ok.jJ (fun p z=>?_) (by simpa using h.ok.jy))
 ·refine cI.aZ i (h.jZ.aQ (fun k cs _ u=>Bp _ _ _ _ (u.dF q (by decide))) y) (r.aQ (fun k x=>?_) (fun _ h=>h));obtain⟨_,_,cs,u⟩:=r.block x;exact Bp _ _ _ _ (u.dF q (by decide))
 ·rw[Dd];have:=(h.fu.aZ bU (j:=i) (by rw[←h.jZ.len]at hi;exact hi) v).aQ (w':=w.setCell ⟨g,i,none⟩ v) (O':=O') (fun _ _=>rfl) y;exact this
 ·rcases oE z with z|rfl
  ·exact h.ok.funcs p z
  ·exact d
end
end
end Go.Proofs.YtnhebmgibiomnaaGreat

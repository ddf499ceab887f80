import Derived.Test.YtnhebmgibiomnaaGreatPi11
set_option linter.unusedVariables false
set_option linter.unusedSimpArgs false
set_option maxRecDepth 100000
set_option maxHeartbeats 8000000
namespace Go.Proofs.YtnhebmgibiomnaaGreat
section
open Go.RowKit Mc
theorem Ol (n a:Int)(s:St):(deed n a s).steps=s.steps∧(deed n a s).aM=s.aM:=by
 unfold deed;simp only;split <;> first|exact⟨rfl,rfl⟩|skip
 all_goals first
  | (unfold bn;split <;> exact⟨rfl,rfl⟩)
  | (unfold cC;split <;> exact⟨rfl,rfl⟩)
  | (unfold call;split <;> exact⟨rfl,rfl⟩)
  | (unfold cC;split <;> split <;> exact⟨rfl,rfl⟩)
  | (unfold cC;split;(split <;> exact⟨rfl,rfl⟩);exact⟨rfl,rfl⟩)
theorem Rf {s s':St}{op a:Int} (h:next s=(s',some (op,a))) :
  ∃f r,s'.aD=f::r∧f.next<f.aA.length∧∃n:Nat,op=n∧1≤n∧n≤39∧Lq s' = { s' with aD := { f with next:=f.next+1 } :: r }∧bW n a (Lq s')∧s'.steps=s.steps∧s'.aM=s.aM:=by
 unfold next at h;split at h
 ·cases h
 ·cases k:Mc.settle s.aD with
  |nil=>rw[k]at h;cases h
  |cons f r =>
   rw[k]at h;simp only at h;generalize x:Fv { s with aD:=f::r } (f.aA.getD f.next (0,0)).1 (f.aA.getD f.next (0,0)).2 (f.aA.length-1-f.next:Int)=e at h;by_cases v:e=0
   ·rw[if_pos v]at h
    injection h with y u
    injection u with u
    rw[u]at x;simp only at x;rw[v]at x;have c:Lq s' = { s' with aD := { f with next:=f.next+1 } :: r } := by subst y;rfl
    have i:f.next<f.aA.length:=by
     have:∀(l:List Fm) f r,Mc.settle l=f::r→f.next<f.aA.length:=by
      intro l
      induction l with
      |nil=>intro f r h;cases h
      |cons g q ih =>
       intro f r h;unfold Mc.settle at h;split at h
       ·injection h with b j;subst b;assumption
       ·split at h
        ·injection h with b j;subst b;simp only;omega
        ·exact ih f r h
     exact this _ _ _ k
    unfold Fv at x;split at x
    ·cases x
    ·split at x
     ·cases x
     ·split at x
      ·cases x
      ·split at x
       ·cases x
       ·rename_i q1 q2 q3 z;simp only at q2 q3 z;obtain⟨n,d⟩:=Dm (show 0≤op by omega);refine⟨f,r,by subst y;rfl,i,n,d,by omega,by omega,c,?_,by subst y;rfl,by subst y;rfl⟩;rw[c];rw[d]at q2 q3 z;subst y;refine⟨by simp only;omega,by simp only;omega,fun m=>⟨_,_,rfl,?_⟩,fun m=>?_⟩
        ·simp only;have:¬ (a<0∨(f.aA.length-1-f.next:Int)<a):=fun p=>q3 ⟨by omega,p⟩
         omega
        ·simp only[Bp]at z ⊢;have:¬ (a<0∨(s.funcs.length:Int)≤a∨20<r.length+1):=fun p=>z ⟨by omega,p⟩
         omega
   ·rw[if_neg v]at h;cases h
theorem dN {s s':St} (h:next s=(s',none)):Mc.step s=(s',false):=by unfold Mc.step;rw[h]
theorem fL {s s':St}{ins:Int×Int} (h:next s=(s',some ins)):Mc.step s=({ deed ins.1 ins.2 (Lq s') with steps:=(deed ins.1 ins.2 (Lq s')).steps+1,aM:=max (deed ins.1 ins.2 (Lq s')).aM (deed ins.1 ins.2 (Lq s')).stack.length },true):=by unfold Mc.step;rw[h]
def Ou (w:World)(mb:Nat)(O:Nat→Prop)(s:St)(e:Ending)(w':World):Prop:=e=.returned (.bool (Mc.step s).2)∧(∃L',ag w' mb (ext O w w') L' (Mc.step s).1)∧Fr O w w'
theorem Zla {w:World}{O:Nat→Prop}{y:Nat}(h:dz w O y){n:Nat}(k:1≤n)(v:n≤39) :
  ∃bs,DeedBox w O bs n∧∀W:World,W.heap[y]?=w.heap[y]?→Sem.run Tryz.prog (Instr.lookup 207 (.map (some y)) (Aj (n:Int)) false) W=.ok (Nr bs n) W:=by
 obtain⟨_,bs,clock,p,cg⟩:=h;refine⟨bs,cg n k v,fun W z=>?_⟩;rw[p]at z;have u:(Ha bs 39).toArray.toList[n-1]?=some ⟨Aj ((n-1+1:Nat):Int),Nr bs (n-1+1),n-1⟩:=by
  unfold Ha;rw[pZ,Cd,oa (by omega)];rfl
 rw[show n-1+1=n by omega]at u;refine Jy (P:=Tryz.prog) Tryz.underlying207 Tryz.underlying3 z u rfl fun q r s x=>?_
 unfold Ha at x;rw[pZ,Cd,oa (by omega)]at x;simp only[oH,Bw]at x;subst x;exact⟨_,rfl,by omega⟩
theorem Zet (w:World)(mb:Nat)(O:Nat→Prop)(L:bd)(s:St)(h:ag w mb O L s)(x3:s.steps≤1000000000) :
  Calls Tryz.prog 81 #[.pointer (some ⟨mb,0,none⟩)] w (Ou w mb O s):=by
 have HN:=Aq (Vp w mb O L s h);have a2:=h.aG.lt;clear h;go_enter Tryz.func81,Tryz.ntmps81;go_wp2_with fail
 refine HN.o.mono ?_;rintro e w1⟨⟨x,y,rfl,E⟩,⟨L1,K⟩,h4⟩;clear HN;rcases R:next s with⟨s',o⟩
 rw[R]at E K;simp only at E K;cases o with
 |none =>
  have V:Hid (Ou w mb O s (.returned (.bool false)) (w1.alloc (.cells #[Aj x,Aj y] 96))):=Aq ⟨by rw[dN R],⟨L1,by rw[dN R];exact(K.alloc _).mono (fun _ h=>.inl h) (fun k u=>by rcases u with u|u;exact(K.alloc _).eO k u;exact u.2)⟩,h4.alloc _⟩;clear K h4 E;simp only[Option.isSome_none];go_wp2_with fail
  go_ret;exact V.o
 |some ins =>
  have:=E ins rfl;subst this;obtain⟨f,r,M,v9,n,rfl,hM,y5,y2,y3,y1,z0⟩:=Rf R;simp only[Option.isSome_some];have y4:=Aq (fL R);obtain⟨g,c,v,vs,HP⟩:=K.bm M;have x6:=K.ok.aD f (by rw[M];simp);have C:=K.alloc (.cells #[Aj (n:Int),Aj y] 96);have hF:=h4.alloc (.cells #[Aj (n:Int),Aj y] 96);have x9:g≠w1.heap.size:=fun e=>K.gZ Aw (e ▸ HP.gO)
  have x4:=qG w1 96 #[Aj (n:Int),Aj y];have v8:=Aq (K.gZ (pG w1.heap.size));have P:nO (w1.alloc (.cells #[Aj (n:Int),Aj y] 96)) mb O L1 s' f r g c v vs:=HP.aQ (fun k u=>pq _ _ _ (K.eO k u)) (by simp);have v2:=Aq y3;have y7:=Aq y1;clear K h4 HP E y3 y1 z0 R;go_wp2_with fail
  generalize w1.alloc (.cells #[Aj (n:Int),Aj y] 96)=W at *;generalize w1.heap.size=ib at *;have S:Hid (ag ((W.setCell ⟨g,r.length*3+1,none⟩ (Aj ((f.next:Int)+1))).drew) mb O L1 (Lq s')):=Aq (by
   rw[y2,show (f.next:Int)+1=((f.next+1:Nat):Int) by omega];exact(C.jk M P (f' := { f with next:=f.next+1 }) (n:=f.next+1) (j:=r.length*3+1) (by omega) rfl (Px _ vs f r P.mj _) ⟨by simp only;omega,x6.2.1⟩).drew)
  have w3:=Aq ((hF.setCell (p:=⟨g,r.length*3+1,none⟩) (.inl P.gO) (Aj ((f.next:Int)+1))).drew);have hk:=Aq ((x4.cZ (p:=⟨g,r.length*3+1,none⟩) x9.symm (Aj ((f.next:Int)+1))).drew);have t1:=P.c1;have v4:=P.fz (r.length*3+1);have tg:=P.glt;have a3:=P.gmb;have v1:=P.cY;have c1:=C.aG.cell 1;rw[C.c.c1,P.fr]at c1;have z3:=C.aG.lt;have z2:=C.ok.fX;rw[M,Bp]at z2;obtain⟨a5,a0,a1⟩:=x6;clear C hF P M y2 x4 x9;generalize hm:r.length=m at *;generalize R:f.next=nx at *;clear hm R;obtain⟨k,a4,v7,u⟩:∃k,m<k∧k≤m+1∧m+1=k:=⟨m+1,by omega,by omega,rfl⟩;rw[u]at c1 v1;clear u;have y9:IntKind.i64.wrap ((k:Int)-1)=(m:Int):=by rw[Do _ (by omega)];omega
  have y6:IntKind.i64.wrap ((nx:Int)+1)=(nx:Int)+1:=by rw[Do _ (by omega)]
  go_region;go_wp2_with fail
  clear t1 v4 tg c1 z3 y9 y6;generalize (W.setCell ⟨g,m*3+1,none⟩ (Aj ((nx:Int)+1))).drew=H at *;generalize y0:Lq s'=sb at *;have i0:=hk.o.cell 0;have i1:=hk.o.cell 1;simp only[Az,Ay,Ba]at i0 i1;have gx:=S.o.aG.cell 49;rw[S.o.c.gx]at gx;obtain⟨bs,cg,x2⟩:=Zla S.o.dd hM y5;have W2:=x2 H.drew rfl;obtain⟨id,x1,x7,Y⟩:=Zgt S.o.drew (a:=y) hM y5 v2.o (cg.aQ rfl (fun _ _ _ h=>h.drew) (fun _ h=>h));have y8:∃T,Nr bs n=.func (.func id) #[] T∧(T = #[]∨∃p,T = #[p])∧Calls Tryz.prog id (#[.pointer (some ⟨mb,0,none⟩),Aj y]++T) H.drew (aw H.drew mb O (deed n y sb)):=by
   unfold Nr;rw[x1];cases hq:(Nd n).2 with
   |none=>rw[hq]at Y;exact⟨_,rfl,.inl rfl,Y⟩
   |some q=>rw[hq]at Y;exact⟨_,rfl,.inr ⟨_,rfl⟩,Y⟩
  obtain⟨T,hv,z6,Y⟩:=y8;rw[hv]at W2;have x5:=Aq (Ol (n:Int) y sb);have x0:sb.steps=s.steps:=by rw[←y7.o,←y0];unfold Lq;split <;> rfl
  clear x2 cg hv x1 y0;have x8:=Aq x0;clear x0;rcases z6 with rfl|⟨p,rfl⟩
  ·have N:Hid (Calls Tryz.prog id #[.pointer (some ⟨mb,0,none⟩),Aj y] H.drew (aw H.drew mb O (deed n y sb))):=Aq (by first|exact Y|simpa using Y);go_still_tail 10,(by kernel_rfl);change wpList _ _ _ _ _ H.drew;go_wp2_with fail
   refine N.o.mono ?_;rintro e l⟨rfl,⟨L3,z⟩,B⟩;clear N Y W2 x7 i0 i1 gx hk;generalize deed n y sb=d at *;have z9:d.steps≤1000000000:=by rw[x5.o.1,x8.o];exact x3
   have v6:=z.ok.aM;have z5:=z.ok.df;obtain⟨Ak,ck,I,_,_⟩:=z.sk.form;have dX:=z.aG.cell 40;rw[z.c.dX,I]at dX;have gS:=z.aG.cell 45;rw[z.c.gS]at gS;have gB:=z.aG.cell 46;rw[z.c.gB]at gB;have ht:=z.aG.frozen 45;have J:=z.aG.frozen 46;have D:=z.aG.lt;have b:=z.aX (z.c.fD (d.steps+1)) (z.ok.dr z.ok.store z.ok.dQ z.ok.look z.ok.move z.ok.bG z.ok.aM);have A:=B.setCell (p:=⟨mb,45,none⟩) (.inl S.o.eu) (Aj ((d.steps+1:Nat):Int));have Z:=b.aX (b.c.jn (max d.aM d.stack.length)) (b.ok.dr b.ok.store b.ok.dQ b.ok.look b.ok.move b.ok.bG (by omega));have Q:=A.setCell (p:=⟨mb,46,none⟩) (.inl S.o.eu) (Aj ((max d.aM d.stack.length:Nat):Int));have F:((d.steps+1:Nat):Int)=(d.steps:Int)+1:=by omega
   have G:((max d.aM d.stack.length:Nat):Int)=max (d.aM:Int) (d.stack.length:Int):=by omega
   rw[F]at b Z A Q;rw[G]at Z Q;have V:Hid (Ou w mb O s (.returned (.bool true)) ((((l.setCell ⟨mb,45,none⟩ (Aj ((d.steps:Int)+1))).setCell ⟨mb,46,none⟩ (Aj (max (d.aM:Int) (d.stack.length:Int))))).drew)):=Aq (by
    have v3:=w3.o.size;have v0:=B.size;unfold Ou;rw[y4.o];refine⟨rfl,⟨_,Z.drew.mono (fun k u=>?_) (fun k u=>?_)⟩,w3.o.drew.trans Q.drew⟩
    ·rcases u with u|u
     ·exact .inl u
     ·refine .inr ⟨?_,?_⟩
      ·have:H.drew.heap.size=H.heap.size:=rfl;omega
      ·have:=u.2;simpa [World.setCell]using this
    ·rcases u with u|u
     ·exact Z.drew.eO k (.inl u)
     ·exact u.2)
   clear b Z A Q F G I z B;generalize d.steps=i at *;generalize d.aM=U at *;generalize d.stack.length=X at *;have h5:IntKind.i64.wrap ((i:Int)+1)=(i:Int)+1:=by rw[Do _ (by omega)]
   go_wp2_with fail
   have z4:(l.setCell ⟨mb,45,none⟩ (Aj ((i:Int)+1))).cell? ⟨mb,46,none⟩=some (Aj U):=(ol _ _ _ _ (fun e=>by injection e with e1 e2;omega)).trans gB;have v5:(l.setCell ⟨mb,45,none⟩ (Aj ((i:Int)+1))).cell? ⟨mb,40,none⟩=some (.slice Ak X ck):=(ol _ _ _ _ (fun e=>by injection e with e1 e2;omega)).trans dX;have z8:(l.setCell ⟨mb,45,none⟩ (Aj ((i:Int)+1))).frozen? ⟨mb,46,none⟩=false:=by rw[World.frozen?_setCell];exact J
   have z1:mb<(l.setCell ⟨mb,45,none⟩ (Aj ((i:Int)+1))).heap.size:=by simpa [World.setCell]using D
   clear dX gS gB ht J D h5;generalize l.setCell ⟨mb,45,none⟩ (Aj ((i:Int)+1))=W4 at *;by_cases z7:(U:Int)<(X:Int)
   ·rw[show max (U:Int) (X:Int)=X by omega]at V;go_region;go_wp2_with fail
    go_ret;exact V.o
   ·rw[show max (U:Int) (X:Int)=U by omega]at V;go_region;go_wp2_with fail
    go_ret;exact V.o
  ·have N:Hid (Calls Tryz.prog id #[.pointer (some ⟨mb,0,none⟩),Aj y,p] H.drew (aw H.drew mb O (deed n y sb))):=Aq (by first|exact Y|simpa using Y);go_still_tail 10,(by kernel_rfl);change wpList _ _ _ _ _ H.drew;go_wp2_with fail
   refine N.o.mono ?_;rintro e l⟨rfl,⟨L3,z⟩,B⟩;clear N Y W2 x7 i0 i1 gx hk;generalize deed n y sb=d at *;have z9:d.steps≤1000000000:=by rw[x5.o.1,x8.o];exact x3
   have v6:=z.ok.aM;have z5:=z.ok.df;obtain⟨Ak,ck,I,_,_⟩:=z.sk.form;have dX:=z.aG.cell 40;rw[z.c.dX,I]at dX;have gS:=z.aG.cell 45;rw[z.c.gS]at gS;have gB:=z.aG.cell 46;rw[z.c.gB]at gB;have ht:=z.aG.frozen 45;have J:=z.aG.frozen 46;have D:=z.aG.lt;have b:=z.aX (z.c.fD (d.steps+1)) (z.ok.dr z.ok.store z.ok.dQ z.ok.look z.ok.move z.ok.bG z.ok.aM);have A:=B.setCell (p:=⟨mb,45,none⟩) (.inl S.o.eu) (Aj ((d.steps+1:Nat):Int));have Z:=b.aX (b.c.jn (max d.aM d.stack.length)) (b.ok.dr b.ok.store b.ok.dQ b.ok.look b.ok.move b.ok.bG (by omega));have Q:=A.setCell (p:=⟨mb,46,none⟩) (.inl S.o.eu) (Aj ((max d.aM d.stack.length:Nat):Int));have F:((d.steps+1:Nat):Int)=(d.steps:Int)+1:=by omega
   have G:((max d.aM d.stack.length:Nat):Int)=max (d.aM:Int) (d.stack.length:Int):=by omega
   rw[F]at b Z A Q;rw[G]at Z Q;have V:Hid (Ou w mb O s (.returned (.bool true)) ((((l.setCell ⟨mb,45,none⟩ (Aj ((d.steps:Int)+1))).setCell ⟨mb,46,none⟩ (Aj (max (d.aM:Int) (d.stack.length:Int))))).drew)):=Aq (by
    have v3:=w3.o.size;have v0:=B.size;unfold Ou;rw[y4.o];refine⟨rfl,⟨_,Z.drew.mono (fun k u=>?_) (fun k u=>?_)⟩,w3.o.drew.trans Q.drew⟩
    ·rcases u with u|u
     ·exact .inl u
     ·refine .inr ⟨?_,?_⟩
      ·have:H.drew.heap.size=H.heap.size:=rfl;omega
      ·have:=u.2;simpa [World.setCell]using this
    ·rcases u with u|u
     ·exact Z.drew.eO k (.inl u)
     ·exact u.2)
   clear b Z A Q F G I z B;generalize d.steps=i at *;generalize d.aM=U at *;generalize d.stack.length=X at *;have h5:IntKind.i64.wrap ((i:Int)+1)=(i:Int)+1:=by rw[Do _ (by omega)]
   go_wp2_with fail
   have z4:(l.setCell ⟨mb,45,none⟩ (Aj ((i:Int)+1))).cell? ⟨mb,46,none⟩=some (Aj U):=(ol _ _ _ _ (fun e=>by injection e with e1 e2;omega)).trans gB;have v5:(l.setCell ⟨mb,45,none⟩ (Aj ((i:Int)+1))).cell? ⟨mb,40,none⟩=some (.slice Ak X ck):=(ol _ _ _ _ (fun e=>by injection e with e1 e2;omega)).trans dX;have z8:(l.setCell ⟨mb,45,none⟩ (Aj ((i:Int)+1))).frozen? ⟨mb,46,none⟩=false:=by rw[World.frozen?_setCell];exact J
   have z1:mb<(l.setCell ⟨mb,45,none⟩ (Aj ((i:Int)+1))).heap.size:=by simpa [World.setCell]using D
   clear dX gS gB ht J D h5;generalize l.setCell ⟨mb,45,none⟩ (Aj ((i:Int)+1))=W4 at *;by_cases z7:(U:Int)<(X:Int)
   ·rw[show max (U:Int) (X:Int)=X by omega]at V;go_region;go_wp2_with fail
    go_ret;exact V.o
   ·rw[show max (U:Int) (X:Int)=U by omega]at V;go_region;go_wp2_with fail
    go_ret;exact V.o
theorem ag.cW {w w':World}{mb:Nat}{O:Nat→Prop}{L:bd}{s:St}(h:ag w mb O L s)(z:bJ w w'):ag w' mb O L s :=
 h.aQ (fun k y=>z.block k (h.eO k y) (fun x=>x)) (fun _ h=>h) (fun k y=>Dq (h.eO k y) z.size)
structure d_ (B:Nat) (s:St) (W:World) (og cu to en cv st sk:Value):Prop where
 og:W.ownsRow B 76 2 og s.aT.length (bu s.aT)
 cu:W.ownsRow B 76 2 cu s.aF.length (bu s.aF)
 to:W.ownsRow B 3 1 to s.aB.length (ae s.aB)
 en:W.ownsRow B 3 1 en s.aJ.length (ae s.aJ)
 cv:W.ownsRow B 3 1 cv s.aP.length (ae s.aP)
 st:W.ownsRow B 3 1 st 32 (ae s.store)
 sk:W.ownsRow B 3 1 sk s.stack.length (ae s.stack.reverse)
theorem d_.cW {B:Nat}{s:St}{W W':World}{og cu to en cv st sk:Value}(h:d_ B s W og cu to en cv st sk)(x:bJ W W'):d_ B s W' og cu to en cv st sk :=
 ⟨Cb h.og x,Cb h.cu x,Cb h.to x,Cb h.en x,Cb h.cv x,Cb h.st x,Cb h.sk x⟩
theorem d_.aX {B:Nat}{s:St}{W:World}{og cu to en cv st sk:Value}(h:d_ B s W og cu to en cv st sk){b:Nat}{cs:Array Value}(x:aH W b 39 cs)(i:Nat)(u:Value):d_ B s (W.setCell ⟨b,i,none⟩ u) og cu to en cv st sk :=
 ⟨Ck h.og x (by decide) i u,Ck h.cu x (by decide) i u,Ck h.to x (by decide) i u,Ck h.en x (by decide) i u,Ck h.cv x (by decide) i u,Ck h.st x (by decide) i u,Ck h.sk x (by decide) i u⟩
def dj (W:World)(b:Nat)(u x z r p q k y u8 v:Value):World :=
 (((((((((W.setCell ⟨b,0,none⟩ u).setCell ⟨b,1,none⟩ x).setCell ⟨b,2,none⟩ z).setCell ⟨b,3,none⟩ r).setCell ⟨b,4,none⟩ p).setCell ⟨b,5,none⟩ q).setCell ⟨b,6,none⟩ k).setCell ⟨b,7,none⟩ y).setCell ⟨b,8,none⟩ u8).setCell ⟨b,9,none⟩ v
theorem Hk {B:Nat}{s:St}{w W:World}{og cu to en cv st sk:Value}{b:Nat}{cs:Array Value}(f:aH W b 39 cs)(h:d_ B s W og cu to en cv st sk)(g:B≤b)(e:Below B w W)(z r y q v k c x u8 a:Value) :
  d_ B s (dj W b z r y q v k c x u8 a) og cu to en cv st sk∧Below B w (dj W b z r y q v k c x u8 a)∧aH (dj W b z r y q v k c x u8 a) b 39 ((((((((((cs.setIfInBounds 0 z).setIfInBounds 1 r).setIfInBounds 2 y).setIfInBounds 3 q).setIfInBounds 4 v).setIfInBounds 5 k).setIfInBounds 6 c).setIfInBounds 7 x).setIfInBounds 8 u8).setIfInBounds 9 a):=by
 have step:∀{W:World} {cs:Array Value} (i:Nat) (u:Value),(d_ B s W og cu to en cv st sk∧Below B w W∧aH W b 39 cs)→d_ B s (W.setCell ⟨b,i,none⟩ u) og cu to en cv st sk∧Below B w (W.setCell ⟨b,i,none⟩ u)∧aH (W.setCell ⟨b,i,none⟩ u) b 39 (cs.setIfInBounds i u) :=
  fun i u d=>⟨d.1.aX d.2.2 i u,d.2.1.setCell (p:=⟨b,i,none⟩) g u,d.2.2.aX i u⟩
 exact step 9 a (step 8 u8 (step 7 x (step 6 c (step 5 k (step 4 v (step 3 q (step 2 y (step 1 r (step 0 z ⟨h,e,f⟩)))))))))
def Um (w:World)(s:St)(e:Ending)(w':World):Prop :=
 ∃og cu to en cv st sk,e=.returned (.agg #[og,cu,to,en,cv,st,sk,Aj s.steps,Aj s.aM,Aj s.br])∧d_ w.heap.size s w' og cu to en cv st sk∧Below w.heap.size w w'
def RaV (mb B:Nat)(L:bd)(s:St)(i:Nat)(v:Value)(W:World):Prop :=
 match i with
 |0=>v=.pointer (some ⟨mb,0,none⟩)
 |1=>v=.pointer (some ⟨mb,0,none⟩)
 |2=>v=.pointer (some ⟨mb,2,none⟩)
 |3=>v=.pointer (some ⟨mb,2,none⟩)
 |4=>v=L.og
 |5=>W.ownsRow B 76 2 v s.aT.length (bu s.aT)
 |6=>v=.pointer (some ⟨mb,0,none⟩)
 |7=>v=.pointer (some ⟨mb,0,none⟩)
 |8=>v=.pointer (some ⟨mb,2,none⟩)
 |9=>v=.pointer (some ⟨mb,3,none⟩)
 |10=>v=L.cu
 |11=>W.ownsRow B 76 2 v s.aF.length (bu s.aF)
 |12=>v=.pointer (some ⟨mb,0,none⟩)
 |13=>v=.pointer (some ⟨mb,0,none⟩)
 |14=>v=.pointer (some ⟨mb,2,none⟩)
 |15=>v=.pointer (some ⟨mb,4,none⟩)
 |16=>v=L.to
 |17=>W.ownsRow B 3 1 v s.aB.length (ae s.aB)
 |18=>v=.pointer (some ⟨mb,0,none⟩)
 |19=>v=.pointer (some ⟨mb,0,none⟩)
 |20=>v=.pointer (some ⟨mb,2,none⟩)
 |21=>v=.pointer (some ⟨mb,5,none⟩)
 |22=>v=L.en
 |23=>W.ownsRow B 3 1 v s.aJ.length (ae s.aJ)
 |24=>∃og cu to en,v=.agg #[og,cu,to,en]∧W.ownsRow B 76 2 og s.aT.length (bu s.aT)∧W.ownsRow B 76 2 cu s.aF.length (bu s.aF)∧W.ownsRow B 3 1 to s.aB.length (ae s.aB)∧W.ownsRow B 3 1 en s.aJ.length (ae s.aJ)
 |25=>v=.pointer (some ⟨mb,0,none⟩)
 |26=>v=.pointer (some ⟨mb,0,none⟩)
 |27=>v=.pointer (some ⟨mb,7,none⟩)
 |28=>v=L.cv
 |29=>W.ownsRow B 3 1 v s.aP.length (ae s.aP)
 |30=>v=.pointer (some ⟨mb,0,none⟩)
 |31=>v=.pointer (some ⟨mb,0,none⟩)
 |32=>v=.pointer (some ⟨mb,8,none⟩)
 |33=>v=.slice (some ⟨mb,8,none⟩) 32 32
 |34=>W.ownsRow B 3 1 v 32 (ae s.store)
 |35=>v=.pointer (some ⟨mb,0,none⟩)
 |36=>v=.pointer (some ⟨mb,0,none⟩)
 |37=>v=.pointer (some ⟨mb,40,none⟩)
 |38=>v=L.sk
 |39=>W.ownsRow B 3 1 v s.stack.length (ae s.stack.reverse)
 |40=>v=.pointer (some ⟨mb,0,none⟩)
 |41=>v=.pointer (some ⟨mb,0,none⟩)
 |42=>v=.pointer (some ⟨mb,45,none⟩)
 |43=>v=Aj s.steps
 |44=>v=.pointer (some ⟨mb,0,none⟩)
 |45=>v=.pointer (some ⟨mb,0,none⟩)
 |46=>v=.pointer (some ⟨mb,46,none⟩)
 |47=>v=Aj s.aM
 |48=>v=.pointer (some ⟨mb,0,none⟩)
 |49=>v=.pointer (some ⟨mb,0,none⟩)
 |50=>v=.pointer (some ⟨mb,48,none⟩)
 |51=>v=Aj s.br
 |52=>∃og cu to en cv st sk,v=.agg #[og,cu,to,en,cv,st,sk,Aj s.steps,Aj s.aM,Aj s.br]∧d_ B s W og cu to en cv st sk
 |_=>True
theorem RaV.cW {mb B:Nat}{L:bd}{s:St}{i:Nat}{v:Value}{W W':World}(h:RaV mb B L s i v W)(x:bJ W W'):RaV mb B L s i v W':=by
 match i with
 |0|1|2|3|4|6|7|8|9|10|12|13|14|15|16|18|19|20|21|22|25|26|27|28|30|31|32|33|35|36|37|38|40|41|42|43|44|45|46|47|48|49|50|51=>exact h
 |5|11|17|23|29|34|39=>exact Cb h x
 |24=>obtain⟨y,u,to,en,e,z,k,q,p⟩:=h;exact⟨y,u,to,en,e,Cb z x,Cb k x,Cb q x,Cb p x⟩
 |52=>obtain⟨y,u,to,en,cv,st,sk,e,z⟩:=h;exact⟨y,u,to,en,cv,st,sk,e,z.cW x⟩
 |i+53=>trivial
structure mS (og cu to en cv st sk:Value):Prop where
 p1:au og cu
 p2:au to en
 p3:au to cv
 p4:au to st
 p5:au to sk
 p6:au en cv
 p7:au en st
 p8:au en sk
 p9:au cv st
 p10:au cv sk
 p11:au st sk
def nX (i:Nat)(v:Value)(j:Nat)(u:Value):Prop :=
 match i with
 |5=>match j with|11|17|23|29|34|39=>au v u|24=>False|_=>True
 |11=>match j with|5|17|23|29|34|39=>au v u|24=>False|_=>True
 |17=>match j with|5|11|23|29|34|39=>au v u|24=>False|_=>True
 |23=>match j with|5|11|17|29|34|39=>au v u|24=>False|_=>True
 |29=>match j with|5|11|17|23|34|39=>au v u|52=>False|_=>True
 |34=>match j with|5|11|17|23|29|39=>au v u|52=>False|_=>True
 |39=>match j with|5|11|17|23|29|34=>au v u|52=>False|_=>True
 |24=>match j with
  |5=>∃b c d,v=.agg #[u,b,c,d]
  |11=>∃a c d,v=.agg #[a,u,c,d]
  |17=>∃a b d,v=.agg #[a,b,u,d]
  |23=>∃a b c,v=.agg #[a,b,c,u]
  |52=>False
  |_=>True
 |52=>match j with
  |24=>∃og cu to en cv st sk a b c,v=.agg #[og,cu,to,en,cv,st,sk,a,b,c]∧u=.agg #[og,cu,to,en]
  |29=>∃og cu to en st sk a b c,v=.agg #[og,cu,to,en,u,st,sk,a,b,c]
  |34=>∃og cu to en cv sk a b c,v=.agg #[og,cu,to,en,cv,u,sk,a,b,c]
  |39=>∃og cu to en cv st a b c,v=.agg #[og,cu,to,en,cv,st,u,a,b,c]
  |_=>True
 |_=>True
def Zha (w:World)(s:St)(e:Ending)(w':World):Prop :=
 ∃og cu to en cv st sk,e=.returned (.agg #[og,cu,to,en,cv,st,sk,Aj s.steps,Aj s.aM,Aj s.br])∧d_ w.heap.size s w' og cu to en cv st sk∧Below w.heap.size w w'∧mS og cu to en cv st sk
theorem Vc (w:World)(mb:Nat)(O:Nat→Prop)(L:bd)(s:St)(h:ag w mb O L s) :
  Calls Tryz.prog 71 #[.pointer (some ⟨mb,0,none⟩)] w (Zha w s):=by
 have k6:=h.aG.lt;have HX:=Aq (h.alloc (.cells #[.slice none 0 0,.slice none 0 0,.slice none 0 0,.slice none 0 0,.slice none 0 0,.slice none 0 0,.slice none 0 0,Aj 0,Aj 0,Aj 0] 39));have HB:=Aq (qG w 39 #[.slice none 0 0,.slice none 0 0,.slice none 0 0,.slice none 0 0,.slice none 0 0,.slice none 0 0,.slice none 0 0,Aj 0,Aj 0,Aj 0]);have HW:=Aq ((ny w.heap.size w).alloc Aw (.cells #[.slice none 0 0,.slice none 0 0,.slice none 0 0,.slice none 0 0,.slice none 0 0,.slice none 0 0,.slice none 0 0,Aj 0,Aj 0,Aj 0] 39));clear h;go_enter Tryz.func71,Tryz.ntmps71;go_wp2_with fail
 generalize w.alloc (.cells #[.slice none 0 0,.slice none 0 0,.slice none 0 0,.slice none 0 0,.slice none 0 0,.slice none 0 0,.slice none 0 0,Aj 0,Aj 0,Aj 0] 39)=X at *;have z2:=HW.o.size;refine Ic (RaV mb w.heap.size L s) nX (fun W=>bJ X W) bJ (by as_aux_lemma=>kernel_rfl) (by as_aux_lemma=>kernel_rfl) 53 rfl ?_ ?_ ?_ ?_
 ·intro i v W W' d hr;exact d.cW hr
 ·exact(qF _ _).drew
 ·intro j ev val W T q U z z0 e3 p;have P:=Aq z0;have V:=Aq e3;have _e0:ev (.tmp 0)=.pointer (some ⟨mb,0,none⟩):=z.dS 0 (by kernel_rfl);have _ec:=z.const;have _ef:=z.func;have hM:=HX.o.cW U;have y:=Aq hM;have k:=Aq U;have g6:=hM.aG.lt;have k7:=U.size;clear U hM z0 e3
  match j,q with
  |0,_ =>
   refine⟨_,rfl,rfl,?_⟩;unfold Bl;go_simp;exact⟨rfl,k.o,qF _ _,fun _ _=>trivial⟩
  |1,_ =>
   have d0:=p 0 (by kernel_rfl);have x0:=z.bY 0 6;simp only[RaV]at d0;rw[d0]at x0;refine⟨_,rfl,rfl,?_⟩;unfold Bl;go_simp;exact⟨rfl,k.o,qF _ _,fun _ _=>trivial⟩
  |2,_ =>
   have d1:=p 1 (by kernel_rfl);have x1:=z.bY 1 7;simp only[RaV]at d1;rw[d1]at x1;refine⟨_,rfl,rfl,?_⟩;unfold Bl;go_simp;exact⟨rfl,k.o,qF _ _,fun _ _=>trivial⟩
  |3,_ =>
   have d2:=p 2 (by kernel_rfl);have x2:=z.bY 2 8;simp only[RaV]at d2;rw[d2]at x2;refine⟨_,rfl,rfl,?_⟩;unfold Bl;go_simp;exact⟨rfl,k.o,qF _ _,fun _ _=>trivial⟩
  |4,_ =>
   have d3:=p 3 (by kernel_rfl);have x3:=z.bY 3 9;simp only[RaV]at d3;rw[d3]at x3;have c0:=y.o.aG.cell 2;rw[y.o.c.c2]at c0;refine⟨_,rfl,rfl,?_⟩;unfold Bl;go_simp;exact⟨rfl,k.o,qF _ _,fun _ _=>trivial⟩
  |5,_ =>
   have d4:=p 4 (by kernel_rfl);have x4:=z.bY 4 10;simp only[RaV]at d4;rw[d4]at x4;obtain⟨A,c,d,_,_⟩:=y.o.og.form;have r:=y.o.og.1;rw[d]at x4 r;have l:=qI r;have H:=Aq l;have ho:s.aT.length≤1000000:=by have:=y.o.ok.c_;have:=y.o.ok.dK;have:=y.o.ok.tl;have:=y.o.ok.gy;have:=y.o.ok.fW;have:=y.o.ok.df;omega
   clear d r l;refine⟨_,rfl,rfl,?_⟩;unfold Bl;go_simp;refine(Wg W A _ c _ _ H.o (Pj _) (by omega)).mono ?_;rintro e w5⟨v5,rfl,f,g⟩;refine⟨_,rfl,Cm f (by omega),k.o.trans g,g,fun j q=>?_⟩;have n:=P.o j q;have m:=V.o j q
   match j with
   |11|17|23|29|34|39=>exact En (by simpa only[RaV]using n) f
   |24=>exact absurd (m.symm.trans (by kernel_rfl)) oz
   |0|1|2|3|4|5|6|7|8|9|10|12|13|14|15|16|18|19|20|21|22|25|26|27|28|30|31|32|33|35|36|37|38|40|41|42|43|44|45|46|47|48|49|50|51|52=>trivial
   |j+53=>trivial
  |6,_ =>
   refine⟨_,rfl,rfl,?_⟩;unfold Bl;go_simp;exact⟨rfl,k.o,qF _ _,fun _ _=>trivial⟩
  |7,_ =>
   have d6:=p 6 (by kernel_rfl);have x6:=z.bY 6 12;simp only[RaV]at d6;rw[d6]at x6;refine⟨_,rfl,rfl,?_⟩;unfold Bl;go_simp;exact⟨rfl,k.o,qF _ _,fun _ _=>trivial⟩
  |8,_ =>
   have d7:=p 7 (by kernel_rfl);have x7:=z.bY 7 13;simp only[RaV]at d7;rw[d7]at x7;refine⟨_,rfl,rfl,?_⟩;unfold Bl;go_simp;exact⟨rfl,k.o,qF _ _,fun _ _=>trivial⟩
  |9,_ =>
   have d8:=p 8 (by kernel_rfl);have x8:=z.bY 8 14;simp only[RaV]at d8;rw[d8]at x8;refine⟨_,rfl,rfl,?_⟩;unfold Bl;go_simp;exact⟨rfl,k.o,qF _ _,fun _ _=>trivial⟩
  |10,_ =>
   have d9:=p 9 (by kernel_rfl);have x9:=z.bY 9 15;simp only[RaV]at d9;rw[d9]at x9;have c0:=y.o.aG.cell 3;rw[y.o.c.c3]at c0;refine⟨_,rfl,rfl,?_⟩;unfold Bl;go_simp;exact⟨rfl,k.o,qF _ _,fun _ _=>trivial⟩
  |11,_ =>
   have kM:=p 10 (by kernel_rfl);have v8:=z.bY 10 16;simp only[RaV]at kM;rw[kM]at v8;obtain⟨A,c,d,_,_⟩:=y.o.cu.form;have r:=y.o.cu.1;rw[d]at v8 r;have l:=qI r;have H:=Aq l;have ho:s.aF.length≤1000000:=by have:=y.o.ok.c_;have:=y.o.ok.dK;have:=y.o.ok.tl;have:=y.o.ok.gy;have:=y.o.ok.fW;have:=y.o.ok.df;omega
   clear d r l;refine⟨_,rfl,rfl,?_⟩;unfold Bl;go_simp;refine(Wg W A _ c _ _ H.o (Pj _) (by omega)).mono ?_;rintro e w5⟨v5,rfl,f,g⟩;refine⟨_,rfl,Cm f (by omega),k.o.trans g,g,fun j q=>?_⟩;have n:=P.o j q;have m:=V.o j q
   match j with
   |5|17|23|29|34|39=>exact En (by simpa only[RaV]using n) f
   |24=>exact absurd (m.symm.trans (by kernel_rfl)) oz
   |0|1|2|3|4|6|7|8|9|10|11|12|13|14|15|16|18|19|20|21|22|25|26|27|28|30|31|32|33|35|36|37|38|40|41|42|43|44|45|46|47|48|49|50|51|52=>trivial
   |j+53=>trivial
  |12,_ =>
   refine⟨_,rfl,rfl,?_⟩;unfold Bl;go_simp;exact⟨rfl,k.o,qF _ _,fun _ _=>trivial⟩
  |13,_ =>
   have jK:=p 12 (by kernel_rfl);have g9:=z.bY 12 18;simp only[RaV]at jK;rw[jK]at g9;refine⟨_,rfl,rfl,?_⟩;unfold Bl;go_simp;exact⟨rfl,k.o,qF _ _,fun _ _=>trivial⟩
  |14,_ =>
   have nS:=p 13 (by kernel_rfl);have j0:=z.bY 13 19;simp only[RaV]at nS;rw[nS]at j0;refine⟨_,rfl,rfl,?_⟩;unfold Bl;go_simp;exact⟨rfl,k.o,qF _ _,fun _ _=>trivial⟩
  |15,_ =>
   have nN:=p 14 (by kernel_rfl);have k4:=z.bY 14 20;simp only[RaV]at nN;rw[nN]at k4;refine⟨_,rfl,rfl,?_⟩;unfold Bl;go_simp;exact⟨rfl,k.o,qF _ _,fun _ _=>trivial⟩
  |16,_ =>
   have f5:=p 15 (by kernel_rfl);have i5:=z.bY 15 21;simp only[RaV]at f5;rw[f5]at i5;have c0:=y.o.aG.cell 4;rw[y.o.c.c4]at c0;refine⟨_,rfl,rfl,?_⟩;unfold Bl;go_simp;exact⟨rfl,k.o,qF _ _,fun _ _=>trivial⟩
  |17,_ =>
   have nI:=p 16 (by kernel_rfl);have v9:=z.bY 16 22;simp only[RaV]at nI;rw[nI]at v9;obtain⟨A,c,d,_,_⟩:=y.o.to.form;have r:=y.o.to.1;rw[d]at v9 r;have l:=qI r;have H:=Aq l;have ho:s.aB.length≤1000000:=by have:=y.o.ok.c_;have:=y.o.ok.dK;have:=y.o.ok.tl;have:=y.o.ok.gy;have:=y.o.ok.fW;have:=y.o.ok.df;omega
   clear d r l;refine⟨_,rfl,rfl,?_⟩;unfold Bl;go_simp;refine(Gw W A _ c _ _ H.o (Hu _) (by omega)).mono ?_;rintro e w5⟨v5,rfl,f,g⟩;refine⟨_,rfl,Cm f (by omega),k.o.trans g,g,fun j q=>?_⟩;have n:=P.o j q;have m:=V.o j q
   match j with
   |5|11|23|29|34|39=>exact En (by simpa only[RaV]using n) f
   |24=>exact absurd (m.symm.trans (by kernel_rfl)) oz
   |0|1|2|3|4|6|7|8|9|10|12|13|14|15|16|17|18|19|20|21|22|25|26|27|28|30|31|32|33|35|36|37|38|40|41|42|43|44|45|46|47|48|49|50|51|52=>trivial
   |j+53=>trivial
  |18,_ =>
   refine⟨_,rfl,rfl,?_⟩;unfold Bl;go_simp;exact⟨rfl,k.o,qF _ _,fun _ _=>trivial⟩
  |19,_ =>
   have d18:=p 18 (by kernel_rfl);have i1:=z.bY 18 24;simp only[RaV]at d18;rw[d18]at i1;refine⟨_,rfl,rfl,?_⟩;unfold Bl;go_simp;exact⟨rfl,k.o,qF _ _,fun _ _=>trivial⟩
  |20,_ =>
   have d19:=p 19 (by kernel_rfl);have g5:=z.bY 19 25;simp only[RaV]at d19;rw[d19]at g5;refine⟨_,rfl,rfl,?_⟩;unfold Bl;go_simp;exact⟨rfl,k.o,qF _ _,fun _ _=>trivial⟩
  |21,_ =>
   have d20:=p 20 (by kernel_rfl);have g7:=z.bY 20 26;simp only[RaV]at d20;rw[d20]at g7;refine⟨_,rfl,rfl,?_⟩;unfold Bl;go_simp;exact⟨rfl,k.o,qF _ _,fun _ _=>trivial⟩
  |22,_ =>
   have d21:=p 21 (by kernel_rfl);have f9:=z.bY 21 27;simp only[RaV]at d21;rw[d21]at f9;have c0:=y.o.aG.cell 5;rw[y.o.c.c5]at c0;refine⟨_,rfl,rfl,?_⟩;unfold Bl;go_simp;exact⟨rfl,k.o,qF _ _,fun _ _=>trivial⟩
  |23,_ =>
   have b5:=p 22 (by kernel_rfl);have v4:=z.bY 22 28;simp only[RaV]at b5;rw[b5]at v4;obtain⟨A,c,d,_,_⟩:=y.o.en.form;have r:=y.o.en.1;rw[d]at v4 r;have l:=qI r;have H:=Aq l;have ho:s.aJ.length≤1000000:=by have:=y.o.ok.c_;have:=y.o.ok.dK;have:=y.o.ok.tl;have:=y.o.ok.gy;have:=y.o.ok.fW;have:=y.o.ok.df;omega
   clear d r l;refine⟨_,rfl,rfl,?_⟩;unfold Bl;go_simp;refine(Gw W A _ c _ _ H.o (Hu _) (by omega)).mono ?_;rintro e w5⟨v5,rfl,f,g⟩;refine⟨_,rfl,Cm f (by omega),k.o.trans g,g,fun j q=>?_⟩;have n:=P.o j q;have m:=V.o j q
   match j with
   |5|11|17|29|34|39=>exact En (by simpa only[RaV]using n) f
   |24=>exact absurd (m.symm.trans (by kernel_rfl)) oz
   |0|1|2|3|4|6|7|8|9|10|12|13|14|15|16|18|19|20|21|22|23|25|26|27|28|30|31|32|33|35|36|37|38|40|41|42|43|44|45|46|47|48|49|50|51|52=>trivial
   |j+53=>trivial
  |24,_ =>
   have d5:=p 5 (by kernel_rfl);have x5:=z.bY 5 11;simp only[RaV]at d5;have iZ:=p 11 (by kernel_rfl);have j5:=z.bY 11 17;simp only[RaV]at iZ;have lK:=p 17 (by kernel_rfl);have g3:=z.bY 17 23;simp only[RaV]at lK;have hv:=p 23 (by kernel_rfl);have j4:=z.bY 23 29;simp only[RaV]at hv;obtain⟨A1,c1,D⟩:∃A c,val 5=.slice A _ c:=by obtain⟨A,c,e,_⟩:=Bc d5;exact⟨A,c,e⟩
   rw[D]at x5 d5;obtain⟨A2,c2,I⟩:∃A c,val 11=.slice A _ c:=by obtain⟨A,c,e,_⟩:=Bc iZ;exact⟨A,c,e⟩
   rw[I]at j5 iZ;obtain⟨A3,c3,J⟩:∃A c,val 17=.slice A _ c:=by obtain⟨A,c,e,_⟩:=Bc lK;exact⟨A,c,e⟩
   rw[J]at g3 lK;obtain⟨A4,c4,E⟩:∃A c,val 23=.slice A _ c:=by obtain⟨A,c,e,_⟩:=Bc hv;exact⟨A,c,e⟩
   rw[E]at j4 hv;have H1:=Aq d5;have H2:=Aq iZ;have H3:=Aq lK;have H4:=Aq hv;clear d5 iZ lK hv;refine⟨_,rfl,rfl,?_⟩;unfold Bl;go_simp;refine⟨⟨_,_,_,_,rfl,H1.o,H2.o,H3.o,H4.o⟩,k.o,qF _ _,fun j q=>?_⟩;have m:=V.o j q
   match j with
   |5=>exact⟨_,_,_,by rw[D]⟩
   |11=>exact⟨_,_,_,by rw[I]⟩
   |17=>exact⟨_,_,_,by rw[J]⟩
   |23=>exact⟨_,_,_,by rw[E]⟩
   |52=>exact absurd (m.symm.trans (by kernel_rfl)) oz
   |0|1|2|3|4|6|7|8|9|10|12|13|14|15|16|18|19|20|21|22|24|25|26|27|28|29|30|31|32|33|34|35|36|37|38|39|40|41|42|43|44|45|46|47|48|49|50|51=>trivial
   |j+53=>trivial
  |25,_ =>
   refine⟨_,rfl,rfl,?_⟩;unfold Bl;go_simp;exact⟨rfl,k.o,qF _ _,fun _ _=>trivial⟩
  |26,_ =>
   have f3:=p 25 (by kernel_rfl);have i0:=z.bY 25 31;simp only[RaV]at f3;rw[f3]at i0;refine⟨_,rfl,rfl,?_⟩;unfold Bl;go_simp;exact⟨rfl,k.o,qF _ _,fun _ _=>trivial⟩
  |27,_ =>
   have v6:=p 26 (by kernel_rfl);have i8:=z.bY 26 32;simp only[RaV]at v6;rw[v6]at i8;refine⟨_,rfl,rfl,?_⟩;unfold Bl;go_simp;exact⟨rfl,k.o,qF _ _,fun _ _=>trivial⟩
  |28,_ =>
   have v2:=p 27 (by kernel_rfl);have j2:=z.bY 27 33;simp only[RaV]at v2;rw[v2]at j2;have c0:=y.o.aG.cell 7;rw[y.o.c.c7]at c0;refine⟨_,rfl,rfl,?_⟩;unfold Bl;go_simp;exact⟨rfl,k.o,qF _ _,fun _ _=>trivial⟩
  |29,_ =>
   have f2:=p 28 (by kernel_rfl);have hu:=z.bY 28 34;simp only[RaV]at f2;rw[f2]at hu;obtain⟨A,c,d,_,_⟩:=y.o.cv.form;have r:=y.o.cv.1;rw[d]at hu r;have l:=qI r;have H:=Aq l;have ho:s.aP.length≤1000000:=by have:=y.o.ok.c_;have:=y.o.ok.dK;have:=y.o.ok.tl;have:=y.o.ok.gy;have:=y.o.ok.fW;have:=y.o.ok.df;omega
   clear d r l;refine⟨_,rfl,rfl,?_⟩;unfold Bl;go_simp;refine(Gw W A _ c _ _ H.o (Hu _) (by omega)).mono ?_;rintro e w5⟨v5,rfl,f,g⟩;refine⟨_,rfl,Cm f (by omega),k.o.trans g,g,fun j q=>?_⟩;have n:=P.o j q;have m:=V.o j q
   match j with
   |5|11|17|23|34|39=>exact En (by simpa only[RaV]using n) f
   |52=>exact absurd (m.symm.trans (by kernel_rfl)) oz
   |0|1|2|3|4|6|7|8|9|10|12|13|14|15|16|18|19|20|21|22|24|25|26|27|28|29|30|31|32|33|35|36|37|38|40|41|42|43|44|45|46|47|48|49|50|51=>trivial
   |j+53=>trivial
  |30,_ =>
   refine⟨_,rfl,rfl,?_⟩;unfold Bl;go_simp;exact⟨rfl,k.o,qF _ _,fun _ _=>trivial⟩
  |31,_ =>
   have v0:=p 30 (by kernel_rfl);have j8:=z.bY 30 36;simp only[RaV]at v0;rw[v0]at j8;refine⟨_,rfl,rfl,?_⟩;unfold Bl;go_simp;exact⟨rfl,k.o,qF _ _,fun _ _=>trivial⟩
  |32,_ =>
   have b9:=p 31 (by kernel_rfl);have i6:=z.bY 31 37;simp only[RaV]at b9;rw[b9]at i6;refine⟨_,rfl,rfl,?_⟩;unfold Bl;go_simp;exact⟨rfl,k.o,qF _ _,fun _ _=>trivial⟩
  |33,_ =>
   have z7:=p 32 (by kernel_rfl);have k0:=z.bY 32 38;simp only[RaV]at z7;rw[z7]at k0;refine⟨_,rfl,rfl,?_⟩;unfold Bl;go_simp;exact⟨rfl,k.o,qF _ _,fun _ _=>trivial⟩
  |34,_ =>
   have e6:=p 33 (by kernel_rfl);have j9:=z.bY 33 39;simp only[RaV]at e6;rw[e6]at j9;have l:aE W W.heap.size 1 (some ⟨mb,8,none⟩) 32 (ae s.store):=⟨by rw[Dg,y.o.ok.dQ],fun _=>⟨mb,8,rfl,g6,fun j u M=>by
    rw[y.o.aG.cell];simp only[ae,Cd]at M;cases q:s.store[j]? with
    |none=>rw[q]at M;cases M
    |some x =>
     rw[q]at M;simp only[oH,Bw]at M;subst M;exact y.o.c.st j x q⟩⟩
   have H:=Aq l;clear l;refine⟨_,rfl,rfl,?_⟩;unfold Bl;go_simp;refine(Gw W _ _ _ _ _ H.o (Hu _) (by omega)).mono ?_;rintro e w5⟨v5,rfl,f,g⟩;refine⟨_,rfl,Cm f (by omega),k.o.trans g,g,fun j q=>?_⟩;have n:=P.o j q;have m:=V.o j q
   match j with
   |5|11|17|23|29|39=>exact En (by simpa only[RaV]using n) f
   |52=>exact absurd (m.symm.trans (by kernel_rfl)) oz
   |0|1|2|3|4|6|7|8|9|10|12|13|14|15|16|18|19|20|21|22|24|25|26|27|28|30|31|32|33|34|35|36|37|38|40|41|42|43|44|45|46|47|48|49|50|51=>trivial
   |j+53=>trivial
  |35,_ =>
   refine⟨_,rfl,rfl,?_⟩;unfold Bl;go_simp;exact⟨rfl,k.o,qF _ _,fun _ _=>trivial⟩
  |36,_ =>
   have z1:=p 35 (by kernel_rfl);have i9:=z.bY 35 41;simp only[RaV]at z1;rw[z1]at i9;refine⟨_,rfl,rfl,?_⟩;unfold Bl;go_simp;exact⟨rfl,k.o,qF _ _,fun _ _=>trivial⟩
  |37,_ =>
   have og:=p 36 (by kernel_rfl);have g2:=z.bY 36 42;simp only[RaV]at og;rw[og]at g2;refine⟨_,rfl,rfl,?_⟩;unfold Bl;go_simp;exact⟨rfl,k.o,qF _ _,fun _ _=>trivial⟩
  |38,_ =>
   have a0:=p 37 (by kernel_rfl);have k1:=z.bY 37 43;simp only[RaV]at a0;rw[a0]at k1;have c0:=y.o.aG.cell 40;rw[y.o.c.dX]at c0;refine⟨_,rfl,rfl,?_⟩;unfold Bl;go_simp;exact⟨rfl,k.o,qF _ _,fun _ _=>trivial⟩
  |39,_ =>
   have b7:=p 38 (by kernel_rfl);have z3:=z.bY 38 44;simp only[RaV]at b7;rw[b7]at z3;obtain⟨A,c,d,_,_⟩:=y.o.sk.form;have r:=y.o.sk.1;rw[d]at z3 r;have l:=qI r;have H:=Aq l;have ho:s.stack.length≤1000000:=by have:=y.o.ok.c_;have:=y.o.ok.dK;have:=y.o.ok.tl;have:=y.o.ok.gy;have:=y.o.ok.fW;have:=y.o.ok.df;omega
   clear d r l;refine⟨_,rfl,rfl,?_⟩;unfold Bl;go_simp;refine(Gw W A _ c _ _ H.o (Hu _) (by omega)).mono ?_;rintro e w5⟨v5,rfl,f,g⟩;refine⟨_,rfl,Cm f (by omega),k.o.trans g,g,fun j q=>?_⟩;have n:=P.o j q;have m:=V.o j q
   match j with
   |5|11|17|23|29|34=>exact En (by simpa only[RaV]using n) f
   |52=>exact absurd (m.symm.trans (by kernel_rfl)) oz
   |0|1|2|3|4|6|7|8|9|10|12|13|14|15|16|18|19|20|21|22|24|25|26|27|28|30|31|32|33|35|36|37|38|39|40|41|42|43|44|45|46|47|48|49|50|51=>trivial
   |j+53=>trivial
  |40,_ =>
   refine⟨_,rfl,rfl,?_⟩;unfold Bl;go_simp;exact⟨rfl,k.o,qF _ _,fun _ _=>trivial⟩
  |41,_ =>
   have b3:=p 40 (by kernel_rfl);have j1:=z.bY 40 46;simp only[RaV]at b3;rw[b3]at j1;refine⟨_,rfl,rfl,?_⟩;unfold Bl;go_simp;exact⟨rfl,k.o,qF _ _,fun _ _=>trivial⟩
  |42,_ =>
   have b6:=p 41 (by kernel_rfl);have k2:=z.bY 41 47;simp only[RaV]at b6;rw[b6]at k2;refine⟨_,rfl,rfl,?_⟩;unfold Bl;go_simp;exact⟨rfl,k.o,qF _ _,fun _ _=>trivial⟩
  |43,_ =>
   have z5:=p 42 (by kernel_rfl);have f6:=z.bY 42 48;simp only[RaV]at z5;rw[z5]at f6;have c0:=y.o.aG.cell 45;rw[y.o.c.gS]at c0;refine⟨_,rfl,rfl,?_⟩;unfold Bl;go_simp;exact⟨rfl,k.o,qF _ _,fun _ _=>trivial⟩
  |44,_ =>
   refine⟨_,rfl,rfl,?_⟩;unfold Bl;go_simp;exact⟨rfl,k.o,qF _ _,fun _ _=>trivial⟩
  |45,_ =>
   have e9:=p 44 (by kernel_rfl);have i3:=z.bY 44 50;simp only[RaV]at e9;rw[e9]at i3;refine⟨_,rfl,rfl,?_⟩;unfold Bl;go_simp;exact⟨rfl,k.o,qF _ _,fun _ _=>trivial⟩
  |46,_ =>
   have c8:=p 45 (by kernel_rfl);have j7:=z.bY 45 51;simp only[RaV]at c8;rw[c8]at j7;refine⟨_,rfl,rfl,?_⟩;unfold Bl;go_simp;exact⟨rfl,k.o,qF _ _,fun _ _=>trivial⟩
  |47,_ =>
   have z8:=p 46 (by kernel_rfl);have j6:=z.bY 46 52;simp only[RaV]at z8;rw[z8]at j6;have c0:=y.o.aG.cell 46;rw[y.o.c.gB]at c0;refine⟨_,rfl,rfl,?_⟩;unfold Bl;go_simp;exact⟨rfl,k.o,qF _ _,fun _ _=>trivial⟩
  |48,_ =>
   refine⟨_,rfl,rfl,?_⟩;unfold Bl;go_simp;exact⟨rfl,k.o,qF _ _,fun _ _=>trivial⟩
  |49,_ =>
   have f4:=p 48 (by kernel_rfl);have k5:=z.bY 48 54;simp only[RaV]at f4;rw[f4]at k5;refine⟨_,rfl,rfl,?_⟩;unfold Bl;go_simp;exact⟨rfl,k.o,qF _ _,fun _ _=>trivial⟩
  |50,_ =>
   have z4:=p 49 (by kernel_rfl);have k3:=z.bY 49 55;simp only[RaV]at z4;rw[z4]at k3;refine⟨_,rfl,rfl,?_⟩;unfold Bl;go_simp;exact⟨rfl,k.o,qF _ _,fun _ _=>trivial⟩
  |51,_ =>
   have e8:=p 50 (by kernel_rfl);have g1:=z.bY 50 56;simp only[RaV]at e8;rw[e8]at g1;have c0:=y.o.aG.cell 48;rw[y.o.c.iH]at c0;refine⟨_,rfl,rfl,?_⟩;unfold Bl;go_simp;exact⟨rfl,k.o,qF _ _,fun _ _=>trivial⟩
  |52,_ =>
   have e4:=p 24 (by kernel_rfl);have g4:=z.bY 24 30;simp only[RaV]at e4;have cu:=p 29 (by kernel_rfl);have g0:=z.bY 29 35;simp only[RaV]at cu;have e1:=p 34 (by kernel_rfl);have f7:=z.bY 34 40;simp only[RaV]at e1;have hj:=p 39 (by kernel_rfl);have j3:=z.bY 39 45;simp only[RaV]at hj;have f1:=p 43 (by kernel_rfl);have i2:=z.bY 43 49;simp only[RaV]at f1;have z9:=p 47 (by kernel_rfl);have f8:=z.bY 47 53;simp only[RaV]at z9;have e0:=p 51 (by kernel_rfl);have i4:=z.bY 51 57;simp only[RaV]at e0;obtain⟨C,S,to,en,hz,o1,o2,o3,o4⟩:=e4;rw[hz]at g4;obtain⟨A1,c1,D⟩:=Bc o1;obtain⟨A2,c2,I⟩:=Bc o2;obtain⟨A3,c3,J⟩:=Bc o3;obtain⟨A4,c4,E⟩:=Bc o4;obtain⟨D,_⟩:=D;obtain⟨I,_⟩:=I;obtain⟨J,_⟩:=J;obtain⟨E,_⟩:=E;subst D I J E;obtain⟨A5,c5,v7⟩:∃A c,val 29=.slice A _ c:=by obtain⟨A,c,e,_⟩:=Bc cu;exact⟨A,c,e⟩
   rw[v7]at g0 cu;obtain⟨A6,c6,z6⟩:∃A c,val 34=.slice A _ c:=by obtain⟨A,c,e,_⟩:=Bc e1;exact⟨A,c,e⟩
   rw[z6]at f7 e1;obtain⟨A7,c7,e7⟩:∃A c,val 39=.slice A _ c:=by obtain⟨A,c,e,_⟩:=Bc hj;exact⟨A,c,e⟩
   rw[e7]at j3 hj;rw[f1]at i2;rw[z9]at f8;rw[e0]at i4;have HR:=Aq (d_.mk o1 o2 o3 o4 cu e1 hj);clear o1 o2 o3 o4 cu e1 hj;refine⟨_,rfl,rfl,?_⟩;unfold Bl;go_simp;refine⟨⟨_,_,_,_,_,_,_,rfl,HR.o⟩,k.o,qF _ _,fun j q=>?_⟩
   match j with
   |24=>exact⟨_,_,_,_,_,_,_,_,_,_,rfl,hz⟩
   |29=>exact⟨_,_,_,_,_,_,_,_,_,by rw[v7]⟩
   |34=>exact⟨_,_,_,_,_,_,_,_,_,by rw[z6]⟩
   |39=>exact⟨_,_,_,_,_,_,_,_,_,by rw[e7]⟩
   |0|1|2|3|4|5|6|7|8|9|10|11|12|13|14|15|16|17|18|19|20|21|22|23|25|26|27|28|30|31|32|33|35|36|37|38|40|41|42|43|44|45|46|47|48|49|50|51|52=>trivial
   |j+53=>trivial
  |i+53,hi=>exact absurd hi (by simp)
 ·intro val W U hV hD;have ap:∀i j,i<53→j<53→i≠j→nX i (val i) j (val j)∨nX j (val j) i (val i):=fun i j hi q hn=>hD i j hi q hn
  have fT:∀i j,i<53→j<53→i≠j→(nX i (val i) j (val j)↔au (val i) (val j))→(nX j (val j) i (val i)↔au (val j) (val i))→au (val i) (val j):=fun i j hi q hn h1 h2=>by
   rcases ap i j hi q hn with h|h
   ·exact h1.1 h
   ·exact qV (h2.1 h)
  have a1:=fT 5 11 (by decide) (by decide) (by decide) Iff.rfl Iff.rfl;have a2:=fT 17 23 (by decide) (by decide) (by decide) Iff.rfl Iff.rfl;have a3:=fT 17 29 (by decide) (by decide) (by decide) Iff.rfl Iff.rfl;have a4:=fT 17 34 (by decide) (by decide) (by decide) Iff.rfl Iff.rfl;have a5:=fT 17 39 (by decide) (by decide) (by decide) Iff.rfl Iff.rfl;have a6:=fT 23 29 (by decide) (by decide) (by decide) Iff.rfl Iff.rfl;have a7:=fT 23 34 (by decide) (by decide) (by decide) Iff.rfl Iff.rfl;have a8:=fT 23 39 (by decide) (by decide) (by decide) Iff.rfl Iff.rfl;have a9:=fT 29 34 (by decide) (by decide) (by decide) Iff.rfl Iff.rfl;have e5:=fT 29 39 (by decide) (by decide) (by decide) Iff.rfl Iff.rfl;have v3:=fT 34 39 (by decide) (by decide) (by decide) Iff.rfl Iff.rfl;have pt:∀i j,i<53→j<53→i≠j→(nX j (val j) i (val i)→False)→nX i (val i) j (val j):=fun i j hi q hn h1=>(ap i j hi q hn).resolve_right h1
  have G:=pt 24 5 (by decide) (by decide) (by decide) (fun h=>h);have N:=pt 24 11 (by decide) (by decide) (by decide) (fun h=>h);have hd:=pt 24 17 (by decide) (by decide) (by decide) (fun h=>h);have F:=pt 24 23 (by decide) (by decide) (by decide) (fun h=>h);have Z:=pt 52 24 (by decide) (by decide) (by decide) (fun h=>h);have B:=pt 52 29 (by decide) (by decide) (by decide) (fun h=>h);have R:=pt 52 34 (by decide) (by decide) (by decide) (fun h=>h);have HM:=pt 52 39 (by decide) (by decide) (by decide) (fun h=>h);have b8:∀C S to en cv st sk a b c,val 52=.agg #[C,S,to,en,cv,st,sk,a,b,c]→mS C S to en cv st sk:=fun C S to en cv st sk a b c h=>by
   obtain⟨_,_,_,G⟩:=G;obtain⟨_,_,_,N⟩:=N;obtain⟨_,_,_,hd⟩:=hd;obtain⟨_,_,_,F⟩:=F;obtain⟨_,_,_,_,_,_,_,_,_,_,Z,i7⟩:=Z;obtain⟨_,_,_,_,_,_,_,_,_,B⟩:=B;obtain⟨_,_,_,_,_,_,_,_,_,R⟩:=R;obtain⟨_,_,_,_,_,_,_,_,_,HM⟩:=HM;rw[h]at Z B R HM;rw[i7]at G N hd F;simp only[Value.agg.injEq,Array.mk.injEq,pH,and_true]at Z B R HM G N hd F;have h0:C=val 5:=Z.1.trans G.1;have h1:S=val 11:=Z.2.1.trans N.2.1;have h2:to=val 17:=Z.2.2.1.trans hd.2.2.1;have h3:en=val 23:=Z.2.2.2.1.trans F.2.2.2;have h4:cv=val 29:=B.2.2.2.2.1;have h5:st=val 34:=R.2.2.2.2.2.1;have h6:sk=val 39:=HM.2.2.2.2.2.2.1;rw[h0,h1,h2,h3,h4,h5,h6];exact⟨a1,a2,a3,a4,a5,a6,a7,a8,a9,e5,v3⟩
  have f0:=Aq b8;clear hD ap fT a1 a2 a3 a4 a5 a6 a7 a8 a9 e5 v3 pt G N hd F Z B R HM b8;have b4:=hV 52 (by simp);simp only[RaV]at b4;obtain⟨C,S,to,en,cv,st,sk,d,Y⟩:=b4;have HA:=Aq (f0.o _ _ _ _ _ _ _ _ _ _ d);clear f0;have hG:=U.aG HB.o (fun x=>x);have c9:=HW.o.trans (qO U z2);obtain⟨A1,c1,rfl,_⟩:=Bc Y.og;obtain⟨A2,c2,rfl,_⟩:=Bc Y.cu;obtain⟨A3,c3,rfl,_⟩:=Bc Y.to;obtain⟨A4,c4,rfl,_⟩:=Bc Y.en;obtain⟨A5,c5,rfl,_⟩:=Bc Y.cv;obtain⟨A6,c6,rfl,_⟩:=Bc Y.st;obtain⟨A7,c7,rfl,_⟩:=Bc Y.sk;have v1:=Hk hG Y Aw c9 (.slice A1 s.aT.length c1) (.slice A2 s.aF.length c2) (.slice A3 s.aB.length c3) (.slice A4 s.aJ.length c4) (.slice A5 s.aP.length c5) (.slice A6 32 c6) (.slice A7 s.stack.length c7) (Aj s.steps) (Aj s.aM) (Aj s.br);have Q:=Aq v1;have b0:=hG.cell;have b1:=hG.frozen;have b2:=hG.lt;clear hV v1 hG Y c9 U HW HX HB z2;unfold wpOp;change (if _ then _ else _);rw[if_pos (by kernel_rfl)];refine .inl ?_;simp only[Lp,Fw,Az,Ay,Ba,px];go_simp;unfold dj at Q
  generalize ((((((((((W.setCell ⟨w.heap.size,0,none⟩ (.slice A1 s.aT.length c1)).setCell ⟨w.heap.size,1,none⟩ (.slice A2 s.aF.length c2)).setCell ⟨w.heap.size,2,none⟩ (.slice A3 s.aB.length c3)).setCell ⟨w.heap.size,3,none⟩ (.slice A4 s.aJ.length c4)).setCell ⟨w.heap.size,4,none⟩ (.slice A5 s.aP.length c5)).setCell ⟨w.heap.size,5,none⟩ (.slice A6 32 c6)).setCell ⟨w.heap.size,6,none⟩ (.slice A7 s.stack.length c7)).setCell ⟨w.heap.size,7,none⟩ (Aj s.steps)).setCell ⟨w.heap.size,8,none⟩ (Aj s.aM)).setCell ⟨w.heap.size,9,none⟩ (Aj s.br))=W9 at Q ⊢;have e2:=Q.o.2.2.lt;have K:=Q.o.2.2.cell;simp only[oM,oV,oE]at K;have y0:=K 0;simp only[Az,Ay]at y0;have y1:=K 1;simp only[Az,Ay,Ba]at y1;have y2:=K 2;simp only[Az,Ay,Ba]at y2;have y3:=K 3;simp only[Az,Ay,Ba]at y3;have y4:=K 4;simp only[Az,Ay,Ba]at y4;have y5:=K 5;simp only[Az,Ay,Ba]at y5;have y6:=K 6;simp only[Az,Ay,Ba]at y6;have y7:=K 7;simp only[Az,Ay,Ba]at y7;have y8:=K 8;simp only[Az,Ay,Ba]at y8;have y9:=K 9;simp only[Az,Ay,Ba]at y9;have HR:=Aq Q.o.1;have g8:=Aq Q.o.2.1;clear Q b0 b1 b2 K d;go_wp2_with fail
  refine bodyPost_ret (v:=.agg #[.slice A1 s.aT.length c1,.slice A2 s.aF.length c2,.slice A3 s.aB.length c3,.slice A4 s.aJ.length c4,.slice A5 s.aP.length c5,.slice A6 32 c6,.slice A7 s.stack.length c7,Aj s.steps,Aj s.aM,Aj s.br]) (by simp[results,Tryz.results71,go_sem,y0,y1,y2,y3,y4,y5,y6,y7,y8,y9]) rfl ?_;exact⟨_,_,_,_,_,_,_,rfl,HR.o,g8.o,HA.o⟩
theorem Zan (w:World)(mb:Nat)(O:Nat→Prop)(L:bd)(s:St)(h:ag w mb O L s) :
  Calls Tryz.prog 71 #[.pointer (some ⟨mb,0,none⟩)] w (Um w s) :=
 (Vc w mb O L s h).mono fun _ _ ⟨x,u,to,en,cv,st,sk,e,z,y,_⟩=>⟨x,u,to,en,cv,st,sk,e,z,y⟩
theorem eF.setCo {L:bd}{s:St}(h:eF L s)(u:Value) (l:List (Nat×Nat)):eF { L with cs:=L.cs.setIfInBounds 6 u,co:=u } { s with bH:=l } := by
 have v:=h.sz;have z:=h.dQ;refine⟨by simp only[Dx];exact h.sz,h.dQ,fun j x y=>?_,?_,?_,?_,?_,?_,?_,?_,?_,?_,?_,?_,?_,?_,?_,?_,?_,?_,?_⟩
 ·have:j<s.store.length:=(aS.1 y).1;rw[Ax (by omega)];exact h.st j x y
 ·rw[Ax (by decide)];exact h.c0
 ·rw[Ax (by decide)];exact h.c1
 ·rw[Ax (by decide)];exact h.c2
 ·rw[Ax (by decide)];exact h.c3
 ·rw[Ax (by decide)];exact h.c4
 ·rw[Ax (by decide)];exact h.c5
 ·rw[Eb (by omega)]
 ·rw[Ax (by decide)];exact h.c7
 ·rw[Ax (by decide)];exact h.dX
 ·rw[Ax (by decide)];exact h.iL
 ·rw[Ax (by decide)];exact h.dH
 ·rw[Ax (by decide)];exact h.dL
 ·rw[Ax (by decide)];exact h.gY
 ·rw[Ax (by decide)];exact h.gS
 ·rw[Ax (by decide)];exact h.gB
 ·rw[Ax (by decide)];exact h.ew
 ·rw[Ax (by decide)];exact h.iH
 ·rw[Ax (by decide)];exact h.gx
theorem eF.lO {L:bd}{s:St}(h:eF L s)(y z k u:Value) (q r:List (Int×Int)) (a p:List Int):eF { L with cs:=(((L.cs.setIfInBounds 2 y).setIfInBounds 3 z).setIfInBounds 4 k).setIfInBounds 5 u,og:=y,cu:=z,to:=k,en:=u } { s with aT:=q,aF:=r,aB:=a,aJ:=p } := by
 have c:=h.sz;have b:=h.dQ;refine⟨by simp only[Dx];exact h.sz,h.dQ,fun j x v=>?_,?_,?_,?_,?_,?_,?_,?_,?_,?_,?_,?_,?_,?_,?_,?_,?_,?_,?_⟩
 ·have:j<s.store.length:=(aS.1 v).1;simp only;rw[Ax (by omega),Ax (by omega),Ax (by omega),Ax (by omega)];exact h.st j x v
 ·rw[Ax (by decide)];rw[Ax (by decide)];rw[Ax (by decide)];rw[Ax (by decide)];exact h.c0
 ·rw[Ax (by decide)];rw[Ax (by decide)];rw[Ax (by decide)];rw[Ax (by decide)];exact h.c1
 ·rw[Ax (by decide)];rw[Ax (by decide)];rw[Ax (by decide)];rw[Eb (by(try simp only[Dx]);omega)]
 ·rw[Ax (by decide)];rw[Ax (by decide)];rw[Eb (by(try simp only[Dx]);omega)]
 ·rw[Ax (by decide)];rw[Eb (by(try simp only[Dx]);omega)]
 ·rw[Eb (by(try simp only[Dx]);omega)]
 ·rw[Ax (by decide)];rw[Ax (by decide)];rw[Ax (by decide)];rw[Ax (by decide)];exact h.c6
 ·rw[Ax (by decide)];rw[Ax (by decide)];rw[Ax (by decide)];rw[Ax (by decide)];exact h.c7
 ·rw[Ax (by decide)];rw[Ax (by decide)];rw[Ax (by decide)];rw[Ax (by decide)];exact h.dX
 ·rw[Ax (by decide)];rw[Ax (by decide)];rw[Ax (by decide)];rw[Ax (by decide)];exact h.iL
 ·rw[Ax (by decide)];rw[Ax (by decide)];rw[Ax (by decide)];rw[Ax (by decide)];exact h.dH
 ·rw[Ax (by decide)];rw[Ax (by decide)];rw[Ax (by decide)];rw[Ax (by decide)];exact h.dL
 ·rw[Ax (by decide)];rw[Ax (by decide)];rw[Ax (by decide)];rw[Ax (by decide)];exact h.gY
 ·rw[Ax (by decide)];rw[Ax (by decide)];rw[Ax (by decide)];rw[Ax (by decide)];exact h.gS
 ·rw[Ax (by decide)];rw[Ax (by decide)];rw[Ax (by decide)];rw[Ax (by decide)];exact h.gB
 ·rw[Ax (by decide)];rw[Ax (by decide)];rw[Ax (by decide)];rw[Ax (by decide)];exact h.ew
 ·rw[Ax (by decide)];rw[Ax (by decide)];rw[Ax (by decide)];rw[Ax (by decide)];exact h.iH
 ·rw[Ax (by decide)];rw[Ax (by decide)];rw[Ax (by decide)];rw[Ax (by decide)];exact h.gx
section
variable {w w' : World} {mb : Nat} {O O' : Nat → Prop} {L : bd} {s : St}
theorem ag.nZ (h:ag w mb O L s) {l:List (Int×Int)} (b:l.length=s.aT.length) (d:Row w' O' 76 2 L.og s.aT.length (bu l)) (r:w'.heap[mb]?=w.heap[mb]?) (z:∀k,O k→k≠mb→some k≠L.og.ownBlock→w'.heap[k]?=w.heap[k]?) (y:∀k,O k→O' k) (a:∀k,O' k→k<w'.heap.size) (q:Ok { s with aT:=l }):ag w' mb O' L { s with aT:=l } := by
 exact⟨y _ h.eu,a,r.trans h.aG,⟨h.c.sz,h.c.dQ,h.c.st,h.c.c0,h.c.c1,h.c.c2,h.c.c3,h.c.c4,h.c.c5,h.c.c6,h.c.c7,h.c.dX,h.c.iL,h.c.dH,h.c.dL,h.c.gY,h.c.gS,h.c.gB,h.c.ew,h.c.iH,h.c.gx⟩,h.fu.k h.aG (by decide) z (fun g x=>h.fu.apart h.og (by decide) g x) y,h.fr.k h.aG (by decide) z (fun g x=>h.fr.apart h.og (by decide) g x) y,by rw[b];exact d,h.cu.k h.aG (by decide) z (fun g x=>h.bS g x) y,h.to.k h.aG (by decide) z (fun g x=>h.to.apart h.og (by decide) g x) y,h.en.k h.aG (by decide) z (fun g x=>h.en.apart h.og (by decide) g x) y,h.co.k h.aG (by decide) z (fun g x=>h.co.apart h.og (by decide) g x) y,h.cv.k h.aG (by decide) z (fun g x=>h.cv.apart h.og (by decide) g x) y,h.sk.k h.aG (by decide) z (fun g x=>h.sk.apart h.og (by decide) g x) y,h.jV.k h.aG z (fun g cs p e=>by obtain⟨_,_,v,u⟩:=h.og.block e;exact p.dF u (by decide) rfl) y,h.kB.k h.aG z (fun g cs p e=>by obtain⟨_,_,v,u⟩:=h.og.block e;exact p.dF u (by decide) rfl) y,h.bS,h.cz,h.cV,h.cT,h.bV,h.dA,h.cK,h.dd.k h.aG z (t0:=76) (by decide) (by decide) (fun g e=>by obtain⟨_,_,v,u⟩:=h.og.block e;exact⟨v,u⟩) y,q⟩
theorem ag.jv (h:ag w mb O L s){u:Value}{cs':Array Value} {l:List (Nat×Nat)} (c:aH w' mb 212 cs') (d:eF { L with cs:=cs',co:=u } { s with bH:=l }) (b:Row w' O' 252 2 u l.length (it l)) (_hnew:∀g,u.ownBlock=some g→L.co.ownBlock=some g∨w.heap.size≤g) (z:∀k,O k→k≠mb→some k≠L.co.ownBlock→w'.heap[k]?=w.heap[k]?) (y:∀k,O k→O' k) (r:∀k,O' k→k<w'.heap.size) (a:Ok { s with bH:=l }):ag w' mb O' { L with cs:=cs',co:=u } { s with bH:=l } := by
 exact⟨y _ h.eu,r,c,d,h.fu.k h.aG (by decide) z (fun g x=>h.fu.apart h.co (by decide) g x) y,h.fr.k h.aG (by decide) z (fun g x=>h.fr.apart h.co (by decide) g x) y,h.og.k h.aG (by decide) z (fun g x=>h.og.apart h.co (by decide) g x) y,h.cu.k h.aG (by decide) z (fun g x=>h.cu.apart h.co (by decide) g x) y,h.to.k h.aG (by decide) z (fun g x=>h.to.apart h.co (by decide) g x) y,h.en.k h.aG (by decide) z (fun g x=>h.en.apart h.co (by decide) g x) y,b,h.cv.k h.aG (by decide) z (fun g x=>h.cv.apart h.co (by decide) g x) y,h.sk.k h.aG (by decide) z (fun g x=>h.sk.apart h.co (by decide) g x) y,h.jV.k h.aG z (fun g cs q e=>by obtain⟨_,_,p,v⟩:=h.co.block e;exact q.dF v (by decide) rfl) y,h.kB.k h.aG z (fun g cs q e=>by obtain⟨_,_,p,v⟩:=h.co.block e;exact q.dF v (by decide) rfl) y,h.bS,h.cz,h.cV,h.cT,h.bV,h.dA,h.cK,h.dd.k h.aG z (t0:=252) (by decide) (by decide) (fun g e=>by obtain⟨_,_,p,v⟩:=h.co.block e;exact⟨p,v⟩) y,a⟩
theorem ag.jO (h:ag w mb O L s){vs:List Value} {fs:List (List (Int×Int))} (p:cL w' O' vs fs) (d:Row w' O' 24 1 L.fu fs.length vs) (a:w'.heap[mb]?=w.heap[mb]?) (z:∀k,O k→k≠mb→some k≠L.fu.ownBlock→w'.heap[k]?=w.heap[k]?) (y:∀k,O k→O' k) (q:∀k,O' k→k<w'.heap.size) (b:Ok { s with funcs:=fs }):ag w' mb O' { L with mO:=vs } { s with funcs:=fs } := by
 exact⟨y _ h.eu,q,a.trans h.aG,⟨h.c.sz,h.c.dQ,h.c.st,h.c.c0,h.c.c1,h.c.c2,h.c.c3,h.c.c4,h.c.c5,h.c.c6,h.c.c7,h.c.dX,h.c.iL,h.c.dH,h.c.dL,h.c.gY,h.c.gS,h.c.gB,h.c.ew,h.c.iH,h.c.gx⟩,d,h.fr.k h.aG (by decide) z (fun g x=>h.fr.apart h.fu (by decide) g x) y,h.og.k h.aG (by decide) z (fun g x=>h.og.apart h.fu (by decide) g x) y,h.cu.k h.aG (by decide) z (fun g x=>h.cu.apart h.fu (by decide) g x) y,h.to.k h.aG (by decide) z (fun g x=>h.to.apart h.fu (by decide) g x) y,h.en.k h.aG (by decide) z (fun g x=>h.en.apart h.fu (by decide) g x) y,h.co.k h.aG (by decide) z (fun g x=>h.co.apart h.fu (by decide) g x) y,h.cv.k h.aG (by decide) z (fun g x=>h.cv.apart h.fu (by decide) g x) y,h.sk.k h.aG (by decide) z (fun g x=>h.sk.apart h.fu (by decide) g x) y,p,h.kB.k h.aG z (fun g cs r e=>by obtain⟨_,_,v,u⟩:=h.fu.block e;exact r.dF u (by decide) rfl) y,h.bS,h.cz,h.cV,h.cT,h.bV,h.dA,h.cK,h.dd.k h.aG z (t0:=24) (by decide) (by decide) (fun g e=>by obtain⟨_,_,v,u⟩:=h.fu.block e;exact⟨v,u⟩) y,b⟩
theorem ag.kU (h:ag w mb O L s){cs':Array Value}{r v q p:Value} {c d:List (Int×Int)} {a b:List Int} (U:aH w' mb 212 cs') (V:eF { L with cs:=cs',og:=r,cu:=v,to:=q,en:=p } { s with aT:=c,aF:=d,aB:=a,aJ:=b }) (Z:Row w' O' 76 2 r c.length (bu c)) (_nog:∀g,r.ownBlock=some g→w.heap.size≤g) (H:Row w' O' 76 2 v d.length (bu d)) (_ncu:∀g,v.ownBlock=some g→w.heap.size≤g) (n:Row w' O' 3 1 q a.length (ae a)) (j:∀g,q.ownBlock=some g→w.heap.size≤g) (o:Row w' O' 3 1 p b.length (ae b)) (i:∀g,p.ownBlock=some g→w.heap.size≤g) (X:au v r) (Y:au q p) (y:∀k,O k→k≠mb→some k≠none→w'.heap[k]?=w.heap[k]?) (x:∀k,O k→O' k) (l:∀k,O' k→k<w'.heap.size) (K:Ok { s with aT:=c,aF:=d,aB:=a,aJ:=b }):ag w' mb O' { L with cs:=cs',og:=r,cu:=v,to:=q,en:=p } { s with aT:=c,aF:=d,aB:=a,aJ:=b } := by
 exact⟨x _ h.eu,l,U,V,h.fu.k h.aG (by decide) y (fun g f e=>by cases e) x,h.fr.k h.aG (by decide) y (fun g f e=>by cases e) x,Z,H,n,o,h.co.k h.aG (by decide) y (fun g f e=>by cases e) x,h.cv.k h.aG (by decide) y (fun g f e=>by cases e) x,h.sk.k h.aG (by decide) y (fun g f e=>by cases e) x,h.jV.k h.aG y (fun g cs m e=>by cases e) x,h.kB.k h.aG y (fun g cs m e=>by cases e) x,X,Y,(fun g u z=>by have:=j g u;have:=(h.cv.block z).2.1;omega),(fun g u z=>by have:=j g u;have:=(h.sk.block z).2.1;omega),(fun g u z=>by have:=i g u;have:=(h.cv.block z).2.1;omega),(fun g u z=>by have:=i g u;have:=(h.sk.block z).2.1;omega),h.cK,h.dd.k h.aG y (t0:=3) (by decide) (by decide) (fun g e=>by cases e) x,K⟩
theorem Mc.Ok.nZ (h:Ok s) {l:List (Int×Int)} (y:∀p∈l,bI p.1∧bI p.2) (x:l.length=s.aT.length):Ok { s with aT:=l } :=
 ⟨h.stack,h.df,h.aP,h.store,h.dQ,h.aF,y,by rw[←h.dK];exact x,h.aB,h.tl,h.size,h.look,h.move,h.bG,h.aM,h.aD,h.fX,h.funcs,h.kJ,h.bH,h.eg,h.c_,h.gy,h.fW⟩
theorem Mc.Ok.jv (h:Ok s) {l:List (Nat×Nat)} (y:∀c∈l,c.1≤c.2∧c.2<s.aF.length) (x:l.length≤1000000):Ok { s with bH:=l } :=
 ⟨h.stack,h.df,h.aP,h.store,h.dQ,h.aF,h.aT,h.dK,h.aB,h.tl,h.size,h.look,h.move,h.bG,h.aM,h.aD,h.fX,h.funcs,h.kJ,y,x,h.c_,h.gy,h.fW⟩
theorem Mc.Ok.jO (h:Ok s) {l:List (List (Int×Int))} (y:∀c∈l,c.length≤1000000) (x:l.length≤1000000):Ok { s with funcs:=l } :=
 ⟨h.stack,h.df,h.aP,h.store,h.dQ,h.aF,h.aT,h.dK,h.aB,h.tl,h.size,h.look,h.move,h.bG,h.aM,h.aD,h.fX,y,x,h.bH,h.eg,h.c_,h.gy,h.fW⟩
theorem Mc.Ok.kU (h:Ok s) (f:s.bH=[]) {y x:List (Int×Int)} {z v:List Int} (a:∀p∈y,bI p.1∧bI p.2) (r:∀p∈x,bI p.1∧bI p.2) (e:∀t∈z,0≤t∧t≤3) (k:y.length=x.length) (q:z.length=x.length) (b:x.length≤1000000) (d:v.length≤1000000):Ok { s with aT:=y,aF:=x,aB:=z,aJ:=v } :=
 ⟨h.stack,h.df,h.aP,h.store,h.dQ,r,a,k,e,q,h.size,h.look,h.move,h.bG,h.aM,h.aD,h.fX,h.funcs,h.kJ,(fun c u=>by simp only[f]at u;cases u),h.eg,b,h.gy,d⟩
theorem ag.layCu (h:ag w mb O L s){g m c:Nat} (v:L.cu=.slice (some ⟨g,0,none⟩) m c) {i:Nat} (hi:i<s.aF.length) {a b:Int} (q:bI a) (u:bI b):ag ((w.setCell ⟨g,i*2,none⟩ (Aj a)).setCell ⟨g,i*2+1,none⟩ (Aj b)) mb O L { s with aF:=s.aF.set i (a,b) } := by
 have bU:L.cu.ownBlock=some g:=by rw[v];rfl
 have z:g≠mb:=h.cu.cD h.aG (by decide) bU;refine h.kw (by simp) ?_ ((Bq _ _ _ _ z.symm).trans (Bq _ _ _ _ z.symm)) (fun k _ _ x=>(Bq _ _ _ _ (fun e=>x (by rw[bU,e]))).trans (Bq _ _ _ _ (fun e=>x (by rw[bU,e])))) (fun _ h=>h) (fun k x=>by have:=h.eO k x;simpa [World.setCell]using this) (h.ok.kw (fun p y=>?_) (by simp))
 ·rw[Ph hi];exact(h.cu.aX bU (by rw[Ij];omega) _).aX bU (by rw[Dh,Ij];omega) _
 ·rcases oI y with y|rfl
  ·exact h.ok.aF p y
  ·exact⟨q,u⟩
theorem ag.mE (h:ag w mb O L s){g m c:Nat} (v:L.og=.slice (some ⟨g,0,none⟩) m c) {i:Nat} (hi:i<s.aT.length) {a b:Int} (q:bI a) (u:bI b):ag ((w.setCell ⟨g,i*2,none⟩ (Aj a)).setCell ⟨g,i*2+1,none⟩ (Aj b)) mb O L { s with aT:=s.aT.set i (a,b) } := by
 have bU:L.og.ownBlock=some g:=by rw[v];rfl
 have z:g≠mb:=h.og.cD h.aG (by decide) bU;refine h.nZ (by simp) ?_ ((Bq _ _ _ _ z.symm).trans (Bq _ _ _ _ z.symm)) (fun k _ _ x=>(Bq _ _ _ _ (fun e=>x (by rw[bU,e]))).trans (Bq _ _ _ _ (fun e=>x (by rw[bU,e])))) (fun _ h=>h) (fun k x=>by have:=h.eO k x;simpa [World.setCell]using this) (h.ok.nZ (fun p y=>?_) (by simp))
 ·rw[Ph hi];exact(h.og.aX bU (by rw[Ij];omega) _).aX bU (by rw[Dh,Ij];omega) _
 ·rcases oI y with y|rfl
  ·exact h.ok.aT p y
  ·exact⟨q,u⟩
theorem ag.mw {w1:World}(h:ag w mb O L s){u:Value}{c:Nat×Nat}(j:c.1≤c.2∧c.2<s.aF.length)(m:s.bH.length<1000000)
  (q:Row w1 (ext O w w1) 252 2 u (s.bH.length+1) (it s.bH++[Aj c.1,Aj c.2])) (x:w.grownBy w1 L.co.ownBlock) (b:∀g,u.ownBlock=some g→L.co.ownBlock=some g∨w.heap.size≤g) :
  (∃cs,aH w1 mb 212 cs∧cs.size=50)∧(∃L',ag (w1.setCell ⟨mb,6,none⟩ u) mb (ext O w w1) L' { s with bH:=s.bH++[c] })∧Fr O w (w1.setCell ⟨mb,6,none⟩ u):=by
 have p:aH w1 mb 212 L.cs:=h.aG.grown x fun e=>h.co.cD h.aG (by decide) e.symm rfl
 have d:=x.size;refine⟨⟨_,p,h.c.sz⟩,⟨_,h.jv (u:=u) (l:=s.bH++[c]) (p.aX 6 u) (h.c.setCo _ _) ?_ b ?_ (fun _ h=>.inl h) ?_ (h.ok.jv ?_ ?_)⟩,?_⟩
 ·have:=q.aQ (w':=w1.setCell ⟨mb,6,none⟩ u) (O':=ext O w w1) (fun g i=>Bq _ _ _ _ (fun (e:g=mb)=>q.cD p (by decide) i e)) (fun _ h=>h)
  simpa [it]using this
 ·intro k v a r;rw[Bq _ _ _ _ a];exact x.block k (h.eO k v) r
 ·intro k v;have:=h.iB d k v
  simpa [World.setCell]using this
 ·intro y z;rcases List.mem_append.1 z with z|z
  ·exact h.ok.bH y z
  ·simp only[py]at z;subst z;exact j
 ·simp only[Ca,om];omega
 ·exact qU (⟨x.os,x.tape,x.output,x.size,fun k v f=>x.block k v (fun e=>f (h.co.2 k e.symm))⟩) (.inl h.eu) _
theorem cL.aX {w:World}{O:Nat→Prop}:∀{vs:List Value} {cs:List (List (Int×Int))} (i:Nat) {v:Value} {c:List (Int×Int)},cL w O vs cs→Row w O 96 2 v c.length (bu c)→cL w O (vs.set i v) (cs.set i c)
 | [],[],_,_,_,h,_=>h
 |_::_,_::_,0,_,_,h,hr=>⟨hr,h.2⟩
 |_::_,_::_,i+1,_,_,h,hr=>⟨h.1,cL.aX i h.2 hr⟩
 | [],_::_,_,_,_,h,_=>h.elim
 |_::_,[],_,_,_,h,_=>h.elim
theorem ag.setFu (h:ag w mb O L s){g m c:Nat} (d:L.fu=.slice (some ⟨g,0,none⟩) m c) {i:Nat} (hi:i<s.funcs.length) {v:Value} {aA:List (Int×Int)} (r:Row w O' 96 2 v aA.length (bu aA)) (f:aA.length≤1000000) (z:∀k,O k→O' k) (a:∀k,O' k→k<w.heap.size) :
  ag (w.setCell ⟨g,i,none⟩ v) mb O' { L with mO:=L.mO.set i v } { s with funcs:=s.funcs.set i aA } := by
 have bU:L.fu.ownBlock=some g:=by rw[d];rfl
 have b:g≠mb:=h.fu.cD h.aG (by decide) bU;obtain⟨_,_,l,q⟩:=h.fu.block bU;refine h.jO (w':=w.setCell ⟨g,i,none⟩ v) (vs:=L.mO.set i v) (fs:=s.funcs.set i aA) ?_ ?_ (Bq _ _ _ _ b.symm) (fun k _ _ x=>Bq _ _ _ _ (fun e=>x (by rw[bU,e]))) z (fun k x=>by have:=a k x;simpa [World.setCell]using this) (h.ok.jO (fun p u=>?_) (by simpa using h.ok.kJ))
 ·refine cL.aX i (h.jV.aQ (fun k cs _ y=>Bq _ _ _ _ (y.dF q (by decide))) z) (r.aQ (fun k x=>?_) (fun _ h=>h));obtain⟨_,_,cs,y⟩:=r.block x;exact Bq _ _ _ _ (y.dF q (by decide))
 ·rw[Dh];have:=(h.fu.aX bU (j:=i) (by rw[←h.jV.len]at hi;exact hi) v).aQ (w':=w.setCell ⟨g,i,none⟩ v) (O':=O') (fun _ _=>rfl) z;exact this
 ·rcases oI u with u|rfl
  ·exact h.ok.funcs p u
  ·exact f
end
end
end Go.Proofs.YtnhebmgibiomnaaGreat

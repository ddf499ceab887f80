import Derived.Test.YtnhebmgibiomnaaGreatPi8
set_option linter.unusedVariables false
set_option linter.unusedSimpArgs false
set_option maxRecDepth 100000
set_option maxHeartbeats 8000000
namespace Go.Proofs.YtnhebmgibiomnaaGreat
section
open Go.RowKit Mc
theorem Zku (v:Value)(vs:List Value)(f:Fm)(fs:List Fm)(x:vs.length=fs.length):(gd (v::vs) (f::fs))[fs.length*3]?=some v∧(gd (v::vs) (f::fs))[fs.length*3+1]?=some (Aj f.next)∧(gd (v::vs) (f::fs))[fs.length*3+2]?=some (Aj f.aY):=by
 have:=Ks vs fs x;simp only[gd];refine⟨?_,?_,?_⟩ <;> rw[Dv (by omega),this] <;> simp
theorem Px (v:Value)(vs:List Value)(f:Fm)(fs:List Fm)(x:vs.length=fs.length)(n:Nat):(gd (v::vs) (f::fs)).set (fs.length*3+1) (Aj n)=gd (v::vs) ({ f with next:=n } :: fs):=by
 have:=Ks vs fs x;simp only[gd];rw[oS _ _ (by omega),this];simp
theorem Zgn (v:Value)(vs:List Value)(f:Fm)(fs:List Fm)(x:vs.length=fs.length)(n:Nat):(gd (v::vs) (f::fs)).set (fs.length*3+2) (Aj n)=gd (v::vs) ({ f with aY:=n } :: fs):=by
 have:=Ks vs fs x;simp only[gd];rw[oS _ _ (by omega),this];simp
theorem Zgm (v:Value)(vs:List Value)(f:Fm)(fs:List Fm)(x:vs.length=fs.length):(gd (v::vs) (f::fs)).take (fs.length*3)=gd vs fs:=by
 simp only[gd];exact List.take_left' (Ks vs fs x)
structure nO (w:World) (mb:Nat) (O:Nat→Prop) (L:bd) (s:St) (f:Fm) (r:List Fm) (g c:Nat) (v:Value) (vs:List Value):Prop where
 fr:L.fr=.slice (some ⟨g,0,none⟩) (r.length+1) c
 ix:L.ix=v::vs
 mj:vs.length=r.length
 cY:r.length+1≤c
 capm:c≤maxLen
 gO:O g
 glt:g<w.heap.size
 gmb:g≠mb
 c0:w.cell? ⟨g,r.length*3,none⟩=some v
 c1:w.cell? ⟨g,r.length*3+1,none⟩=some (Aj f.next)
 c2:w.cell? ⟨g,r.length*3+2,none⟩=some (Aj f.aY)
 fz:∀j,w.frozen? ⟨g,j,none⟩=false
 aA:Row w O 96 2 v f.aA.length (bu f.aA)
 mN:cL w O vs (r.map (·.aA))
section
variable {w w' : World} {mb : Nat} {O : Nat → Prop} {L : bd} {s : St} {f : Fm} {r : List Fm}
theorem ag.bm (h:ag w mb O L s)(b:s.aD=f::r):∃g c v vs,nO w mb O L s f r g c v vs:=by
 have z:=h.fr;have x:=h.kB;rw[b]at z x;obtain⟨g,c,p,i,d,q,e,y,a⟩:=z.aL (by simp);rcases u:L.ix with _|⟨v,vs⟩
 ·rw[u]at x;exact x.elim
 rw[u]at x y;have k:vs.length=r.length:=by simpa using x.2.len
 obtain⟨k0,k1,k2⟩:=Zku v vs f r k;exact⟨g,c,v,vs,by simpa using p,u,k,by simpa using i,d,q,e,z.cD h.aG (by decide) (by rw[p];rfl),y _ _ k0,y _ _ k1,y _ _ k2,a,x.1,x.2⟩
theorem nO.aQ {g c:Nat}{v:Value}{vs:List Value}(x:nO w mb O L s f r g c v vs) (y:∀k,O k→w'.heap[k]?=w.heap[k]?) (p:w.heap.size≤w'.heap.size):nO w' mb O L s f r g c v vs :=
 ⟨x.fr,x.ix,x.mj,x.cY,x.capm,x.gO,Dq x.glt p,x.gmb,(pW (w:=w) (y g x.gO)).trans x.c0,(pW (w:=w) (y g x.gO)).trans x.c1,(pW (w:=w) (y g x.gO)).trans x.c2,fun j=>(World.frozen?_of_block (w:=w) (y g x.gO)).trans (x.fz j),x.aA.aQ (fun k z=>y k (x.aA.2 k z)) (fun _ h=>h),x.mN.aQ (fun k _ u _=>y k u) (fun _ h=>h)⟩
theorem Mc.Ok.dv (h:Ok s){fs:List Fm}(y:∀f∈fs,f.next≤f.aA.length∧f.aY≤15∧f.aA.length≤1000000)(x:fs.length≤21):Ok { s with aD:=fs } :=
 ⟨h.stack,h.df,h.aP,h.store,h.dQ,h.aF,h.aT,h.dK,h.aB,h.tl,h.size,h.look,h.move,h.bG,h.aM,y,x,h.funcs,h.kJ,h.bH,h.eg,h.c_,h.gy,h.fW⟩
theorem eF.dv (h:eF L s)(fs:List Fm):eF L { s with aD:=fs } := ⟨h.sz,h.dQ,h.st,h.c0,h.c1,h.c2,h.c3,h.c4,h.c5,h.c6,h.c7,h.dX,h.iL,h.dH,h.dL,h.gY,h.gS,h.gB,h.ew,h.iH,h.gx⟩
theorem ag.jk (h:ag w mb O L s)(p:s.aD=f::r){g c:Nat}{v:Value}{vs:List Value}(y:nO w mb O L s f r g c v vs){f':Fm}{j:Nat}{n:Nat} (Y:j<(r.length+1)*3) (d:f'.aA=f.aA)
  (X:(gd (v::vs) (f::r)).set j (Aj n)=gd (v::vs) (f'::r)) (b:f'.next≤f'.aA.length∧f'.aY≤15) :
  ag (w.setCell ⟨g,j,none⟩ (Aj n)) mb O L { s with aD:=f'::r } := by
 have bU:L.fr.ownBlock=some g:=by rw[y.fr];rfl
 have a:=h.fr;rw[p,y.ix]at a;have Z:=Ks (v::vs) (f::r) (by simp[y.mj]);have i:=a.aX bU (j:=j) (by rw[Z];simpa using Y) (Aj n);rw[X]at i;have z:∀k,k≠g→(w.setCell ⟨g,j,none⟩ (Aj n)).heap[k]?=w.heap[k]?:=fun k z=>Bq _ _ _ _ z
 have l:cL (w.setCell ⟨g,j,none⟩ (Aj n)) O (v::vs) ((f'::r).map (·.aA)):=by
  have:=h.kB;rw[p,y.ix]at this;simp only[oD,d]at this ⊢;refine this.aQ (fun k cs Q m=>z k (fun e=>?_)) (fun _ h=>h);obtain⟨_,_,V,K⟩:=h.fr.block bU;subst e;exact m.dF K (by decide) rfl
 have U:=h.ok.aD f (by rw[p];simp);have:=h.dv (u:=L.fr) (cs':=L.cs) (vs:=v::vs) (fs:=f'::r) l ((z mb y.gmb.symm).trans h.aG) (by rw[←y.ix];exact h.c.dv (f'::r)) (by simpa using i) (fun P o=>.inl o) (fun k _ _ H=>z k (fun e=>H (by rw[bU,e]))) (fun _ h=>h) (fun k z=>by have:=h.eO k z;simpa [World.setCell]using this)
  (h.ok.dv (fun x q=>by
   rcases List.mem_cons.1 q with rfl|q
   ·exact⟨b.1,b.2,by rw[d];exact U.2.2⟩
   ·exact h.ok.aD x (by rw[p];exact oT _ q)) (by have:=h.ok.fX;rw[p]at this;simpa using this))
 rw[←y.ix]at this;exact this
end
theorem Zfp {s:St}{f:Fm}{r:List Fm}(x:s.aD=f::r)(n:Nat):cC s n = { s with aD := { f with next:=f.next+n } :: r } := by
 unfold cC;rw[x];simp
theorem Vj (w:World)(mb:Nat)(O:Nat→Prop)(L:bd)(s:St)(h:ag w mb O L s)(f:Fm)(r:List Fm)(y:s.aD=f::r)(n:Nat)(H:f.next+n≤f.aA.length) :
  Calls Tryz.prog 216 #[.pointer (some ⟨mb,0,none⟩),Aj n] w (aw w mb O (cC s n)):=by
 obtain⟨g,c,v,vs,x⟩:=h.bm y;have z:=h.ok.aD f (by rw[y];simp);have b:=h.drew.jk y (f' := { f with next:=f.next+n }) (n:=f.next+n) (j:=r.length*3+1) (x.aQ (fun _ _=>rfl) Aw) (by omega) rfl (Px v vs f r x.mj _) ⟨H,z.2.1⟩;have i:Hid (aw w mb O (cC s n) (.returned (.tuple #[])) (w.drew.setCell ⟨g,r.length*3+1,none⟩ (Aj (f.next+n:Nat)))):=Aq (by rw[Zfp y];exact .dE b ((qF O w).drew.setCell (.inl x.gO) _));have q:=h.aG.cell 1;rw[h.c.c1,x.fr]at q;have Y:=x.c1;have R:=x.fz (r.length*3+1);have A:=x.glt;have Z:=x.cY;have U:=x.gmb;have Q:=h.aG.lt;have e:=h.ok.fX;rw[y,Bp]at e;have B:=z.1;have S:=z.2.2;clear h b x y z;generalize X:r.length=m at *;generalize l:f.next=u at *;clear X l;obtain⟨k,P,V,a⟩:∃k,m<k∧k≤m+1∧m+1=k:=⟨m+1,by omega,by omega,rfl⟩;rw[a]at q Z e;clear a;have p:w.drew.cell? ⟨mb,1,none⟩=some (.slice (some ⟨g,0,none⟩) k c)∧w.drew.cell? ⟨g,m*3+1,none⟩=some (Aj u):=⟨q,Y⟩;go_enter Tryz.func216,Tryz.ntmps216;go_wp2_with fail
 refine Cv [17] [3,7,12] [] 18 (fun w':World=>w'.cell? ⟨mb,1,none⟩=some (.slice (some ⟨g,0,none⟩) k c)∧w'.cell? ⟨g,m*3+1,none⟩=some (Aj u)) ?_
 iterate 3 (refine Be ?_)
 refine Bj p ?_
 iterate 3 (refine Be ?_)
 refine Bj p ?_;refine Be ?_;refine Hi (v:=Aj (m:Int)) rfl rfl rfl (by kernel_rfl) (fun _ _ _ h=>h) (fun wq=>by(go_simp;rw[Do _ (by omega)];omega)) ?_;refine Be ?_;refine Be ?_;refine Bj p ?_;refine Be ?_;refine Hi (v:=Aj ((u+n:Nat):Int)) rfl rfl rfl (by kernel_rfl) (fun _ _ _ h=>h) (fun wq=>by(go_simp;rw[Do _ (by omega)])) ?_;refine Be ?_;refine Be ?_;refine Bi fun K d=>?_;go_simp
 refine Bh d ?_;clear d K;refine Bb ?_;go_wp2;go_end0;exact i.o
end
section
open Go.RowKit Mc
theorem Yd:(Tryz.prog.info? 205).map (fun i=>(i.zero,i.size,i.bytes))=some (some (.agg #[.slice none 0 0,Aj 0,Aj 0]),3,40):=by kernel_rfl
section
variable {w w1 : World} {mb : Nat} {O : Nat → Prop} {L : bd} {s : St}
theorem ag.nU (h:ag w mb O L s){u v:Value} {aA:List (Int×Int)} {aY:Nat} (d:Row w O 96 2 v aA.length (bu aA)) (X:aA.length≤1000000) (K:aY≤15) (Z:s.aD.length<21)
  (f:Row w1 (ext O w w1) 205 3 u (s.aD.length+1) (gd L.ix s.aD++[v,Aj 0,Aj aY])) (x:w.grownBy w1 L.fr.ownBlock) (l:∀g,u.ownBlock=some g→L.fr.ownBlock=some g∨w.heap.size≤g) :
  (∃cs,aH w1 mb 212 cs∧cs.size=50)∧(∃L',ag (w1.setCell ⟨mb,1,none⟩ u) mb (ext O w w1) L' { s with aD:=⟨aA,0,aY⟩::s.aD })∧Fr O w (w1.setCell ⟨mb,1,none⟩ u):=by
 have r:aH w1 mb 212 L.cs:=h.aG.grown x fun e=>h.fr.cD h.aG (by decide) e.symm rfl
 have m:=x.size;have z:∀k,O k→k≠mb→some k≠L.fr.ownBlock→(w1.setCell ⟨mb,1,none⟩ u).heap[k]?=w.heap[k]?:=by
  intro k z q p;rw[Bq _ _ _ _ q];exact x.block k (h.eO k z) p
 have i:∀k cs,O k→aH w k 96 cs→(w1.setCell ⟨mb,1,none⟩ u).heap[k]?=w.heap[k]?:=fun k cs j b=>z k j (b.dF h.aG (by decide)) (fun e=>by obtain⟨_,_,Y,o⟩:=h.fr.block e.symm;exact b.dF o (by decide) rfl)
 refine⟨⟨_,r,h.c.sz⟩,⟨_,h.dv (u:=u) (vs:=v::L.ix) (fs:=⟨aA,0,aY⟩::s.aD) ?_ (r.aX 1 u) (h.c.mJ _ _ _) ?_ l z (fun _ h=>.inl h) ?_ (h.ok.dv ?_ ?_)⟩,?_⟩
 ·exact⟨d.aQ (fun g x=>by obtain⟨q,_,cs,p⟩:=d.block x;exact i g cs q p) (fun _ h=>.inl h),h.kB.aQ i (fun _ h=>.inl h)⟩
 ·have:=f.aQ (w':=w1.setCell ⟨mb,1,none⟩ u) (O':=ext O w w1) (fun g H=>Bq _ _ _ _ (fun (e:g=mb)=>f.cD r (by decide) H e)) (fun _ h=>h)
  simpa [gd]using this
 ·intro k z;have:=h.iB m k z
  simpa [World.setCell]using this
 ·intro y a;rcases List.mem_cons.1 a with rfl|a
  ·exact⟨By _,K,X⟩
  ·exact h.ok.aD y a
 ·simp only[Bp];omega
 ·exact qU (⟨x.os,x.tape,x.output,x.size,fun k z n=>x.block k z (fun e=>n (h.fr.2 k e.symm))⟩) (.inl h.eu) _
end
theorem Zgv {s:St}{a:Nat}{t:Int} {aA:List (Int×Int)} (y:s.funcs[a]?=some aA) (x:0<t):call s a t = { s with aD:=⟨aA,0,(t-1).toNat⟩::s.aD } := by
 unfold call;rw[if_pos x,Da,De y]
theorem Zlc {s:St}{a t:Int}(x:¬ 0<t):call s a t=s:=by unfold call;rw[if_neg x]
theorem Qb (w:World)(mb:Nat)(O:Nat→Prop)(L:bd)(s:St)(h:ag w mb O L s)(a:Nat)(ha:a<s.funcs.length)(t:Int)(ht:t≤16)(HP:s.aD.length≤20) :
  Calls Tryz.prog 220 #[.pointer (some ⟨mb,0,none⟩),Aj a,Aj t] w (aw w mb O (call s a t)):=by
 by_cases R:0<t
 ·obtain⟨aA,q⟩:∃x,s.funcs[a]?=some x:=⟨_,Bf ha⟩;obtain⟨W,hK,M,F,hc⟩:=Fe Yd;obtain⟨n,rfl⟩:∃n:Nat,t=(n+1:Nat):=⟨(t-1).toNat,by omega⟩;have E:Hid (call s a ((n+1:Nat):Int) = { s with aD:=⟨aA,0,n⟩::s.aD }):=Aq (by rw[Zgv q R];simp);obtain⟨v,P,f⟩:=h.jV.get q;obtain⟨g,i,j,cf,_,hg,J,U,hk⟩:=h.fu.aL (by omega);have d:=U _ _ P;have c0:=h.aG.cell 0;rw[h.c.c0,j]at c0;have r:=h.aG.cell 1;rw[h.c.c1]at r;obtain⟨z,cc,I,_,_⟩:=f.form;have C:=Aq f;have H:=Aq h;have e1:=h.ok.kJ;have c1:=h.ok.funcs aA (Bz q);have V:=h.aG.lt;have HM:mb≠g:=(h.fu.cD h.aG (by decide) (show L.fu.ownBlock=some g by rw[j];rfl)).symm;subst I;have G:n≤15:=by omega
  have X:w.drew.cell? ⟨mb,0,none⟩=some (.slice (some ⟨g,0,none⟩) s.funcs.length i)∧w.drew.cell? ⟨mb,1,none⟩=some L.fr∧w.drew.cell? ⟨g,a,none⟩=some (.slice z aA.length cc):=⟨c0,r,d⟩;have Z:=Aq (h.drew.alloc (.cells #[.slice z aA.length cc,Aj 0,Aj n] 205));have Ac:(w.drew.alloc (.cells #[.slice z aA.length cc,Aj 0,Aj n] 205)).cell? ⟨mb,0,none⟩=some (.slice (some ⟨g,0,none⟩) s.funcs.length i)∧(w.drew.alloc (.cells #[.slice z aA.length cc,Aj 0,Aj n] 205)).cell? ⟨mb,1,none⟩=some L.fr∧(w.drew.alloc (.cells #[.slice z aA.length cc,Aj 0,Aj n] 205)).cell? ⟨g,a,none⟩=some (.slice z aA.length cc):=⟨(Cc _ _ _ (by simpa using V)).trans c0,(Cc _ _ _ (by simpa using V)).trans r,(Cc _ _ _ (by simpa using J)).trans d⟩;clear h f U hk j q P c0 r d;go_enter Tryz.func220,Tryz.ntmps220;go_wp2_with fail
  refine Cv [15,16,19] [4,8,11] [15] 20 (fun w':World=>w'.cell? ⟨mb,0,none⟩=some (.slice (some ⟨g,0,none⟩) s.funcs.length i)∧w'.cell? ⟨mb,1,none⟩=some L.fr∧w'.cell? ⟨g,a,none⟩=some (.slice z aA.length cc)) ?_
  iterate 4 (refine Be ?_)
  refine Bj X ?_
  iterate 3 (refine Be ?_)
  refine Bj X ?_;refine Be ?_;refine Be ?_;refine Bj X ?_;refine Be ?_;refine Hi (v:=Aj (n:Int)) rfl rfl rfl (by kernel_rfl) (fun _ _ _ h=>h) (fun wq=>by(go_simp;rw[Do _ (by omega)])) ?_;refine Be ?_;refine Bi fun K p=>?_;go_simp
  refine p _ _ (fun _=>Ac) ?_;clear p K;refine Bi fun K p=>?_
  refine Ur _ rfl (.tmp 12) (.tmp 23) _ rfl 205 W _ 3 40 Tryz.underlying206 hK M F hc rfl (by decide) _ _ _ _ rfl Z.o.fr _ _ 1 1 [.slice z aA.length cc,Aj 0,Aj n] rfl (qM (cs:=[.slice z aA.length cc,Aj 0,Aj n]) (qG _ _ _) 3 1 rfl) (by simp[Value.oneCell']) (by unfold maxLen;omega) (by omega) ?_;intro v' T l B S;obtain⟨Av,nv,cv,N⟩:∃A n c,v'=.slice A n c:=by obtain⟨A,c,e,_⟩:=l.form;exact⟨A,_,c,e⟩
  obtain⟨⟨cs,b,hS⟩,⟨L2,m⟩,D⟩:=Z.o.nU (C.o.aQ (fun k y=>pq _ _ _ (by have:=(C.o.block y).2.1;simpa using this)) (fun _ h=>h)) c1 G (by omega) l B S;have Y:Hid (aw w mb O (call s a ((n+1:Nat):Int)) (.returned (.tuple #[])) (T.setCell ⟨mb,1,none⟩ v')):=Aq (by
   rw[E.o];exact aw.bQ ((qF O w).drew.alloc _) ⟨rfl,⟨_,m.mono (fun k y=>by rcases y with y|y;exact .inl y;exact .inr ⟨y.1,by simpa [World.setCell]using y.2⟩) (fun k y=>m.eO k (by rcases y with y|y;exact .inl y;exact .inr ⟨y.1,by simpa [World.setCell]using y.2⟩))⟩,D⟩)
  obtain⟨u1,Q⟩:∃u,cs[1]?=some u:=⟨_,qy (by omega)⟩;have k0:=b.cell 1;rw[Q]at k0;have k1:=b.frozen 1;have k2:=b.lt;clear m D b l Q B S;subst N;refine Bh p ?_;clear p K;refine Be ?_;refine Be ?_;refine Bi fun K p=>?_;go_simp
  refine Bh p ?_;clear p K;refine Bb ?_;go_wp2;go_end0;exact Y.o
 ·have Y:=Aq (aw.dE h (qF O w));rw[Zlc R];clear h;go_enter Tryz.func220,Tryz.ntmps220;go_wp2;go_end0;exact Y.o
end
section
open Go.RowKit Mc
theorem Zcb (w:World)(mb:Nat)(O:Nat→Prop)(L:bd)(s:St)(h:ag w mb O L s)(f:Fm)(r:List Fm)(y:s.aD=f::r)(n:Nat)(z:f.next+n≤f.aA.length) :
  Calls Tryz.prog 215 #[.pointer (some ⟨mb,0,none⟩),Aj n] w (aw w mb O (cC s n)):=by
 have u:=Aq (Vj w mb O L s h f r y n z);clear h y z;go_enter Tryz.func215,Tryz.ntmps215;go_wp2_with fail
 refine u.o.mono ?_;intro e k x;have v:=Aq x;obtain⟨rfl,_⟩:=x;go_wp2;go_end0;exact v.o
def Ld (s:St)(r:List Int)(x a:Int):St:=if x=0 then cC { s with stack:=r } a else { s with stack:=r }
theorem Xx (s:St)(r:List Int)(a:Int):Ld s r 0 a=cC { s with stack:=r } a:=by unfold Ld;rw[if_pos rfl]
theorem Zcc (s:St)(r:List Int){x:Int}(y:x≠0)(a:Int):Ld s r x a = { s with stack:=r } := by unfold Ld;rw[if_neg y]
theorem Np (w:World)(mb:Nat)(O:Nat→Prop)(L:bd)(s:St)(h:ag w mb O L s)(x:Int)(l:List Int)(g:s.stack=x::l)(f:Fm)(r:List Fm)(c:s.aD=f::r)(n:Nat)(i:f.next+n≤f.aA.length) :
  Calls Tryz.prog 218 #[.pointer (some ⟨mb,0,none⟩),Aj n] w (aw w mb O (Ld s l x n)):=by
 have H:=Aq h;have d:=Aq g;have X:=Aq c;have Z:=Aq i;clear h g c i;by_cases p:x=0
 ·subst p;go_enter Tryz.func218,Tryz.ntmps218;go_wp2_with fail
  refine(Ec w mb O L s H.o _ l d.o _).mono ?_;rintro e w'⟨rfl,y,z⟩;obtain⟨a,u⟩:=y.ma;have k:=Aq u;have q:=Aq y;have j:=y.lt;have v:=z.cell 0;have m:=z.lt;have K:=z.frozen 0;simp only[Az,Ay]at v;clear y u z;go_wp2_with fail
  refine(Vj w' mb O a _ k.o f r X.o n Z.o).mono ?_;intro e V b;have Y:=Aq (b.bQ q.o.fr);obtain⟨rfl,_⟩:=b;go_wp2;go_end0;rw[Xx];exact Y.o
 ·have U:(x==0)=false:=by simpa using p
  go_enter Tryz.func218,Tryz.ntmps218;go_wp2_with fail
  refine(Ec w mb O L s H.o _ l d.o _).mono ?_;rintro e w'⟨rfl,y,z⟩;obtain⟨a,u⟩:=y.ma;have k:=Aq u;have q:=Aq y;have j:=y.lt;have v:=z.cell 0;have m:=z.lt;have K:=z.frozen 0;simp only[Az,Ay]at v;clear y u z;go_wp2;go_end0;rw[Zcc _ _ p];exact .dE k.o q.o.fr
theorem Xw (w:World)(mb:Nat)(O:Nat→Prop)(L:bd)(s:St)(h:ag w mb O L s)(x:Int)(l:List Int)(u:s.stack=x::l)(f:Fm)(r:List Fm)(z:s.aD=f::r)(n:Nat)(v:f.next+n≤f.aA.length) :
  Calls Tryz.prog 217 #[.pointer (some ⟨mb,0,none⟩),Aj n] w (aw w mb O (Ld s l x n)):=by
 have p:=Aq (Np w mb O L s h x l u f r z n v);clear h u z v;go_enter Tryz.func217,Tryz.ntmps217;go_wp2_with fail
 refine p.o.mono ?_;intro e q y;have k:=Aq y;obtain⟨rfl,_⟩:=y;go_wp2;go_end0;exact k.o
theorem Yn (w:World)(mb:Nat)(O:Nat→Prop)(L:bd)(s:St)(h:ag w mb O L s)(a:Nat)(y:a<s.funcs.length)(z:s.aD.length≤20) :
  Calls Tryz.prog 219 #[.pointer (some ⟨mb,0,none⟩),Aj a] w (aw w mb O (call s a 1)):=by
 have v:=Aq (Qb w mb O L s h a y 1 (by decide) z);clear h y z;go_enter Tryz.func219,Tryz.ntmps219;go_wp2_with fail
 refine v.o.mono ?_;intro e k x;have u:=Aq x;obtain⟨rfl,_⟩:=x;go_wp2;go_end0;exact u.o
theorem Zgb (w:World)(mb:Nat)(O:Nat→Prop)(L:bd)(s:St)(h:ag w mb O L s)(x:Int)(l:List Int)(i:s.stack=x::l)(a:Nat)(j:a<s.funcs.length)(d:s.aD.length≤20) :
  Calls Tryz.prog 222 #[.pointer (some ⟨mb,0,none⟩),Aj a] w (aw w mb O (call { s with stack:=l } a (min x 16))):=by
 have H:=Aq h;have g:=Aq i;have U:=h.ok.kJ;generalize f:min x 16=m;have c:=Aq f;clear h i f;by_cases Z:16<x
 ·obtain rfl:m=16:=by have:=c.o;omega
  go_enter Tryz.func222,Tryz.ntmps222;go_wp2_with fail
  refine(Ec w mb O L s H.o _ l g.o _).mono ?_;rintro e w'⟨rfl,y,z⟩;obtain⟨q,u⟩:=y.ma;have p:=Aq u;have b:=Aq y;have n:=y.lt;have k:=z.cell 0;have K:=z.lt;have X:=z.frozen 0;simp only[Az,Ay]at k;clear y u z;go_wp2_with fail
  refine(Qb w' mb O q _ p.o a j _ (by omega) d).mono ?_;intro e Y v;have r:=Aq (v.bQ b.o.fr);obtain⟨rfl,_⟩:=v;go_wp2;go_end0;exact r.o
 ·obtain rfl:m=x:=by have:=c.o;omega
  go_enter Tryz.func222,Tryz.ntmps222;go_wp2_with fail
  refine(Ec w mb O L s H.o _ l g.o _).mono ?_;rintro e w'⟨rfl,y,z⟩;obtain⟨q,u⟩:=y.ma;have p:=Aq u;have b:=Aq y;have n:=y.lt;have k:=z.cell 0;have K:=z.lt;have X:=z.frozen 0;simp only[Az,Ay]at k;clear y u z;go_wp2_with fail
  refine(Qb w' mb O q _ p.o a j _ (by omega) d).mono ?_;intro e Y v;have r:=Aq (v.bQ b.o.fr);obtain⟨rfl,_⟩:=v;go_wp2;go_end0;exact r.o
theorem Zbv (w:World)(mb:Nat)(O:Nat→Prop)(L:bd)(s:St)(h:ag w mb O L s)(x:Int)(l:List Int)(u:s.stack=x::l)(a:Nat)(v:a<s.funcs.length)(z:s.aD.length≤20) :
  Calls Tryz.prog 221 #[.pointer (some ⟨mb,0,none⟩),Aj a] w (aw w mb O (call { s with stack:=l } a (min x 16))):=by
 have p:=Aq (Zgb w mb O L s h x l u a v z);clear h u v z;go_enter Tryz.func221,Tryz.ntmps221;go_wp2_with fail
 refine p.o.mono ?_;intro e q y;have k:=Aq y;obtain⟨rfl,_⟩:=y;go_wp2;go_end0;exact k.o
theorem Zif (w:World)(mb:Nat)(O:Nat→Prop)(L:bd)(s:St)(h:ag w mb O L s)(y z:Nat)(axis:Int) (k1:w.cell? ⟨y,0,none⟩=some (.pointer (some ⟨mb,0,none⟩))) (k2:w.cell? ⟨z,0,none⟩=some (Aj axis)) (p:Nat) (x:Int×Int) (v:s.aT[p]?=some x) :
  Calls Tryz.prog 262 #[Aj p,.pointer (some ⟨y,0,none⟩),.pointer (some ⟨z,0,none⟩)] w fun e w'=>e=.returned (Aj (Cg axis x))∧w.drew=w':=by
 have m:=(aS.1 v).1;have H:s.aT.length≤1000000:=by have:=h.ok.c_;have:=h.ok.dK;omega
 obtain⟨g,c,b,Y,i,l,n,a,f⟩:=h.og.aL (by omega);have r:=a _ _ (Eu v axis);have cc:=h.aG.cell 2;rw[h.c.c2,b]at cc;clear h v b a f i;generalize k:(if axis=1 then 1 else 0:Nat)=d at r;have j:=Aq k;clear k;have u:w.drew.cell? ⟨y,0,none⟩=some (.pointer (some ⟨mb,0,none⟩))∧w.drew.cell? ⟨mb,2,none⟩=some (.slice (some ⟨g,0,none⟩) s.aT.length c)∧w.drew.cell? ⟨z,0,none⟩=some (Aj axis)∧w.drew.cell? ⟨g,p*2+d,none⟩=some (Aj (Cg axis x)):=⟨k1,cc,k2,r⟩;go_enter Tryz.func262,Tryz.ntmps262;go_wp2_with fail
 refine Cv [8] [0,4,7,10] [] 12 (fun w':World=>w'.cell? ⟨y,0,none⟩=some (.pointer (some ⟨mb,0,none⟩))∧w'.cell? ⟨mb,2,none⟩=some (.slice (some ⟨g,0,none⟩) s.aT.length c)∧w'.cell? ⟨z,0,none⟩=some (Aj axis)∧w'.cell? ⟨g,p*2+d,none⟩=some (Aj (Cg axis x))) ?_;refine Bj u ?_
 iterate 3 (refine Be ?_)
 refine Bj u ?_;refine Be ?_;refine Be ?_;refine Bj u ?_;refine Bi fun K q=>?_;go_simp
 refine(Cy _ _ _ _).mono ?_;rintro e X⟨rfl,rfl⟩;rw[j.o];dsimp only;refine Bh q ?_;clear q K;refine Be ?_;refine Bj u ?_;refine Be ?_;refine Bb ?_;go_wp2;go_ret;exact⟨rfl,rfl⟩
theorem nw (w:World)(mb:Nat)(O:Nat→Prop)(L:bd)(s:St)(h:ag w mb O L s)(y z:Nat)(axis:Int) (k1:w.cell? ⟨y,0,none⟩=some (.pointer (some ⟨mb,0,none⟩))) (k2:w.cell? ⟨z,0,none⟩=some (Aj axis)) (p:Nat) (x:Int×Int) (v:s.aF[p]?=some x) :
  Calls Tryz.prog 263 #[Aj p,.pointer (some ⟨y,0,none⟩),.pointer (some ⟨z,0,none⟩)] w fun e w'=>e=.returned (Aj (Cg axis x))∧w.drew=w':=by
 have m:=(aS.1 v).1;have H:s.aF.length≤1000000:=by have:=h.ok.c_;have:=h.ok.dK;omega
 obtain⟨g,c,b,Y,i,l,n,a,f⟩:=h.cu.aL (by omega);have r:=a _ _ (Eu v axis);have cc:=h.aG.cell 3;rw[h.c.c3,b]at cc;clear h v b a f i;generalize k:(if axis=1 then 1 else 0:Nat)=d at r;have j:=Aq k;clear k;have u:w.drew.cell? ⟨y,0,none⟩=some (.pointer (some ⟨mb,0,none⟩))∧w.drew.cell? ⟨mb,3,none⟩=some (.slice (some ⟨g,0,none⟩) s.aF.length c)∧w.drew.cell? ⟨z,0,none⟩=some (Aj axis)∧w.drew.cell? ⟨g,p*2+d,none⟩=some (Aj (Cg axis x)):=⟨k1,cc,k2,r⟩;go_enter Tryz.func263,Tryz.ntmps263;go_wp2_with fail
 refine Cv [8] [0,4,7,10] [] 12 (fun w':World=>w'.cell? ⟨y,0,none⟩=some (.pointer (some ⟨mb,0,none⟩))∧w'.cell? ⟨mb,3,none⟩=some (.slice (some ⟨g,0,none⟩) s.aF.length c)∧w'.cell? ⟨z,0,none⟩=some (Aj axis)∧w'.cell? ⟨g,p*2+d,none⟩=some (Aj (Cg axis x))) ?_;refine Bj u ?_
 iterate 3 (refine Be ?_)
 refine Bj u ?_;refine Be ?_;refine Be ?_;refine Bj u ?_;refine Bi fun K q=>?_;go_simp
 refine(Cy _ _ _ _).mono ?_;rintro e X⟨rfl,rfl⟩;rw[j.o];dsimp only;refine Bh q ?_;clear q K;refine Be ?_;refine Bj u ?_;refine Be ?_;refine Bb ?_;go_wp2;go_ret;exact⟨rfl,rfl⟩
theorem Ox (a b:Int):iJ (a+iJ b)=iJ (a+b):=by unfold iJ;omega
def lX (o x y z u:Int):Int:=if o≤x then o+z-x else if y≤o then o+u-y else z+eT (iJ (iJ (2*(o-x)*(u-z))+(y-x))) (2*(y-x))
theorem Wk {o x z y u:Int}(h:o≤x):lX o x z y u=o+y-x:=by unfold lX;rw[if_pos h]
theorem Wj {o z x v y:Int}(h:¬ o≤z)(u:x≤o):lX o z x v y=o+y-x:=by unfold lX;rw[if_neg h,if_pos u]
theorem Wi {o x y z u:Int}(h:¬ o≤x)(v:¬ y≤o):lX o x y z u=z+eT (iJ (iJ (2*(o-x)*(u-z))+(y-x))) (2*(y-x)):=by unfold lX;rw[if_neg h,if_neg v]
theorem Op {aT aF:List (Int×Int)} {axis:Int} {p a b:Nat} {k x y v z:Int×Int} (c:aT[p]?=some k) (u:aT[a]?=some x) (q:aT[b]?=some y) (s:aF[a]?=some v) (r:aF[b]?=some z) :
  Kv aT aF axis p a b=if Cg axis y<Cg axis x then lX (Cg axis k) (Cg axis y) (Cg axis x) (Cg axis z) (Cg axis v) else lX (Cg axis k) (Cg axis x) (Cg axis y) (Cg axis v) (Cg axis z):=by
 unfold Kv lX;simp only[De c,De u,De q];by_cases h:Cg axis y<Cg axis x
 ·simp only[h,if_true,De u,De q,De s,De r]
 ·simp only[h,if_false,De u,De q,De s,De r]
theorem Hh {_s:St} {l:List (Int×Int)} {i:Nat} {x:Int×Int} (h:∀p∈l,bI p.1∧bI p.2) (y:l[i]?=some x) (axis:Int) : -2147483648≤Cg axis x∧Cg axis x≤2147483647:=by
 have:=h x (Bz y);unfold Cg;split
 ·exact this.2
 ·exact this.1
theorem Mc.iz {aT aF:List (Int×Int)} {axis:Int} {p a b:Nat} {y:Int×Int} (x:aF[p]?=some y):Pq aT axis aF p a b=aF.set p (fm axis y (iJ (Kv aT aF axis p a b))):=by
 unfold Pq;rw[De x]
def Zll (w:World)(mb:Nat)(O:Nat→Prop)(L:bd)(s:St)(e:Ending)(w':World):Prop:=e=.returned (.tuple #[])∧ag w' mb O L s∧Fr O w w'
structure Bt (w:World) (mb:Nat) (O:Nat→Prop) (L:bd) (s:St) (axis:Int) (W:World):Prop where
 ma:ag W mb O L s
 k1:W.cell? ⟨w.heap.size,0,none⟩=some (.pointer (some ⟨mb,0,none⟩))
 k2:W.cell? ⟨w.heap.size+1,0,none⟩=some (Aj axis)
 fr:Fr O w W
theorem Bt.drew {w:World}{mb:Nat}{O:Nat→Prop}{L:bd}{s:St}{axis:Int}{W:World}(h:Bt w mb O L s axis W):Bt w mb O L s axis W.drew:=⟨h.ma.drew,h.k1,h.k2,h.fr.drew⟩
theorem Hz {w:World}{mb:Nat}{O:Nat→Prop}{L:bd}{s:St}{axis:Int}{W:World}(h:Bt w mb O L s axis W){p:Nat}{x:Int×Int} (u:s.aT[p]?=some x) {v:Int} (z:Cg axis x=v) :
  Calls Tryz.prog 262 #[Aj p,.pointer (some ⟨w.heap.size,0,none⟩),.pointer (some ⟨w.heap.size+1,0,none⟩)] W fun e w'=>e=.returned (Aj v)∧Bt w mb O L s axis w' :=
 (Zif W mb O L s h.ma _ _ axis h.k1 h.k2 p x u).mono fun e w' y=>⟨by rw[y.1,z],by rw[←y.2];exact h.drew⟩
theorem lE {w:World}{mb:Nat}{O:Nat→Prop}{L:bd}{s:St}{axis:Int}{W:World}(h:Bt w mb O L s axis W){p:Nat}{x:Int×Int} (u:s.aF[p]?=some x) {v:Int} (z:Cg axis x=v) :
  Calls Tryz.prog 263 #[Aj p,.pointer (some ⟨w.heap.size,0,none⟩),.pointer (some ⟨w.heap.size+1,0,none⟩)] W fun e w'=>e=.returned (Aj v)∧Bt w mb O L s axis w' :=
 (nw W mb O L s h.ma _ _ axis h.k1 h.k2 p x u).mono fun e w' y=>⟨by rw[y.1,z],by rw[←y.2];exact h.drew⟩
theorem Ui (w:World)(mb:Nat)(O:Nat→Prop)(L:bd)(s:St)(h:ag w mb O L s)(axis:Int)(p a b:Nat)(xp xa xb yp ya yb:Int×Int)
  (E:s.aT[p]?=some xp) (G:s.aT[a]?=some xa) (I:s.aT[b]?=some xb) (hyp:s.aF[p]?=some yp) (F:s.aF[a]?=some ya) (D:s.aF[b]?=some yb) :
  Calls Tryz.prog 257 #[.pointer (some ⟨mb,0,none⟩),Aj p,Aj a,Aj b,Aj axis] w (Zll w mb O L { s with aF:=Pq s.aT axis s.aF p a b }):=by
 have cu:=(aS.1 hyp).1;have hW:=h.ok.c_;obtain⟨g,c,J,u0,M,hg,HQ,c3,HC⟩:=h.cu.aL (by omega);have x:Hid (Bt w mb O L s axis ((w.alloc (.cells #[.pointer (some ⟨mb,0,none⟩)] 153)).alloc (.cells #[Aj axis] 3))):=Aq ⟨(h.alloc _).alloc _,by rw[Cc _ _ _ (by simp)];exact(qG w _ _).cell 0,(qH _ _ _ (by simp)).cell 0,((qF O w).alloc _).alloc _⟩;have H:=Aq E;have r:=Aq G;have q:=Aq I;have A:=Aq F;have P:=Aq D;have B1:=Hh (_s:=s) h.ok.aT E axis;have B2:=Hh (_s:=s) h.ok.aT G axis;have B3:=Hh (_s:=s) h.ok.aT I axis;have B4:=Hh (_s:=s) h.ok.aF F axis;have B5:=Hh (_s:=s) h.ok.aF D axis;have n:=Aq (Op (axis:=axis) E G I F D);have Z:Hid (∀(W:World),ag W mb O L s→W.cell? ⟨mb,3,none⟩=some (.slice (some ⟨g,0,none⟩) s.aF.length c)∧(∃u,W.cell? ⟨g,p*2+(if axis=1 then 1 else 0),none⟩=some u)∧W.frozen? ⟨g,p*2+(if axis=1 then 1 else 0),none⟩=false):=Aq (fun W Q=>by
  refine⟨by rw[Q.aG.cell,Q.c.c3,J],?_⟩;obtain⟨g2,c2,m,_,_,_,_,M,HD⟩:=Q.cu.aL (by omega);rw[J]at m
  injection m with m
  injection m with m
  injection m with m
  subst m;exact⟨⟨_,M _ _ (Eu hyp axis)⟩,HD _⟩)
 have X:Hid (∀(W:World) (u:Int),ag W mb O L s→Fr O w W→u=bA (iJ (Kv s.aT s.aF axis p a b))→Zll w mb O L { s with aF:=Pq s.aT axis s.aF p a b } (.returned (.tuple #[])) (W.setCell ⟨g,p*2+(if axis=1 then 1 else 0),none⟩ (Aj u))):=Aq (fun W u Q hF hu=>by
  subst hu;rw[iz hyp];exact⟨rfl,Q.jC J hyp axis _,hF.setCell (.inl hg) _⟩)
 clear h E G I hyp F D J c3 HC M HQ hg;generalize hd:(if axis=1 then 1 else 0:Nat)=d at *;have Y:=Aq hd;clear hd;generalize w6:Cg axis xp=wp at *;generalize hS:Cg axis xa=T at *;generalize hb:Cg axis xb=N at *;generalize HB:Cg axis ya=ia at *;generalize w5:Cg axis yb=ib at *;have U:=Aq w6;have f:=Aq hS;have i:=Aq hb;have R:=Aq HB;have B:=Aq w5;clear w6 hS hb HB w5;by_cases hK:N<T
 ·rw[if_pos hK]at n;by_cases h1:wp≤N
  ·go_enter Tryz.func257,Tryz.ntmps257;go_wp2_with fail
   refine(Hz x.o r.o f.o).mono ?_;rintro e z⟨rfl,y⟩;clear x;have x:=Aq y;clear y;go_wp2_with fail
   refine(Hz x.o q.o i.o).mono ?_;rintro e z⟨rfl,y⟩;clear x;have x:=Aq y;clear y;go_wp2_with fail
   refine(Hz x.o H.o U.o).mono ?_;rintro e z⟨rfl,y⟩;clear x;have x:=Aq y;clear y;go_wp2_with fail
   refine(Hz x.o q.o i.o).mono ?_;rintro e z⟨rfl,y⟩;clear x;have x:=Aq y;clear y;go_wp2_with fail
   refine(lE x.o P.o B.o).mono ?_;rintro e z⟨rfl,y⟩;clear x;have x:=Aq y;clear y;go_wp2_with fail
   refine(Hz x.o q.o i.o).mono ?_;rintro e z⟨rfl,y⟩;clear x;have x:=Aq y;clear y;go_wp2_with fail
   obtain⟨l,⟨S,V⟩,fu⟩:=Z.o z x.o.ma;have k:z.drew.cell? ⟨w.heap.size,0,none⟩=some (.pointer (some ⟨mb,0,none⟩))∧z.drew.cell? ⟨mb,3,none⟩=some (.slice (some ⟨g,0,none⟩) s.aF.length c)∧z.drew.cell? ⟨w.heap.size+1,0,none⟩=some (Aj axis):=⟨x.o.k1,l,x.o.k2⟩;have C:=x.o.ma.aG.lt;refine Bs (Cl [8,10,12]) (Bm [0,4,7]) (Bm []) [0,1,2,3,4,5,6,7,9,8,10,11,12] (fun w':World=>w'.cell? ⟨w.heap.size,0,none⟩=some (.pointer (some ⟨mb,0,none⟩))∧w'.cell? ⟨mb,3,none⟩=some (.slice (some ⟨g,0,none⟩) s.aF.length c)∧w'.cell? ⟨w.heap.size+1,0,none⟩=some (Aj axis)) (by kernel_rfl) (by kernel_rfl) (by kernel_rfl) (by kernel_rfl) ?_;refine Bj k ?_
   iterate 3 (refine Be ?_)
   refine Bj k ?_;refine Be ?_;refine Be ?_;refine Bj k ?_;refine Be ?_;refine Bi fun K v=>?_;go_simp
   refine(Cy _ _ _ _).mono ?_;rintro e j⟨rfl,rfl⟩;rw[Y.o];dsimp only;refine Bh v ?_;clear v K;refine Bi fun K v=>?_;go_simp
   refine(Fd _ _).mono ?_;rintro e j⟨rfl,rfl⟩;dsimp only;refine Bh v ?_;clear v K;refine Be ?_;refine Bi fun K v=>?_;go_simp
   refine Bh v ?_;clear v K;refine Bb ?_;go_wp2;go_end0;refine X.o z.drew _ x.o.ma.drew x.o.fr.drew ?_;rw[n.o];rw[Wk (by omega)];exact congrArg bA (Je (by omega) (by omega)).symm
  ·skip
   by_cases h2:T≤wp
   ·go_enter Tryz.func257,Tryz.ntmps257;go_wp2_with fail
    refine(Hz x.o r.o f.o).mono ?_;rintro e z⟨rfl,y⟩;clear x;have x:=Aq y;clear y;go_wp2_with fail
    refine(Hz x.o q.o i.o).mono ?_;rintro e z⟨rfl,y⟩;clear x;have x:=Aq y;clear y;go_wp2_with fail
    refine(Hz x.o H.o U.o).mono ?_;rintro e z⟨rfl,y⟩;clear x;have x:=Aq y;clear y;go_wp2_with fail
    refine(Hz x.o q.o i.o).mono ?_;rintro e z⟨rfl,y⟩;clear x;have x:=Aq y;clear y;go_wp2_with fail
    refine(Hz x.o r.o f.o).mono ?_;rintro e z⟨rfl,y⟩;clear x;have x:=Aq y;clear y;go_wp2_with fail
    refine(lE x.o A.o R.o).mono ?_;rintro e z⟨rfl,y⟩;clear x;have x:=Aq y;clear y;go_wp2_with fail
    refine(Hz x.o r.o f.o).mono ?_;rintro e z⟨rfl,y⟩;clear x;have x:=Aq y;clear y;go_wp2_with fail
    obtain⟨l,⟨S,V⟩,fu⟩:=Z.o z x.o.ma;have k:z.drew.cell? ⟨w.heap.size,0,none⟩=some (.pointer (some ⟨mb,0,none⟩))∧z.drew.cell? ⟨mb,3,none⟩=some (.slice (some ⟨g,0,none⟩) s.aF.length c)∧z.drew.cell? ⟨w.heap.size+1,0,none⟩=some (Aj axis):=⟨x.o.k1,l,x.o.k2⟩;have C:=x.o.ma.aG.lt;refine Bs (Cl [8,10,12]) (Bm [0,4,7]) (Bm []) [0,1,2,3,4,5,6,7,9,8,10,11,12] (fun w':World=>w'.cell? ⟨w.heap.size,0,none⟩=some (.pointer (some ⟨mb,0,none⟩))∧w'.cell? ⟨mb,3,none⟩=some (.slice (some ⟨g,0,none⟩) s.aF.length c)∧w'.cell? ⟨w.heap.size+1,0,none⟩=some (Aj axis)) (by kernel_rfl) (by kernel_rfl) (by kernel_rfl) (by kernel_rfl) ?_;refine Bj k ?_
    iterate 3 (refine Be ?_)
    refine Bj k ?_;refine Be ?_;refine Be ?_;refine Bj k ?_;refine Be ?_;refine Bi fun K v=>?_;go_simp
    refine(Cy _ _ _ _).mono ?_;rintro e j⟨rfl,rfl⟩;rw[Y.o];dsimp only;refine Bh v ?_;clear v K;refine Bi fun K v=>?_;go_simp
    refine(Fd _ _).mono ?_;rintro e j⟨rfl,rfl⟩;dsimp only;refine Bh v ?_;clear v K;refine Be ?_;refine Bi fun K v=>?_;go_simp
    refine Bh v ?_;clear v K;refine Bb ?_;go_wp2;go_end0;refine X.o z.drew _ x.o.ma.drew x.o.fr.drew ?_;rw[n.o];rw[Wj (by omega) (by omega)];exact congrArg bA (Je (by omega) (by omega)).symm
   ·go_enter Tryz.func257,Tryz.ntmps257;go_wp2_with fail
    refine(Hz x.o r.o f.o).mono ?_;rintro e z⟨rfl,y⟩;clear x;have x:=Aq y;clear y;go_wp2_with fail
    refine(Hz x.o q.o i.o).mono ?_;rintro e z⟨rfl,y⟩;clear x;have x:=Aq y;clear y;go_wp2_with fail
    refine(Hz x.o H.o U.o).mono ?_;rintro e z⟨rfl,y⟩;clear x;have x:=Aq y;clear y;go_wp2_with fail
    refine(Hz x.o q.o i.o).mono ?_;rintro e z⟨rfl,y⟩;clear x;have x:=Aq y;clear y;go_wp2_with fail
    refine(Hz x.o r.o f.o).mono ?_;rintro e z⟨rfl,y⟩;clear x;have x:=Aq y;clear y;go_wp2_with fail
    refine(Hz x.o r.o f.o).mono ?_;rintro e z⟨rfl,y⟩;clear x;have x:=Aq y;clear y;go_wp2_with fail
    refine(Hz x.o q.o i.o).mono ?_;rintro e z⟨rfl,y⟩;clear x;have x:=Aq y;clear y;go_wp2_with fail
    refine(lE x.o P.o B.o).mono ?_;rintro e z⟨rfl,y⟩;clear x;have x:=Aq y;clear y;go_wp2_with fail
    refine(Hz x.o q.o i.o).mono ?_;rintro e z⟨rfl,y⟩;clear x;have x:=Aq y;clear y;go_wp2_with fail
    refine(lE x.o A.o R.o).mono ?_;rintro e z⟨rfl,y⟩;clear x;have x:=Aq y;clear y;go_wp2_with fail
    refine(lE x.o P.o B.o).mono ?_;rintro e z⟨rfl,y⟩;clear x;have x:=Aq y;clear y;go_wp2_with fail
    refine(Jq _ _ _).mono ?_;rintro e j⟨rfl,rfl⟩;go_wp2_with fail
    obtain⟨l,⟨S,V⟩,fu⟩:=Z.o z x.o.ma;have k:z.drew.cell? ⟨w.heap.size,0,none⟩=some (.pointer (some ⟨mb,0,none⟩))∧z.drew.cell? ⟨mb,3,none⟩=some (.slice (some ⟨g,0,none⟩) s.aF.length c)∧z.drew.cell? ⟨w.heap.size+1,0,none⟩=some (Aj axis):=⟨x.o.k1,l,x.o.k2⟩;have C:=x.o.ma.aG.lt;refine Bs (Cl [8,10,12]) (Bm [0,4,7]) (Bm []) [0,1,2,3,4,5,6,7,9,8,10,11,12] (fun w':World=>w'.cell? ⟨w.heap.size,0,none⟩=some (.pointer (some ⟨mb,0,none⟩))∧w'.cell? ⟨mb,3,none⟩=some (.slice (some ⟨g,0,none⟩) s.aF.length c)∧w'.cell? ⟨w.heap.size+1,0,none⟩=some (Aj axis)) (by kernel_rfl) (by kernel_rfl) (by kernel_rfl) (by kernel_rfl) ?_;refine Bj k ?_
    iterate 3 (refine Be ?_)
    refine Bj k ?_;refine Be ?_;refine Be ?_;refine Bj k ?_;refine Be ?_;refine Bi fun K v=>?_;go_simp
    refine(Cy _ _ _ _).mono ?_;rintro e j⟨rfl,rfl⟩;rw[Y.o];dsimp only;refine Bh v ?_;clear v K;refine Bi fun K v=>?_;go_simp
    refine(Fd _ _).mono ?_;rintro e j⟨rfl,rfl⟩;dsimp only;refine Bh v ?_;clear v K;refine Be ?_;refine Bi fun K v=>?_;go_simp
    refine Bh v ?_;clear v K;refine Bb ?_;go_wp2;go_end0;refine X.o z.drew _ x.o.ma.drew x.o.fr.drew ?_;rw[n.o];rw[Wi (by omega) (by omega),←Ox];simp only[Gx]
 ·rw[if_neg hK]at n;by_cases h1:wp≤T
  ·go_enter Tryz.func257,Tryz.ntmps257;go_wp2_with fail
   refine(Hz x.o r.o f.o).mono ?_;rintro e z⟨rfl,y⟩;clear x;have x:=Aq y;clear y;go_wp2_with fail
   refine(Hz x.o q.o i.o).mono ?_;rintro e z⟨rfl,y⟩;clear x;have x:=Aq y;clear y;go_wp2_with fail
   refine(Hz x.o H.o U.o).mono ?_;rintro e z⟨rfl,y⟩;clear x;have x:=Aq y;clear y;go_wp2_with fail
   refine(Hz x.o r.o f.o).mono ?_;rintro e z⟨rfl,y⟩;clear x;have x:=Aq y;clear y;go_wp2_with fail
   refine(lE x.o A.o R.o).mono ?_;rintro e z⟨rfl,y⟩;clear x;have x:=Aq y;clear y;go_wp2_with fail
   refine(Hz x.o r.o f.o).mono ?_;rintro e z⟨rfl,y⟩;clear x;have x:=Aq y;clear y;go_wp2_with fail
   obtain⟨l,⟨S,V⟩,fu⟩:=Z.o z x.o.ma;have k:z.drew.cell? ⟨w.heap.size,0,none⟩=some (.pointer (some ⟨mb,0,none⟩))∧z.drew.cell? ⟨mb,3,none⟩=some (.slice (some ⟨g,0,none⟩) s.aF.length c)∧z.drew.cell? ⟨w.heap.size+1,0,none⟩=some (Aj axis):=⟨x.o.k1,l,x.o.k2⟩;have C:=x.o.ma.aG.lt;refine Bs (Cl [8,10,12]) (Bm [0,4,7]) (Bm []) [0,1,2,3,4,5,6,7,9,8,10,11,12] (fun w':World=>w'.cell? ⟨w.heap.size,0,none⟩=some (.pointer (some ⟨mb,0,none⟩))∧w'.cell? ⟨mb,3,none⟩=some (.slice (some ⟨g,0,none⟩) s.aF.length c)∧w'.cell? ⟨w.heap.size+1,0,none⟩=some (Aj axis)) (by kernel_rfl) (by kernel_rfl) (by kernel_rfl) (by kernel_rfl) ?_;refine Bj k ?_
   iterate 3 (refine Be ?_)
   refine Bj k ?_;refine Be ?_;refine Be ?_;refine Bj k ?_;refine Be ?_;refine Bi fun K v=>?_;go_simp
   refine(Cy _ _ _ _).mono ?_;rintro e j⟨rfl,rfl⟩;rw[Y.o];dsimp only;refine Bh v ?_;clear v K;refine Bi fun K v=>?_;go_simp
   refine(Fd _ _).mono ?_;rintro e j⟨rfl,rfl⟩;dsimp only;refine Bh v ?_;clear v K;refine Be ?_;refine Bi fun K v=>?_;go_simp
   refine Bh v ?_;clear v K;refine Bb ?_;go_wp2;go_end0;refine X.o z.drew _ x.o.ma.drew x.o.fr.drew ?_;rw[n.o];rw[Wk (by omega)];exact congrArg bA (Je (by omega) (by omega)).symm
  ·skip
   by_cases h2:N≤wp
   ·go_enter Tryz.func257,Tryz.ntmps257;go_wp2_with fail
    refine(Hz x.o r.o f.o).mono ?_;rintro e z⟨rfl,y⟩;clear x;have x:=Aq y;clear y;go_wp2_with fail
    refine(Hz x.o q.o i.o).mono ?_;rintro e z⟨rfl,y⟩;clear x;have x:=Aq y;clear y;go_wp2_with fail
    refine(Hz x.o H.o U.o).mono ?_;rintro e z⟨rfl,y⟩;clear x;have x:=Aq y;clear y;go_wp2_with fail
    refine(Hz x.o r.o f.o).mono ?_;rintro e z⟨rfl,y⟩;clear x;have x:=Aq y;clear y;go_wp2_with fail
    refine(Hz x.o q.o i.o).mono ?_;rintro e z⟨rfl,y⟩;clear x;have x:=Aq y;clear y;go_wp2_with fail
    refine(lE x.o P.o B.o).mono ?_;rintro e z⟨rfl,y⟩;clear x;have x:=Aq y;clear y;go_wp2_with fail
    refine(Hz x.o q.o i.o).mono ?_;rintro e z⟨rfl,y⟩;clear x;have x:=Aq y;clear y;go_wp2_with fail
    obtain⟨l,⟨S,V⟩,fu⟩:=Z.o z x.o.ma;have k:z.drew.cell? ⟨w.heap.size,0,none⟩=some (.pointer (some ⟨mb,0,none⟩))∧z.drew.cell? ⟨mb,3,none⟩=some (.slice (some ⟨g,0,none⟩) s.aF.length c)∧z.drew.cell? ⟨w.heap.size+1,0,none⟩=some (Aj axis):=⟨x.o.k1,l,x.o.k2⟩;have C:=x.o.ma.aG.lt;refine Bs (Cl [8,10,12]) (Bm [0,4,7]) (Bm []) [0,1,2,3,4,5,6,7,9,8,10,11,12] (fun w':World=>w'.cell? ⟨w.heap.size,0,none⟩=some (.pointer (some ⟨mb,0,none⟩))∧w'.cell? ⟨mb,3,none⟩=some (.slice (some ⟨g,0,none⟩) s.aF.length c)∧w'.cell? ⟨w.heap.size+1,0,none⟩=some (Aj axis)) (by kernel_rfl) (by kernel_rfl) (by kernel_rfl) (by kernel_rfl) ?_;refine Bj k ?_
    iterate 3 (refine Be ?_)
    refine Bj k ?_;refine Be ?_;refine Be ?_;refine Bj k ?_;refine Be ?_;refine Bi fun K v=>?_;go_simp
    refine(Cy _ _ _ _).mono ?_;rintro e j⟨rfl,rfl⟩;rw[Y.o];dsimp only;refine Bh v ?_;clear v K;refine Bi fun K v=>?_;go_simp
    refine(Fd _ _).mono ?_;rintro e j⟨rfl,rfl⟩;dsimp only;refine Bh v ?_;clear v K;refine Be ?_;refine Bi fun K v=>?_;go_simp
    refine Bh v ?_;clear v K;refine Bb ?_;go_wp2;go_end0;refine X.o z.drew _ x.o.ma.drew x.o.fr.drew ?_;rw[n.o];rw[Wj (by omega) (by omega)];exact congrArg bA (Je (by omega) (by omega)).symm
   ·go_enter Tryz.func257,Tryz.ntmps257;go_wp2_with fail
    refine(Hz x.o r.o f.o).mono ?_;rintro e z⟨rfl,y⟩;clear x;have x:=Aq y;clear y;go_wp2_with fail
    refine(Hz x.o q.o i.o).mono ?_;rintro e z⟨rfl,y⟩;clear x;have x:=Aq y;clear y;go_wp2_with fail
    refine(Hz x.o H.o U.o).mono ?_;rintro e z⟨rfl,y⟩;clear x;have x:=Aq y;clear y;go_wp2_with fail
    refine(Hz x.o r.o f.o).mono ?_;rintro e z⟨rfl,y⟩;clear x;have x:=Aq y;clear y;go_wp2_with fail
    refine(Hz x.o q.o i.o).mono ?_;rintro e z⟨rfl,y⟩;clear x;have x:=Aq y;clear y;go_wp2_with fail
    refine(Hz x.o q.o i.o).mono ?_;rintro e z⟨rfl,y⟩;clear x;have x:=Aq y;clear y;go_wp2_with fail
    refine(Hz x.o r.o f.o).mono ?_;rintro e z⟨rfl,y⟩;clear x;have x:=Aq y;clear y;go_wp2_with fail
    refine(lE x.o A.o R.o).mono ?_;rintro e z⟨rfl,y⟩;clear x;have x:=Aq y;clear y;go_wp2_with fail
    refine(Hz x.o r.o f.o).mono ?_;rintro e z⟨rfl,y⟩;clear x;have x:=Aq y;clear y;go_wp2_with fail
    refine(lE x.o P.o B.o).mono ?_;rintro e z⟨rfl,y⟩;clear x;have x:=Aq y;clear y;go_wp2_with fail
    refine(lE x.o A.o R.o).mono ?_;rintro e z⟨rfl,y⟩;clear x;have x:=Aq y;clear y;go_wp2_with fail
    refine(Jq _ _ _).mono ?_;rintro e j⟨rfl,rfl⟩;go_wp2_with fail
    obtain⟨l,⟨S,V⟩,fu⟩:=Z.o z x.o.ma;have k:z.drew.cell? ⟨w.heap.size,0,none⟩=some (.pointer (some ⟨mb,0,none⟩))∧z.drew.cell? ⟨mb,3,none⟩=some (.slice (some ⟨g,0,none⟩) s.aF.length c)∧z.drew.cell? ⟨w.heap.size+1,0,none⟩=some (Aj axis):=⟨x.o.k1,l,x.o.k2⟩;have C:=x.o.ma.aG.lt;refine Bs (Cl [8,10,12]) (Bm [0,4,7]) (Bm []) [0,1,2,3,4,5,6,7,9,8,10,11,12] (fun w':World=>w'.cell? ⟨w.heap.size,0,none⟩=some (.pointer (some ⟨mb,0,none⟩))∧w'.cell? ⟨mb,3,none⟩=some (.slice (some ⟨g,0,none⟩) s.aF.length c)∧w'.cell? ⟨w.heap.size+1,0,none⟩=some (Aj axis)) (by kernel_rfl) (by kernel_rfl) (by kernel_rfl) (by kernel_rfl) ?_;refine Bj k ?_
    iterate 3 (refine Be ?_)
    refine Bj k ?_;refine Be ?_;refine Be ?_;refine Bj k ?_;refine Be ?_;refine Bi fun K v=>?_;go_simp
    refine(Cy _ _ _ _).mono ?_;rintro e j⟨rfl,rfl⟩;rw[Y.o];dsimp only;refine Bh v ?_;clear v K;refine Bi fun K v=>?_;go_simp
    refine(Fd _ _).mono ?_;rintro e j⟨rfl,rfl⟩;dsimp only;refine Bh v ?_;clear v K;refine Be ?_;refine Bi fun K v=>?_;go_simp
    refine Bh v ?_;clear v K;refine Bb ?_;go_wp2;go_end0;refine X.o z.drew _ x.o.ma.drew x.o.fr.drew ?_;rw[n.o];rw[Wi (by omega) (by omega),←Ox];simp only[Gx]
theorem Zeo (w:World)(sb:Nat)(L:bN)(s:Sr.St)(h:ar w sb L s)(y z:Nat)(axis:Int)(f:0≤axis∧axis≤1) (k1:w.cell? ⟨y,0,none⟩=some (.pointer (some ⟨sb,0,none⟩))) (k2:w.cell? ⟨z,0,none⟩=some (Aj axis)) (p:Nat) (x:Int×Int) (u:s.m.aT[p]?=some x) :
  Calls Tryz.prog 258 #[Aj p,.pointer (some ⟨y,0,none⟩),.pointer (some ⟨z,0,none⟩)] w fun e w'=>e=.returned (Aj (Cg axis x))∧w.drew=w':=by
 have j:=(aS.1 u).1;have n:s.m.aT.length≤1000000:=by have:=h.ok.m.c_;have:=h.ok.m.dK;omega
 obtain⟨g,c,b,X,_,l,a⟩:=Cf h.og (by omega);have r:=a _ _ (Eu u axis);have cc:=h.c64;rw[b]at cc;clear h u b a;generalize k:(if axis=1 then 1 else 0:Nat)=d at r;have i:=Aq k;clear k;go_enter Tryz.func258,Tryz.ntmps258;go_wp2_with fail
 have v:w.drew.cell? ⟨y,0,none⟩=some (.pointer (some ⟨sb,0,none⟩))∧w.drew.cell? ⟨sb,64,none⟩=some (.slice (some ⟨g,0,none⟩) s.m.aT.length c)∧w.drew.cell? ⟨z,0,none⟩=some (Aj axis)∧w.drew.cell? ⟨g,p*2+d,none⟩=some (Aj (Cg axis x)):=⟨k1,cc,k2,r⟩;refine Cv [8] [0,4,7,10] [] 12 (fun wq:World=>wq.cell? ⟨y,0,none⟩=some (.pointer (some ⟨sb,0,none⟩))∧wq.cell? ⟨sb,64,none⟩=some (.slice (some ⟨g,0,none⟩) s.m.aT.length c)∧wq.cell? ⟨z,0,none⟩=some (Aj axis)∧wq.cell? ⟨g,p*2+d,none⟩=some (Aj (Cg axis x))) ?_
 iterate 8 (first|refine Be ?_|refine Bj v ?_)
 refine Bi fun K q=>?_;go_simp
 refine(Dy _ _ _ _ f.1 f.2).mono ?_;rintro e H⟨rfl,rfl⟩;rw[i.o];dsimp only;refine q _ _ (fun _=>v) ?_;clear q K
 iterate 3 (first|refine Be ?_|refine Bj v ?_)
 refine Bb ?_;go_wp2;go_ret;exact⟨rfl,rfl⟩
theorem Zjw (w:World)(sb:Nat)(L:bN)(s:Sr.St)(h:ar w sb L s)(y z:Nat)(axis:Int)(f:0≤axis∧axis≤1) (k1:w.cell? ⟨y,0,none⟩=some (.pointer (some ⟨sb,0,none⟩))) (k2:w.cell? ⟨z,0,none⟩=some (Aj axis)) (p:Nat) (x:Int×Int) (u:s.m.aF[p]?=some x) :
  Calls Tryz.prog 259 #[Aj p,.pointer (some ⟨y,0,none⟩),.pointer (some ⟨z,0,none⟩)] w fun e w'=>e=.returned (Aj (Cg axis x))∧w.drew=w':=by
 have j:=(aS.1 u).1;have n:s.m.aF.length≤1000000:=by have:=h.ok.m.c_;have:=h.ok.m.dK;omega
 obtain⟨g,c,b,X,_,l,a⟩:=Cf h.cu (by omega);have r:=a _ _ (Eu u axis);have cc:=h.gw;rw[b]at cc;clear h u b a;generalize k:(if axis=1 then 1 else 0:Nat)=d at r;have i:=Aq k;clear k;go_enter Tryz.func259,Tryz.ntmps259;go_wp2_with fail
 have v:w.drew.cell? ⟨y,0,none⟩=some (.pointer (some ⟨sb,0,none⟩))∧w.drew.cell? ⟨sb,65,none⟩=some (.slice (some ⟨g,0,none⟩) s.m.aF.length c)∧w.drew.cell? ⟨z,0,none⟩=some (Aj axis)∧w.drew.cell? ⟨g,p*2+d,none⟩=some (Aj (Cg axis x)):=⟨k1,cc,k2,r⟩;refine Cv [8] [0,4,7,10] [] 12 (fun wq:World=>wq.cell? ⟨y,0,none⟩=some (.pointer (some ⟨sb,0,none⟩))∧wq.cell? ⟨sb,65,none⟩=some (.slice (some ⟨g,0,none⟩) s.m.aF.length c)∧wq.cell? ⟨z,0,none⟩=some (Aj axis)∧wq.cell? ⟨g,p*2+d,none⟩=some (Aj (Cg axis x))) ?_
 iterate 8 (first|refine Be ?_|refine Bj v ?_)
 refine Bi fun K q=>?_;go_simp
 refine(Dy _ _ _ _ f.1 f.2).mono ?_;rintro e H⟨rfl,rfl⟩;rw[i.o];dsimp only;refine q _ _ (fun _=>v) ?_;clear q K
 iterate 3 (first|refine Be ?_|refine Bj v ?_)
 refine Bb ?_;go_wp2;go_ret;exact⟨rfl,rfl⟩
structure lx (w:World) (sb:Nat) (L:bN) (s:Sr.St) (axis:Int) (W:World):Prop where
 ma:ar W sb L s
 k1:W.cell? ⟨w.heap.size,0,none⟩=some (.pointer (some ⟨sb,0,none⟩))
 k2:W.cell? ⟨w.heap.size+1,0,none⟩=some (Aj axis)
 fr:Fr (eY L sb) w W
 ax:0≤axis∧axis≤1
section
variable {w : World} {sb : Nat} {L : bN} {s : Sr.St} {axis : Int} {W : World}
theorem lx.drew (h:lx w sb L s axis W):lx w sb L s axis W.drew:=⟨h.ma.drew,h.k1,h.k2,h.fr.drew,h.ax⟩
theorem Eg (h:lx w sb L s axis W){p:Nat}{x:Int×Int} (u:s.m.aT[p]?=some x) {v:Int} (z:Cg axis x=v) :
  Calls Tryz.prog 258 #[Aj p,.pointer (some ⟨w.heap.size,0,none⟩),.pointer (some ⟨w.heap.size+1,0,none⟩)] W fun e w'=>e=.returned (Aj v)∧lx w sb L s axis w' :=
 (Zeo W sb L s h.ma _ _ axis h.ax h.k1 h.k2 p x u).mono fun e w' y=>⟨by rw[y.1,z],by rw[←y.2];exact h.drew⟩
theorem lG (h:lx w sb L s axis W){p:Nat}{x:Int×Int} (u:s.m.aF[p]?=some x) {v:Int} (z:Cg axis x=v) :
  Calls Tryz.prog 259 #[Aj p,.pointer (some ⟨w.heap.size,0,none⟩),.pointer (some ⟨w.heap.size+1,0,none⟩)] W fun e w'=>e=.returned (Aj v)∧lx w sb L s axis w' :=
 (Zjw W sb L s h.ma _ _ axis h.ax h.k1 h.k2 p x u).mono fun e w' y=>⟨by rw[y.1,z],by rw[←y.2];exact h.drew⟩
end
theorem Qr (w:World)(sb:Nat)(L:bN)(s:Sr.St)(h:ar w sb L s)(axis:Int)(l:0≤axis∧axis≤1)(p a b:Nat)(xp xa xb yp ya yb:Int×Int)
  (I:s.m.aT[p]?=some xp) (M:s.m.aT[a]?=some xa) (N:s.m.aT[b]?=some xb) (hyp:s.m.aF[p]?=some yp) (J:s.m.aF[a]?=some ya) (G:s.m.aF[b]?=some yb) :
  Calls Tryz.prog 230 #[.pointer (some ⟨sb,0,none⟩),Aj p,Aj a,Aj b,Aj axis] w (bB w sb L { s with m := { s.m with aF:=Pq s.m.aT axis s.m.aF p a b } }):=by
 have cu:=(aS.1 hyp).1;have hv:=h.ok.m.c_;obtain⟨g,c,S,hW,_,HQ,c3⟩:=Cf h.cu (by omega);have x:Hid (lx w sb L s axis ((w.alloc (.cells #[.pointer (some ⟨sb,0,none⟩)] 98)).alloc (.cells #[Aj axis] 3))):=Aq ⟨(h.alloc _).alloc _,by rw[Cc _ _ _ (by simp)];exact(qG w _ _).cell 0,(qH _ _ _ (by simp)).cell 0,((qF _ w).alloc _).alloc _,l⟩;have Y:=Aq I;have r:=Aq M;have q:=Aq N;have D:=Aq J;have R:=Aq G;have B1:=Hh (_s:=s.m) h.ok.m.aT I axis;have B2:=Hh (_s:=s.m) h.ok.m.aT M axis;have B3:=Hh (_s:=s.m) h.ok.m.aT N axis;have B4:=Hh (_s:=s.m) h.ok.m.aF J axis;have B5:=Hh (_s:=s.m) h.ok.m.aF G axis;have X:=Aq (Op (axis:=axis) I M N J G);have V:Hid (∀(W:World),ar W sb L s→W.cell? ⟨sb,65,none⟩=some (.slice (some ⟨g,0,none⟩) s.m.aF.length c)∧(∃u,W.cell? ⟨g,p*2+(if axis=1 then 1 else 0),none⟩=some u)∧W.frozen? ⟨g,p*2+(if axis=1 then 1 else 0),none⟩=false):=Aq (fun W A=>by
  refine⟨by rw[A.gw,S],?_⟩;obtain⟨g2,c2,x2,H,_,_,_,HD,HC⟩:=A.pt cu;rw[S]at H
  injection H with H
  injection H with H
  injection H with H
  subst H;exact⟨⟨_,HD axis⟩,HC _⟩)
 have Z:Hid (∀(W:World) (u:Int),ar W sb L s→Fr (eY L sb) w W→u=bA (iJ (Kv s.m.aT s.m.aF axis p a b))→bB w sb L { s with m := { s.m with aF:=Pq s.m.aT axis s.m.aF p a b } } (.returned (.tuple #[])) (W.setCell ⟨g,p*2+(if axis=1 then 1 else 0),none⟩ (Aj u))):=Aq (fun W u A hF hu=>by
  subst hu;rw[iz hyp];unfold fm;exact .to (A.jC (by rw[S];rfl) hyp axis _ (Fq _) (A.ok.m.aF _ (Bz hyp))) (hF.setCell (.inl (.inr (.inl (by rw[S];rfl)))) _))
 clear h I M N hyp J G S c3 HQ;generalize hd:(if axis=1 then 1 else 0:Nat)=d at *;have U:=Aq hd;clear hd;generalize w6:Cg axis xp=wp at *;generalize hS:Cg axis xa=T at *;generalize hb:Cg axis xb=O at *;generalize HB:Cg axis ya=ia at *;generalize w5:Cg axis yb=ib at *;have P:=Aq w6;have f:=Aq hS;have i:=Aq hb;have B:=Aq HB;have E:=Aq w5;clear w6 hS hb HB w5;by_cases hK:O<T
 ·rw[if_pos hK]at X;by_cases h1:wp≤O
  ·go_enter Tryz.func230,Tryz.ntmps230;go_wp2_with fail
   refine(Eg x.o r.o f.o).mono ?_;rintro e z⟨rfl,y⟩;clear x;have x:=Aq y;clear y;go_wp2_with fail
   refine(Eg x.o q.o i.o).mono ?_;rintro e z⟨rfl,y⟩;clear x;have x:=Aq y;clear y;go_wp2_with fail
   refine(Eg x.o Y.o P.o).mono ?_;rintro e z⟨rfl,y⟩;clear x;have x:=Aq y;clear y;go_wp2_with fail
   refine(Eg x.o q.o i.o).mono ?_;rintro e z⟨rfl,y⟩;clear x;have x:=Aq y;clear y;go_wp2_with fail
   refine(lG x.o R.o E.o).mono ?_;rintro e z⟨rfl,y⟩;clear x;have x:=Aq y;clear y;go_wp2_with fail
   refine(Eg x.o q.o i.o).mono ?_;rintro e z⟨rfl,y⟩;clear x;have x:=Aq y;clear y;go_wp2_with fail
   obtain⟨n,⟨C,Q⟩,fu⟩:=V.o z x.o.ma;have F:=x.o.ma.aG.lt;have k:z.drew.cell? ⟨w.heap.size,0,none⟩=some (.pointer (some ⟨sb,0,none⟩))∧z.drew.cell? ⟨sb,65,none⟩=some (.slice (some ⟨g,0,none⟩) s.m.aF.length c)∧z.drew.cell? ⟨w.heap.size+1,0,none⟩=some (Aj axis):=⟨x.o.k1,n,x.o.k2⟩;refine Bs (Cl [8,10,12]) (Bm [0,4,7]) (Bm []) [0,1,2,3,4,5,6,7,9,8,10,11,12] (fun wq:World=>wq.cell? ⟨w.heap.size,0,none⟩=some (.pointer (some ⟨sb,0,none⟩))∧wq.cell? ⟨sb,65,none⟩=some (.slice (some ⟨g,0,none⟩) s.m.aF.length c)∧wq.cell? ⟨w.heap.size+1,0,none⟩=some (Aj axis)) (by kernel_rfl) (by kernel_rfl) (by kernel_rfl) (by kernel_rfl) ?_
   iterate 9 (first|refine Be ?_|refine Bj k ?_)
   refine Bi fun K v=>?_;go_simp
   refine(Dy _ _ _ _ l.1 l.2).mono ?_;rintro e j⟨rfl,rfl⟩;rw[U.o];dsimp only;refine Bh v ?_;clear v K;refine Bi fun K v=>?_;go_simp
   refine(Ed _ _).mono ?_;rintro e j⟨rfl,rfl⟩;dsimp only;refine Bh v ?_;clear v K
   iterate 1 (first|refine Be ?_|refine Bj k ?_)
   refine Bi fun K v=>?_;go_simp
   refine Bh v ?_;clear v K;refine Bb ?_;go_wp2;go_end0;refine Z.o z.drew _ x.o.ma.drew x.o.fr.drew ?_;rw[X.o];rw[Wk (by omega)];exact congrArg bA (Je (by omega) (by omega)).symm
  ·by_cases h2:T≤wp
   ·go_enter Tryz.func230,Tryz.ntmps230;go_wp2_with fail
    refine(Eg x.o r.o f.o).mono ?_;rintro e z⟨rfl,y⟩;clear x;have x:=Aq y;clear y;go_wp2_with fail
    refine(Eg x.o q.o i.o).mono ?_;rintro e z⟨rfl,y⟩;clear x;have x:=Aq y;clear y;go_wp2_with fail
    refine(Eg x.o Y.o P.o).mono ?_;rintro e z⟨rfl,y⟩;clear x;have x:=Aq y;clear y;go_wp2_with fail
    refine(Eg x.o q.o i.o).mono ?_;rintro e z⟨rfl,y⟩;clear x;have x:=Aq y;clear y;go_wp2_with fail
    refine(Eg x.o r.o f.o).mono ?_;rintro e z⟨rfl,y⟩;clear x;have x:=Aq y;clear y;go_wp2_with fail
    refine(lG x.o D.o B.o).mono ?_;rintro e z⟨rfl,y⟩;clear x;have x:=Aq y;clear y;go_wp2_with fail
    refine(Eg x.o r.o f.o).mono ?_;rintro e z⟨rfl,y⟩;clear x;have x:=Aq y;clear y;go_wp2_with fail
    obtain⟨n,⟨C,Q⟩,fu⟩:=V.o z x.o.ma;have F:=x.o.ma.aG.lt;have k:z.drew.cell? ⟨w.heap.size,0,none⟩=some (.pointer (some ⟨sb,0,none⟩))∧z.drew.cell? ⟨sb,65,none⟩=some (.slice (some ⟨g,0,none⟩) s.m.aF.length c)∧z.drew.cell? ⟨w.heap.size+1,0,none⟩=some (Aj axis):=⟨x.o.k1,n,x.o.k2⟩;refine Bs (Cl [8,10,12]) (Bm [0,4,7]) (Bm []) [0,1,2,3,4,5,6,7,9,8,10,11,12] (fun wq:World=>wq.cell? ⟨w.heap.size,0,none⟩=some (.pointer (some ⟨sb,0,none⟩))∧wq.cell? ⟨sb,65,none⟩=some (.slice (some ⟨g,0,none⟩) s.m.aF.length c)∧wq.cell? ⟨w.heap.size+1,0,none⟩=some (Aj axis)) (by kernel_rfl) (by kernel_rfl) (by kernel_rfl) (by kernel_rfl) ?_
    iterate 9 (first|refine Be ?_|refine Bj k ?_)
    refine Bi fun K v=>?_;go_simp
    refine(Dy _ _ _ _ l.1 l.2).mono ?_;rintro e j⟨rfl,rfl⟩;rw[U.o];dsimp only;refine Bh v ?_;clear v K;refine Bi fun K v=>?_;go_simp
    refine(Ed _ _).mono ?_;rintro e j⟨rfl,rfl⟩;dsimp only;refine Bh v ?_;clear v K
    iterate 1 (first|refine Be ?_|refine Bj k ?_)
    refine Bi fun K v=>?_;go_simp
    refine Bh v ?_;clear v K;refine Bb ?_;go_wp2;go_end0;refine Z.o z.drew _ x.o.ma.drew x.o.fr.drew ?_;rw[X.o];rw[Wj (by omega) (by omega)];exact congrArg bA (Je (by omega) (by omega)).symm
   ·go_enter Tryz.func230,Tryz.ntmps230;go_wp2_with fail
    refine(Eg x.o r.o f.o).mono ?_;rintro e z⟨rfl,y⟩;clear x;have x:=Aq y;clear y;go_wp2_with fail
    refine(Eg x.o q.o i.o).mono ?_;rintro e z⟨rfl,y⟩;clear x;have x:=Aq y;clear y;go_wp2_with fail
    refine(Eg x.o Y.o P.o).mono ?_;rintro e z⟨rfl,y⟩;clear x;have x:=Aq y;clear y;go_wp2_with fail
    refine(Eg x.o q.o i.o).mono ?_;rintro e z⟨rfl,y⟩;clear x;have x:=Aq y;clear y;go_wp2_with fail
    refine(Eg x.o r.o f.o).mono ?_;rintro e z⟨rfl,y⟩;clear x;have x:=Aq y;clear y;go_wp2_with fail
    refine(Eg x.o r.o f.o).mono ?_;rintro e z⟨rfl,y⟩;clear x;have x:=Aq y;clear y;go_wp2_with fail
    refine(Eg x.o q.o i.o).mono ?_;rintro e z⟨rfl,y⟩;clear x;have x:=Aq y;clear y;go_wp2_with fail
    refine(lG x.o R.o E.o).mono ?_;rintro e z⟨rfl,y⟩;clear x;have x:=Aq y;clear y;go_wp2_with fail
    refine(Eg x.o q.o i.o).mono ?_;rintro e z⟨rfl,y⟩;clear x;have x:=Aq y;clear y;go_wp2_with fail
    refine(lG x.o D.o B.o).mono ?_;rintro e z⟨rfl,y⟩;clear x;have x:=Aq y;clear y;go_wp2_with fail
    refine(lG x.o R.o E.o).mono ?_;rintro e z⟨rfl,y⟩;clear x;have x:=Aq y;clear y;go_wp2_with fail
    refine(Ih _ _ _).mono ?_;rintro e j⟨rfl,rfl⟩;go_wp2_with fail
    obtain⟨n,⟨C,Q⟩,fu⟩:=V.o z x.o.ma;have F:=x.o.ma.aG.lt;have k:z.drew.cell? ⟨w.heap.size,0,none⟩=some (.pointer (some ⟨sb,0,none⟩))∧z.drew.cell? ⟨sb,65,none⟩=some (.slice (some ⟨g,0,none⟩) s.m.aF.length c)∧z.drew.cell? ⟨w.heap.size+1,0,none⟩=some (Aj axis):=⟨x.o.k1,n,x.o.k2⟩;refine Bs (Cl [8,10,12]) (Bm [0,4,7]) (Bm []) [0,1,2,3,4,5,6,7,9,8,10,11,12] (fun wq:World=>wq.cell? ⟨w.heap.size,0,none⟩=some (.pointer (some ⟨sb,0,none⟩))∧wq.cell? ⟨sb,65,none⟩=some (.slice (some ⟨g,0,none⟩) s.m.aF.length c)∧wq.cell? ⟨w.heap.size+1,0,none⟩=some (Aj axis)) (by kernel_rfl) (by kernel_rfl) (by kernel_rfl) (by kernel_rfl) ?_
    iterate 9 (first|refine Be ?_|refine Bj k ?_)
    refine Bi fun K v=>?_;go_simp
    refine(Dy _ _ _ _ l.1 l.2).mono ?_;rintro e j⟨rfl,rfl⟩;rw[U.o];dsimp only;refine Bh v ?_;clear v K;refine Bi fun K v=>?_;go_simp
    refine(Ed _ _).mono ?_;rintro e j⟨rfl,rfl⟩;dsimp only;refine Bh v ?_;clear v K
    iterate 1 (first|refine Be ?_|refine Bj k ?_)
    refine Bi fun K v=>?_;go_simp
    refine Bh v ?_;clear v K;refine Bb ?_;go_wp2;go_end0;refine Z.o z.drew _ x.o.ma.drew x.o.fr.drew ?_;rw[X.o];rw[Wi (by omega) (by omega),←Ox];simp only[Gx]
 ·rw[if_neg hK]at X;by_cases h1:wp≤T
  ·go_enter Tryz.func230,Tryz.ntmps230;go_wp2_with fail
   refine(Eg x.o r.o f.o).mono ?_;rintro e z⟨rfl,y⟩;clear x;have x:=Aq y;clear y;go_wp2_with fail
   refine(Eg x.o q.o i.o).mono ?_;rintro e z⟨rfl,y⟩;clear x;have x:=Aq y;clear y;go_wp2_with fail
   refine(Eg x.o Y.o P.o).mono ?_;rintro e z⟨rfl,y⟩;clear x;have x:=Aq y;clear y;go_wp2_with fail
   refine(Eg x.o r.o f.o).mono ?_;rintro e z⟨rfl,y⟩;clear x;have x:=Aq y;clear y;go_wp2_with fail
   refine(lG x.o D.o B.o).mono ?_;rintro e z⟨rfl,y⟩;clear x;have x:=Aq y;clear y;go_wp2_with fail
   refine(Eg x.o r.o f.o).mono ?_;rintro e z⟨rfl,y⟩;clear x;have x:=Aq y;clear y;go_wp2_with fail
   obtain⟨n,⟨C,Q⟩,fu⟩:=V.o z x.o.ma;have F:=x.o.ma.aG.lt;have k:z.drew.cell? ⟨w.heap.size,0,none⟩=some (.pointer (some ⟨sb,0,none⟩))∧z.drew.cell? ⟨sb,65,none⟩=some (.slice (some ⟨g,0,none⟩) s.m.aF.length c)∧z.drew.cell? ⟨w.heap.size+1,0,none⟩=some (Aj axis):=⟨x.o.k1,n,x.o.k2⟩;refine Bs (Cl [8,10,12]) (Bm [0,4,7]) (Bm []) [0,1,2,3,4,5,6,7,9,8,10,11,12] (fun wq:World=>wq.cell? ⟨w.heap.size,0,none⟩=some (.pointer (some ⟨sb,0,none⟩))∧wq.cell? ⟨sb,65,none⟩=some (.slice (some ⟨g,0,none⟩) s.m.aF.length c)∧wq.cell? ⟨w.heap.size+1,0,none⟩=some (Aj axis)) (by kernel_rfl) (by kernel_rfl) (by kernel_rfl) (by kernel_rfl) ?_
   iterate 9 (first|refine Be ?_|refine Bj k ?_)
   refine Bi fun K v=>?_;go_simp
   refine(Dy _ _ _ _ l.1 l.2).mono ?_;rintro e j⟨rfl,rfl⟩;rw[U.o];dsimp only;refine Bh v ?_;clear v K;refine Bi fun K v=>?_;go_simp
   refine(Ed _ _).mono ?_;rintro e j⟨rfl,rfl⟩;dsimp only;refine Bh v ?_;clear v K
   iterate 1 (first|refine Be ?_|refine Bj k ?_)
   refine Bi fun K v=>?_;go_simp
   refine Bh v ?_;clear v K;refine Bb ?_;go_wp2;go_end0;refine Z.o z.drew _ x.o.ma.drew x.o.fr.drew ?_;rw[X.o];rw[Wk (by omega)];exact congrArg bA (Je (by omega) (by omega)).symm
  ·by_cases h2:O≤wp
   ·go_enter Tryz.func230,Tryz.ntmps230;go_wp2_with fail
    refine(Eg x.o r.o f.o).mono ?_;rintro e z⟨rfl,y⟩;clear x;have x:=Aq y;clear y;go_wp2_with fail
    refine(Eg x.o q.o i.o).mono ?_;rintro e z⟨rfl,y⟩;clear x;have x:=Aq y;clear y;go_wp2_with fail
    refine(Eg x.o Y.o P.o).mono ?_;rintro e z⟨rfl,y⟩;clear x;have x:=Aq y;clear y;go_wp2_with fail
    refine(Eg x.o r.o f.o).mono ?_;rintro e z⟨rfl,y⟩;clear x;have x:=Aq y;clear y;go_wp2_with fail
    refine(Eg x.o q.o i.o).mono ?_;rintro e z⟨rfl,y⟩;clear x;have x:=Aq y;clear y;go_wp2_with fail
    refine(lG x.o R.o E.o).mono ?_;rintro e z⟨rfl,y⟩;clear x;have x:=Aq y;clear y;go_wp2_with fail
    refine(Eg x.o q.o i.o).mono ?_;rintro e z⟨rfl,y⟩;clear x;have x:=Aq y;clear y;go_wp2_with fail
    obtain⟨n,⟨C,Q⟩,fu⟩:=V.o z x.o.ma;have F:=x.o.ma.aG.lt;have k:z.drew.cell? ⟨w.heap.size,0,none⟩=some (.pointer (some ⟨sb,0,none⟩))∧z.drew.cell? ⟨sb,65,none⟩=some (.slice (some ⟨g,0,none⟩) s.m.aF.length c)∧z.drew.cell? ⟨w.heap.size+1,0,none⟩=some (Aj axis):=⟨x.o.k1,n,x.o.k2⟩;refine Bs (Cl [8,10,12]) (Bm [0,4,7]) (Bm []) [0,1,2,3,4,5,6,7,9,8,10,11,12] (fun wq:World=>wq.cell? ⟨w.heap.size,0,none⟩=some (.pointer (some ⟨sb,0,none⟩))∧wq.cell? ⟨sb,65,none⟩=some (.slice (some ⟨g,0,none⟩) s.m.aF.length c)∧wq.cell? ⟨w.heap.size+1,0,none⟩=some (Aj axis)) (by kernel_rfl) (by kernel_rfl) (by kernel_rfl) (by kernel_rfl) ?_
    iterate 9 (first|refine Be ?_|refine Bj k ?_)
    refine Bi fun K v=>?_;go_simp
    refine(Dy _ _ _ _ l.1 l.2).mono ?_;rintro e j⟨rfl,rfl⟩;rw[U.o];dsimp only;refine Bh v ?_;clear v K;refine Bi fun K v=>?_;go_simp
    refine(Ed _ _).mono ?_;rintro e j⟨rfl,rfl⟩;dsimp only;refine Bh v ?_;clear v K
    iterate 1 (first|refine Be ?_|refine Bj k ?_)
    refine Bi fun K v=>?_;go_simp
    refine Bh v ?_;clear v K;refine Bb ?_;go_wp2;go_end0;refine Z.o z.drew _ x.o.ma.drew x.o.fr.drew ?_;rw[X.o];rw[Wj (by omega) (by omega)];exact congrArg bA (Je (by omega) (by omega)).symm
   ·go_enter Tryz.func230,Tryz.ntmps230;go_wp2_with fail
    refine(Eg x.o r.o f.o).mono ?_;rintro e z⟨rfl,y⟩;clear x;have x:=Aq y;clear y;go_wp2_with fail
    refine(Eg x.o q.o i.o).mono ?_;rintro e z⟨rfl,y⟩;clear x;have x:=Aq y;clear y;go_wp2_with fail
    refine(Eg x.o Y.o P.o).mono ?_;rintro e z⟨rfl,y⟩;clear x;have x:=Aq y;clear y;go_wp2_with fail
    refine(Eg x.o r.o f.o).mono ?_;rintro e z⟨rfl,y⟩;clear x;have x:=Aq y;clear y;go_wp2_with fail
    refine(Eg x.o q.o i.o).mono ?_;rintro e z⟨rfl,y⟩;clear x;have x:=Aq y;clear y;go_wp2_with fail
    refine(Eg x.o q.o i.o).mono ?_;rintro e z⟨rfl,y⟩;clear x;have x:=Aq y;clear y;go_wp2_with fail
    refine(Eg x.o r.o f.o).mono ?_;rintro e z⟨rfl,y⟩;clear x;have x:=Aq y;clear y;go_wp2_with fail
    refine(lG x.o D.o B.o).mono ?_;rintro e z⟨rfl,y⟩;clear x;have x:=Aq y;clear y;go_wp2_with fail
    refine(Eg x.o r.o f.o).mono ?_;rintro e z⟨rfl,y⟩;clear x;have x:=Aq y;clear y;go_wp2_with fail
    refine(lG x.o R.o E.o).mono ?_;rintro e z⟨rfl,y⟩;clear x;have x:=Aq y;clear y;go_wp2_with fail
    refine(lG x.o D.o B.o).mono ?_;rintro e z⟨rfl,y⟩;clear x;have x:=Aq y;clear y;go_wp2_with fail
    refine(Ih _ _ _).mono ?_;rintro e j⟨rfl,rfl⟩;go_wp2_with fail
    obtain⟨n,⟨C,Q⟩,fu⟩:=V.o z x.o.ma;have F:=x.o.ma.aG.lt;have k:z.drew.cell? ⟨w.heap.size,0,none⟩=some (.pointer (some ⟨sb,0,none⟩))∧z.drew.cell? ⟨sb,65,none⟩=some (.slice (some ⟨g,0,none⟩) s.m.aF.length c)∧z.drew.cell? ⟨w.heap.size+1,0,none⟩=some (Aj axis):=⟨x.o.k1,n,x.o.k2⟩;refine Bs (Cl [8,10,12]) (Bm [0,4,7]) (Bm []) [0,1,2,3,4,5,6,7,9,8,10,11,12] (fun wq:World=>wq.cell? ⟨w.heap.size,0,none⟩=some (.pointer (some ⟨sb,0,none⟩))∧wq.cell? ⟨sb,65,none⟩=some (.slice (some ⟨g,0,none⟩) s.m.aF.length c)∧wq.cell? ⟨w.heap.size+1,0,none⟩=some (Aj axis)) (by kernel_rfl) (by kernel_rfl) (by kernel_rfl) (by kernel_rfl) ?_
    iterate 9 (first|refine Be ?_|refine Bj k ?_)
    refine Bi fun K v=>?_;go_simp
    refine(Dy _ _ _ _ l.1 l.2).mono ?_;rintro e j⟨rfl,rfl⟩;rw[U.o];dsimp only;refine Bh v ?_;clear v K;refine Bi fun K v=>?_;go_simp
    refine(Ed _ _).mono ?_;rintro e j⟨rfl,rfl⟩;dsimp only;refine Bh v ?_;clear v K
    iterate 1 (first|refine Be ?_|refine Bj k ?_)
    refine Bi fun K v=>?_;go_simp
    refine Bh v ?_;clear v K;refine Bb ?_;go_wp2;go_end0;refine Z.o z.drew _ x.o.ma.drew x.o.fr.drew ?_;rw[X.o];rw[Wi (by omega) (by omega),←Ox];simp only[Gx]
end
end Go.Proofs.YtnhebmgibiomnaaGreat

import Derived.Test.YtnhebmgibiomnaaGreatPh8
set_option linter.unusedVariables false
set_option linter.unusedSimpArgs false
set_option maxRecDepth 100000
set_option maxHeartbeats 8000000
namespace Go.Proofs.YtnhebmgibiomnaaGreat
section
open Go.RowKit Mc
theorem Zkj (v:Value)(vs:List Value)(f:Fm)(fs:List Fm)(x:vs.length=fs.length):(gd (v::vs) (f::fs))[fs.length*3]?=some v∧(gd (v::vs) (f::fs))[fs.length*3+1]?=some (Aj f.next)∧(gd (v::vs) (f::fs))[fs.length*3+2]?=some (Aj f.a_):=by
 have:=Kg vs fs x;simp only[gd];refine⟨?_,?_,?_⟩ <;> rw[Dp (by omega),this] <;> simp
theorem Pk (v:Value)(vs:List Value)(f:Fm)(fs:List Fm)(x:vs.length=fs.length)(n:Nat):(gd (v::vs) (f::fs)).set (fs.length*3+1) (Aj n)=gd (v::vs) ({ f with next:=n } :: fs):=by
 have:=Kg vs fs x;simp only[gd];rw[oI _ _ (by omega),this];simp
theorem Zga (v:Value)(vs:List Value)(f:Fm)(fs:List Fm)(x:vs.length=fs.length)(n:Nat):(gd (v::vs) (f::fs)).set (fs.length*3+2) (Aj n)=gd (v::vs) ({ f with a_:=n } :: fs):=by
 have:=Kg vs fs x;simp only[gd];rw[oI _ _ (by omega),this];simp
theorem Zfz (v:Value)(vs:List Value)(f:Fm)(fs:List Fm)(x:vs.length=fs.length):(gd (v::vs) (f::fs)).take (fs.length*3)=gd vs fs:=by
 simp only[gd];exact List.take_left' (Kg vs fs x)
structure nj (w:World) (mb:Nat) (O:Nat→Prop) (L:bd) (s:St) (f:Fm) (r:List Fm) (g c:Nat) (v:Value) (vs:List Value):Prop where
 fr:L.fr=.slice (some ⟨g,0,none⟩) (r.length+1) c
 iu:L.iu=v::vs
 n_:vs.length=r.length
 dA:r.length+1≤c
 capm:c≤maxLen
 gO:O g
 glt:g<w.heap.size
 gmb:g≠mb
 c0:w.cell? ⟨g,r.length*3,none⟩=some v
 c1:w.cell? ⟨g,r.length*3+1,none⟩=some (Aj f.next)
 c2:w.cell? ⟨g,r.length*3+2,none⟩=some (Aj f.a_)
 fz:∀j,w.frozen? ⟨g,j,none⟩=false
 aA:dK w O 96 2 v f.aA.length (bq f.aA)
 mP:cI w O vs (r.map (·.aA))
section
variable {w w' : World} {mb : Nat} {O : Nat → Prop} {L : bd} {s : St} {f : Fm} {r : List Fm}
theorem ag.bk (h:ag w mb O L s)(i:s.aD=f::r):∃g c v vs,nj w mb O L s f r g c v vs:=by
 have u:=h.fr;have x:=h.kH;rw[i]at u x;obtain⟨g,c,k,d,e,a,q,y,b⟩:=u.aK (by simp);rcases z:L.iu with _|⟨v,vs⟩
 ·rw[z]at x;exact x.elim
 rw[z]at x y;have p:vs.length=r.length:=by simpa using x.2.len
 obtain⟨k0,k1,k2⟩:=Zkj v vs f r p;exact⟨g,c,v,vs,by simpa using k,z,p,by simpa using d,e,a,q,u.bz h.aG (by decide) (by rw[k];rfl),y _ _ k0,y _ _ k1,y _ _ k2,b,x.1,x.2⟩
theorem nj.aQ {g c:Nat}{v:Value}{vs:List Value}(x:nj w mb O L s f r g c v vs) (y:∀k,O k→w'.heap[k]?=w.heap[k]?) (p:w.heap.size≤w'.heap.size):nj w' mb O L s f r g c v vs :=
 ⟨x.fr,x.iu,x.n_,x.dA,x.capm,x.gO,Dm x.glt p,x.gmb,(pL (w:=w) (y g x.gO)).trans x.c0,(pL (w:=w) (y g x.gO)).trans x.c1,(pL (w:=w) (y g x.gO)).trans x.c2,fun j=>(World.frozen?_of_block (w:=w) (y g x.gO)).trans (x.fz j),x.aA.aQ (fun k u=>y k (x.aA.2 k u)) (fun _ h=>h),x.mP.aQ (fun k _ z _=>y k z) (fun _ h=>h)⟩
theorem Mc.Ok.dv (h:Ok s){fs:List Fm}(x:∀f∈fs,f.next≤f.aA.length∧f.a_≤15∧f.aA.length≤1000000)(y:fs.length≤21):Ok { s with aD:=fs } :=
 ⟨h.stack,h.dg,h.aP,h.store,h.dR,h.aF,h.aT,h.dL,h.aB,h.tl,h.size,h.look,h.move,h.bG,h.aL,x,y,h.funcs,h.jy,h.bH,h.ej,h.cX,h.iC,h.fY⟩
theorem eH.dv (h:eH L s)(fs:List Fm):eH L { s with aD:=fs } := ⟨h.sz,h.dR,h.st,h.c0,h.c1,h.c2,h.c3,h.c4,h.c5,h.c6,h.c7,h.dY,h.iJ,h.dH,h.dO,h.gW,h.gV,h.gB,h.ey,h.iH,h.gx⟩
theorem ag.jb (h:ag w mb O L s)(p:s.aD=f::r){g c:Nat}{v:Value}{vs:List Value}(z:nj w mb O L s f r g c v vs){f':Fm}{j:Nat}{n:Nat} (H:j<(r.length+1)*3) (a:f'.aA=f.aA)
  (l:(gd (v::vs) (f::r)).set j (Aj n)=gd (v::vs) (f'::r)) (d:f'.next≤f'.aA.length∧f'.a_≤15) :
  ag (w.setCell ⟨g,j,none⟩ (Aj n)) mb O L { s with aD:=f'::r } := by
 have bU:L.fr.ownBlock=some g:=by rw[z.fr];rfl
 have i:=h.fr;rw[p,z.iu]at i;have X:=Kg (v::vs) (f::r) (by simp[z.n_]);have b:=i.aZ bU (j:=j) (by rw[X];simpa using H) (Aj n);rw[l]at b;have y:∀k,k≠g→(w.setCell ⟨g,j,none⟩ (Aj n)).heap[k]?=w.heap[k]?:=fun k y=>Bp _ _ _ _ y
 have o:cI (w.setCell ⟨g,j,none⟩ (Aj n)) O (v::vs) ((f'::r).map (·.aA)):=by
  have:=h.kH;rw[p,z.iu]at this;simp only[ol,a]at this ⊢;refine this.aQ (fun k cs V Z=>y k (fun e=>?_)) (fun _ h=>h);obtain⟨_,_,Q,K⟩:=h.fr.block bU;subst e;exact Z.dF K (by decide) rfl
 have U:=h.ok.aD f (by rw[p];simp);have:=h.dv (u:=L.fr) (cs':=L.cs) (vs:=v::vs) (fs:=f'::r) o ((y mb z.gmb.symm).trans h.aG) (by rw[←z.iu];exact h.c.dv (f'::r)) (by simpa using b) (fun P m=>.inl m) (fun k _ _ Y=>y k (fun e=>Y (by rw[bU,e]))) (fun _ h=>h) (fun k y=>by have:=h.eQ k y;simpa [World.setCell]using this)
  (h.ok.dv (fun x q=>by
   rcases List.mem_cons.1 q with rfl|q
   ·exact⟨d.1,d.2,by rw[a];exact U.2.2⟩
   ·exact h.ok.aD x (by rw[p];exact oJ _ q)) (by have:=h.ok.fW;rw[p]at this;simpa using this))
 rw[←z.iu]at this;exact this
end
theorem Zfc {s:St}{f:Fm}{r:List Fm}(x:s.aD=f::r)(n:Nat):bv s n = { s with aD := { f with next:=f.next+n } :: r } := by
 unfold bv;rw[x];simp
theorem Uz (w:World)(mb:Nat)(O:Nat→Prop)(L:bd)(s:St)(h:ag w mb O L s)(f:Fm)(r:List Fm)(y:s.aD=f::r)(n:Nat)(X:f.next+n≤f.aA.length) :
  Calls Tryz.prog 216 #[.pointer (some ⟨mb,0,none⟩),Aj n] w (aw w mb O (bv s n)):=by
 obtain⟨g,c,v,vs,x⟩:=h.bk y;have z:=h.ok.aD f (by rw[y];simp);have e:=h.drew.jb y (f' := { f with next:=f.next+n }) (n:=f.next+n) (j:=r.length*3+1) (x.aQ (fun _ _=>rfl) Aw) (by omega) rfl (Pk v vs f r x.n_ _) ⟨X,z.2.1⟩;have H:Hid (aw w mb O (bv s n) (.returned (.tuple #[])) (w.drew.setCell ⟨g,r.length*3+1,none⟩ (Aj (f.next+n:Nat)))):=Aq (by rw[Zfc y];exact .dD e ((qu O w).drew.setCell (.inl x.gO) _));have q:=h.aG.cell 1;rw[h.c.c1,x.fr]at q;have Z:=x.c1;have R:=x.fz (r.length*3+1);have Q:=x.glt;have Y:=x.dA;have U:=x.gmb;have S:=h.aG.lt;have a:=h.ok.fW;rw[y,Bo]at a;have A:=z.1;have P:=z.2.2;clear h e x y z;generalize l:r.length=m at *;generalize i:f.next=u at *;clear l i;obtain⟨k,V,B,d⟩:∃k,m<k∧k≤m+1∧m+1=k:=⟨m+1,by omega,by omega,rfl⟩;rw[d]at q Y a;clear d;have p:w.drew.cell? ⟨mb,1,none⟩=some (.slice (some ⟨g,0,none⟩) k c)∧w.drew.cell? ⟨g,m*3+1,none⟩=some (Aj u):=⟨q,Z⟩;go_enter Tryz.func216,Tryz.ntmps216;go_wp2_with fail
 refine Cr [17] [3,7,12] [] 18 (fun w':World=>w'.cell? ⟨mb,1,none⟩=some (.slice (some ⟨g,0,none⟩) k c)∧w'.cell? ⟨g,m*3+1,none⟩=some (Aj u)) ?_
 iterate 3 (refine Be ?_)
 refine Bj p ?_
 iterate 3 (refine Be ?_)
 refine Bj p ?_;refine Be ?_;refine Hb (v:=Aj (m:Int)) rfl rfl rfl (by kernel_rfl) (fun _ _ _ h=>h) (fun wq=>by(go_simp;rw[Do _ (by omega)];omega)) ?_;refine Be ?_;refine Be ?_;refine Bj p ?_;refine Be ?_;refine Hb (v:=Aj ((u+n:Nat):Int)) rfl rfl rfl (by kernel_rfl) (fun _ _ _ h=>h) (fun wq=>by(go_simp;rw[Do _ (by omega)])) ?_;refine Be ?_;refine Be ?_;refine Bi fun K b=>?_;go_simp
 refine Bh b ?_;clear b K;refine Bb ?_;go_wp2;go_end0;exact H.o
end
section
open Go.RowKit Mc
theorem Xs:(Tryz.prog.info? 205).map (fun i=>(i.zero,i.size,i.bytes))=some (some (.agg #[.slice none 0 0,Aj 0,Aj 0]),3,40):=by kernel_rfl
section
variable {w w1 : World} {mb : Nat} {O : Nat → Prop} {L : bd} {s : St}
theorem ag.nL (h:ag w mb O L s){u v:Value} {aA:List (Int×Int)} {a_:Nat} (b:dK w O 96 2 v aA.length (bq aA)) (H:aA.length≤1000000) (m:a_≤15) (Y:s.aD.length<21)
  (f:dK w1 (ext O w w1) 205 3 u (s.aD.length+1) (gd L.iu s.aD++[v,Aj 0,Aj a_])) (x:w.grownBy w1 L.fr.ownBlock) (X:∀g,u.ownBlock=some g→L.fr.ownBlock=some g∨w.heap.size≤g) :
  (∃cs,aH w1 mb 212 cs∧cs.size=50)∧(∃L',ag (w1.setCell ⟨mb,1,none⟩ u) mb (ext O w w1) L' { s with aD:=⟨aA,0,a_⟩::s.aD })∧Fr O w (w1.setCell ⟨mb,1,none⟩ u):=by
 have p:aH w1 mb 212 L.cs:=h.aG.grown x fun e=>h.fr.bz h.aG (by decide) e.symm rfl
 have n:=x.size;have z:∀k,O k→k≠mb→some k≠L.fr.ownBlock→(w1.setCell ⟨mb,1,none⟩ u).heap[k]?=w.heap[k]?:=by
  intro k z a q;rw[Bp _ _ _ _ a];exact x.block k (h.eQ k z) q
 have d:∀k cs,O k→aH w k 96 cs→(w1.setCell ⟨mb,1,none⟩ u).heap[k]?=w.heap[k]?:=fun k cs o i=>z k o (i.dF h.aG (by decide)) (fun e=>by obtain⟨_,_,Z,K⟩:=h.fr.block e.symm;exact i.dF K (by decide) rfl)
 refine⟨⟨_,p,h.c.sz⟩,⟨_,h.dv (u:=u) (vs:=v::L.iu) (fs:=⟨aA,0,a_⟩::s.aD) ?_ (p.aZ 1 u) (h.c.lh _ _ _) ?_ X z (fun _ h=>.inl h) ?_ (h.ok.dv ?_ ?_)⟩,?_⟩
 ·exact⟨b.aQ (fun g x=>by obtain⟨a,_,cs,q⟩:=b.block x;exact d g cs a q) (fun _ h=>.inl h),h.kH.aQ d (fun _ h=>.inl h)⟩
 ·have:=f.aQ (w':=w1.setCell ⟨mb,1,none⟩ u) (O':=ext O w w1) (fun g l=>Bp _ _ _ _ (fun (e:g=mb)=>f.bz p (by decide) l e)) (fun _ h=>h)
  simpa [gd]using this
 ·intro k z;have:=h.gu n k z
  simpa [World.setCell]using this
 ·intro y r;rcases List.mem_cons.1 r with rfl|r
  ·exact⟨By _,m,H⟩
  ·exact h.ok.aD y r
 ·simp only[Bo];omega
 ·exact qJ (⟨x.os,x.tape,x.output,x.size,fun k z j=>x.block k z (fun e=>j (h.fr.2 k e.symm))⟩) (.inl h.ew) _
end
theorem Zgi {s:St}{a:Nat}{t:Int} {aA:List (Int×Int)} (x:s.funcs[a]?=some aA) (y:0<t):call s a t = { s with aD:=⟨aA,0,(t-1).toNat⟩::s.aD } := by
 unfold call;rw[if_pos y,Cw,Da x]
theorem Zkr {s:St}{a t:Int}(x:¬ 0<t):call s a t=s:=by unfold call;rw[if_neg x]
theorem Pp (w:World)(mb:Nat)(O:Nat→Prop)(L:bd)(s:St)(h:ag w mb O L s)(a:Nat)(ha:a<s.funcs.length)(t:Int)(ht:t≤16)(HP:s.aD.length≤20) :
  Calls Tryz.prog 220 #[.pointer (some ⟨mb,0,none⟩),Aj a,Aj t] w (aw w mb O (call s a t)):=by
 by_cases U:0<t
 ·obtain⟨aA,r⟩:∃x,s.funcs[a]?=some x:=⟨_,Bg ha⟩;obtain⟨T,N,E,G,hc⟩:=Eu Xs;obtain⟨n,rfl⟩:∃n:Nat,t=(n+1:Nat):=⟨(t-1).toNat,by omega⟩;have I:Hid (call s a ((n+1:Nat):Int) = { s with aD:=⟨aA,0,n⟩::s.aD }):=Aq (by rw[Zgi r U];simp);obtain⟨v,Z,m⟩:=h.jZ.get r;obtain⟨g,f,j,cf,_,hg,J,S,Ac⟩:=h.fu.aK (by omega);have Y:=S _ _ Z;have c0:=h.aG.cell 0;rw[h.c.c0,j]at c0;have b:=h.aG.cell 1;rw[h.c.c1]at b;obtain⟨z,cc,F,_,_⟩:=m.form;have P:=Aq m;have H:=Aq h;have hS:=h.ok.jy;have hK:=h.ok.funcs aA (Bx r);have Q:=h.aG.lt;have e1:mb≠g:=(h.fu.bz h.aG (by decide) (show L.fu.ownBlock=some g by rw[j];rfl)).symm;subst F;have M:n≤15:=by omega
  have d:w.drew.cell? ⟨mb,0,none⟩=some (.slice (some ⟨g,0,none⟩) s.funcs.length f)∧w.drew.cell? ⟨mb,1,none⟩=some L.fr∧w.drew.cell? ⟨g,a,none⟩=some (.slice z aA.length cc):=⟨c0,b,Y⟩;have V:=Aq (h.drew.alloc (.cells #[.slice z aA.length cc,Aj 0,Aj n] 205));have hk:(w.drew.alloc (.cells #[.slice z aA.length cc,Aj 0,Aj n] 205)).cell? ⟨mb,0,none⟩=some (.slice (some ⟨g,0,none⟩) s.funcs.length f)∧(w.drew.alloc (.cells #[.slice z aA.length cc,Aj 0,Aj n] 205)).cell? ⟨mb,1,none⟩=some L.fr∧(w.drew.alloc (.cells #[.slice z aA.length cc,Aj 0,Aj n] 205)).cell? ⟨g,a,none⟩=some (.slice z aA.length cc):=⟨(Cb _ _ _ (by simpa using Q)).trans c0,(Cb _ _ _ (by simpa using Q)).trans b,(Cb _ _ _ (by simpa using J)).trans Y⟩;clear h m S Ac j r Z c0 b Y;go_enter Tryz.func220,Tryz.ntmps220;go_wp2_with fail
  refine Cr [15,16,19] [4,8,11] [15] 20 (fun w':World=>w'.cell? ⟨mb,0,none⟩=some (.slice (some ⟨g,0,none⟩) s.funcs.length f)∧w'.cell? ⟨mb,1,none⟩=some L.fr∧w'.cell? ⟨g,a,none⟩=some (.slice z aA.length cc)) ?_
  iterate 4 (refine Be ?_)
  refine Bj d ?_
  iterate 3 (refine Be ?_)
  refine Bj d ?_;refine Be ?_;refine Be ?_;refine Bj d ?_;refine Be ?_;refine Hb (v:=Aj (n:Int)) rfl rfl rfl (by kernel_rfl) (fun _ _ _ h=>h) (fun wq=>by(go_simp;rw[Do _ (by omega)])) ?_;refine Be ?_;refine Bi fun K p=>?_;go_simp
  refine p _ _ (fun _=>hk) ?_;clear p K;refine Bi fun K p=>?_
  refine Ug _ rfl (.tmp 12) (.tmp 23) _ rfl 205 T _ 3 40 Tryz.underlying206 N E G hc rfl (by decide) _ _ _ _ rfl V.o.fr _ _ 1 1 [.slice z aA.length cc,Aj 0,Aj n] rfl (qB (cs:=[.slice z aA.length cc,Aj 0,Aj n]) (qv _ _ _) 3 1 rfl) (by simp[Value.oneCell']) (by unfold maxLen;omega) (by omega) ?_;intro v' W l B C;obtain⟨Av,nv,cv,c1⟩:∃A n c,v'=.slice A n c:=by obtain⟨A,c,e,_⟩:=l.form;exact⟨A,_,c,e⟩
  obtain⟨⟨cs,q,hv⟩,⟨L2,i⟩,D⟩:=V.o.nL (P.o.aQ (fun k y=>oW _ _ _ (by have:=(P.o.block y).2.1;simpa using this)) (fun _ h=>h)) hK M (by omega) l B C;have X:Hid (aw w mb O (call s a ((n+1:Nat):Int)) (.returned (.tuple #[])) (W.setCell ⟨mb,1,none⟩ v')):=Aq (by
   rw[I.o];exact aw.bL ((qu O w).drew.alloc _) ⟨rfl,⟨_,i.mono (fun k y=>by rcases y with y|y;exact .inl y;exact .inr ⟨y.1,by simpa [World.setCell]using y.2⟩) (fun k y=>i.eQ k (by rcases y with y|y;exact .inl y;exact .inr ⟨y.1,by simpa [World.setCell]using y.2⟩))⟩,D⟩)
  obtain⟨u1,R⟩:∃u,cs[1]?=some u:=⟨_,qj (by omega)⟩;have k0:=q.cell 1;rw[R]at k0;have k1:=q.frozen 1;have k2:=q.lt;clear i D q l R B C;subst c1;refine Bh p ?_;clear p K;refine Be ?_;refine Be ?_;refine Bi fun K p=>?_;go_simp
  refine Bh p ?_;clear p K;refine Bb ?_;go_wp2;go_end0;exact X.o
 ·have X:=Aq (aw.dD h (qu O w));rw[Zkr U];clear h;go_enter Tryz.func220,Tryz.ntmps220;go_wp2;go_end0;exact X.o
end
section
open Go.RowKit Mc
theorem Zbo (w:World)(mb:Nat)(O:Nat→Prop)(L:bd)(s:St)(h:ag w mb O L s)(f:Fm)(r:List Fm)(z:s.aD=f::r)(n:Nat)(x:f.next+n≤f.aA.length) :
  Calls Tryz.prog 215 #[.pointer (some ⟨mb,0,none⟩),Aj n] w (aw w mb O (bv s n)):=by
 have v:=Aq (Uz w mb O L s h f r z n x);clear h z x;go_enter Tryz.func215,Tryz.ntmps215;go_wp2_with fail
 refine v.o.mono ?_;intro e k y;have u:=Aq y;obtain⟨rfl,_⟩:=y;go_wp2;go_end0;exact u.o
def Ks (s:St)(r:List Int)(x a:Int):St:=if x=0 then bv { s with stack:=r } a else { s with stack:=r }
theorem Xm (s:St)(r:List Int)(a:Int):Ks s r 0 a=bv { s with stack:=r } a:=by unfold Ks;rw[if_pos rfl]
theorem Zbp (s:St)(r:List Int){x:Int}(y:x≠0)(a:Int):Ks s r x a = { s with stack:=r } := by unfold Ks;rw[if_neg y]
theorem Nd (w:World)(mb:Nat)(O:Nat→Prop)(L:bd)(s:St)(h:ag w mb O L s)(x:Int)(l:List Int)(a:s.stack=x::l)(f:Fm)(r:List Fm)(i:s.aD=f::r)(n:Nat)(c:f.next+n≤f.aA.length) :
  Calls Tryz.prog 218 #[.pointer (some ⟨mb,0,none⟩),Aj n] w (aw w mb O (Ks s l x n)):=by
 have H:=Aq h;have b:=Aq a;have X:=Aq i;have Y:=Aq c;clear h a i c;by_cases v:x=0
 ·subst v;go_enter Tryz.func218,Tryz.ntmps218;go_wp2_with fail
  refine(Dx w mb O L s H.o _ l b.o _).mono ?_;rintro e w'⟨rfl,z,y⟩;obtain⟨d,u⟩:=z.ma;have p:=Aq u;have q:=Aq z;have Z:=z.lt;have k:=y.cell 0;have m:=y.lt;have K:=y.frozen 0;simp only[Az,Ay]at k;clear z u y;go_wp2_with fail
  refine(Uz w' mb O d _ p.o f r X.o n Y.o).mono ?_;intro e V g;have j:=Aq (g.bL q.o.fr);obtain⟨rfl,_⟩:=g;go_wp2;go_end0;rw[Xm];exact j.o
 ·have U:(x==0)=false:=by simpa using v
  go_enter Tryz.func218,Tryz.ntmps218;go_wp2_with fail
  refine(Dx w mb O L s H.o _ l b.o _).mono ?_;rintro e w'⟨rfl,z,y⟩;obtain⟨d,u⟩:=z.ma;have p:=Aq u;have q:=Aq z;have Z:=z.lt;have k:=y.cell 0;have m:=y.lt;have K:=y.frozen 0;simp only[Az,Ay]at k;clear z u y;go_wp2;go_end0;rw[Zbp _ _ v];exact .dD p.o q.o.fr
theorem Xl (w:World)(mb:Nat)(O:Nat→Prop)(L:bd)(s:St)(h:ag w mb O L s)(x:Int)(l:List Int)(y:s.stack=x::l)(f:Fm)(r:List Fm)(v:s.aD=f::r)(n:Nat)(z:f.next+n≤f.aA.length) :
  Calls Tryz.prog 217 #[.pointer (some ⟨mb,0,none⟩),Aj n] w (aw w mb O (Ks s l x n)):=by
 have p:=Aq (Nd w mb O L s h x l y f r v n z);clear h y v z;go_enter Tryz.func217,Tryz.ntmps217;go_wp2_with fail
 refine p.o.mono ?_;intro e q u;have k:=Aq u;obtain⟨rfl,_⟩:=u;go_wp2;go_end0;exact k.o
theorem Yc (w:World)(mb:Nat)(O:Nat→Prop)(L:bd)(s:St)(h:ag w mb O L s)(a:Nat)(z:a<s.funcs.length)(x:s.aD.length≤20) :
  Calls Tryz.prog 219 #[.pointer (some ⟨mb,0,none⟩),Aj a] w (aw w mb O (call s a 1)):=by
 have v:=Aq (Pp w mb O L s h a z 1 (by decide) x);clear h z x;go_enter Tryz.func219,Tryz.ntmps219;go_wp2_with fail
 refine v.o.mono ?_;intro e k y;have u:=Aq y;obtain⟨rfl,_⟩:=y;go_wp2;go_end0;exact u.o
theorem Zfo (w:World)(mb:Nat)(O:Nat→Prop)(L:bd)(s:St)(h:ag w mb O L s)(x:Int)(l:List Int)(c:s.stack=x::l)(a:Nat)(i:a<s.funcs.length)(d:s.aD.length≤20) :
  Calls Tryz.prog 222 #[.pointer (some ⟨mb,0,none⟩),Aj a] w (aw w mb O (call { s with stack:=l } a (min x 16))):=by
 have H:=Aq h;have g:=Aq c;have U:=h.ok.jy;generalize f:min x 16=m;have j:=Aq f;clear h c f;by_cases Z:16<x
 ·obtain rfl:m=16:=by have:=j.o;omega
  go_enter Tryz.func222,Tryz.ntmps222;go_wp2_with fail
  refine(Dx w mb O L s H.o _ l g.o _).mono ?_;rintro e w'⟨rfl,z,y⟩;obtain⟨q,u⟩:=z.ma;have r:=Aq u;have b:=Aq z;have Y:=z.lt;have p:=y.cell 0;have n:=y.lt;have K:=y.frozen 0;simp only[Az,Ay]at p;clear z u y;go_wp2_with fail
  refine(Pp w' mb O q _ r.o a i _ (by omega) d).mono ?_;intro e X v;have k:=Aq (v.bL b.o.fr);obtain⟨rfl,_⟩:=v;go_wp2;go_end0;exact k.o
 ·obtain rfl:m=x:=by have:=j.o;omega
  go_enter Tryz.func222,Tryz.ntmps222;go_wp2_with fail
  refine(Dx w mb O L s H.o _ l g.o _).mono ?_;rintro e w'⟨rfl,z,y⟩;obtain⟨q,u⟩:=z.ma;have r:=Aq u;have b:=Aq z;have Y:=z.lt;have p:=y.cell 0;have n:=y.lt;have K:=y.frozen 0;simp only[Az,Ay]at p;clear z u y;go_wp2_with fail
  refine(Pp w' mb O q _ r.o a i _ (by omega) d).mono ?_;intro e X v;have k:=Aq (v.bL b.o.fr);obtain⟨rfl,_⟩:=v;go_wp2;go_end0;exact k.o
theorem Zbi (w:World)(mb:Nat)(O:Nat→Prop)(L:bd)(s:St)(h:ag w mb O L s)(x:Int)(l:List Int)(y:s.stack=x::l)(a:Nat)(v:a<s.funcs.length)(z:s.aD.length≤20) :
  Calls Tryz.prog 221 #[.pointer (some ⟨mb,0,none⟩),Aj a] w (aw w mb O (call { s with stack:=l } a (min x 16))):=by
 have p:=Aq (Zfo w mb O L s h x l y a v z);clear h y v z;go_enter Tryz.func221,Tryz.ntmps221;go_wp2_with fail
 refine p.o.mono ?_;intro e q u;have k:=Aq u;obtain⟨rfl,_⟩:=u;go_wp2;go_end0;exact k.o
theorem Zhs (w:World)(mb:Nat)(O:Nat→Prop)(L:bd)(s:St)(h:ag w mb O L s)(u y:Nat)(axis:Int) (k1:w.cell? ⟨u,0,none⟩=some (.pointer (some ⟨mb,0,none⟩))) (k2:w.cell? ⟨y,0,none⟩=some (Aj axis)) (p:Nat) (x:Int×Int) (v:s.aT[p]?=some x) :
  Calls Tryz.prog 262 #[Aj p,.pointer (some ⟨u,0,none⟩),.pointer (some ⟨y,0,none⟩)] w fun e w'=>e=.returned (Aj (Cf axis x))∧w.drew=w':=by
 have X:=(aS.1 v).1;have H:s.aT.length≤1000000:=by have:=h.ok.cX;have:=h.ok.dL;omega
 obtain⟨g,c,k,n,j,m,l,q,i⟩:=h.og.aK (by omega);have b:=q _ _ (Ek v axis);have cc:=h.aG.cell 2;rw[h.c.c2,k]at cc;clear h v k q i j;generalize a:(if axis=1 then 1 else 0:Nat)=d at b;have f:=Aq a;clear a;have z:w.drew.cell? ⟨u,0,none⟩=some (.pointer (some ⟨mb,0,none⟩))∧w.drew.cell? ⟨mb,2,none⟩=some (.slice (some ⟨g,0,none⟩) s.aT.length c)∧w.drew.cell? ⟨y,0,none⟩=some (Aj axis)∧w.drew.cell? ⟨g,p*2+d,none⟩=some (Aj (Cf axis x)):=⟨k1,cc,k2,b⟩;go_enter Tryz.func262,Tryz.ntmps262;go_wp2_with fail
 refine Cr [8] [0,4,7,10] [] 12 (fun w':World=>w'.cell? ⟨u,0,none⟩=some (.pointer (some ⟨mb,0,none⟩))∧w'.cell? ⟨mb,2,none⟩=some (.slice (some ⟨g,0,none⟩) s.aT.length c)∧w'.cell? ⟨y,0,none⟩=some (Aj axis)∧w'.cell? ⟨g,p*2+d,none⟩=some (Aj (Cf axis x))) ?_;refine Bj z ?_
 iterate 3 (refine Be ?_)
 refine Bj z ?_;refine Be ?_;refine Be ?_;refine Bj z ?_;refine Bi fun K r=>?_;go_simp
 refine(Cu _ _ _ _).mono ?_;rintro e Y⟨rfl,rfl⟩;rw[f.o];dsimp only;refine Bh r ?_;clear r K;refine Be ?_;refine Bj z ?_;refine Be ?_;refine Bb ?_;go_wp2;go_ret;exact⟨rfl,rfl⟩
theorem nY (w:World)(mb:Nat)(O:Nat→Prop)(L:bd)(s:St)(h:ag w mb O L s)(u y:Nat)(axis:Int) (k1:w.cell? ⟨u,0,none⟩=some (.pointer (some ⟨mb,0,none⟩))) (k2:w.cell? ⟨y,0,none⟩=some (Aj axis)) (p:Nat) (x:Int×Int) (v:s.aF[p]?=some x) :
  Calls Tryz.prog 263 #[Aj p,.pointer (some ⟨u,0,none⟩),.pointer (some ⟨y,0,none⟩)] w fun e w'=>e=.returned (Aj (Cf axis x))∧w.drew=w':=by
 have X:=(aS.1 v).1;have H:s.aF.length≤1000000:=by have:=h.ok.cX;have:=h.ok.dL;omega
 obtain⟨g,c,k,n,j,m,l,q,i⟩:=h.cu.aK (by omega);have b:=q _ _ (Ek v axis);have cc:=h.aG.cell 3;rw[h.c.c3,k]at cc;clear h v k q i j;generalize a:(if axis=1 then 1 else 0:Nat)=d at b;have f:=Aq a;clear a;have z:w.drew.cell? ⟨u,0,none⟩=some (.pointer (some ⟨mb,0,none⟩))∧w.drew.cell? ⟨mb,3,none⟩=some (.slice (some ⟨g,0,none⟩) s.aF.length c)∧w.drew.cell? ⟨y,0,none⟩=some (Aj axis)∧w.drew.cell? ⟨g,p*2+d,none⟩=some (Aj (Cf axis x)):=⟨k1,cc,k2,b⟩;go_enter Tryz.func263,Tryz.ntmps263;go_wp2_with fail
 refine Cr [8] [0,4,7,10] [] 12 (fun w':World=>w'.cell? ⟨u,0,none⟩=some (.pointer (some ⟨mb,0,none⟩))∧w'.cell? ⟨mb,3,none⟩=some (.slice (some ⟨g,0,none⟩) s.aF.length c)∧w'.cell? ⟨y,0,none⟩=some (Aj axis)∧w'.cell? ⟨g,p*2+d,none⟩=some (Aj (Cf axis x))) ?_;refine Bj z ?_
 iterate 3 (refine Be ?_)
 refine Bj z ?_;refine Be ?_;refine Be ?_;refine Bj z ?_;refine Bi fun K r=>?_;go_simp
 refine(Cu _ _ _ _).mono ?_;rintro e Y⟨rfl,rfl⟩;rw[f.o];dsimp only;refine Bh r ?_;clear r K;refine Be ?_;refine Bj z ?_;refine Be ?_;refine Bb ?_;go_wp2;go_ret;exact⟨rfl,rfl⟩
theorem Oi (a b:Int):iD (a+iD b)=iD (a+b):=by unfold iD;omega
def lJ (o x y z u:Int):Int:=if o≤x then o+z-x else if y≤o then o+u-y else z+eT (iD (iD (2*(o-x)*(u-z))+(y-x))) (2*(y-x))
theorem Vz {o x u y z:Int}(h:o≤x):lJ o x u y z=o+y-x:=by unfold lJ;rw[if_pos h]
theorem Vy {o z x v y:Int}(h:¬ o≤z)(u:x≤o):lJ o z x v y=o+y-x:=by unfold lJ;rw[if_neg h,if_pos u]
theorem Vx {o x y z u:Int}(h:¬ o≤x)(v:¬ y≤o):lJ o x y z u=z+eT (iD (iD (2*(o-x)*(u-z))+(y-x))) (2*(y-x)):=by unfold lJ;rw[if_neg h,if_neg v]
theorem Ob {aT aF:List (Int×Int)} {axis:Int} {p a b:Nat} {z y x q v:Int×Int} (c:aT[p]?=some z) (k:aT[a]?=some y) (u:aT[b]?=some x) (r:aF[a]?=some q) (s:aF[b]?=some v) :
  Kj aT aF axis p a b=if Cf axis x<Cf axis y then lJ (Cf axis z) (Cf axis x) (Cf axis y) (Cf axis v) (Cf axis q) else lJ (Cf axis z) (Cf axis y) (Cf axis x) (Cf axis q) (Cf axis v):=by
 unfold Kj lJ;simp only[Da c,Da k,Da u];by_cases h:Cf axis x<Cf axis y
 ·simp only[h,if_true,Da k,Da u,Da r,Da s]
 ·simp only[h,if_false,Da k,Da u,Da r,Da s]
theorem Ha {_s:St} {l:List (Int×Int)} {i:Nat} {x:Int×Int} (h:∀p∈l,bI p.1∧bI p.2) (y:l[i]?=some x) (axis:Int) : -2147483648≤Cf axis x∧Cf axis x≤2147483647:=by
 have:=h x (Bx y);unfold Cf;split
 ·exact this.2
 ·exact this.1
theorem Mc.jB {aT aF:List (Int×Int)} {axis:Int} {p a b:Nat} {y:Int×Int} (x:aF[p]?=some y):Pc aT axis aF p a b=aF.set p (fp axis y (iD (Kj aT aF axis p a b))):=by
 unfold Pc;rw[Da x]
def Zla (w:World)(mb:Nat)(O:Nat→Prop)(L:bd)(s:St)(e:Ending)(w':World):Prop:=e=.returned (.tuple #[])∧ag w' mb O L s∧Fr O w w'
structure Bt (w:World) (mb:Nat) (O:Nat→Prop) (L:bd) (s:St) (axis:Int) (W:World):Prop where
 ma:ag W mb O L s
 k1:W.cell? ⟨w.heap.size,0,none⟩=some (.pointer (some ⟨mb,0,none⟩))
 k2:W.cell? ⟨w.heap.size+1,0,none⟩=some (Aj axis)
 fr:Fr O w W
theorem Bt.drew {w:World}{mb:Nat}{O:Nat→Prop}{L:bd}{s:St}{axis:Int}{W:World}(h:Bt w mb O L s axis W):Bt w mb O L s axis W.drew:=⟨h.ma.drew,h.k1,h.k2,h.fr.drew⟩
theorem Ht {w:World}{mb:Nat}{O:Nat→Prop}{L:bd}{s:St}{axis:Int}{W:World}(h:Bt w mb O L s axis W){p:Nat}{x:Int×Int} (z:s.aT[p]?=some x) {v:Int} (u:Cf axis x=v) :
  Calls Tryz.prog 262 #[Aj p,.pointer (some ⟨w.heap.size,0,none⟩),.pointer (some ⟨w.heap.size+1,0,none⟩)] W fun e w'=>e=.returned (Aj v)∧Bt w mb O L s axis w' :=
 (Zhs W mb O L s h.ma _ _ axis h.k1 h.k2 p x z).mono fun e w' y=>⟨by rw[y.1,u],by rw[←y.2];exact h.drew⟩
theorem lE {w:World}{mb:Nat}{O:Nat→Prop}{L:bd}{s:St}{axis:Int}{W:World}(h:Bt w mb O L s axis W){p:Nat}{x:Int×Int} (z:s.aF[p]?=some x) {v:Int} (u:Cf axis x=v) :
  Calls Tryz.prog 263 #[Aj p,.pointer (some ⟨w.heap.size,0,none⟩),.pointer (some ⟨w.heap.size+1,0,none⟩)] W fun e w'=>e=.returned (Aj v)∧Bt w mb O L s axis w' :=
 (nY W mb O L s h.ma _ _ axis h.k1 h.k2 p x z).mono fun e w' y=>⟨by rw[y.1,u],by rw[←y.2];exact h.drew⟩
theorem Tx (w:World)(mb:Nat)(O:Nat→Prop)(L:bd)(s:St)(h:ag w mb O L s)(axis:Int)(p a b:Nat)(xp xa xb yp ya yb:Int×Int)
  (J:s.aT[p]?=some xp) (G:s.aT[a]?=some xa) (I:s.aT[b]?=some xb) (hyp:s.aF[p]?=some yp) (M:s.aF[a]?=some ya) (F:s.aF[b]?=some yb) :
  Calls Tryz.prog 257 #[.pointer (some ⟨mb,0,none⟩),Aj p,Aj a,Aj b,Aj axis] w (Zla w mb O L { s with aF:=Pc s.aT axis s.aF p a b }):=by
 have l1:=(aS.1 hyp).1;have cu:=h.ok.cX;obtain⟨g,c,E,hW,HB,hg,HC,HD,u0⟩:=h.cu.aK (by omega);have x:Hid (Bt w mb O L s axis ((w.alloc (.cells #[.pointer (some ⟨mb,0,none⟩)] 153)).alloc (.cells #[Aj axis] 3))):=Aq ⟨(h.alloc _).alloc _,by rw[Cb _ _ _ (by simp)];exact(qv w _ _).cell 0,(qw _ _ _ (by simp)).cell 0,((qu O w).alloc _).alloc _⟩;have Z:=Aq J;have j:=Aq G;have r:=Aq I;have C:=Aq M;have A:=Aq F;have B1:=Ha (_s:=s) h.ok.aT J axis;have B2:=Ha (_s:=s) h.ok.aT G axis;have B3:=Ha (_s:=s) h.ok.aT I axis;have B4:=Ha (_s:=s) h.ok.aF M axis;have B5:=Ha (_s:=s) h.ok.aF F axis;have n:=Aq (Ob (axis:=axis) J G I M F);have X:Hid (∀(W:World),ag W mb O L s→W.cell? ⟨mb,3,none⟩=some (.slice (some ⟨g,0,none⟩) s.aF.length c)∧(∃u,W.cell? ⟨g,p*2+(if axis=1 then 1 else 0),none⟩=some u)∧W.frozen? ⟨g,p*2+(if axis=1 then 1 else 0),none⟩=false):=Aq (fun W S=>by
  refine⟨by rw[S.aG.cell,S.c.c3,E],?_⟩;obtain⟨g2,c2,H,_,_,_,_,HB,HQ⟩:=S.cu.aK (by omega);rw[E]at H
  injection H with H
  injection H with H
  injection H with H
  subst H;exact⟨⟨_,HB _ _ (Ek hyp axis)⟩,HQ _⟩)
 have Y:Hid (∀(W:World) (u:Int),ag W mb O L s→Fr O w W→u=bA (iD (Kj s.aT s.aF axis p a b))→Zla w mb O L { s with aF:=Pc s.aT axis s.aF p a b } (.returned (.tuple #[])) (W.setCell ⟨g,p*2+(if axis=1 then 1 else 0),none⟩ (Aj u))):=Aq (fun W u S hF hu=>by
  subst hu;rw[jB hyp];exact⟨rfl,S.ix E hyp axis _,hF.setCell (.inl hg) _⟩)
 clear h J G I hyp M F E HD u0 HB HC hg;generalize hd:(if axis=1 then 1 else 0:Nat)=d at *;have U:=Aq hd;clear hd;generalize c3:Cf axis xp=wp at *;generalize hb:Cf axis xa=N at *;generalize w6:Cf axis xb=T at *;generalize w5:Cf axis ya=ia at *;generalize hK:Cf axis yb=ib at *;have V:=Aq c3;have q:=Aq hb;have f:=Aq w6;have B:=Aq w5;have Q:=Aq hK;clear c3 hb w6 w5 hK;by_cases hS:T<N
 ·rw[if_pos hS]at n;by_cases h1:wp≤T
  ·go_enter Tryz.func257,Tryz.ntmps257;go_wp2_with fail
   refine(Ht x.o j.o q.o).mono ?_;rintro e z⟨rfl,y⟩;clear x;have x:=Aq y;clear y;go_wp2_with fail
   refine(Ht x.o r.o f.o).mono ?_;rintro e z⟨rfl,y⟩;clear x;have x:=Aq y;clear y;go_wp2_with fail
   refine(Ht x.o Z.o V.o).mono ?_;rintro e z⟨rfl,y⟩;clear x;have x:=Aq y;clear y;go_wp2_with fail
   refine(Ht x.o r.o f.o).mono ?_;rintro e z⟨rfl,y⟩;clear x;have x:=Aq y;clear y;go_wp2_with fail
   refine(lE x.o A.o Q.o).mono ?_;rintro e z⟨rfl,y⟩;clear x;have x:=Aq y;clear y;go_wp2_with fail
   refine(Ht x.o r.o f.o).mono ?_;rintro e z⟨rfl,y⟩;clear x;have x:=Aq y;clear y;go_wp2_with fail
   obtain⟨m,⟨P,D⟩,fu⟩:=X.o z x.o.ma;have k:z.drew.cell? ⟨w.heap.size,0,none⟩=some (.pointer (some ⟨mb,0,none⟩))∧z.drew.cell? ⟨mb,3,none⟩=some (.slice (some ⟨g,0,none⟩) s.aF.length c)∧z.drew.cell? ⟨w.heap.size+1,0,none⟩=some (Aj axis):=⟨x.o.k1,m,x.o.k2⟩;have R:=x.o.ma.aG.lt;refine Bq (fun i=>!([8,10,12]:List Nat).contains i) (fun i=>([0,4,7]:List Nat).contains i) (fun i=>([]:List Nat).contains i) [0,1,2,3,4,5,6,7,9,8,10,11,12] (fun w':World=>w'.cell? ⟨w.heap.size,0,none⟩=some (.pointer (some ⟨mb,0,none⟩))∧w'.cell? ⟨mb,3,none⟩=some (.slice (some ⟨g,0,none⟩) s.aF.length c)∧w'.cell? ⟨w.heap.size+1,0,none⟩=some (Aj axis)) (by kernel_rfl) (by kernel_rfl) (by kernel_rfl) (by kernel_rfl) ?_;refine Bj k ?_
   iterate 3 (refine Be ?_)
   refine Bj k ?_;refine Be ?_;refine Be ?_;refine Bj k ?_;refine Be ?_;refine Bi fun K v=>?_;go_simp
   refine(Cu _ _ _ _).mono ?_;rintro e l⟨rfl,rfl⟩;rw[U.o];dsimp only;refine Bh v ?_;clear v K;refine Bi fun K v=>?_;go_simp
   refine(Et _ _).mono ?_;rintro e l⟨rfl,rfl⟩;dsimp only;refine Bh v ?_;clear v K;refine Be ?_;refine Bi fun K v=>?_;go_simp
   refine Bh v ?_;clear v K;refine Bb ?_;go_wp2;go_end0;refine Y.o z.drew _ x.o.ma.drew x.o.fr.drew ?_;rw[n.o];rw[Vz (by omega)];exact congrArg bA (Iw (by omega) (by omega)).symm
  ·skip
   by_cases h2:N≤wp
   ·go_enter Tryz.func257,Tryz.ntmps257;go_wp2_with fail
    refine(Ht x.o j.o q.o).mono ?_;rintro e z⟨rfl,y⟩;clear x;have x:=Aq y;clear y;go_wp2_with fail
    refine(Ht x.o r.o f.o).mono ?_;rintro e z⟨rfl,y⟩;clear x;have x:=Aq y;clear y;go_wp2_with fail
    refine(Ht x.o Z.o V.o).mono ?_;rintro e z⟨rfl,y⟩;clear x;have x:=Aq y;clear y;go_wp2_with fail
    refine(Ht x.o r.o f.o).mono ?_;rintro e z⟨rfl,y⟩;clear x;have x:=Aq y;clear y;go_wp2_with fail
    refine(Ht x.o j.o q.o).mono ?_;rintro e z⟨rfl,y⟩;clear x;have x:=Aq y;clear y;go_wp2_with fail
    refine(lE x.o C.o B.o).mono ?_;rintro e z⟨rfl,y⟩;clear x;have x:=Aq y;clear y;go_wp2_with fail
    refine(Ht x.o j.o q.o).mono ?_;rintro e z⟨rfl,y⟩;clear x;have x:=Aq y;clear y;go_wp2_with fail
    obtain⟨m,⟨P,D⟩,fu⟩:=X.o z x.o.ma;have k:z.drew.cell? ⟨w.heap.size,0,none⟩=some (.pointer (some ⟨mb,0,none⟩))∧z.drew.cell? ⟨mb,3,none⟩=some (.slice (some ⟨g,0,none⟩) s.aF.length c)∧z.drew.cell? ⟨w.heap.size+1,0,none⟩=some (Aj axis):=⟨x.o.k1,m,x.o.k2⟩;have R:=x.o.ma.aG.lt;refine Bq (fun i=>!([8,10,12]:List Nat).contains i) (fun i=>([0,4,7]:List Nat).contains i) (fun i=>([]:List Nat).contains i) [0,1,2,3,4,5,6,7,9,8,10,11,12] (fun w':World=>w'.cell? ⟨w.heap.size,0,none⟩=some (.pointer (some ⟨mb,0,none⟩))∧w'.cell? ⟨mb,3,none⟩=some (.slice (some ⟨g,0,none⟩) s.aF.length c)∧w'.cell? ⟨w.heap.size+1,0,none⟩=some (Aj axis)) (by kernel_rfl) (by kernel_rfl) (by kernel_rfl) (by kernel_rfl) ?_;refine Bj k ?_
    iterate 3 (refine Be ?_)
    refine Bj k ?_;refine Be ?_;refine Be ?_;refine Bj k ?_;refine Be ?_;refine Bi fun K v=>?_;go_simp
    refine(Cu _ _ _ _).mono ?_;rintro e l⟨rfl,rfl⟩;rw[U.o];dsimp only;refine Bh v ?_;clear v K;refine Bi fun K v=>?_;go_simp
    refine(Et _ _).mono ?_;rintro e l⟨rfl,rfl⟩;dsimp only;refine Bh v ?_;clear v K;refine Be ?_;refine Bi fun K v=>?_;go_simp
    refine Bh v ?_;clear v K;refine Bb ?_;go_wp2;go_end0;refine Y.o z.drew _ x.o.ma.drew x.o.fr.drew ?_;rw[n.o];rw[Vy (by omega) (by omega)];exact congrArg bA (Iw (by omega) (by omega)).symm
   ·go_enter Tryz.func257,Tryz.ntmps257;go_wp2_with fail
    refine(Ht x.o j.o q.o).mono ?_;rintro e z⟨rfl,y⟩;clear x;have x:=Aq y;clear y;go_wp2_with fail
    refine(Ht x.o r.o f.o).mono ?_;rintro e z⟨rfl,y⟩;clear x;have x:=Aq y;clear y;go_wp2_with fail
    refine(Ht x.o Z.o V.o).mono ?_;rintro e z⟨rfl,y⟩;clear x;have x:=Aq y;clear y;go_wp2_with fail
    refine(Ht x.o r.o f.o).mono ?_;rintro e z⟨rfl,y⟩;clear x;have x:=Aq y;clear y;go_wp2_with fail
    refine(Ht x.o j.o q.o).mono ?_;rintro e z⟨rfl,y⟩;clear x;have x:=Aq y;clear y;go_wp2_with fail
    refine(Ht x.o j.o q.o).mono ?_;rintro e z⟨rfl,y⟩;clear x;have x:=Aq y;clear y;go_wp2_with fail
    refine(Ht x.o r.o f.o).mono ?_;rintro e z⟨rfl,y⟩;clear x;have x:=Aq y;clear y;go_wp2_with fail
    refine(lE x.o A.o Q.o).mono ?_;rintro e z⟨rfl,y⟩;clear x;have x:=Aq y;clear y;go_wp2_with fail
    refine(Ht x.o r.o f.o).mono ?_;rintro e z⟨rfl,y⟩;clear x;have x:=Aq y;clear y;go_wp2_with fail
    refine(lE x.o C.o B.o).mono ?_;rintro e z⟨rfl,y⟩;clear x;have x:=Aq y;clear y;go_wp2_with fail
    refine(lE x.o A.o Q.o).mono ?_;rintro e z⟨rfl,y⟩;clear x;have x:=Aq y;clear y;go_wp2_with fail
    refine(Jg _ _ _).mono ?_;rintro e l⟨rfl,rfl⟩;go_wp2_with fail
    obtain⟨m,⟨P,D⟩,fu⟩:=X.o z x.o.ma;have k:z.drew.cell? ⟨w.heap.size,0,none⟩=some (.pointer (some ⟨mb,0,none⟩))∧z.drew.cell? ⟨mb,3,none⟩=some (.slice (some ⟨g,0,none⟩) s.aF.length c)∧z.drew.cell? ⟨w.heap.size+1,0,none⟩=some (Aj axis):=⟨x.o.k1,m,x.o.k2⟩;have R:=x.o.ma.aG.lt;refine Bq (fun i=>!([8,10,12]:List Nat).contains i) (fun i=>([0,4,7]:List Nat).contains i) (fun i=>([]:List Nat).contains i) [0,1,2,3,4,5,6,7,9,8,10,11,12] (fun w':World=>w'.cell? ⟨w.heap.size,0,none⟩=some (.pointer (some ⟨mb,0,none⟩))∧w'.cell? ⟨mb,3,none⟩=some (.slice (some ⟨g,0,none⟩) s.aF.length c)∧w'.cell? ⟨w.heap.size+1,0,none⟩=some (Aj axis)) (by kernel_rfl) (by kernel_rfl) (by kernel_rfl) (by kernel_rfl) ?_;refine Bj k ?_
    iterate 3 (refine Be ?_)
    refine Bj k ?_;refine Be ?_;refine Be ?_;refine Bj k ?_;refine Be ?_;refine Bi fun K v=>?_;go_simp
    refine(Cu _ _ _ _).mono ?_;rintro e l⟨rfl,rfl⟩;rw[U.o];dsimp only;refine Bh v ?_;clear v K;refine Bi fun K v=>?_;go_simp
    refine(Et _ _).mono ?_;rintro e l⟨rfl,rfl⟩;dsimp only;refine Bh v ?_;clear v K;refine Be ?_;refine Bi fun K v=>?_;go_simp
    refine Bh v ?_;clear v K;refine Bb ?_;go_wp2;go_end0;refine Y.o z.drew _ x.o.ma.drew x.o.fr.drew ?_;rw[n.o];rw[Vx (by omega) (by omega),←Oi];simp only[Gr]
 ·rw[if_neg hS]at n;by_cases h1:wp≤N
  ·go_enter Tryz.func257,Tryz.ntmps257;go_wp2_with fail
   refine(Ht x.o j.o q.o).mono ?_;rintro e z⟨rfl,y⟩;clear x;have x:=Aq y;clear y;go_wp2_with fail
   refine(Ht x.o r.o f.o).mono ?_;rintro e z⟨rfl,y⟩;clear x;have x:=Aq y;clear y;go_wp2_with fail
   refine(Ht x.o Z.o V.o).mono ?_;rintro e z⟨rfl,y⟩;clear x;have x:=Aq y;clear y;go_wp2_with fail
   refine(Ht x.o j.o q.o).mono ?_;rintro e z⟨rfl,y⟩;clear x;have x:=Aq y;clear y;go_wp2_with fail
   refine(lE x.o C.o B.o).mono ?_;rintro e z⟨rfl,y⟩;clear x;have x:=Aq y;clear y;go_wp2_with fail
   refine(Ht x.o j.o q.o).mono ?_;rintro e z⟨rfl,y⟩;clear x;have x:=Aq y;clear y;go_wp2_with fail
   obtain⟨m,⟨P,D⟩,fu⟩:=X.o z x.o.ma;have k:z.drew.cell? ⟨w.heap.size,0,none⟩=some (.pointer (some ⟨mb,0,none⟩))∧z.drew.cell? ⟨mb,3,none⟩=some (.slice (some ⟨g,0,none⟩) s.aF.length c)∧z.drew.cell? ⟨w.heap.size+1,0,none⟩=some (Aj axis):=⟨x.o.k1,m,x.o.k2⟩;have R:=x.o.ma.aG.lt;refine Bq (fun i=>!([8,10,12]:List Nat).contains i) (fun i=>([0,4,7]:List Nat).contains i) (fun i=>([]:List Nat).contains i) [0,1,2,3,4,5,6,7,9,8,10,11,12] (fun w':World=>w'.cell? ⟨w.heap.size,0,none⟩=some (.pointer (some ⟨mb,0,none⟩))∧w'.cell? ⟨mb,3,none⟩=some (.slice (some ⟨g,0,none⟩) s.aF.length c)∧w'.cell? ⟨w.heap.size+1,0,none⟩=some (Aj axis)) (by kernel_rfl) (by kernel_rfl) (by kernel_rfl) (by kernel_rfl) ?_;refine Bj k ?_
   iterate 3 (refine Be ?_)
   refine Bj k ?_;refine Be ?_;refine Be ?_;refine Bj k ?_;refine Be ?_;refine Bi fun K v=>?_;go_simp
   refine(Cu _ _ _ _).mono ?_;rintro e l⟨rfl,rfl⟩;rw[U.o];dsimp only;refine Bh v ?_;clear v K;refine Bi fun K v=>?_;go_simp
   refine(Et _ _).mono ?_;rintro e l⟨rfl,rfl⟩;dsimp only;refine Bh v ?_;clear v K;refine Be ?_;refine Bi fun K v=>?_;go_simp
   refine Bh v ?_;clear v K;refine Bb ?_;go_wp2;go_end0;refine Y.o z.drew _ x.o.ma.drew x.o.fr.drew ?_;rw[n.o];rw[Vz (by omega)];exact congrArg bA (Iw (by omega) (by omega)).symm
  ·skip
   by_cases h2:T≤wp
   ·go_enter Tryz.func257,Tryz.ntmps257;go_wp2_with fail
    refine(Ht x.o j.o q.o).mono ?_;rintro e z⟨rfl,y⟩;clear x;have x:=Aq y;clear y;go_wp2_with fail
    refine(Ht x.o r.o f.o).mono ?_;rintro e z⟨rfl,y⟩;clear x;have x:=Aq y;clear y;go_wp2_with fail
    refine(Ht x.o Z.o V.o).mono ?_;rintro e z⟨rfl,y⟩;clear x;have x:=Aq y;clear y;go_wp2_with fail
    refine(Ht x.o j.o q.o).mono ?_;rintro e z⟨rfl,y⟩;clear x;have x:=Aq y;clear y;go_wp2_with fail
    refine(Ht x.o r.o f.o).mono ?_;rintro e z⟨rfl,y⟩;clear x;have x:=Aq y;clear y;go_wp2_with fail
    refine(lE x.o A.o Q.o).mono ?_;rintro e z⟨rfl,y⟩;clear x;have x:=Aq y;clear y;go_wp2_with fail
    refine(Ht x.o r.o f.o).mono ?_;rintro e z⟨rfl,y⟩;clear x;have x:=Aq y;clear y;go_wp2_with fail
    obtain⟨m,⟨P,D⟩,fu⟩:=X.o z x.o.ma;have k:z.drew.cell? ⟨w.heap.size,0,none⟩=some (.pointer (some ⟨mb,0,none⟩))∧z.drew.cell? ⟨mb,3,none⟩=some (.slice (some ⟨g,0,none⟩) s.aF.length c)∧z.drew.cell? ⟨w.heap.size+1,0,none⟩=some (Aj axis):=⟨x.o.k1,m,x.o.k2⟩;have R:=x.o.ma.aG.lt;refine Bq (fun i=>!([8,10,12]:List Nat).contains i) (fun i=>([0,4,7]:List Nat).contains i) (fun i=>([]:List Nat).contains i) [0,1,2,3,4,5,6,7,9,8,10,11,12] (fun w':World=>w'.cell? ⟨w.heap.size,0,none⟩=some (.pointer (some ⟨mb,0,none⟩))∧w'.cell? ⟨mb,3,none⟩=some (.slice (some ⟨g,0,none⟩) s.aF.length c)∧w'.cell? ⟨w.heap.size+1,0,none⟩=some (Aj axis)) (by kernel_rfl) (by kernel_rfl) (by kernel_rfl) (by kernel_rfl) ?_;refine Bj k ?_
    iterate 3 (refine Be ?_)
    refine Bj k ?_;refine Be ?_;refine Be ?_;refine Bj k ?_;refine Be ?_;refine Bi fun K v=>?_;go_simp
    refine(Cu _ _ _ _).mono ?_;rintro e l⟨rfl,rfl⟩;rw[U.o];dsimp only;refine Bh v ?_;clear v K;refine Bi fun K v=>?_;go_simp
    refine(Et _ _).mono ?_;rintro e l⟨rfl,rfl⟩;dsimp only;refine Bh v ?_;clear v K;refine Be ?_;refine Bi fun K v=>?_;go_simp
    refine Bh v ?_;clear v K;refine Bb ?_;go_wp2;go_end0;refine Y.o z.drew _ x.o.ma.drew x.o.fr.drew ?_;rw[n.o];rw[Vy (by omega) (by omega)];exact congrArg bA (Iw (by omega) (by omega)).symm
   ·go_enter Tryz.func257,Tryz.ntmps257;go_wp2_with fail
    refine(Ht x.o j.o q.o).mono ?_;rintro e z⟨rfl,y⟩;clear x;have x:=Aq y;clear y;go_wp2_with fail
    refine(Ht x.o r.o f.o).mono ?_;rintro e z⟨rfl,y⟩;clear x;have x:=Aq y;clear y;go_wp2_with fail
    refine(Ht x.o Z.o V.o).mono ?_;rintro e z⟨rfl,y⟩;clear x;have x:=Aq y;clear y;go_wp2_with fail
    refine(Ht x.o j.o q.o).mono ?_;rintro e z⟨rfl,y⟩;clear x;have x:=Aq y;clear y;go_wp2_with fail
    refine(Ht x.o r.o f.o).mono ?_;rintro e z⟨rfl,y⟩;clear x;have x:=Aq y;clear y;go_wp2_with fail
    refine(Ht x.o r.o f.o).mono ?_;rintro e z⟨rfl,y⟩;clear x;have x:=Aq y;clear y;go_wp2_with fail
    refine(Ht x.o j.o q.o).mono ?_;rintro e z⟨rfl,y⟩;clear x;have x:=Aq y;clear y;go_wp2_with fail
    refine(lE x.o C.o B.o).mono ?_;rintro e z⟨rfl,y⟩;clear x;have x:=Aq y;clear y;go_wp2_with fail
    refine(Ht x.o j.o q.o).mono ?_;rintro e z⟨rfl,y⟩;clear x;have x:=Aq y;clear y;go_wp2_with fail
    refine(lE x.o A.o Q.o).mono ?_;rintro e z⟨rfl,y⟩;clear x;have x:=Aq y;clear y;go_wp2_with fail
    refine(lE x.o C.o B.o).mono ?_;rintro e z⟨rfl,y⟩;clear x;have x:=Aq y;clear y;go_wp2_with fail
    refine(Jg _ _ _).mono ?_;rintro e l⟨rfl,rfl⟩;go_wp2_with fail
    obtain⟨m,⟨P,D⟩,fu⟩:=X.o z x.o.ma;have k:z.drew.cell? ⟨w.heap.size,0,none⟩=some (.pointer (some ⟨mb,0,none⟩))∧z.drew.cell? ⟨mb,3,none⟩=some (.slice (some ⟨g,0,none⟩) s.aF.length c)∧z.drew.cell? ⟨w.heap.size+1,0,none⟩=some (Aj axis):=⟨x.o.k1,m,x.o.k2⟩;have R:=x.o.ma.aG.lt;refine Bq (fun i=>!([8,10,12]:List Nat).contains i) (fun i=>([0,4,7]:List Nat).contains i) (fun i=>([]:List Nat).contains i) [0,1,2,3,4,5,6,7,9,8,10,11,12] (fun w':World=>w'.cell? ⟨w.heap.size,0,none⟩=some (.pointer (some ⟨mb,0,none⟩))∧w'.cell? ⟨mb,3,none⟩=some (.slice (some ⟨g,0,none⟩) s.aF.length c)∧w'.cell? ⟨w.heap.size+1,0,none⟩=some (Aj axis)) (by kernel_rfl) (by kernel_rfl) (by kernel_rfl) (by kernel_rfl) ?_;refine Bj k ?_
    iterate 3 (refine Be ?_)
    refine Bj k ?_;refine Be ?_;refine Be ?_;refine Bj k ?_;refine Be ?_;refine Bi fun K v=>?_;go_simp
    refine(Cu _ _ _ _).mono ?_;rintro e l⟨rfl,rfl⟩;rw[U.o];dsimp only;refine Bh v ?_;clear v K;refine Bi fun K v=>?_;go_simp
    refine(Et _ _).mono ?_;rintro e l⟨rfl,rfl⟩;dsimp only;refine Bh v ?_;clear v K;refine Be ?_;refine Bi fun K v=>?_;go_simp
    refine Bh v ?_;clear v K;refine Bb ?_;go_wp2;go_end0;refine Y.o z.drew _ x.o.ma.drew x.o.fr.drew ?_;rw[n.o];rw[Vx (by omega) (by omega),←Oi];simp only[Gr]
theorem Zeb (w:World)(sb:Nat)(L:bK)(s:Sr.St)(h:au w sb L s)(z y:Nat)(axis:Int)(f:0≤axis∧axis≤1) (k1:w.cell? ⟨z,0,none⟩=some (.pointer (some ⟨sb,0,none⟩))) (k2:w.cell? ⟨y,0,none⟩=some (Aj axis)) (p:Nat) (x:Int×Int) (u:s.m.aT[p]?=some x) :
  Calls Tryz.prog 258 #[Aj p,.pointer (some ⟨z,0,none⟩),.pointer (some ⟨y,0,none⟩)] w fun e w'=>e=.returned (Aj (Cf axis x))∧w.drew=w':=by
 have H:=(aS.1 u).1;have n:s.m.aT.length≤1000000:=by have:=h.ok.m.cX;have:=h.ok.m.dL;omega
 obtain⟨g,c,q,l,_,j,k⟩:=Ce h.og (by omega);have b:=k _ _ (Ek u axis);have cc:=h.c64;rw[q]at cc;clear h u q k;generalize a:(if axis=1 then 1 else 0:Nat)=d at b;have i:=Aq a;clear a;go_enter Tryz.func258,Tryz.ntmps258;go_wp2_with fail
 have v:w.drew.cell? ⟨z,0,none⟩=some (.pointer (some ⟨sb,0,none⟩))∧w.drew.cell? ⟨sb,64,none⟩=some (.slice (some ⟨g,0,none⟩) s.m.aT.length c)∧w.drew.cell? ⟨y,0,none⟩=some (Aj axis)∧w.drew.cell? ⟨g,p*2+d,none⟩=some (Aj (Cf axis x)):=⟨k1,cc,k2,b⟩;refine Cr [8] [0,4,7,10] [] 12 (fun wq:World=>wq.cell? ⟨z,0,none⟩=some (.pointer (some ⟨sb,0,none⟩))∧wq.cell? ⟨sb,64,none⟩=some (.slice (some ⟨g,0,none⟩) s.m.aT.length c)∧wq.cell? ⟨y,0,none⟩=some (Aj axis)∧wq.cell? ⟨g,p*2+d,none⟩=some (Aj (Cf axis x))) ?_
 iterate 8 (first|refine Be ?_|refine Bj v ?_)
 refine Bi fun K r=>?_;go_simp
 refine(Dt _ _ _ _ f.1 f.2).mono ?_;rintro e X⟨rfl,rfl⟩;rw[i.o];dsimp only;refine r _ _ (fun _=>v) ?_;clear r K
 iterate 3 (first|refine Be ?_|refine Bj v ?_)
 refine Bb ?_;go_wp2;go_ret;exact⟨rfl,rfl⟩
theorem Zjj (w:World)(sb:Nat)(L:bK)(s:Sr.St)(h:au w sb L s)(z y:Nat)(axis:Int)(f:0≤axis∧axis≤1) (k1:w.cell? ⟨z,0,none⟩=some (.pointer (some ⟨sb,0,none⟩))) (k2:w.cell? ⟨y,0,none⟩=some (Aj axis)) (p:Nat) (x:Int×Int) (u:s.m.aF[p]?=some x) :
  Calls Tryz.prog 259 #[Aj p,.pointer (some ⟨z,0,none⟩),.pointer (some ⟨y,0,none⟩)] w fun e w'=>e=.returned (Aj (Cf axis x))∧w.drew=w':=by
 have H:=(aS.1 u).1;have n:s.m.aF.length≤1000000:=by have:=h.ok.m.cX;have:=h.ok.m.dL;omega
 obtain⟨g,c,q,l,_,j,k⟩:=Ce h.cu (by omega);have b:=k _ _ (Ek u axis);have cc:=h.h_;rw[q]at cc;clear h u q k;generalize a:(if axis=1 then 1 else 0:Nat)=d at b;have i:=Aq a;clear a;go_enter Tryz.func259,Tryz.ntmps259;go_wp2_with fail
 have v:w.drew.cell? ⟨z,0,none⟩=some (.pointer (some ⟨sb,0,none⟩))∧w.drew.cell? ⟨sb,65,none⟩=some (.slice (some ⟨g,0,none⟩) s.m.aF.length c)∧w.drew.cell? ⟨y,0,none⟩=some (Aj axis)∧w.drew.cell? ⟨g,p*2+d,none⟩=some (Aj (Cf axis x)):=⟨k1,cc,k2,b⟩;refine Cr [8] [0,4,7,10] [] 12 (fun wq:World=>wq.cell? ⟨z,0,none⟩=some (.pointer (some ⟨sb,0,none⟩))∧wq.cell? ⟨sb,65,none⟩=some (.slice (some ⟨g,0,none⟩) s.m.aF.length c)∧wq.cell? ⟨y,0,none⟩=some (Aj axis)∧wq.cell? ⟨g,p*2+d,none⟩=some (Aj (Cf axis x))) ?_
 iterate 8 (first|refine Be ?_|refine Bj v ?_)
 refine Bi fun K r=>?_;go_simp
 refine(Dt _ _ _ _ f.1 f.2).mono ?_;rintro e X⟨rfl,rfl⟩;rw[i.o];dsimp only;refine r _ _ (fun _=>v) ?_;clear r K
 iterate 3 (first|refine Be ?_|refine Bj v ?_)
 refine Bb ?_;go_wp2;go_ret;exact⟨rfl,rfl⟩
structure lm (w:World) (sb:Nat) (L:bK) (s:Sr.St) (axis:Int) (W:World):Prop where
 ma:au W sb L s
 k1:W.cell? ⟨w.heap.size,0,none⟩=some (.pointer (some ⟨sb,0,none⟩))
 k2:W.cell? ⟨w.heap.size+1,0,none⟩=some (Aj axis)
 fr:Fr (eZ L sb) w W
 ax:0≤axis∧axis≤1
section
variable {w : World} {sb : Nat} {L : bK} {s : Sr.St} {axis : Int} {W : World}
theorem lm.drew (h:lm w sb L s axis W):lm w sb L s axis W.drew:=⟨h.ma.drew,h.k1,h.k2,h.fr.drew,h.ax⟩
theorem Eb (h:lm w sb L s axis W){p:Nat}{x:Int×Int} (z:s.m.aT[p]?=some x) {v:Int} (u:Cf axis x=v) :
  Calls Tryz.prog 258 #[Aj p,.pointer (some ⟨w.heap.size,0,none⟩),.pointer (some ⟨w.heap.size+1,0,none⟩)] W fun e w'=>e=.returned (Aj v)∧lm w sb L s axis w' :=
 (Zeb W sb L s h.ma _ _ axis h.ax h.k1 h.k2 p x z).mono fun e w' y=>⟨by rw[y.1,u],by rw[←y.2];exact h.drew⟩
theorem lH (h:lm w sb L s axis W){p:Nat}{x:Int×Int} (z:s.m.aF[p]?=some x) {v:Int} (u:Cf axis x=v) :
  Calls Tryz.prog 259 #[Aj p,.pointer (some ⟨w.heap.size,0,none⟩),.pointer (some ⟨w.heap.size+1,0,none⟩)] W fun e w'=>e=.returned (Aj v)∧lm w sb L s axis w' :=
 (Zjj W sb L s h.ma _ _ axis h.ax h.k1 h.k2 p x z).mono fun e w' y=>⟨by rw[y.1,u],by rw[←y.2];exact h.drew⟩
end
theorem Qf (w:World)(sb:Nat)(L:bK)(s:Sr.St)(h:au w sb L s)(axis:Int)(n:0≤axis∧axis≤1)(p a b:Nat)(xp xa xb yp ya yb:Int×Int)
  (N:s.m.aT[p]?=some xp) (J:s.m.aT[a]?=some xa) (M:s.m.aT[b]?=some xb) (hyp:s.m.aF[p]?=some yp) (O:s.m.aF[a]?=some ya) (I:s.m.aF[b]?=some yb) :
  Calls Tryz.prog 230 #[.pointer (some ⟨sb,0,none⟩),Aj p,Aj a,Aj b,Aj axis] w (bB w sb L { s with m := { s.m with aF:=Pc s.m.aT axis s.m.aF p a b } }):=by
 have hv:=(aS.1 hyp).1;have l1:=h.ok.m.cX;obtain⟨g,c,R,u0,_,c3,HD⟩:=Ce h.cu (by omega);have x:Hid (lm w sb L s axis ((w.alloc (.cells #[.pointer (some ⟨sb,0,none⟩)] 98)).alloc (.cells #[Aj axis] 3))):=Aq ⟨(h.alloc _).alloc _,by rw[Cb _ _ _ (by simp)];exact(qv w _ _).cell 0,(qw _ _ _ (by simp)).cell 0,((qu _ w).alloc _).alloc _,n⟩;have V:=Aq N;have j:=Aq J;have r:=Aq M;have F:=Aq O;have D:=Aq I;have B1:=Ha (_s:=s.m) h.ok.m.aT N axis;have B2:=Ha (_s:=s.m) h.ok.m.aT J axis;have B3:=Ha (_s:=s.m) h.ok.m.aT M axis;have B4:=Ha (_s:=s.m) h.ok.m.aF O axis;have B5:=Ha (_s:=s.m) h.ok.m.aF I axis;have X:=Aq (Ob (axis:=axis) N J M O I);have Z:Hid (∀(W:World),au W sb L s→W.cell? ⟨sb,65,none⟩=some (.slice (some ⟨g,0,none⟩) s.m.aF.length c)∧(∃u,W.cell? ⟨g,p*2+(if axis=1 then 1 else 0),none⟩=some u)∧W.frozen? ⟨g,p*2+(if axis=1 then 1 else 0),none⟩=false):=Aq (fun W C=>by
  refine⟨by rw[C.h_,R],?_⟩;obtain⟨g2,c2,x2,Y,_,_,_,HQ,HC⟩:=C.pt hv;rw[R]at Y
  injection Y with Y
  injection Y with Y
  injection Y with Y
  subst Y;exact⟨⟨_,HQ axis⟩,HC _⟩)
 have U:Hid (∀(W:World) (u:Int),au W sb L s→Fr (eZ L sb) w W→u=bA (iD (Kj s.m.aT s.m.aF axis p a b))→bB w sb L { s with m := { s.m with aF:=Pc s.m.aT axis s.m.aF p a b } } (.returned (.tuple #[])) (W.setCell ⟨g,p*2+(if axis=1 then 1 else 0),none⟩ (Aj u))):=Aq (fun W u C hF hu=>by
  subst hu;rw[jB hyp];unfold fp;exact .to (C.ix (by rw[R];rfl) hyp axis _ (Fg _) (C.ok.m.aF _ (Bx hyp))) (hF.setCell (.inl (.inr (.inl (by rw[R];rfl)))) _))
 clear h N J M hyp O I R HD c3;generalize hd:(if axis=1 then 1 else 0:Nat)=d at *;have P:=Aq hd;clear hd;generalize w6:Cf axis xp=wp at *;generalize HB:Cf axis xa=T at *;generalize hS:Cf axis xb=wb at *;generalize hb:Cf axis ya=ia at *;generalize w5:Cf axis yb=ib at *;have Q:=Aq w6;have q:=Aq HB;have f:=Aq hS;have E:=Aq hb;have A:=Aq w5;clear w6 HB hS hb w5;by_cases hK:wb<T
 ·rw[if_pos hK]at X;by_cases h1:wp≤wb
  ·go_enter Tryz.func230,Tryz.ntmps230;go_wp2_with fail
   refine(Eb x.o j.o q.o).mono ?_;rintro e z⟨rfl,y⟩;clear x;have x:=Aq y;clear y;go_wp2_with fail
   refine(Eb x.o r.o f.o).mono ?_;rintro e z⟨rfl,y⟩;clear x;have x:=Aq y;clear y;go_wp2_with fail
   refine(Eb x.o V.o Q.o).mono ?_;rintro e z⟨rfl,y⟩;clear x;have x:=Aq y;clear y;go_wp2_with fail
   refine(Eb x.o r.o f.o).mono ?_;rintro e z⟨rfl,y⟩;clear x;have x:=Aq y;clear y;go_wp2_with fail
   refine(lH x.o D.o A.o).mono ?_;rintro e z⟨rfl,y⟩;clear x;have x:=Aq y;clear y;go_wp2_with fail
   refine(Eb x.o r.o f.o).mono ?_;rintro e z⟨rfl,y⟩;clear x;have x:=Aq y;clear y;go_wp2_with fail
   obtain⟨H,⟨S,G⟩,fu⟩:=Z.o z x.o.ma;have B:=x.o.ma.aG.lt;have k:z.drew.cell? ⟨w.heap.size,0,none⟩=some (.pointer (some ⟨sb,0,none⟩))∧z.drew.cell? ⟨sb,65,none⟩=some (.slice (some ⟨g,0,none⟩) s.m.aF.length c)∧z.drew.cell? ⟨w.heap.size+1,0,none⟩=some (Aj axis):=⟨x.o.k1,H,x.o.k2⟩;refine Bq (fun i=>!([8,10,12]:List Nat).contains i) (fun i=>([0,4,7]:List Nat).contains i) (fun i=>([]:List Nat).contains i) [0,1,2,3,4,5,6,7,9,8,10,11,12] (fun wq:World=>wq.cell? ⟨w.heap.size,0,none⟩=some (.pointer (some ⟨sb,0,none⟩))∧wq.cell? ⟨sb,65,none⟩=some (.slice (some ⟨g,0,none⟩) s.m.aF.length c)∧wq.cell? ⟨w.heap.size+1,0,none⟩=some (Aj axis)) (by kernel_rfl) (by kernel_rfl) (by kernel_rfl) (by kernel_rfl) ?_
   iterate 9 (first|refine Be ?_|refine Bj k ?_)
   refine Bi fun K v=>?_;go_simp
   refine(Dt _ _ _ _ n.1 n.2).mono ?_;rintro e l⟨rfl,rfl⟩;rw[P.o];dsimp only;refine Bh v ?_;clear v K;refine Bi fun K v=>?_;go_simp
   refine(Dy _ _).mono ?_;rintro e l⟨rfl,rfl⟩;dsimp only;refine Bh v ?_;clear v K
   iterate 1 (first|refine Be ?_|refine Bj k ?_)
   refine Bi fun K v=>?_;go_simp
   refine Bh v ?_;clear v K;refine Bb ?_;go_wp2;go_end0;refine U.o z.drew _ x.o.ma.drew x.o.fr.drew ?_;rw[X.o];rw[Vz (by omega)];exact congrArg bA (Iw (by omega) (by omega)).symm
  ·by_cases h2:T≤wp
   ·go_enter Tryz.func230,Tryz.ntmps230;go_wp2_with fail
    refine(Eb x.o j.o q.o).mono ?_;rintro e z⟨rfl,y⟩;clear x;have x:=Aq y;clear y;go_wp2_with fail
    refine(Eb x.o r.o f.o).mono ?_;rintro e z⟨rfl,y⟩;clear x;have x:=Aq y;clear y;go_wp2_with fail
    refine(Eb x.o V.o Q.o).mono ?_;rintro e z⟨rfl,y⟩;clear x;have x:=Aq y;clear y;go_wp2_with fail
    refine(Eb x.o r.o f.o).mono ?_;rintro e z⟨rfl,y⟩;clear x;have x:=Aq y;clear y;go_wp2_with fail
    refine(Eb x.o j.o q.o).mono ?_;rintro e z⟨rfl,y⟩;clear x;have x:=Aq y;clear y;go_wp2_with fail
    refine(lH x.o F.o E.o).mono ?_;rintro e z⟨rfl,y⟩;clear x;have x:=Aq y;clear y;go_wp2_with fail
    refine(Eb x.o j.o q.o).mono ?_;rintro e z⟨rfl,y⟩;clear x;have x:=Aq y;clear y;go_wp2_with fail
    obtain⟨H,⟨S,G⟩,fu⟩:=Z.o z x.o.ma;have B:=x.o.ma.aG.lt;have k:z.drew.cell? ⟨w.heap.size,0,none⟩=some (.pointer (some ⟨sb,0,none⟩))∧z.drew.cell? ⟨sb,65,none⟩=some (.slice (some ⟨g,0,none⟩) s.m.aF.length c)∧z.drew.cell? ⟨w.heap.size+1,0,none⟩=some (Aj axis):=⟨x.o.k1,H,x.o.k2⟩;refine Bq (fun i=>!([8,10,12]:List Nat).contains i) (fun i=>([0,4,7]:List Nat).contains i) (fun i=>([]:List Nat).contains i) [0,1,2,3,4,5,6,7,9,8,10,11,12] (fun wq:World=>wq.cell? ⟨w.heap.size,0,none⟩=some (.pointer (some ⟨sb,0,none⟩))∧wq.cell? ⟨sb,65,none⟩=some (.slice (some ⟨g,0,none⟩) s.m.aF.length c)∧wq.cell? ⟨w.heap.size+1,0,none⟩=some (Aj axis)) (by kernel_rfl) (by kernel_rfl) (by kernel_rfl) (by kernel_rfl) ?_
    iterate 9 (first|refine Be ?_|refine Bj k ?_)
    refine Bi fun K v=>?_;go_simp
    refine(Dt _ _ _ _ n.1 n.2).mono ?_;rintro e l⟨rfl,rfl⟩;rw[P.o];dsimp only;refine Bh v ?_;clear v K;refine Bi fun K v=>?_;go_simp
    refine(Dy _ _).mono ?_;rintro e l⟨rfl,rfl⟩;dsimp only;refine Bh v ?_;clear v K
    iterate 1 (first|refine Be ?_|refine Bj k ?_)
    refine Bi fun K v=>?_;go_simp
    refine Bh v ?_;clear v K;refine Bb ?_;go_wp2;go_end0;refine U.o z.drew _ x.o.ma.drew x.o.fr.drew ?_;rw[X.o];rw[Vy (by omega) (by omega)];exact congrArg bA (Iw (by omega) (by omega)).symm
   ·go_enter Tryz.func230,Tryz.ntmps230;go_wp2_with fail
    refine(Eb x.o j.o q.o).mono ?_;rintro e z⟨rfl,y⟩;clear x;have x:=Aq y;clear y;go_wp2_with fail
    refine(Eb x.o r.o f.o).mono ?_;rintro e z⟨rfl,y⟩;clear x;have x:=Aq y;clear y;go_wp2_with fail
    refine(Eb x.o V.o Q.o).mono ?_;rintro e z⟨rfl,y⟩;clear x;have x:=Aq y;clear y;go_wp2_with fail
    refine(Eb x.o r.o f.o).mono ?_;rintro e z⟨rfl,y⟩;clear x;have x:=Aq y;clear y;go_wp2_with fail
    refine(Eb x.o j.o q.o).mono ?_;rintro e z⟨rfl,y⟩;clear x;have x:=Aq y;clear y;go_wp2_with fail
    refine(Eb x.o j.o q.o).mono ?_;rintro e z⟨rfl,y⟩;clear x;have x:=Aq y;clear y;go_wp2_with fail
    refine(Eb x.o r.o f.o).mono ?_;rintro e z⟨rfl,y⟩;clear x;have x:=Aq y;clear y;go_wp2_with fail
    refine(lH x.o D.o A.o).mono ?_;rintro e z⟨rfl,y⟩;clear x;have x:=Aq y;clear y;go_wp2_with fail
    refine(Eb x.o r.o f.o).mono ?_;rintro e z⟨rfl,y⟩;clear x;have x:=Aq y;clear y;go_wp2_with fail
    refine(lH x.o F.o E.o).mono ?_;rintro e z⟨rfl,y⟩;clear x;have x:=Aq y;clear y;go_wp2_with fail
    refine(lH x.o D.o A.o).mono ?_;rintro e z⟨rfl,y⟩;clear x;have x:=Aq y;clear y;go_wp2_with fail
    refine(Hy _ _ _).mono ?_;rintro e l⟨rfl,rfl⟩;go_wp2_with fail
    obtain⟨H,⟨S,G⟩,fu⟩:=Z.o z x.o.ma;have B:=x.o.ma.aG.lt;have k:z.drew.cell? ⟨w.heap.size,0,none⟩=some (.pointer (some ⟨sb,0,none⟩))∧z.drew.cell? ⟨sb,65,none⟩=some (.slice (some ⟨g,0,none⟩) s.m.aF.length c)∧z.drew.cell? ⟨w.heap.size+1,0,none⟩=some (Aj axis):=⟨x.o.k1,H,x.o.k2⟩;refine Bq (fun i=>!([8,10,12]:List Nat).contains i) (fun i=>([0,4,7]:List Nat).contains i) (fun i=>([]:List Nat).contains i) [0,1,2,3,4,5,6,7,9,8,10,11,12] (fun wq:World=>wq.cell? ⟨w.heap.size,0,none⟩=some (.pointer (some ⟨sb,0,none⟩))∧wq.cell? ⟨sb,65,none⟩=some (.slice (some ⟨g,0,none⟩) s.m.aF.length c)∧wq.cell? ⟨w.heap.size+1,0,none⟩=some (Aj axis)) (by kernel_rfl) (by kernel_rfl) (by kernel_rfl) (by kernel_rfl) ?_
    iterate 9 (first|refine Be ?_|refine Bj k ?_)
    refine Bi fun K v=>?_;go_simp
    refine(Dt _ _ _ _ n.1 n.2).mono ?_;rintro e l⟨rfl,rfl⟩;rw[P.o];dsimp only;refine Bh v ?_;clear v K;refine Bi fun K v=>?_;go_simp
    refine(Dy _ _).mono ?_;rintro e l⟨rfl,rfl⟩;dsimp only;refine Bh v ?_;clear v K
    iterate 1 (first|refine Be ?_|refine Bj k ?_)
    refine Bi fun K v=>?_;go_simp
    refine Bh v ?_;clear v K;refine Bb ?_;go_wp2;go_end0;refine U.o z.drew _ x.o.ma.drew x.o.fr.drew ?_;rw[X.o];rw[Vx (by omega) (by omega),←Oi];simp only[Gr]
 ·rw[if_neg hK]at X;by_cases h1:wp≤T
  ·go_enter Tryz.func230,Tryz.ntmps230;go_wp2_with fail
   refine(Eb x.o j.o q.o).mono ?_;rintro e z⟨rfl,y⟩;clear x;have x:=Aq y;clear y;go_wp2_with fail
   refine(Eb x.o r.o f.o).mono ?_;rintro e z⟨rfl,y⟩;clear x;have x:=Aq y;clear y;go_wp2_with fail
   refine(Eb x.o V.o Q.o).mono ?_;rintro e z⟨rfl,y⟩;clear x;have x:=Aq y;clear y;go_wp2_with fail
   refine(Eb x.o j.o q.o).mono ?_;rintro e z⟨rfl,y⟩;clear x;have x:=Aq y;clear y;go_wp2_with fail
   refine(lH x.o F.o E.o).mono ?_;rintro e z⟨rfl,y⟩;clear x;have x:=Aq y;clear y;go_wp2_with fail
   refine(Eb x.o j.o q.o).mono ?_;rintro e z⟨rfl,y⟩;clear x;have x:=Aq y;clear y;go_wp2_with fail
   obtain⟨H,⟨S,G⟩,fu⟩:=Z.o z x.o.ma;have B:=x.o.ma.aG.lt;have k:z.drew.cell? ⟨w.heap.size,0,none⟩=some (.pointer (some ⟨sb,0,none⟩))∧z.drew.cell? ⟨sb,65,none⟩=some (.slice (some ⟨g,0,none⟩) s.m.aF.length c)∧z.drew.cell? ⟨w.heap.size+1,0,none⟩=some (Aj axis):=⟨x.o.k1,H,x.o.k2⟩;refine Bq (fun i=>!([8,10,12]:List Nat).contains i) (fun i=>([0,4,7]:List Nat).contains i) (fun i=>([]:List Nat).contains i) [0,1,2,3,4,5,6,7,9,8,10,11,12] (fun wq:World=>wq.cell? ⟨w.heap.size,0,none⟩=some (.pointer (some ⟨sb,0,none⟩))∧wq.cell? ⟨sb,65,none⟩=some (.slice (some ⟨g,0,none⟩) s.m.aF.length c)∧wq.cell? ⟨w.heap.size+1,0,none⟩=some (Aj axis)) (by kernel_rfl) (by kernel_rfl) (by kernel_rfl) (by kernel_rfl) ?_
   iterate 9 (first|refine Be ?_|refine Bj k ?_)
   refine Bi fun K v=>?_;go_simp
   refine(Dt _ _ _ _ n.1 n.2).mono ?_;rintro e l⟨rfl,rfl⟩;rw[P.o];dsimp only;refine Bh v ?_;clear v K;refine Bi fun K v=>?_;go_simp
   refine(Dy _ _).mono ?_;rintro e l⟨rfl,rfl⟩;dsimp only;refine Bh v ?_;clear v K
   iterate 1 (first|refine Be ?_|refine Bj k ?_)
   refine Bi fun K v=>?_;go_simp
   refine Bh v ?_;clear v K;refine Bb ?_;go_wp2;go_end0;refine U.o z.drew _ x.o.ma.drew x.o.fr.drew ?_;rw[X.o];rw[Vz (by omega)];exact congrArg bA (Iw (by omega) (by omega)).symm
  ·by_cases h2:wb≤wp
   ·go_enter Tryz.func230,Tryz.ntmps230;go_wp2_with fail
    refine(Eb x.o j.o q.o).mono ?_;rintro e z⟨rfl,y⟩;clear x;have x:=Aq y;clear y;go_wp2_with fail
    refine(Eb x.o r.o f.o).mono ?_;rintro e z⟨rfl,y⟩;clear x;have x:=Aq y;clear y;go_wp2_with fail
    refine(Eb x.o V.o Q.o).mono ?_;rintro e z⟨rfl,y⟩;clear x;have x:=Aq y;clear y;go_wp2_with fail
    refine(Eb x.o j.o q.o).mono ?_;rintro e z⟨rfl,y⟩;clear x;have x:=Aq y;clear y;go_wp2_with fail
    refine(Eb x.o r.o f.o).mono ?_;rintro e z⟨rfl,y⟩;clear x;have x:=Aq y;clear y;go_wp2_with fail
    refine(lH x.o D.o A.o).mono ?_;rintro e z⟨rfl,y⟩;clear x;have x:=Aq y;clear y;go_wp2_with fail
    refine(Eb x.o r.o f.o).mono ?_;rintro e z⟨rfl,y⟩;clear x;have x:=Aq y;clear y;go_wp2_with fail
    obtain⟨H,⟨S,G⟩,fu⟩:=Z.o z x.o.ma;have B:=x.o.ma.aG.lt;have k:z.drew.cell? ⟨w.heap.size,0,none⟩=some (.pointer (some ⟨sb,0,none⟩))∧z.drew.cell? ⟨sb,65,none⟩=some (.slice (some ⟨g,0,none⟩) s.m.aF.length c)∧z.drew.cell? ⟨w.heap.size+1,0,none⟩=some (Aj axis):=⟨x.o.k1,H,x.o.k2⟩;refine Bq (fun i=>!([8,10,12]:List Nat).contains i) (fun i=>([0,4,7]:List Nat).contains i) (fun i=>([]:List Nat).contains i) [0,1,2,3,4,5,6,7,9,8,10,11,12] (fun wq:World=>wq.cell? ⟨w.heap.size,0,none⟩=some (.pointer (some ⟨sb,0,none⟩))∧wq.cell? ⟨sb,65,none⟩=some (.slice (some ⟨g,0,none⟩) s.m.aF.length c)∧wq.cell? ⟨w.heap.size+1,0,none⟩=some (Aj axis)) (by kernel_rfl) (by kernel_rfl) (by kernel_rfl) (by kernel_rfl) ?_
    iterate 9 (first|refine Be ?_|refine Bj k ?_)
    refine Bi fun K v=>?_;go_simp
    refine(Dt _ _ _ _ n.1 n.2).mono ?_;rintro e l⟨rfl,rfl⟩;rw[P.o];dsimp only;refine Bh v ?_;clear v K;refine Bi fun K v=>?_;go_simp
    refine(Dy _ _).mono ?_;rintro e l⟨rfl,rfl⟩;dsimp only;refine Bh v ?_;clear v K
    iterate 1 (first|refine Be ?_|refine Bj k ?_)
    refine Bi fun K v=>?_;go_simp
    refine Bh v ?_;clear v K;refine Bb ?_;go_wp2;go_end0;refine U.o z.drew _ x.o.ma.drew x.o.fr.drew ?_;rw[X.o];rw[Vy (by omega) (by omega)];exact congrArg bA (Iw (by omega) (by omega)).symm
   ·go_enter Tryz.func230,Tryz.ntmps230;go_wp2_with fail
    refine(Eb x.o j.o q.o).mono ?_;rintro e z⟨rfl,y⟩;clear x;have x:=Aq y;clear y;go_wp2_with fail
    refine(Eb x.o r.o f.o).mono ?_;rintro e z⟨rfl,y⟩;clear x;have x:=Aq y;clear y;go_wp2_with fail
    refine(Eb x.o V.o Q.o).mono ?_;rintro e z⟨rfl,y⟩;clear x;have x:=Aq y;clear y;go_wp2_with fail
    refine(Eb x.o j.o q.o).mono ?_;rintro e z⟨rfl,y⟩;clear x;have x:=Aq y;clear y;go_wp2_with fail
    refine(Eb x.o r.o f.o).mono ?_;rintro e z⟨rfl,y⟩;clear x;have x:=Aq y;clear y;go_wp2_with fail
    refine(Eb x.o r.o f.o).mono ?_;rintro e z⟨rfl,y⟩;clear x;have x:=Aq y;clear y;go_wp2_with fail
    refine(Eb x.o j.o q.o).mono ?_;rintro e z⟨rfl,y⟩;clear x;have x:=Aq y;clear y;go_wp2_with fail
    refine(lH x.o F.o E.o).mono ?_;rintro e z⟨rfl,y⟩;clear x;have x:=Aq y;clear y;go_wp2_with fail
    refine(Eb x.o j.o q.o).mono ?_;rintro e z⟨rfl,y⟩;clear x;have x:=Aq y;clear y;go_wp2_with fail
    refine(lH x.o D.o A.o).mono ?_;rintro e z⟨rfl,y⟩;clear x;have x:=Aq y;clear y;go_wp2_with fail
    refine(lH x.o F.o E.o).mono ?_;rintro e z⟨rfl,y⟩;clear x;have x:=Aq y;clear y;go_wp2_with fail
    refine(Hy _ _ _).mono ?_;rintro e l⟨rfl,rfl⟩;go_wp2_with fail
    obtain⟨H,⟨S,G⟩,fu⟩:=Z.o z x.o.ma;have B:=x.o.ma.aG.lt;have k:z.drew.cell? ⟨w.heap.size,0,none⟩=some (.pointer (some ⟨sb,0,none⟩))∧z.drew.cell? ⟨sb,65,none⟩=some (.slice (some ⟨g,0,none⟩) s.m.aF.length c)∧z.drew.cell? ⟨w.heap.size+1,0,none⟩=some (Aj axis):=⟨x.o.k1,H,x.o.k2⟩;refine Bq (fun i=>!([8,10,12]:List Nat).contains i) (fun i=>([0,4,7]:List Nat).contains i) (fun i=>([]:List Nat).contains i) [0,1,2,3,4,5,6,7,9,8,10,11,12] (fun wq:World=>wq.cell? ⟨w.heap.size,0,none⟩=some (.pointer (some ⟨sb,0,none⟩))∧wq.cell? ⟨sb,65,none⟩=some (.slice (some ⟨g,0,none⟩) s.m.aF.length c)∧wq.cell? ⟨w.heap.size+1,0,none⟩=some (Aj axis)) (by kernel_rfl) (by kernel_rfl) (by kernel_rfl) (by kernel_rfl) ?_
    iterate 9 (first|refine Be ?_|refine Bj k ?_)
    refine Bi fun K v=>?_;go_simp
    refine(Dt _ _ _ _ n.1 n.2).mono ?_;rintro e l⟨rfl,rfl⟩;rw[P.o];dsimp only;refine Bh v ?_;clear v K;refine Bi fun K v=>?_;go_simp
    refine(Dy _ _).mono ?_;rintro e l⟨rfl,rfl⟩;dsimp only;refine Bh v ?_;clear v K
    iterate 1 (first|refine Be ?_|refine Bj k ?_)
    refine Bi fun K v=>?_;go_simp
    refine Bh v ?_;clear v K;refine Bb ?_;go_wp2;go_end0;refine U.o z.drew _ x.o.ma.drew x.o.fr.drew ?_;rw[X.o];rw[Vx (by omega) (by omega),←Oi];simp only[Gr]
end
end Go.Proofs.YtnhebmgibiomnaaGreat

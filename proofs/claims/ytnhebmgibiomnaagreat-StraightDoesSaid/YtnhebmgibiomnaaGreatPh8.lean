import Derived.Test.YtnhebmgibiomnaaGreatPh7
set_option linter.unusedVariables false
set_option linter.unusedSimpArgs false
set_option maxRecDepth 100000
set_option maxHeartbeats 8000000
namespace Go.Proofs.YtnhebmgibiomnaaGreat
section
open Go.RowKit Mc
theorem Zw (bG n:Int):bI (Cx bG n):=by
 unfold Cx;exact Fg _
theorem do1 (w:World)(sb:Nat)(L:bK)(s:Sr.St)(h:au w sb L s)(op n a b:Int)(d:Nat)(u:d<64):Calls Tryz.prog 102 #[.pointer (some ⟨sb,0,none⟩),Ew ⟨op,d,a,b,n⟩] w (bB w sb L { s with aW:=s.aW.set d (bA n) }):=by
 have q:(d:Int)<64:=by omega
 unfold Ew;have H:=Aq h;have j:=h.aG.lt
 skip
 clear h;go_enter Tryz.func102,Tryz.ntmps102;go_wp2_with fail
 generalize z:w.alloc (.cells #[Aj op,Aj (d:Int),Aj (a:Int),Aj (b:Int),Aj n] 50)=W at *;obtain⟨f,p,c,m,v,H1,k,g⟩:=H.o.box z;clear z;have r:=H1.o.drew.aG.frozen d;have c0:=H1.o.drew.fR u;have y:W.drew.cell? ⟨w.heap.size,1,none⟩=some (Aj (d:Int))∧W.drew.cell? ⟨w.heap.size,4,none⟩=some (Aj n):=⟨p,v⟩;refine Bq (fun i=>!([5,9]:List Nat).contains i) (fun i=>([2,4]:List Nat).contains i) (fun i=>([5]:List Nat).contains i) [0,1,2,3,4,6,7,5,8,9] (fun wq:World=>wq.cell? ⟨w.heap.size,1,none⟩=some (Aj (d:Int))∧wq.cell? ⟨w.heap.size,4,none⟩=some (Aj n)) (by kernel_rfl) (by kernel_rfl) (by kernel_rfl) (by kernel_rfl) ?_
 iterate 7 (first|refine Be ?_|refine Bj y ?_)
 refine Bi fun K x=>?_;go_simp
 refine(Dy _ _).mono ?_;rintro e l⟨rfl,rfl⟩;dsimp only;refine x _ _ (fun _=>y) ?_;clear x K
 iterate 1 (first|refine Be ?_|refine Bj y ?_)
 refine Bi fun K x=>?_;go_simp
 refine Bh x ?_;clear x K;refine Bb ?_;go_wp2;go_end0;exact .put H1.o.drew k.o.drew u (Fg n)
theorem do39 (w:World)(sb:Nat)(L:bK)(s:Sr.St)(h:au w sb L s)(op n a b:Int)(d:Nat)(z:d<64):Calls Tryz.prog 103 #[.pointer (some ⟨sb,0,none⟩),Ew ⟨op,d,a,b,n⟩] w (bB w sb L { s with aW:=s.aW.set d s.m.size }):=by
 have p:(d:Int)<64:=by omega
 unfold Ew;have H:=Aq h;have g:=h.aG.lt
 skip
 clear h;go_enter Tryz.func103,Tryz.ntmps103;go_wp2_with fail
 generalize y:w.alloc (.cells #[Aj op,Aj (d:Int),Aj (a:Int),Aj (b:Int),Aj n] 50)=W at *;obtain⟨c,k,r,i,f,H1,v,e⟩:=H.o.box y;clear y;have q:=H1.o.drew.aG.frozen d;have c0:=H1.o.drew.fR z;have c71:=H1.o.drew.c71;have u:W.drew.cell? ⟨w.heap.size,1,none⟩=some (Aj (d:Int))∧W.drew.cell? ⟨sb,71,none⟩=some (Aj s.m.size):=⟨k,c71⟩;refine Cr [10] [2,6] [] 11 (fun wq:World=>wq.cell? ⟨w.heap.size,1,none⟩=some (Aj (d:Int))∧wq.cell? ⟨sb,71,none⟩=some (Aj s.m.size)) ?_
 iterate 10 (first|refine Be ?_|refine Bj u ?_)
 refine Bi fun K x=>?_;go_simp
 refine Bh x ?_;clear x K;refine Bb ?_;go_wp2;go_end0;exact .put H1.o.drew v.o.drew z H1.o.ok.m.size
theorem do15 (w:World)(sb:Nat)(L:bK)(s:Sr.St)(h:au w sb L s)(op n b:Int)(d a:Nat)(p:d<64)(q:a<64):Calls Tryz.prog 119 #[.pointer (some ⟨sb,0,none⟩),Ew ⟨op,d,a,b,n⟩] w (bB w sb L { s with aW:=s.aW.set d (Cx s.m.bG (s.aW.getD a 0)) }):=by
 have j:(d:Int)<64:=by omega
 have R:(a:Int)<64:=by omega
 obtain⟨x,z,_,P⟩:=h.jW q;have c:=Aq z;rw[z];clear z;unfold Ew;have H:=Aq h;have U:=h.aG.lt
 skip
 clear h;go_enter Tryz.func119,Tryz.ntmps119;go_wp2_with fail
 generalize k:w.alloc (.cells #[Aj op,Aj (d:Int),Aj (a:Int),Aj (b:Int),Aj n] 50)=W at *;obtain⟨X,g,r,Q,Z,H1,f,Y⟩:=H.o.box k;clear k;have l:=H1.o.drew.aG.frozen d;have c0:=H1.o.drew.fR p;have c74:=H1.o.drew.c74;have v:=H1.o.fR q;rw[c.o]at v;have u:W.drew.cell? ⟨w.heap.size,1,none⟩=some (Aj (d:Int))∧W.drew.cell? ⟨sb,74,none⟩=some (Aj s.m.bG)∧W.drew.cell? ⟨w.heap.size,2,none⟩=some (Aj (a:Int))∧W.drew.cell? ⟨sb,a,none⟩=some (Aj x):=⟨g,c74,r,v⟩;refine Bq (fun i=>!([14,18]:List Nat).contains i) (fun i=>([2,6,9,13]:List Nat).contains i) (fun i=>([14]:List Nat).contains i) [0,1,2,3,4,5,6,7,8,9,10,11,12,13,15,16,14,17,18] (fun wq:World=>wq.cell? ⟨w.heap.size,1,none⟩=some (Aj (d:Int))∧wq.cell? ⟨sb,74,none⟩=some (Aj s.m.bG)∧wq.cell? ⟨w.heap.size,2,none⟩=some (Aj (a:Int))∧wq.cell? ⟨sb,a,none⟩=some (Aj x)) (by kernel_rfl) (by kernel_rfl) (by kernel_rfl) (by kernel_rfl) ?_
 iterate 16 (first|refine Be ?_|refine Bj u ?_)
 refine Bi fun K y=>?_;go_simp
 refine(Fo _ _ _).mono ?_;rintro e V⟨rfl,rfl⟩;dsimp only;refine y _ _ (fun _=>u) ?_;clear y K
 iterate 1 (first|refine Be ?_|refine Bj u ?_)
 refine Bi fun K y=>?_;go_simp
 refine Bh y ?_;clear y K;refine Bb ?_;go_wp2;go_end0;exact .put H1.o.drew f.o.drew p (Zw _ _)
theorem do25 (w:World)(sb:Nat)(L:bK)(s:Sr.St)(h:au w sb L s)(op n b:Int)(d a:Nat)(r:d<64)(f:a<64):Calls Tryz.prog 127 #[.pointer (some ⟨sb,0,none⟩),Ew ⟨op,d,a,b,n⟩] w (bB w sb L { s with aW:=s.aW.set d (aK s.m.aP (s.aW.getD a 0)) }):=by
 unfold Ew;have H:=Aq h;have l:=h.aG.lt
 skip
 clear h;go_enter Tryz.func127,Tryz.ntmps127;go_wp2_with fail
 generalize y:w.alloc (.cells #[Aj op,Aj (d:Int),Aj (a:Int),Aj (b:Int),Aj n] 50)=W at *;obtain⟨p,i,v,g,q,H1,c,j⟩:=H.o.box y;clear y;have kj:=H1.o.kj;have kj:=H1.o.kj;have k:W.drew.cell? ⟨w.heap.size,0,none⟩=some (Aj op)∧W.drew.cell? ⟨w.heap.size,1,none⟩=some (Aj (d:Int))∧W.drew.cell? ⟨w.heap.size,2,none⟩=some (Aj (a:Int))∧W.drew.cell? ⟨w.heap.size,3,none⟩=some (Aj (b:Int))∧W.drew.cell? ⟨w.heap.size,4,none⟩=some (Aj n)∧W.drew.cell? ⟨sb,69,none⟩=some L.cv:=⟨p,i,v,g,q,kj⟩;refine Cr [6] [4,5] [] 7 (fun wq:World=>wq.cell? ⟨w.heap.size,0,none⟩=some (Aj op)∧wq.cell? ⟨w.heap.size,1,none⟩=some (Aj (d:Int))∧wq.cell? ⟨w.heap.size,2,none⟩=some (Aj (a:Int))∧wq.cell? ⟨w.heap.size,3,none⟩=some (Aj (b:Int))∧wq.cell? ⟨w.heap.size,4,none⟩=some (Aj n)∧wq.cell? ⟨sb,69,none⟩=some L.cv) ?_
 iterate 6 (first|refine Be ?_|refine Bj k ?_)
 refine Bi fun K x=>?_;go_simp
 refine(Pz W.drew sb L s H1.o.drew op n b d a r f L.cv _ H1.o.ok.m.iC H1.o.drew.cv H1.o.ok.m.aP).mono ?_;intro e X z;have u:=Aq (z.bL c.o.drew);obtain⟨rfl,_⟩:=z;dsimp only;refine Bh x ?_;clear x K;refine Bb ?_;go_wp2;go_end0;exact u.o
theorem do27 (w:World)(sb:Nat)(L:bK)(s:Sr.St)(h:au w sb L s)(op n b:Int)(d a:Nat)(r:d<64)(f:a<64):Calls Tryz.prog 131 #[.pointer (some ⟨sb,0,none⟩),Ew ⟨op,d,a,b,n⟩] w (bB w sb L { s with aW:=s.aW.set d (aK s.m.store (s.aW.getD a 0)) }):=by
 unfold Ew;have H:=Aq h;have l:=h.aG.lt
 skip
 clear h;go_enter Tryz.func131,Tryz.ntmps131;go_wp2_with fail
 generalize y:w.alloc (.cells #[Aj op,Aj (d:Int),Aj (a:Int),Aj (b:Int),Aj n] 50)=W at *;obtain⟨p,i,v,g,q,H1,c,j⟩:=H.o.box y;clear y;have lN:=H1.o.lN;have k:W.drew.cell? ⟨w.heap.size,0,none⟩=some (Aj op)∧W.drew.cell? ⟨w.heap.size,1,none⟩=some (Aj (d:Int))∧W.drew.cell? ⟨w.heap.size,2,none⟩=some (Aj (a:Int))∧W.drew.cell? ⟨w.heap.size,3,none⟩=some (Aj (b:Int))∧W.drew.cell? ⟨w.heap.size,4,none⟩=some (Aj n)∧W.drew.cell? ⟨sb,70,none⟩=some L.st:=⟨p,i,v,g,q,lN⟩;refine Cr [6] [4,5] [] 7 (fun wq:World=>wq.cell? ⟨w.heap.size,0,none⟩=some (Aj op)∧wq.cell? ⟨w.heap.size,1,none⟩=some (Aj (d:Int))∧wq.cell? ⟨w.heap.size,2,none⟩=some (Aj (a:Int))∧wq.cell? ⟨w.heap.size,3,none⟩=some (Aj (b:Int))∧wq.cell? ⟨w.heap.size,4,none⟩=some (Aj n)∧wq.cell? ⟨sb,70,none⟩=some L.st) ?_
 iterate 6 (first|refine Be ?_|refine Bj k ?_)
 refine Bi fun K x=>?_;go_simp
 refine(Pz W.drew sb L s H1.o.drew op n b d a r f L.st _ (by have:=H1.o.ok.m.dR;omega) H1.o.drew.st H1.o.ok.m.store).mono ?_;intro e X z;have u:=Aq (z.bL c.o.drew);obtain⟨rfl,_⟩:=z;dsimp only;refine Bh x ?_;clear x K;refine Bb ?_;go_wp2;go_end0;exact u.o
theorem do26 (w:World)(sb:Nat)(L:bK)(s:Sr.St)(h:au w sb L s)(op n d:Int)(a b:Nat)(R:a<64)(A:b<64):Calls Tryz.prog 129 #[.pointer (some ⟨sb,0,none⟩),Ew ⟨op,d,a,b,n⟩] w (bB w sb L { s with m := { s.m with aP:=Ip s.m.aP (s.aW.getD a 0) (s.aW.getD b 0) } }):=by
 obtain⟨q,c,Y,_,_⟩:=Ba h.cv;have B:=Aq Y;clear Y;unfold Ew;have H:=Aq h;have hW:=h.aG.lt
 skip
 clear h;go_enter Tryz.func129,Tryz.ntmps129;go_wp2_with fail
 generalize y:w.alloc (.cells #[Aj op,Aj (d:Int),Aj (a:Int),Aj (b:Int),Aj n] 50)=W at *;obtain⟨V,C,Z,S,P,H1,Q,T⟩:=H.o.box y;clear y;have kj:=H1.o.kj;rw[B.o]at kj;by_cases p:0≤s.aW.getD a 0∧s.aW.getD a 0<s.m.aP.length
 ·obtain⟨i,hi⟩:∃i:Nat,s.aW.getD a 0=i:=⟨(s.aW.getD a 0).toNat,by omega⟩;have r:i<s.m.aP.length:=by omega
  obtain⟨g,N,z,_,_,_,_⟩:=Ce H1.o.cv (by omega);have X:=z;rw[B.o]at X;obtain⟨rfl,rfl⟩:q=some ⟨g,0,none⟩∧c=N:=by simpa using X
  clear X;have f:=Aq (show ({ s with m := { s.m with aP:=Ip s.m.aP (s.aW.getD a 0) (s.aW.getD b 0) } }:Sr.St) = { s with m := { s.m with aP:=s.m.aP.set i (s.aW.getD b 0) } } by rw[hi,Ou r]);have U:∀W,au W sb L s→au (W.setCell ⟨g,i,none⟩ (Aj (s.aW.getD b 0))) sb L { s with m := { s.m with aP:=s.m.aP.set i (s.aW.getD b 0) } }∧(∃u,W.cell? ⟨g,i,none⟩=some u)∧W.frozen? ⟨g,i,none⟩=false:=fun W y=>by
   refine⟨y.jr (by rw[z];rfl) r (y.rk A),?_,?_⟩
   ·obtain⟨g2,O,x,_,_,_,D⟩:=Ce y.cv (by omega);rw[z]at x
    injection x with x
    injection x with x
    injection x with x
    subst x;exact⟨_,D i _ (Ck (Bg r))⟩
   ·obtain⟨_,_,_,I⟩:=Bf y.cv (g:=g) (by rw[z];rfl);exact I.frozen i
  have F:=Aq U;have J:=Aq hi;have E:eZ L sb g:=.inr (.inr (.inr (.inl (by rw[z];rfl))));rw[f.o];clear hi p U z;have l:W.drew.cell? ⟨w.heap.size,0,none⟩=some (Aj op)∧W.drew.cell? ⟨w.heap.size,1,none⟩=some (Aj (d:Int))∧W.drew.cell? ⟨w.heap.size,2,none⟩=some (Aj (a:Int))∧W.drew.cell? ⟨w.heap.size,3,none⟩=some (Aj (b:Int))∧W.drew.cell? ⟨w.heap.size,4,none⟩=some (Aj n)∧W.drew.cell? ⟨sb,69,none⟩=some (.slice (some ⟨g,0,none⟩) s.m.aP.length c):=⟨V,C,Z,S,P,kj⟩;refine Cr [6] [4,5] [] 7 (fun wq:World=>wq.cell? ⟨w.heap.size,0,none⟩=some (Aj op)∧wq.cell? ⟨w.heap.size,1,none⟩=some (Aj (d:Int))∧wq.cell? ⟨w.heap.size,2,none⟩=some (Aj (a:Int))∧wq.cell? ⟨w.heap.size,3,none⟩=some (Aj (b:Int))∧wq.cell? ⟨w.heap.size,4,none⟩=some (Aj n)∧wq.cell? ⟨sb,69,none⟩=some (.slice (some ⟨g,0,none⟩) s.m.aP.length c)) ?_
  iterate 6 (first|refine Be ?_|refine Bj l ?_)
  refine Bi fun K v=>?_;go_simp
  refine(Nn W.drew sb L s H1.o.drew op n d a b R A i _ c g H.o.ok.m.iC J.o r _ E F.o).mono ?_;intro e M k;have j:=Aq (k.bL Q.o.drew);obtain⟨rfl,_⟩:=k;dsimp only;refine Bh v ?_;clear v K;refine Bb ?_;go_wp2;go_end0;exact j.o
 ·have f:=Aq (show ({ s with m := { s.m with aP:=Ip s.m.aP (s.aW.getD a 0) (s.aW.getD b 0) } }:Sr.St)=s by rw[Ut p]);have G:=Aq p;rw[f.o];clear p;have l:W.drew.cell? ⟨w.heap.size,0,none⟩=some (Aj op)∧W.drew.cell? ⟨w.heap.size,1,none⟩=some (Aj (d:Int))∧W.drew.cell? ⟨w.heap.size,2,none⟩=some (Aj (a:Int))∧W.drew.cell? ⟨w.heap.size,3,none⟩=some (Aj (b:Int))∧W.drew.cell? ⟨w.heap.size,4,none⟩=some (Aj n)∧W.drew.cell? ⟨sb,69,none⟩=some (.slice q s.m.aP.length c):=⟨V,C,Z,S,P,kj⟩;refine Cr [6] [4,5] [] 7 (fun wq:World=>wq.cell? ⟨w.heap.size,0,none⟩=some (Aj op)∧wq.cell? ⟨w.heap.size,1,none⟩=some (Aj (d:Int))∧wq.cell? ⟨w.heap.size,2,none⟩=some (Aj (a:Int))∧wq.cell? ⟨w.heap.size,3,none⟩=some (Aj (b:Int))∧wq.cell? ⟨w.heap.size,4,none⟩=some (Aj n)∧wq.cell? ⟨sb,69,none⟩=some (.slice q s.m.aP.length c)) ?_
  iterate 6 (first|refine Be ?_|refine Bj l ?_)
  refine Bi fun K v=>?_;go_simp
  refine(Py W.drew sb L s H1.o.drew op n b d a R q _ c H.o.ok.m.iC G.o).mono ?_;intro e M k;have j:=Aq (k.bL Q.o.drew);obtain⟨rfl,_⟩:=k;dsimp only;refine Bh v ?_;clear v K;refine Bb ?_;go_wp2;go_end0;exact j.o
theorem do28 (w:World)(sb:Nat)(L:bK)(s:Sr.St)(h:au w sb L s)(op n d:Int)(a b:Nat)(R:a<64)(A:b<64):Calls Tryz.prog 132 #[.pointer (some ⟨sb,0,none⟩),Ew ⟨op,d,a,b,n⟩] w (bB w sb L { s with m := { s.m with store:=Ip s.m.store (s.aW.getD a 0) (s.aW.getD b 0) } }):=by
 obtain⟨q,c,Y,_,_⟩:=Ba h.st;have B:=Aq Y;clear Y;unfold Ew;have H:=Aq h;have hW:=h.aG.lt
 skip
 clear h;go_enter Tryz.func132,Tryz.ntmps132;go_wp2_with fail
 generalize y:w.alloc (.cells #[Aj op,Aj (d:Int),Aj (a:Int),Aj (b:Int),Aj n] 50)=W at *;obtain⟨V,C,Z,S,P,H1,Q,T⟩:=H.o.box y;clear y;have lN:=H1.o.lN;rw[B.o]at lN;by_cases p:0≤s.aW.getD a 0∧s.aW.getD a 0<s.m.store.length
 ·obtain⟨i,hi⟩:∃i:Nat,s.aW.getD a 0=i:=⟨(s.aW.getD a 0).toNat,by omega⟩;have r:i<s.m.store.length:=by omega
  obtain⟨g,N,z,_,_,_,_⟩:=Ce H1.o.st (by omega);have X:=z;rw[B.o]at X;obtain⟨rfl,rfl⟩:q=some ⟨g,0,none⟩∧c=N:=by simpa using X
  clear X;have f:=Aq (show ({ s with m := { s.m with store:=Ip s.m.store (s.aW.getD a 0) (s.aW.getD b 0) } }:Sr.St) = { s with m := { s.m with store:=s.m.store.set i (s.aW.getD b 0) } } by rw[hi,Ou r]);have U:∀W,au W sb L s→au (W.setCell ⟨g,i,none⟩ (Aj (s.aW.getD b 0))) sb L { s with m := { s.m with store:=s.m.store.set i (s.aW.getD b 0) } }∧(∃u,W.cell? ⟨g,i,none⟩=some u)∧W.frozen? ⟨g,i,none⟩=false:=fun W y=>by
   refine⟨y.setSt (by rw[z];rfl) r (y.rk A),?_,?_⟩
   ·obtain⟨g2,O,x,_,_,_,D⟩:=Ce y.st (by omega);rw[z]at x
    injection x with x
    injection x with x
    injection x with x
    subst x;exact⟨_,D i _ (Ck (Bg r))⟩
   ·obtain⟨_,_,_,I⟩:=Bf y.st (g:=g) (by rw[z];rfl);exact I.frozen i
  have F:=Aq U;have J:=Aq hi;have E:eZ L sb g:=.inr (.inr (.inr (.inr (by rw[z];rfl))));rw[f.o];clear hi p U z;have l:W.drew.cell? ⟨w.heap.size,0,none⟩=some (Aj op)∧W.drew.cell? ⟨w.heap.size,1,none⟩=some (Aj (d:Int))∧W.drew.cell? ⟨w.heap.size,2,none⟩=some (Aj (a:Int))∧W.drew.cell? ⟨w.heap.size,3,none⟩=some (Aj (b:Int))∧W.drew.cell? ⟨w.heap.size,4,none⟩=some (Aj n)∧W.drew.cell? ⟨sb,70,none⟩=some (.slice (some ⟨g,0,none⟩) s.m.store.length c):=⟨V,C,Z,S,P,lN⟩;refine Cr [6] [4,5] [] 7 (fun wq:World=>wq.cell? ⟨w.heap.size,0,none⟩=some (Aj op)∧wq.cell? ⟨w.heap.size,1,none⟩=some (Aj (d:Int))∧wq.cell? ⟨w.heap.size,2,none⟩=some (Aj (a:Int))∧wq.cell? ⟨w.heap.size,3,none⟩=some (Aj (b:Int))∧wq.cell? ⟨w.heap.size,4,none⟩=some (Aj n)∧wq.cell? ⟨sb,70,none⟩=some (.slice (some ⟨g,0,none⟩) s.m.store.length c)) ?_
  iterate 6 (first|refine Be ?_|refine Bj l ?_)
  refine Bi fun K v=>?_;go_simp
  refine(Nn W.drew sb L s H1.o.drew op n d a b R A i _ c g (by have:=H.o.ok.m.dR;omega) J.o r _ E F.o).mono ?_;intro e M k;have j:=Aq (k.bL Q.o.drew);obtain⟨rfl,_⟩:=k;dsimp only;refine Bh v ?_;clear v K;refine Bb ?_;go_wp2;go_end0;exact j.o
 ·have f:=Aq (show ({ s with m := { s.m with store:=Ip s.m.store (s.aW.getD a 0) (s.aW.getD b 0) } }:Sr.St)=s by rw[Ut p]);have G:=Aq p;rw[f.o];clear p;have l:W.drew.cell? ⟨w.heap.size,0,none⟩=some (Aj op)∧W.drew.cell? ⟨w.heap.size,1,none⟩=some (Aj (d:Int))∧W.drew.cell? ⟨w.heap.size,2,none⟩=some (Aj (a:Int))∧W.drew.cell? ⟨w.heap.size,3,none⟩=some (Aj (b:Int))∧W.drew.cell? ⟨w.heap.size,4,none⟩=some (Aj n)∧W.drew.cell? ⟨sb,70,none⟩=some (.slice q s.m.store.length c):=⟨V,C,Z,S,P,lN⟩;refine Cr [6] [4,5] [] 7 (fun wq:World=>wq.cell? ⟨w.heap.size,0,none⟩=some (Aj op)∧wq.cell? ⟨w.heap.size,1,none⟩=some (Aj (d:Int))∧wq.cell? ⟨w.heap.size,2,none⟩=some (Aj (a:Int))∧wq.cell? ⟨w.heap.size,3,none⟩=some (Aj (b:Int))∧wq.cell? ⟨w.heap.size,4,none⟩=some (Aj n)∧wq.cell? ⟨sb,70,none⟩=some (.slice q s.m.store.length c)) ?_
  iterate 6 (first|refine Be ?_|refine Bj l ?_)
  refine Bi fun K v=>?_;go_simp
  refine(Py W.drew sb L s H1.o.drew op n b d a R q _ c (by have:=H.o.ok.m.dR;omega) G.o).mono ?_;intro e M k;have j:=Aq (k.bL Q.o.drew);obtain⟨rfl,_⟩:=k;dsimp only;refine Bh v ?_;clear v K;refine Bb ?_;go_wp2;go_end0;exact j.o
theorem do22 (w:World)(sb:Nat)(L:bK)(s:Sr.St)(h:au w sb L s)(op n d a b:Int):Calls Tryz.prog 133 #[.pointer (some ⟨sb,0,none⟩),Ew ⟨op,d,a,b,n⟩] w (bB w sb L { s with m := { s.m with look:=n % 2 } }):=by
 unfold Ew;have H:=Aq h;have g:=h.aG.lt
 skip
 clear h;go_enter Tryz.func133,Tryz.ntmps133;go_wp2_with fail
 generalize x:w.alloc (.cells #[Aj op,Aj (d:Int),Aj (a:Int),Aj (b:Int),Aj n] 50)=W at *;obtain⟨k,j,u,i,r,H1,z,q⟩:=H.o.box x;clear x;have c:=H1.o.it;have f:=H1.o.aG.frozen 72;have y:=Aq (bB.to (H1.o.ie (v:=n % 2) (by omega)) (z.o.setCell (p:=⟨sb,72,none⟩) (.inl (.inl rfl)) _));go_wp2_with fail
 refine(Jl _ 2 _ (by decide) (by decide)).mono ?_;rintro e w1⟨rfl,rfl⟩;go_wp2;go_end0;exact y.o
theorem do23 (w:World)(sb:Nat)(L:bK)(s:Sr.St)(h:au w sb L s)(op n d a b:Int):Calls Tryz.prog 135 #[.pointer (some ⟨sb,0,none⟩),Ew ⟨op,d,a,b,n⟩] w (bB w sb L { s with m := { s.m with move:=n % 2 } }):=by
 unfold Ew;have H:=Aq h;have g:=h.aG.lt
 skip
 clear h;go_enter Tryz.func135,Tryz.ntmps135;go_wp2_with fail
 generalize x:w.alloc (.cells #[Aj op,Aj (d:Int),Aj (a:Int),Aj (b:Int),Aj n] 50)=W at *;obtain⟨k,j,u,i,r,H1,z,q⟩:=H.o.box x;clear x;have c:=H1.o.gg;have f:=H1.o.aG.frozen 73;have y:=Aq (bB.to (H1.o.ij (v:=n % 2) (by omega)) (z.o.setCell (p:=⟨sb,73,none⟩) (.inl (.inl rfl)) _));go_wp2_with fail
 refine(Jl _ 2 _ (by decide) (by decide)).mono ?_;rintro e w1⟨rfl,rfl⟩;go_wp2;go_end0;exact y.o
theorem do24 (w:World)(sb:Nat)(L:bK)(s:Sr.St)(h:au w sb L s)(op n d a b:Int):Calls Tryz.prog 136 #[.pointer (some ⟨sb,0,none⟩),Ew ⟨op,d,a,b,n⟩] w (bB w sb L { s with m := { s.m with bG:=n % 6 } }):=by
 unfold Ew;have H:=Aq h;have g:=h.aG.lt
 skip
 clear h;go_enter Tryz.func136,Tryz.ntmps136;go_wp2_with fail
 generalize x:w.alloc (.cells #[Aj op,Aj (d:Int),Aj (a:Int),Aj (b:Int),Aj n] 50)=W at *;obtain⟨k,j,u,i,r,H1,z,q⟩:=H.o.box x;clear x;have c:=H1.o.c74;have f:=H1.o.aG.frozen 74;have y:=Aq (bB.to (H1.o.iY (v:=n % 6) (by omega)) (z.o.setCell (p:=⟨sb,74,none⟩) (.inl (.inl rfl)) _));go_wp2_with fail
 refine(Jl _ 6 _ (by decide) (by decide)).mono ?_;rintro e w1⟨rfl,rfl⟩;go_wp2;go_end0;exact y.o
theorem do29 (w:World)(sb:Nat)(L:bK)(s:Sr.St)(h:au w sb L s)(op n b:Int)(d a:Nat)(r:d<64)(g:a<64):Calls Tryz.prog 137 #[.pointer (some ⟨sb,0,none⟩),Ew ⟨op,d,a,b,n⟩] w (bB w sb L (Ll s s.m.aF d (s.aW.getD a 0))):=by
 unfold Ew;have H:=Aq h;have X:=h.aG.lt
 skip
 clear h;go_enter Tryz.func137,Tryz.ntmps137;go_wp2_with fail
 generalize y:w.alloc (.cells #[Aj op,Aj (d:Int),Aj (a:Int),Aj (b:Int),Aj n] 50)=W at *;obtain⟨p,j,v,i,q,H1,f,l⟩:=H.o.box y;clear y;have c:=H1.o.h_;have k:W.drew.cell? ⟨w.heap.size,0,none⟩=some (Aj op)∧W.drew.cell? ⟨w.heap.size,1,none⟩=some (Aj (d:Int))∧W.drew.cell? ⟨w.heap.size,2,none⟩=some (Aj (a:Int))∧W.drew.cell? ⟨w.heap.size,3,none⟩=some (Aj (b:Int))∧W.drew.cell? ⟨w.heap.size,4,none⟩=some (Aj n)∧W.drew.cell? ⟨sb,65,none⟩=some L.cu:=⟨p,j,v,i,q,c⟩;refine Cr [7] [5,6] [] 8 (fun wq:World=>wq.cell? ⟨w.heap.size,0,none⟩=some (Aj op)∧wq.cell? ⟨w.heap.size,1,none⟩=some (Aj (d:Int))∧wq.cell? ⟨w.heap.size,2,none⟩=some (Aj (a:Int))∧wq.cell? ⟨w.heap.size,3,none⟩=some (Aj (b:Int))∧wq.cell? ⟨w.heap.size,4,none⟩=some (Aj n)∧wq.cell? ⟨sb,65,none⟩=some L.cu) ?_
 iterate 7 (first|refine Be ?_|refine Bj k ?_)
 refine Bi fun K x=>?_;go_simp
 refine(No W.drew sb L s H1.o.drew op n b d a r g L.cu _ rfl (fun _ h=>h.cu) H1.o.ok.m.aF).mono ?_;intro e Y z;have u:=Aq (z.bL f.o.drew);obtain⟨rfl,_⟩:=z;dsimp only;refine Bh x ?_;clear x K;refine Bb ?_;go_wp2;go_end0;exact u.o
theorem do30 (w:World)(sb:Nat)(L:bK)(s:Sr.St)(h:au w sb L s)(op n b:Int)(d a:Nat)(r:d<64)(g:a<64):Calls Tryz.prog 139 #[.pointer (some ⟨sb,0,none⟩),Ew ⟨op,d,a,b,n⟩] w (bB w sb L (Ll s s.m.aT d (s.aW.getD a 0))):=by
 unfold Ew;have H:=Aq h;have X:=h.aG.lt
 skip
 clear h;go_enter Tryz.func139,Tryz.ntmps139;go_wp2_with fail
 generalize y:w.alloc (.cells #[Aj op,Aj (d:Int),Aj (a:Int),Aj (b:Int),Aj n] 50)=W at *;obtain⟨p,j,v,i,q,H1,f,l⟩:=H.o.box y;clear y;have c:=H1.o.c64;have k:W.drew.cell? ⟨w.heap.size,0,none⟩=some (Aj op)∧W.drew.cell? ⟨w.heap.size,1,none⟩=some (Aj (d:Int))∧W.drew.cell? ⟨w.heap.size,2,none⟩=some (Aj (a:Int))∧W.drew.cell? ⟨w.heap.size,3,none⟩=some (Aj (b:Int))∧W.drew.cell? ⟨w.heap.size,4,none⟩=some (Aj n)∧W.drew.cell? ⟨sb,64,none⟩=some L.og:=⟨p,j,v,i,q,c⟩;refine Cr [7] [5,6] [] 8 (fun wq:World=>wq.cell? ⟨w.heap.size,0,none⟩=some (Aj op)∧wq.cell? ⟨w.heap.size,1,none⟩=some (Aj (d:Int))∧wq.cell? ⟨w.heap.size,2,none⟩=some (Aj (a:Int))∧wq.cell? ⟨w.heap.size,3,none⟩=some (Aj (b:Int))∧wq.cell? ⟨w.heap.size,4,none⟩=some (Aj n)∧wq.cell? ⟨sb,64,none⟩=some L.og) ?_
 iterate 7 (first|refine Be ?_|refine Bj k ?_)
 refine Bi fun K x=>?_;go_simp
 refine(No W.drew sb L s H1.o.drew op n b d a r g L.og _ H1.o.ok.m.dL (fun _ h=>h.og) H1.o.ok.m.aT).mono ?_;intro e Y z;have u:=Aq (z.bL f.o.drew);obtain⟨rfl,_⟩:=z;dsimp only;refine Bh x ?_;clear x K;refine Bb ?_;go_wp2;go_end0;exact u.o
theorem do31 (w:World)(sb:Nat)(L:bK)(s:Sr.St)(h:au w sb L s)(op n d:Int)(a b:Nat)(f:a<64)(u:b<64):Calls Tryz.prog 140 #[.pointer (some ⟨sb,0,none⟩),Ew ⟨op,d,a,b,n⟩] w (bB w sb L (Wy s (s.aW.getD a 0) (s.aW.getD b 0))):=by
 have Y:(a:Int)<64:=by omega
 have i:(b:Int)<64:=by omega
 unfold Ew;have H:=Aq h;have X:=h.aG.lt
 skip
 clear h;go_enter Tryz.func140,Tryz.ntmps140;go_wp2_with fail
 generalize x:w.alloc (.cells #[Aj op,Aj (d:Int),Aj (a:Int),Aj (b:Int),Aj n] 50)=W at *;obtain⟨j,U,q,g,m,H1,c,l⟩:=H.o.box x;clear x;have k:=H1.o.fR f;have v:=H1.o.fR u;have r:W.drew.cell? ⟨w.heap.size,2,none⟩=some (Aj (a:Int))∧W.drew.cell? ⟨sb,a,none⟩=some (Aj (s.aW.getD a 0))∧W.drew.cell? ⟨w.heap.size,3,none⟩=some (Aj (b:Int))∧W.drew.cell? ⟨sb,b,none⟩=some (Aj (s.aW.getD b 0)):=⟨q,k,g,v⟩;refine Cr [15] [3,7,10,14] [] 16 (fun wq:World=>wq.cell? ⟨w.heap.size,2,none⟩=some (Aj (a:Int))∧wq.cell? ⟨sb,a,none⟩=some (Aj (s.aW.getD a 0))∧wq.cell? ⟨w.heap.size,3,none⟩=some (Aj (b:Int))∧wq.cell? ⟨sb,b,none⟩=some (Aj (s.aW.getD b 0))) ?_
 iterate 15 (first|refine Be ?_|refine Bj r ?_)
 refine Bi fun K y=>?_;go_simp
 refine(Wr W.drew sb L s H1.o.drew _ _ (H.o.rk u)).mono ?_;intro e Z z;have p:=Aq (z.bL c.o.drew);obtain⟨rfl,_⟩:=z;dsimp only;refine Bh y ?_;clear y K;refine Bb ?_;go_wp2;go_end0;exact p.o
theorem do32 (w:World)(sb:Nat)(L:bK)(s:Sr.St)(h:au w sb L s)(op n d:Int)(a b:Nat)(c:a<64)(g:b<64):Calls Tryz.prog 142 #[.pointer (some ⟨sb,0,none⟩),Ew ⟨op,d,a,b,n⟩] w (bB w sb L (lg s (s.aW.getD a 0) (s.aW.getD b 0))):=by
 have Y:(a:Int)<64:=by omega
 have i:(b:Int)<64:=by omega
 unfold Ew;have H:=Aq h;have X:=h.aG.lt
 skip
 clear h;go_enter Tryz.func142,Tryz.ntmps142;go_wp2_with fail
 generalize x:w.alloc (.cells #[Aj op,Aj (d:Int),Aj (a:Int),Aj (b:Int),Aj n] 50)=W at *;obtain⟨j,U,p,f,m,H1,r,l⟩:=H.o.box x;clear x;have v:=H1.o.fR c;have u:=H1.o.fR g;have q:W.drew.cell? ⟨w.heap.size,2,none⟩=some (Aj (a:Int))∧W.drew.cell? ⟨sb,a,none⟩=some (Aj (s.aW.getD a 0))∧W.drew.cell? ⟨w.heap.size,3,none⟩=some (Aj (b:Int))∧W.drew.cell? ⟨sb,b,none⟩=some (Aj (s.aW.getD b 0)):=⟨p,v,f,u⟩;refine Cr [15] [3,7,10,14] [] 16 (fun wq:World=>wq.cell? ⟨w.heap.size,2,none⟩=some (Aj (a:Int))∧wq.cell? ⟨sb,a,none⟩=some (Aj (s.aW.getD a 0))∧wq.cell? ⟨w.heap.size,3,none⟩=some (Aj (b:Int))∧wq.cell? ⟨sb,b,none⟩=some (Aj (s.aW.getD b 0))) ?_
 iterate 15 (first|refine Be ?_|refine Bj q ?_)
 refine Bi fun K y=>?_;go_simp
 refine(Zel W.drew sb L s H1.o.drew _ _).mono ?_;intro e Z z;have k:=Aq (z.bL r.o.drew);obtain⟨rfl,_⟩:=z;dsimp only;refine Bh y ?_;clear y K;refine Bb ?_;go_wp2;go_end0;exact k.o
theorem do33 (w:World)(sb:Nat)(L:bK)(s:Sr.St)(h:au w sb L s)(op n d:Int)(a b:Nat)(c:a<64)(g:b<64):Calls Tryz.prog 144 #[.pointer (some ⟨sb,0,none⟩),Ew ⟨op,d,a,b,n⟩] w (bB w sb L (Ix s (s.aW.getD a 0) (s.aW.getD b 0))):=by
 have Y:(a:Int)<64:=by omega
 have i:(b:Int)<64:=by omega
 unfold Ew;have H:=Aq h;have X:=h.aG.lt
 skip
 clear h;go_enter Tryz.func144,Tryz.ntmps144;go_wp2_with fail
 generalize x:w.alloc (.cells #[Aj op,Aj (d:Int),Aj (a:Int),Aj (b:Int),Aj n] 50)=W at *;obtain⟨j,U,p,f,m,H1,r,l⟩:=H.o.box x;clear x;have v:=H1.o.fR c;have u:=H1.o.fR g;have q:W.drew.cell? ⟨w.heap.size,2,none⟩=some (Aj (a:Int))∧W.drew.cell? ⟨sb,a,none⟩=some (Aj (s.aW.getD a 0))∧W.drew.cell? ⟨w.heap.size,3,none⟩=some (Aj (b:Int))∧W.drew.cell? ⟨sb,b,none⟩=some (Aj (s.aW.getD b 0)):=⟨p,v,f,u⟩;refine Cr [15] [3,7,10,14] [] 16 (fun wq:World=>wq.cell? ⟨w.heap.size,2,none⟩=some (Aj (a:Int))∧wq.cell? ⟨sb,a,none⟩=some (Aj (s.aW.getD a 0))∧wq.cell? ⟨w.heap.size,3,none⟩=some (Aj (b:Int))∧wq.cell? ⟨sb,b,none⟩=some (Aj (s.aW.getD b 0))) ?_
 iterate 15 (first|refine Be ?_|refine Bj q ?_)
 refine Bi fun K y=>?_;go_simp
 refine(Wx W.drew sb L s H1.o.drew _ _).mono ?_;intro e Z z;have k:=Aq (z.bL r.o.drew);obtain⟨rfl,_⟩:=z;dsimp only;refine Bh y ?_;clear y K;refine Bb ?_;go_wp2;go_end0;exact k.o
theorem do35 (w:World)(sb:Nat)(L:bK)(s:Sr.St)(h:au w sb L s)(op d a b:Int)(n:Nat)(l:s.pc+n≤1000000):Calls Tryz.prog 148 #[.pointer (some ⟨sb,0,none⟩),Ew ⟨op,d,a,b,n⟩] w (bB w sb L (Sr.bv s n true)):=by
 unfold Ew;have H:=Aq h;have m:=h.aG.lt
 skip
 clear h;go_enter Tryz.func148,Tryz.ntmps148;go_wp2_with fail
 generalize y:w.alloc (.cells #[Aj op,Aj (d:Int),Aj (a:Int),Aj (b:Int),Aj n] 50)=W at *;obtain⟨i,Z,g,X,k,H1,r,j⟩:=H.o.box y;clear y;have c:=H1.o.drew.aG.frozen 75;have jP:=H1.o.drew.jP;have x:=Aq (show bB w sb L (Sr.bv s n true) (.returned (.tuple #[])) (W.drew.setCell ⟨sb,75,none⟩ (Aj ((s.pc+n:Nat):Int))) from bB.to (H1.o.drew.jp (s.pc+n)) (r.o.drew.setCell (p:=⟨sb,75,none⟩) (.inl (.inl rfl)) _));have e:((s.pc+n:Nat):Int)=(s.pc:Int)+n:=by omega
 rw[e]at x;clear e;generalize u:(s.pc:Int)=pc at *;have f:=Aq u;have q:0≤pc∧pc+n≤1000000:=by omega
 have Y:IntKind.i64.wrap (pc+n)=pc+n:=Do _ (by omega);clear u q;have v:W.drew.cell? ⟨sb,75,none⟩=some (Aj pc)∧W.drew.cell? ⟨w.heap.size,4,none⟩=some (Aj n):=⟨jP,k⟩;refine Cr [9] [3,5] [] 10 (fun wq:World=>wq.cell? ⟨sb,75,none⟩=some (Aj pc)∧wq.cell? ⟨w.heap.size,4,none⟩=some (Aj n)) ?_
 iterate 9 (first|refine Be ?_|refine Bj v ?_)
 refine Bi fun K z=>?_;go_simp
 refine Bh z ?_;clear z K;refine Bb ?_;go_wp2;go_end0;exact x.o
theorem do36 (w:World)(sb:Nat)(L:bK)(s:Sr.St)(h:au w sb L s)(op d b:Int)(a n:Nat)(p:a<64)(m:s.pc+n≤1000000):Calls Tryz.prog 149 #[.pointer (some ⟨sb,0,none⟩),Ew ⟨op,d,a,b,n⟩] w (bB w sb L (Sr.bv s n (decide (s.aW.getD a 0=0)))):=by
 have U:(a:Int)<64:=by omega
 obtain⟨x,y,_,Y⟩:=h.jW p;have g:=Aq y;rw[y];clear y;unfold Ew;have H:=Aq h;have X:=h.aG.lt
 skip
 clear h;go_enter Tryz.func149,Tryz.ntmps149;go_wp2_with fail
 generalize u:w.alloc (.cells #[Aj op,Aj (d:Int),Aj (a:Int),Aj (b:Int),Aj n] 50)=W at *;obtain⟨j,P,r,Z,f,H1,i,l⟩:=H.o.box u;clear u;have z:=H1.o.fR p;rw[g.o]at z;have c:W.drew.cell? ⟨w.heap.size,4,none⟩=some (Aj n)∧W.drew.cell? ⟨w.heap.size,2,none⟩=some (Aj (a:Int))∧W.drew.cell? ⟨sb,a,none⟩=some (Aj x):=⟨f,r,z⟩;refine Cr [11] [2,5,9] [] 12 (fun wq:World=>wq.cell? ⟨w.heap.size,4,none⟩=some (Aj n)∧wq.cell? ⟨w.heap.size,2,none⟩=some (Aj (a:Int))∧wq.cell? ⟨sb,a,none⟩=some (Aj x)) ?_
 iterate 11 (first|refine Be ?_|refine Bj c ?_)
 refine Bi fun K v=>?_;go_simp
 refine(Qa W.drew sb L s H1.o.drew n _ (fun _=>⟨by omega,by omega⟩)).mono ?_;intro e V k;have q:=Aq (k.bL i.o.drew);obtain⟨rfl,_⟩:=k;dsimp only;refine Bh v ?_;clear v K;refine Bb ?_;go_wp2;go_end0;exact q.o
theorem do41 (w:World)(sb:Nat)(L:bK)(s:Sr.St)(h:au w sb L s)(op d b:Int)(a n:Nat)(p:a<64)(X:s.pc+n≤1000000):Calls Tryz.prog 151 #[.pointer (some ⟨sb,0,none⟩),Ew ⟨op,d,a,b,n⟩] w (bB w sb L (Sr.bv s n (decide (s.aW.getD a 0≤b)))):=by
 have U:(a:Int)<64:=by omega
 obtain⟨x,y,_,Z⟩:=h.jW p;have g:=Aq y;rw[y];clear y;unfold Ew;have H:=Aq h;have Y:=h.aG.lt
 skip
 clear h;go_enter Tryz.func151,Tryz.ntmps151;go_wp2_with fail
 generalize u:w.alloc (.cells #[Aj op,Aj (d:Int),Aj (a:Int),Aj (b:Int),Aj n] 50)=W at *;obtain⟨l,P,r,j,f,H1,i,m⟩:=H.o.box u;clear u;have z:=H1.o.fR p;rw[g.o]at z;have c:W.drew.cell? ⟨w.heap.size,4,none⟩=some (Aj n)∧W.drew.cell? ⟨w.heap.size,2,none⟩=some (Aj (a:Int))∧W.drew.cell? ⟨sb,a,none⟩=some (Aj x)∧W.drew.cell? ⟨w.heap.size,3,none⟩=some (Aj (b:Int)):=⟨f,r,z,j⟩;refine Cr [13] [2,5,9,11] [] 14 (fun wq:World=>wq.cell? ⟨w.heap.size,4,none⟩=some (Aj n)∧wq.cell? ⟨w.heap.size,2,none⟩=some (Aj (a:Int))∧wq.cell? ⟨sb,a,none⟩=some (Aj x)∧wq.cell? ⟨w.heap.size,3,none⟩=some (Aj (b:Int))) ?_
 iterate 13 (first|refine Be ?_|refine Bj c ?_)
 refine Bi fun K v=>?_;go_simp
 refine(Qa W.drew sb L s H1.o.drew n _ (fun _=>⟨by omega,by omega⟩)).mono ?_;intro e V k;have q:=Aq (k.bL i.o.drew);obtain⟨rfl,_⟩:=k;dsimp only;refine Bh v ?_;clear v K;refine Bb ?_;go_wp2;go_end0;exact q.o
end
end Go.Proofs.YtnhebmgibiomnaaGreat

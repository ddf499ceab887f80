import Derived.Test.YtnhebmgibiomnaaGreatPi7
set_option linter.unusedVariables false
set_option linter.unusedSimpArgs false
set_option maxRecDepth 100000
set_option maxHeartbeats 8000000
namespace Go.Proofs.YtnhebmgibiomnaaGreat
section
open Go.RowKit Mc
theorem Zah (bG n:Int):bI (Db bG n):=by
 unfold Db;exact Fq _
theorem do1 (w:World)(sb:Nat)(L:bN)(s:Sr.St)(h:ar w sb L s)(op n a b:Int)(d:Nat)(z:d<64):Calls Tryz.prog 102 #[.pointer (some ⟨sb,0,none⟩),Ff ⟨op,d,a,b,n⟩] w (bB w sb L { s with aW:=s.aW.set d (bA n) }):=by
 have c:(d:Int)<64:=by omega
 unfold Ff;have H:=Aq h;have i:=h.aG.lt
 skip
 clear h;go_enter Tryz.func102,Tryz.ntmps102;go_wp2_with fail
 generalize u:w.alloc (.cells #[Aj op,Aj (d:Int),Aj (a:Int),Aj (b:Int),Aj n] 50)=W at *;obtain⟨f,v,j,q,k,H1,p,g⟩:=H.o.box u;clear u;have r:=H1.o.drew.aG.frozen d;have c0:=H1.o.drew.fQ z;have y:W.drew.cell? ⟨w.heap.size,1,none⟩=some (Aj (d:Int))∧W.drew.cell? ⟨w.heap.size,4,none⟩=some (Aj n):=⟨v,k⟩;refine Bs (Cl [5,9]) (Bm [2,4]) (Bm [5]) [0,1,2,3,4,6,7,5,8,9] (fun wq:World=>wq.cell? ⟨w.heap.size,1,none⟩=some (Aj (d:Int))∧wq.cell? ⟨w.heap.size,4,none⟩=some (Aj n)) (by kernel_rfl) (by kernel_rfl) (by kernel_rfl) (by kernel_rfl) ?_
 iterate 7 (first|refine Be ?_|refine Bj y ?_)
 refine Bi fun K x=>?_;go_simp
 refine(Ed _ _).mono ?_;rintro e l⟨rfl,rfl⟩;dsimp only;refine x _ _ (fun _=>y) ?_;clear x K
 iterate 1 (first|refine Be ?_|refine Bj y ?_)
 refine Bi fun K x=>?_;go_simp
 refine Bh x ?_;clear x K;refine Bb ?_;go_wp2;go_end0;exact .put H1.o.drew p.o.drew z (Fq n)
theorem do39 (w:World)(sb:Nat)(L:bN)(s:Sr.St)(h:ar w sb L s)(op n a b:Int)(d:Nat)(x:d<64):Calls Tryz.prog 103 #[.pointer (some ⟨sb,0,none⟩),Ff ⟨op,d,a,b,n⟩] w (bB w sb L { s with aW:=s.aW.set d s.m.size }):=by
 have c:(d:Int)<64:=by omega
 unfold Ff;have H:=Aq h;have g:=h.aG.lt
 skip
 clear h;go_enter Tryz.func103,Tryz.ntmps103;go_wp2_with fail
 generalize y:w.alloc (.cells #[Aj op,Aj (d:Int),Aj (a:Int),Aj (b:Int),Aj n] 50)=W at *;obtain⟨e,u,i,p,r,H1,v,f⟩:=H.o.box y;clear y;have q:=H1.o.drew.aG.frozen d;have c0:=H1.o.drew.fQ x;have c71:=H1.o.drew.c71;have k:W.drew.cell? ⟨w.heap.size,1,none⟩=some (Aj (d:Int))∧W.drew.cell? ⟨sb,71,none⟩=some (Aj s.m.size):=⟨u,c71⟩;refine Cv [10] [2,6] [] 11 (fun wq:World=>wq.cell? ⟨w.heap.size,1,none⟩=some (Aj (d:Int))∧wq.cell? ⟨sb,71,none⟩=some (Aj s.m.size)) ?_
 iterate 10 (first|refine Be ?_|refine Bj k ?_)
 refine Bi fun K z=>?_;go_simp
 refine Bh z ?_;clear z K;refine Bb ?_;go_wp2;go_end0;exact .put H1.o.drew v.o.drew x H1.o.ok.m.size
theorem do15 (w:World)(sb:Nat)(L:bN)(s:Sr.St)(h:ar w sb L s)(op n b:Int)(d a:Nat)(v:d<64)(q:a<64):Calls Tryz.prog 119 #[.pointer (some ⟨sb,0,none⟩),Ff ⟨op,d,a,b,n⟩] w (bB w sb L { s with aW:=s.aW.set d (Db s.m.bG (s.aW.getD a 0)) }):=by
 have Y:(d:Int)<64:=by omega
 have j:(a:Int)<64:=by omega
 obtain⟨x,z,_,P⟩:=h.jS q;have g:=Aq z;rw[z];clear z;unfold Ff;have H:=Aq h;have V:=h.aG.lt
 skip
 clear h;go_enter Tryz.func119,Tryz.ntmps119;go_wp2_with fail
 generalize k:w.alloc (.cells #[Aj op,Aj (d:Int),Aj (a:Int),Aj (b:Int),Aj n] 50)=W at *;obtain⟨Z,r,f,i,X,H1,c,U⟩:=H.o.box k;clear k;have l:=H1.o.drew.aG.frozen d;have c0:=H1.o.drew.fQ v;have c74:=H1.o.drew.c74;have p:=H1.o.fQ q;rw[g.o]at p;have u:W.drew.cell? ⟨w.heap.size,1,none⟩=some (Aj (d:Int))∧W.drew.cell? ⟨sb,74,none⟩=some (Aj s.m.bG)∧W.drew.cell? ⟨w.heap.size,2,none⟩=some (Aj (a:Int))∧W.drew.cell? ⟨sb,a,none⟩=some (Aj x):=⟨r,c74,f,p⟩;refine Bs (Cl [14,18]) (Bm [2,6,9,13]) (Bm [14]) [0,1,2,3,4,5,6,7,8,9,10,11,12,13,15,16,14,17,18] (fun wq:World=>wq.cell? ⟨w.heap.size,1,none⟩=some (Aj (d:Int))∧wq.cell? ⟨sb,74,none⟩=some (Aj s.m.bG)∧wq.cell? ⟨w.heap.size,2,none⟩=some (Aj (a:Int))∧wq.cell? ⟨sb,a,none⟩=some (Aj x)) (by kernel_rfl) (by kernel_rfl) (by kernel_rfl) (by kernel_rfl) ?_
 iterate 16 (first|refine Be ?_|refine Bj u ?_)
 refine Bi fun K y=>?_;go_simp
 refine(Fy _ _ _).mono ?_;rintro e Q⟨rfl,rfl⟩;dsimp only;refine y _ _ (fun _=>u) ?_;clear y K
 iterate 1 (first|refine Be ?_|refine Bj u ?_)
 refine Bi fun K y=>?_;go_simp
 refine Bh y ?_;clear y K;refine Bb ?_;go_wp2;go_end0;exact .put H1.o.drew c.o.drew v (Zah _ _)
theorem do25 (w:World)(sb:Nat)(L:bN)(s:Sr.St)(h:ar w sb L s)(op n b:Int)(d a:Nat)(u:d<64)(f:a<64):Calls Tryz.prog 127 #[.pointer (some ⟨sb,0,none⟩),Ff ⟨op,d,a,b,n⟩] w (bB w sb L { s with aW:=s.aW.set d (aL s.m.aP (s.aW.getD a 0)) }):=by
 unfold Ff;have H:=Aq h;have l:=h.aG.lt
 skip
 clear h;go_enter Tryz.func127,Tryz.ntmps127;go_wp2_with fail
 generalize x:w.alloc (.cells #[Aj op,Aj (d:Int),Aj (a:Int),Aj (b:Int),Aj n] 50)=W at *;obtain⟨q,k,c,v,p,H1,r,j⟩:=H.o.box x;clear x;have km:=H1.o.km;have km:=H1.o.km;have g:W.drew.cell? ⟨w.heap.size,0,none⟩=some (Aj op)∧W.drew.cell? ⟨w.heap.size,1,none⟩=some (Aj (d:Int))∧W.drew.cell? ⟨w.heap.size,2,none⟩=some (Aj (a:Int))∧W.drew.cell? ⟨w.heap.size,3,none⟩=some (Aj (b:Int))∧W.drew.cell? ⟨w.heap.size,4,none⟩=some (Aj n)∧W.drew.cell? ⟨sb,69,none⟩=some L.cv:=⟨q,k,c,v,p,km⟩;refine Cv [6] [4,5] [] 7 (fun wq:World=>wq.cell? ⟨w.heap.size,0,none⟩=some (Aj op)∧wq.cell? ⟨w.heap.size,1,none⟩=some (Aj (d:Int))∧wq.cell? ⟨w.heap.size,2,none⟩=some (Aj (a:Int))∧wq.cell? ⟨w.heap.size,3,none⟩=some (Aj (b:Int))∧wq.cell? ⟨w.heap.size,4,none⟩=some (Aj n)∧wq.cell? ⟨sb,69,none⟩=some L.cv) ?_
 iterate 6 (first|refine Be ?_|refine Bj g ?_)
 refine Bi fun K y=>?_;go_simp
 refine(Ql W.drew sb L s H1.o.drew op n b d a u f L.cv _ H1.o.ok.m.gy H1.o.drew.cv H1.o.ok.m.aP).mono ?_;intro e X z;have i:=Aq (z.bQ r.o.drew);obtain⟨rfl,_⟩:=z;dsimp only;refine Bh y ?_;clear y K;refine Bb ?_;go_wp2;go_end0;exact i.o
theorem do27 (w:World)(sb:Nat)(L:bN)(s:Sr.St)(h:ar w sb L s)(op n b:Int)(d a:Nat)(u:d<64)(f:a<64):Calls Tryz.prog 131 #[.pointer (some ⟨sb,0,none⟩),Ff ⟨op,d,a,b,n⟩] w (bB w sb L { s with aW:=s.aW.set d (aL s.m.store (s.aW.getD a 0)) }):=by
 unfold Ff;have H:=Aq h;have l:=h.aG.lt
 skip
 clear h;go_enter Tryz.func131,Tryz.ntmps131;go_wp2_with fail
 generalize x:w.alloc (.cells #[Aj op,Aj (d:Int),Aj (a:Int),Aj (b:Int),Aj n] 50)=W at *;obtain⟨q,k,c,v,p,H1,r,j⟩:=H.o.box x;clear x;have lW:=H1.o.lW;have g:W.drew.cell? ⟨w.heap.size,0,none⟩=some (Aj op)∧W.drew.cell? ⟨w.heap.size,1,none⟩=some (Aj (d:Int))∧W.drew.cell? ⟨w.heap.size,2,none⟩=some (Aj (a:Int))∧W.drew.cell? ⟨w.heap.size,3,none⟩=some (Aj (b:Int))∧W.drew.cell? ⟨w.heap.size,4,none⟩=some (Aj n)∧W.drew.cell? ⟨sb,70,none⟩=some L.st:=⟨q,k,c,v,p,lW⟩;refine Cv [6] [4,5] [] 7 (fun wq:World=>wq.cell? ⟨w.heap.size,0,none⟩=some (Aj op)∧wq.cell? ⟨w.heap.size,1,none⟩=some (Aj (d:Int))∧wq.cell? ⟨w.heap.size,2,none⟩=some (Aj (a:Int))∧wq.cell? ⟨w.heap.size,3,none⟩=some (Aj (b:Int))∧wq.cell? ⟨w.heap.size,4,none⟩=some (Aj n)∧wq.cell? ⟨sb,70,none⟩=some L.st) ?_
 iterate 6 (first|refine Be ?_|refine Bj g ?_)
 refine Bi fun K y=>?_;go_simp
 refine(Ql W.drew sb L s H1.o.drew op n b d a u f L.st _ (by have:=H1.o.ok.m.dQ;omega) H1.o.drew.st H1.o.ok.m.store).mono ?_;intro e X z;have i:=Aq (z.bQ r.o.drew);obtain⟨rfl,_⟩:=z;dsimp only;refine Bh y ?_;clear y K;refine Bb ?_;go_wp2;go_end0;exact i.o
theorem do26 (w:World)(sb:Nat)(L:bN)(s:Sr.St)(h:ar w sb L s)(op n d:Int)(a b:Nat)(A:a<64)(U:b<64):Calls Tryz.prog 129 #[.pointer (some ⟨sb,0,none⟩),Ff ⟨op,d,a,b,n⟩] w (bB w sb L { s with m := { s.m with aP:=Iy s.m.aP (s.aW.getD a 0) (s.aW.getD b 0) } }):=by
 obtain⟨p,c,S,_,_⟩:=Bc h.cv;have C:=Aq S;clear S;unfold Ff;have H:=Aq h;have hW:=h.aG.lt
 skip
 clear h;go_enter Tryz.func129,Tryz.ntmps129;go_wp2_with fail
 generalize y:w.alloc (.cells #[Aj op,Aj (d:Int),Aj (a:Int),Aj (b:Int),Aj n] 50)=W at *;obtain⟨P,Z,R,Y,V,H1,Q,T⟩:=H.o.box y;clear y;have km:=H1.o.km;rw[C.o]at km;by_cases r:0≤s.aW.getD a 0∧s.aW.getD a 0<s.m.aP.length
 ·obtain⟨i,hi⟩:∃i:Nat,s.aW.getD a 0=i:=⟨(s.aW.getD a 0).toNat,by omega⟩;have q:i<s.m.aP.length:=by omega
  obtain⟨g,D,z,_,_,_,_⟩:=Cf H1.o.cv (by omega);have j:=z;rw[C.o]at j;obtain⟨rfl,rfl⟩:p=some ⟨g,0,none⟩∧c=D:=by simpa using j
  clear j;have f:=Aq (show ({ s with m := { s.m with aP:=Iy s.m.aP (s.aW.getD a 0) (s.aW.getD b 0) } }:Sr.St) = { s with m := { s.m with aP:=s.m.aP.set i (s.aW.getD b 0) } } by rw[hi,Pf q]);have B:∀W,ar W sb L s→ar (W.setCell ⟨g,i,none⟩ (Aj (s.aW.getD b 0))) sb L { s with m := { s.m with aP:=s.m.aP.set i (s.aW.getD b 0) } }∧(∃u,W.cell? ⟨g,i,none⟩=some u)∧W.frozen? ⟨g,i,none⟩=false:=fun W y=>by
   refine⟨y.ju (by rw[z];rfl) q (y.rk U),?_,?_⟩
   ·obtain⟨O,c2,x,_,_,_,F⟩:=Cf y.cv (by omega);rw[z]at x
    injection x with x
    injection x with x
    injection x with x
    subst x;exact⟨_,F i _ (Cn (Bf q))⟩
   ·obtain⟨_,_,_,J⟩:=Bg y.cv (g:=g) (by rw[z];rfl);exact J.frozen i
  have G:=Aq B;have E:=Aq hi;have I:eY L sb g:=.inr (.inr (.inr (.inl (by rw[z];rfl))));rw[f.o];clear hi r B z;have l:W.drew.cell? ⟨w.heap.size,0,none⟩=some (Aj op)∧W.drew.cell? ⟨w.heap.size,1,none⟩=some (Aj (d:Int))∧W.drew.cell? ⟨w.heap.size,2,none⟩=some (Aj (a:Int))∧W.drew.cell? ⟨w.heap.size,3,none⟩=some (Aj (b:Int))∧W.drew.cell? ⟨w.heap.size,4,none⟩=some (Aj n)∧W.drew.cell? ⟨sb,69,none⟩=some (.slice (some ⟨g,0,none⟩) s.m.aP.length c):=⟨P,Z,R,Y,V,km⟩;refine Cv [6] [4,5] [] 7 (fun wq:World=>wq.cell? ⟨w.heap.size,0,none⟩=some (Aj op)∧wq.cell? ⟨w.heap.size,1,none⟩=some (Aj (d:Int))∧wq.cell? ⟨w.heap.size,2,none⟩=some (Aj (a:Int))∧wq.cell? ⟨w.heap.size,3,none⟩=some (Aj (b:Int))∧wq.cell? ⟨w.heap.size,4,none⟩=some (Aj n)∧wq.cell? ⟨sb,69,none⟩=some (.slice (some ⟨g,0,none⟩) s.m.aP.length c)) ?_
  iterate 6 (first|refine Be ?_|refine Bj l ?_)
  refine Bi fun K v=>?_;go_simp
  refine(Ny W.drew sb L s H1.o.drew op n d a b A U i _ c g H.o.ok.m.gy E.o q _ I G.o).mono ?_;intro e M k;have X:=Aq (k.bQ Q.o.drew);obtain⟨rfl,_⟩:=k;dsimp only;refine Bh v ?_;clear v K;refine Bb ?_;go_wp2;go_end0;exact X.o
 ·have f:=Aq (show ({ s with m := { s.m with aP:=Iy s.m.aP (s.aW.getD a 0) (s.aW.getD b 0) } }:Sr.St)=s by rw[Vd r]);have N:=Aq r;rw[f.o];clear r;have l:W.drew.cell? ⟨w.heap.size,0,none⟩=some (Aj op)∧W.drew.cell? ⟨w.heap.size,1,none⟩=some (Aj (d:Int))∧W.drew.cell? ⟨w.heap.size,2,none⟩=some (Aj (a:Int))∧W.drew.cell? ⟨w.heap.size,3,none⟩=some (Aj (b:Int))∧W.drew.cell? ⟨w.heap.size,4,none⟩=some (Aj n)∧W.drew.cell? ⟨sb,69,none⟩=some (.slice p s.m.aP.length c):=⟨P,Z,R,Y,V,km⟩;refine Cv [6] [4,5] [] 7 (fun wq:World=>wq.cell? ⟨w.heap.size,0,none⟩=some (Aj op)∧wq.cell? ⟨w.heap.size,1,none⟩=some (Aj (d:Int))∧wq.cell? ⟨w.heap.size,2,none⟩=some (Aj (a:Int))∧wq.cell? ⟨w.heap.size,3,none⟩=some (Aj (b:Int))∧wq.cell? ⟨w.heap.size,4,none⟩=some (Aj n)∧wq.cell? ⟨sb,69,none⟩=some (.slice p s.m.aP.length c)) ?_
  iterate 6 (first|refine Be ?_|refine Bj l ?_)
  refine Bi fun K v=>?_;go_simp
  refine(Qk W.drew sb L s H1.o.drew op n b d a A p _ c H.o.ok.m.gy N.o).mono ?_;intro e M k;have X:=Aq (k.bQ Q.o.drew);obtain⟨rfl,_⟩:=k;dsimp only;refine Bh v ?_;clear v K;refine Bb ?_;go_wp2;go_end0;exact X.o
theorem do28 (w:World)(sb:Nat)(L:bN)(s:Sr.St)(h:ar w sb L s)(op n d:Int)(a b:Nat)(A:a<64)(U:b<64):Calls Tryz.prog 132 #[.pointer (some ⟨sb,0,none⟩),Ff ⟨op,d,a,b,n⟩] w (bB w sb L { s with m := { s.m with store:=Iy s.m.store (s.aW.getD a 0) (s.aW.getD b 0) } }):=by
 obtain⟨p,c,S,_,_⟩:=Bc h.st;have C:=Aq S;clear S;unfold Ff;have H:=Aq h;have hW:=h.aG.lt
 skip
 clear h;go_enter Tryz.func132,Tryz.ntmps132;go_wp2_with fail
 generalize y:w.alloc (.cells #[Aj op,Aj (d:Int),Aj (a:Int),Aj (b:Int),Aj n] 50)=W at *;obtain⟨P,Z,R,Y,V,H1,Q,T⟩:=H.o.box y;clear y;have lW:=H1.o.lW;rw[C.o]at lW;by_cases r:0≤s.aW.getD a 0∧s.aW.getD a 0<s.m.store.length
 ·obtain⟨i,hi⟩:∃i:Nat,s.aW.getD a 0=i:=⟨(s.aW.getD a 0).toNat,by omega⟩;have q:i<s.m.store.length:=by omega
  obtain⟨g,D,z,_,_,_,_⟩:=Cf H1.o.st (by omega);have j:=z;rw[C.o]at j;obtain⟨rfl,rfl⟩:p=some ⟨g,0,none⟩∧c=D:=by simpa using j
  clear j;have f:=Aq (show ({ s with m := { s.m with store:=Iy s.m.store (s.aW.getD a 0) (s.aW.getD b 0) } }:Sr.St) = { s with m := { s.m with store:=s.m.store.set i (s.aW.getD b 0) } } by rw[hi,Pf q]);have B:∀W,ar W sb L s→ar (W.setCell ⟨g,i,none⟩ (Aj (s.aW.getD b 0))) sb L { s with m := { s.m with store:=s.m.store.set i (s.aW.getD b 0) } }∧(∃u,W.cell? ⟨g,i,none⟩=some u)∧W.frozen? ⟨g,i,none⟩=false:=fun W y=>by
   refine⟨y.setSt (by rw[z];rfl) q (y.rk U),?_,?_⟩
   ·obtain⟨O,c2,x,_,_,_,F⟩:=Cf y.st (by omega);rw[z]at x
    injection x with x
    injection x with x
    injection x with x
    subst x;exact⟨_,F i _ (Cn (Bf q))⟩
   ·obtain⟨_,_,_,J⟩:=Bg y.st (g:=g) (by rw[z];rfl);exact J.frozen i
  have G:=Aq B;have E:=Aq hi;have I:eY L sb g:=.inr (.inr (.inr (.inr (by rw[z];rfl))));rw[f.o];clear hi r B z;have l:W.drew.cell? ⟨w.heap.size,0,none⟩=some (Aj op)∧W.drew.cell? ⟨w.heap.size,1,none⟩=some (Aj (d:Int))∧W.drew.cell? ⟨w.heap.size,2,none⟩=some (Aj (a:Int))∧W.drew.cell? ⟨w.heap.size,3,none⟩=some (Aj (b:Int))∧W.drew.cell? ⟨w.heap.size,4,none⟩=some (Aj n)∧W.drew.cell? ⟨sb,70,none⟩=some (.slice (some ⟨g,0,none⟩) s.m.store.length c):=⟨P,Z,R,Y,V,lW⟩;refine Cv [6] [4,5] [] 7 (fun wq:World=>wq.cell? ⟨w.heap.size,0,none⟩=some (Aj op)∧wq.cell? ⟨w.heap.size,1,none⟩=some (Aj (d:Int))∧wq.cell? ⟨w.heap.size,2,none⟩=some (Aj (a:Int))∧wq.cell? ⟨w.heap.size,3,none⟩=some (Aj (b:Int))∧wq.cell? ⟨w.heap.size,4,none⟩=some (Aj n)∧wq.cell? ⟨sb,70,none⟩=some (.slice (some ⟨g,0,none⟩) s.m.store.length c)) ?_
  iterate 6 (first|refine Be ?_|refine Bj l ?_)
  refine Bi fun K v=>?_;go_simp
  refine(Ny W.drew sb L s H1.o.drew op n d a b A U i _ c g (by have:=H.o.ok.m.dQ;omega) E.o q _ I G.o).mono ?_;intro e M k;have X:=Aq (k.bQ Q.o.drew);obtain⟨rfl,_⟩:=k;dsimp only;refine Bh v ?_;clear v K;refine Bb ?_;go_wp2;go_end0;exact X.o
 ·have f:=Aq (show ({ s with m := { s.m with store:=Iy s.m.store (s.aW.getD a 0) (s.aW.getD b 0) } }:Sr.St)=s by rw[Vd r]);have N:=Aq r;rw[f.o];clear r;have l:W.drew.cell? ⟨w.heap.size,0,none⟩=some (Aj op)∧W.drew.cell? ⟨w.heap.size,1,none⟩=some (Aj (d:Int))∧W.drew.cell? ⟨w.heap.size,2,none⟩=some (Aj (a:Int))∧W.drew.cell? ⟨w.heap.size,3,none⟩=some (Aj (b:Int))∧W.drew.cell? ⟨w.heap.size,4,none⟩=some (Aj n)∧W.drew.cell? ⟨sb,70,none⟩=some (.slice p s.m.store.length c):=⟨P,Z,R,Y,V,lW⟩;refine Cv [6] [4,5] [] 7 (fun wq:World=>wq.cell? ⟨w.heap.size,0,none⟩=some (Aj op)∧wq.cell? ⟨w.heap.size,1,none⟩=some (Aj (d:Int))∧wq.cell? ⟨w.heap.size,2,none⟩=some (Aj (a:Int))∧wq.cell? ⟨w.heap.size,3,none⟩=some (Aj (b:Int))∧wq.cell? ⟨w.heap.size,4,none⟩=some (Aj n)∧wq.cell? ⟨sb,70,none⟩=some (.slice p s.m.store.length c)) ?_
  iterate 6 (first|refine Be ?_|refine Bj l ?_)
  refine Bi fun K v=>?_;go_simp
  refine(Qk W.drew sb L s H1.o.drew op n b d a A p _ c (by have:=H.o.ok.m.dQ;omega) N.o).mono ?_;intro e M k;have X:=Aq (k.bQ Q.o.drew);obtain⟨rfl,_⟩:=k;dsimp only;refine Bh v ?_;clear v K;refine Bb ?_;go_wp2;go_end0;exact X.o
theorem do22 (w:World)(sb:Nat)(L:bN)(s:Sr.St)(h:ar w sb L s)(op n d a b:Int):Calls Tryz.prog 133 #[.pointer (some ⟨sb,0,none⟩),Ff ⟨op,d,a,b,n⟩] w (bB w sb L { s with m := { s.m with look:=n % 2 } }):=by
 unfold Ff;have H:=Aq h;have i:=h.aG.lt
 skip
 clear h;go_enter Tryz.func133,Tryz.ntmps133;go_wp2_with fail
 generalize x:w.alloc (.cells #[Aj op,Aj (d:Int),Aj (a:Int),Aj (b:Int),Aj n] 50)=W at *;obtain⟨r,k,j,u,q,H1,y,g⟩:=H.o.box x;clear x;have c:=H1.o.ik;have f:=H1.o.aG.frozen 72;have z:=Aq (bB.to (H1.o.im (v:=n % 2) (by omega)) (y.o.setCell (p:=⟨sb,72,none⟩) (.inl (.inl rfl)) _));go_wp2_with fail
 refine(Jv _ 2 _ (by decide) (by decide)).mono ?_;rintro e w1⟨rfl,rfl⟩;go_wp2;go_end0;exact z.o
theorem do23 (w:World)(sb:Nat)(L:bN)(s:Sr.St)(h:ar w sb L s)(op n d a b:Int):Calls Tryz.prog 135 #[.pointer (some ⟨sb,0,none⟩),Ff ⟨op,d,a,b,n⟩] w (bB w sb L { s with m := { s.m with move:=n % 2 } }):=by
 unfold Ff;have H:=Aq h;have i:=h.aG.lt
 skip
 clear h;go_enter Tryz.func135,Tryz.ntmps135;go_wp2_with fail
 generalize x:w.alloc (.cells #[Aj op,Aj (d:Int),Aj (a:Int),Aj (b:Int),Aj n] 50)=W at *;obtain⟨r,k,j,u,q,H1,y,g⟩:=H.o.box x;clear x;have c:=H1.o.gk;have f:=H1.o.aG.frozen 73;have z:=Aq (bB.to (H1.o.ir (v:=n % 2) (by omega)) (y.o.setCell (p:=⟨sb,73,none⟩) (.inl (.inl rfl)) _));go_wp2_with fail
 refine(Jv _ 2 _ (by decide) (by decide)).mono ?_;rintro e w1⟨rfl,rfl⟩;go_wp2;go_end0;exact z.o
theorem do24 (w:World)(sb:Nat)(L:bN)(s:Sr.St)(h:ar w sb L s)(op n d a b:Int):Calls Tryz.prog 136 #[.pointer (some ⟨sb,0,none⟩),Ff ⟨op,d,a,b,n⟩] w (bB w sb L { s with m := { s.m with bG:=n % 6 } }):=by
 unfold Ff;have H:=Aq h;have i:=h.aG.lt
 skip
 clear h;go_enter Tryz.func136,Tryz.ntmps136;go_wp2_with fail
 generalize x:w.alloc (.cells #[Aj op,Aj (d:Int),Aj (a:Int),Aj (b:Int),Aj n] 50)=W at *;obtain⟨r,k,j,u,q,H1,y,g⟩:=H.o.box x;clear x;have c:=H1.o.c74;have f:=H1.o.aG.frozen 74;have z:=Aq (bB.to (H1.o.iw (v:=n % 6) (by omega)) (y.o.setCell (p:=⟨sb,74,none⟩) (.inl (.inl rfl)) _));go_wp2_with fail
 refine(Jv _ 6 _ (by decide) (by decide)).mono ?_;rintro e w1⟨rfl,rfl⟩;go_wp2;go_end0;exact z.o
theorem do29 (w:World)(sb:Nat)(L:bN)(s:Sr.St)(h:ar w sb L s)(op n b:Int)(d a:Nat)(u:d<64)(f:a<64):Calls Tryz.prog 137 #[.pointer (some ⟨sb,0,none⟩),Ff ⟨op,d,a,b,n⟩] w (bB w sb L (Ly s s.m.aF d (s.aW.getD a 0))):=by
 unfold Ff;have H:=Aq h;have X:=h.aG.lt
 skip
 clear h;go_enter Tryz.func137,Tryz.ntmps137;go_wp2_with fail
 generalize x:w.alloc (.cells #[Aj op,Aj (d:Int),Aj (a:Int),Aj (b:Int),Aj n] 50)=W at *;obtain⟨q,k,c,v,p,H1,r,l⟩:=H.o.box x;clear x;have i:=H1.o.gw;have g:W.drew.cell? ⟨w.heap.size,0,none⟩=some (Aj op)∧W.drew.cell? ⟨w.heap.size,1,none⟩=some (Aj (d:Int))∧W.drew.cell? ⟨w.heap.size,2,none⟩=some (Aj (a:Int))∧W.drew.cell? ⟨w.heap.size,3,none⟩=some (Aj (b:Int))∧W.drew.cell? ⟨w.heap.size,4,none⟩=some (Aj n)∧W.drew.cell? ⟨sb,65,none⟩=some L.cu:=⟨q,k,c,v,p,i⟩;refine Cv [7] [5,6] [] 8 (fun wq:World=>wq.cell? ⟨w.heap.size,0,none⟩=some (Aj op)∧wq.cell? ⟨w.heap.size,1,none⟩=some (Aj (d:Int))∧wq.cell? ⟨w.heap.size,2,none⟩=some (Aj (a:Int))∧wq.cell? ⟨w.heap.size,3,none⟩=some (Aj (b:Int))∧wq.cell? ⟨w.heap.size,4,none⟩=some (Aj n)∧wq.cell? ⟨sb,65,none⟩=some L.cu) ?_
 iterate 7 (first|refine Be ?_|refine Bj g ?_)
 refine Bi fun K y=>?_;go_simp
 refine(Nz W.drew sb L s H1.o.drew op n b d a u f L.cu _ rfl (fun _ h=>h.cu) H1.o.ok.m.aF).mono ?_;intro e Y z;have j:=Aq (z.bQ r.o.drew);obtain⟨rfl,_⟩:=z;dsimp only;refine Bh y ?_;clear y K;refine Bb ?_;go_wp2;go_end0;exact j.o
theorem do30 (w:World)(sb:Nat)(L:bN)(s:Sr.St)(h:ar w sb L s)(op n b:Int)(d a:Nat)(u:d<64)(f:a<64):Calls Tryz.prog 139 #[.pointer (some ⟨sb,0,none⟩),Ff ⟨op,d,a,b,n⟩] w (bB w sb L (Ly s s.m.aT d (s.aW.getD a 0))):=by
 unfold Ff;have H:=Aq h;have X:=h.aG.lt
 skip
 clear h;go_enter Tryz.func139,Tryz.ntmps139;go_wp2_with fail
 generalize x:w.alloc (.cells #[Aj op,Aj (d:Int),Aj (a:Int),Aj (b:Int),Aj n] 50)=W at *;obtain⟨q,k,c,v,p,H1,r,l⟩:=H.o.box x;clear x;have i:=H1.o.c64;have g:W.drew.cell? ⟨w.heap.size,0,none⟩=some (Aj op)∧W.drew.cell? ⟨w.heap.size,1,none⟩=some (Aj (d:Int))∧W.drew.cell? ⟨w.heap.size,2,none⟩=some (Aj (a:Int))∧W.drew.cell? ⟨w.heap.size,3,none⟩=some (Aj (b:Int))∧W.drew.cell? ⟨w.heap.size,4,none⟩=some (Aj n)∧W.drew.cell? ⟨sb,64,none⟩=some L.og:=⟨q,k,c,v,p,i⟩;refine Cv [7] [5,6] [] 8 (fun wq:World=>wq.cell? ⟨w.heap.size,0,none⟩=some (Aj op)∧wq.cell? ⟨w.heap.size,1,none⟩=some (Aj (d:Int))∧wq.cell? ⟨w.heap.size,2,none⟩=some (Aj (a:Int))∧wq.cell? ⟨w.heap.size,3,none⟩=some (Aj (b:Int))∧wq.cell? ⟨w.heap.size,4,none⟩=some (Aj n)∧wq.cell? ⟨sb,64,none⟩=some L.og) ?_
 iterate 7 (first|refine Be ?_|refine Bj g ?_)
 refine Bi fun K y=>?_;go_simp
 refine(Nz W.drew sb L s H1.o.drew op n b d a u f L.og _ H1.o.ok.m.dK (fun _ h=>h.og) H1.o.ok.m.aT).mono ?_;intro e Y z;have j:=Aq (z.bQ r.o.drew);obtain⟨rfl,_⟩:=z;dsimp only;refine Bh y ?_;clear y K;refine Bb ?_;go_wp2;go_end0;exact j.o
theorem do31 (w:World)(sb:Nat)(L:bN)(s:Sr.St)(h:ar w sb L s)(op n d:Int)(a b:Nat)(c:a<64)(x:b<64):Calls Tryz.prog 140 #[.pointer (some ⟨sb,0,none⟩),Ff ⟨op,d,a,b,n⟩] w (bB w sb L (Xj s (s.aW.getD a 0) (s.aW.getD b 0))):=by
 have i:(a:Int)<64:=by omega
 have m:(b:Int)<64:=by omega
 unfold Ff;have H:=Aq h;have Z:=h.aG.lt
 skip
 clear h;go_enter Tryz.func140,Tryz.ntmps140;go_wp2_with fail
 generalize y:w.alloc (.cells #[Aj op,Aj (d:Int),Aj (a:Int),Aj (b:Int),Aj n] 50)=W at *;obtain⟨X,j,r,v,l,H1,q,Y⟩:=H.o.box y;clear y;have k:=H1.o.fQ c;have p:=H1.o.fQ x;have f:W.drew.cell? ⟨w.heap.size,2,none⟩=some (Aj (a:Int))∧W.drew.cell? ⟨sb,a,none⟩=some (Aj (s.aW.getD a 0))∧W.drew.cell? ⟨w.heap.size,3,none⟩=some (Aj (b:Int))∧W.drew.cell? ⟨sb,b,none⟩=some (Aj (s.aW.getD b 0)):=⟨r,k,v,p⟩;refine Cv [15] [3,7,10,14] [] 16 (fun wq:World=>wq.cell? ⟨w.heap.size,2,none⟩=some (Aj (a:Int))∧wq.cell? ⟨sb,a,none⟩=some (Aj (s.aW.getD a 0))∧wq.cell? ⟨w.heap.size,3,none⟩=some (Aj (b:Int))∧wq.cell? ⟨sb,b,none⟩=some (Aj (s.aW.getD b 0))) ?_
 iterate 15 (first|refine Be ?_|refine Bj f ?_)
 refine Bi fun K z=>?_;go_simp
 refine(Xb W.drew sb L s H1.o.drew _ _ (H.o.rk x)).mono ?_;intro e U u;have g:=Aq (u.bQ q.o.drew);obtain⟨rfl,_⟩:=u;dsimp only;refine Bh z ?_;clear z K;refine Bb ?_;go_wp2;go_end0;exact g.o
theorem do32 (w:World)(sb:Nat)(L:bN)(s:Sr.St)(h:ar w sb L s)(op n d:Int)(a b:Nat)(c:a<64)(v:b<64):Calls Tryz.prog 142 #[.pointer (some ⟨sb,0,none⟩),Ff ⟨op,d,a,b,n⟩] w (bB w sb L (mB s (s.aW.getD a 0) (s.aW.getD b 0))):=by
 have i:(a:Int)<64:=by omega
 have m:(b:Int)<64:=by omega
 unfold Ff;have H:=Aq h;have Z:=h.aG.lt
 skip
 clear h;go_enter Tryz.func142,Tryz.ntmps142;go_wp2_with fail
 generalize x:w.alloc (.cells #[Aj op,Aj (d:Int),Aj (a:Int),Aj (b:Int),Aj n] 50)=W at *;obtain⟨X,j,r,u,l,H1,q,Y⟩:=H.o.box x;clear x;have k:=H1.o.fQ c;have p:=H1.o.fQ v;have f:W.drew.cell? ⟨w.heap.size,2,none⟩=some (Aj (a:Int))∧W.drew.cell? ⟨sb,a,none⟩=some (Aj (s.aW.getD a 0))∧W.drew.cell? ⟨w.heap.size,3,none⟩=some (Aj (b:Int))∧W.drew.cell? ⟨sb,b,none⟩=some (Aj (s.aW.getD b 0)):=⟨r,k,u,p⟩;refine Cv [15] [3,7,10,14] [] 16 (fun wq:World=>wq.cell? ⟨w.heap.size,2,none⟩=some (Aj (a:Int))∧wq.cell? ⟨sb,a,none⟩=some (Aj (s.aW.getD a 0))∧wq.cell? ⟨w.heap.size,3,none⟩=some (Aj (b:Int))∧wq.cell? ⟨sb,b,none⟩=some (Aj (s.aW.getD b 0))) ?_
 iterate 15 (first|refine Be ?_|refine Bj f ?_)
 refine Bi fun K y=>?_;go_simp
 refine(Zey W.drew sb L s H1.o.drew _ _).mono ?_;intro e U z;have g:=Aq (z.bQ q.o.drew);obtain⟨rfl,_⟩:=z;dsimp only;refine Bh y ?_;clear y K;refine Bb ?_;go_wp2;go_end0;exact g.o
theorem do33 (w:World)(sb:Nat)(L:bN)(s:Sr.St)(h:ar w sb L s)(op n d:Int)(a b:Nat)(c:a<64)(v:b<64):Calls Tryz.prog 144 #[.pointer (some ⟨sb,0,none⟩),Ff ⟨op,d,a,b,n⟩] w (bB w sb L (Jf s (s.aW.getD a 0) (s.aW.getD b 0))):=by
 have i:(a:Int)<64:=by omega
 have m:(b:Int)<64:=by omega
 unfold Ff;have H:=Aq h;have Z:=h.aG.lt
 skip
 clear h;go_enter Tryz.func144,Tryz.ntmps144;go_wp2_with fail
 generalize x:w.alloc (.cells #[Aj op,Aj (d:Int),Aj (a:Int),Aj (b:Int),Aj n] 50)=W at *;obtain⟨X,j,r,u,l,H1,q,Y⟩:=H.o.box x;clear x;have k:=H1.o.fQ c;have p:=H1.o.fQ v;have f:W.drew.cell? ⟨w.heap.size,2,none⟩=some (Aj (a:Int))∧W.drew.cell? ⟨sb,a,none⟩=some (Aj (s.aW.getD a 0))∧W.drew.cell? ⟨w.heap.size,3,none⟩=some (Aj (b:Int))∧W.drew.cell? ⟨sb,b,none⟩=some (Aj (s.aW.getD b 0)):=⟨r,k,u,p⟩;refine Cv [15] [3,7,10,14] [] 16 (fun wq:World=>wq.cell? ⟨w.heap.size,2,none⟩=some (Aj (a:Int))∧wq.cell? ⟨sb,a,none⟩=some (Aj (s.aW.getD a 0))∧wq.cell? ⟨w.heap.size,3,none⟩=some (Aj (b:Int))∧wq.cell? ⟨sb,b,none⟩=some (Aj (s.aW.getD b 0))) ?_
 iterate 15 (first|refine Be ?_|refine Bj f ?_)
 refine Bi fun K y=>?_;go_simp
 refine(Xi W.drew sb L s H1.o.drew _ _).mono ?_;intro e U z;have g:=Aq (z.bQ q.o.drew);obtain⟨rfl,_⟩:=z;dsimp only;refine Bh y ?_;clear y K;refine Bb ?_;go_wp2;go_end0;exact g.o
theorem do35 (w:World)(sb:Nat)(L:bN)(s:Sr.St)(h:ar w sb L s)(op d a b:Int)(n:Nat)(Y:s.pc+n≤1000000):Calls Tryz.prog 148 #[.pointer (some ⟨sb,0,none⟩),Ff ⟨op,d,a,b,n⟩] w (bB w sb L (Sr.cC s n true)):=by
 unfold Ff;have H:=Aq h;have X:=h.aG.lt
 skip
 clear h;go_enter Tryz.func148,Tryz.ntmps148;go_wp2_with fail
 generalize x:w.alloc (.cells #[Aj op,Aj (d:Int),Aj (a:Int),Aj (b:Int),Aj n] 50)=W at *;obtain⟨j,f,Z,c,k,H1,q,l⟩:=H.o.box x;clear x;have g:=H1.o.drew.aG.frozen 75;have jY:=H1.o.drew.jY;have u:=Aq (show bB w sb L (Sr.cC s n true) (.returned (.tuple #[])) (W.drew.setCell ⟨sb,75,none⟩ (Aj ((s.pc+n:Nat):Int))) from bB.to (H1.o.drew.jq (s.pc+n)) (q.o.drew.setCell (p:=⟨sb,75,none⟩) (.inl (.inl rfl)) _));have e:((s.pc+n:Nat):Int)=(s.pc:Int)+n:=by omega
 rw[e]at u;clear e;generalize z:(s.pc:Int)=pc at *;have i:=Aq z;have v:0≤pc∧pc+n≤1000000:=by omega
 have m:IntKind.i64.wrap (pc+n)=pc+n:=Do _ (by omega);clear z v;have r:W.drew.cell? ⟨sb,75,none⟩=some (Aj pc)∧W.drew.cell? ⟨w.heap.size,4,none⟩=some (Aj n):=⟨jY,k⟩;refine Cv [9] [3,5] [] 10 (fun wq:World=>wq.cell? ⟨sb,75,none⟩=some (Aj pc)∧wq.cell? ⟨w.heap.size,4,none⟩=some (Aj n)) ?_
 iterate 9 (first|refine Be ?_|refine Bj r ?_)
 refine Bi fun K y=>?_;go_simp
 refine Bh y ?_;clear y K;refine Bb ?_;go_wp2;go_end0;exact u.o
theorem do36 (w:World)(sb:Nat)(L:bN)(s:Sr.St)(h:ar w sb L s)(op d b:Int)(a n:Nat)(p:a<64)(V:s.pc+n≤1000000):Calls Tryz.prog 149 #[.pointer (some ⟨sb,0,none⟩),Ff ⟨op,d,a,b,n⟩] w (bB w sb L (Sr.cC s n (decide (s.aW.getD a 0=0)))):=by
 have l:(a:Int)<64:=by omega
 obtain⟨x,y,_,U⟩:=h.jS p;have i:=Aq y;rw[y];clear y;unfold Ff;have H:=Aq h;have Z:=h.aG.lt
 skip
 clear h;go_enter Tryz.func149,Tryz.ntmps149;go_wp2_with fail
 generalize z:w.alloc (.cells #[Aj op,Aj (d:Int),Aj (a:Int),Aj (b:Int),Aj n] 50)=W at *;obtain⟨X,m,c,j,q,H1,r,Y⟩:=H.o.box z;clear z;have v:=H1.o.fQ p;rw[i.o]at v;have f:W.drew.cell? ⟨w.heap.size,4,none⟩=some (Aj n)∧W.drew.cell? ⟨w.heap.size,2,none⟩=some (Aj (a:Int))∧W.drew.cell? ⟨sb,a,none⟩=some (Aj x):=⟨q,c,v⟩;refine Cv [11] [2,5,9] [] 12 (fun wq:World=>wq.cell? ⟨w.heap.size,4,none⟩=some (Aj n)∧wq.cell? ⟨w.heap.size,2,none⟩=some (Aj (a:Int))∧wq.cell? ⟨sb,a,none⟩=some (Aj x)) ?_
 iterate 11 (first|refine Be ?_|refine Bj f ?_)
 refine Bi fun K u=>?_;go_simp
 refine(Qm W.drew sb L s H1.o.drew n _ (fun _=>⟨by omega,by omega⟩)).mono ?_;intro e P k;have g:=Aq (k.bQ r.o.drew);obtain⟨rfl,_⟩:=k;dsimp only;refine Bh u ?_;clear u K;refine Bb ?_;go_wp2;go_end0;exact g.o
theorem do41 (w:World)(sb:Nat)(L:bN)(s:Sr.St)(h:ar w sb L s)(op d b:Int)(a n:Nat)(p:a<64)(V:s.pc+n≤1000000):Calls Tryz.prog 151 #[.pointer (some ⟨sb,0,none⟩),Ff ⟨op,d,a,b,n⟩] w (bB w sb L (Sr.cC s n (decide (s.aW.getD a 0≤b)))):=by
 have l:(a:Int)<64:=by omega
 obtain⟨x,y,_,U⟩:=h.jS p;have j:=Aq y;rw[y];clear y;unfold Ff;have H:=Aq h;have Z:=h.aG.lt
 skip
 clear h;go_enter Tryz.func151,Tryz.ntmps151;go_wp2_with fail
 generalize z:w.alloc (.cells #[Aj op,Aj (d:Int),Aj (a:Int),Aj (b:Int),Aj n] 50)=W at *;obtain⟨X,m,f,q,r,H1,c,Y⟩:=H.o.box z;clear z;have v:=H1.o.fQ p;rw[j.o]at v;have g:W.drew.cell? ⟨w.heap.size,4,none⟩=some (Aj n)∧W.drew.cell? ⟨w.heap.size,2,none⟩=some (Aj (a:Int))∧W.drew.cell? ⟨sb,a,none⟩=some (Aj x)∧W.drew.cell? ⟨w.heap.size,3,none⟩=some (Aj (b:Int)):=⟨r,f,v,q⟩;refine Cv [13] [2,5,9,11] [] 14 (fun wq:World=>wq.cell? ⟨w.heap.size,4,none⟩=some (Aj n)∧wq.cell? ⟨w.heap.size,2,none⟩=some (Aj (a:Int))∧wq.cell? ⟨sb,a,none⟩=some (Aj x)∧wq.cell? ⟨w.heap.size,3,none⟩=some (Aj (b:Int))) ?_
 iterate 13 (first|refine Be ?_|refine Bj g ?_)
 refine Bi fun K u=>?_;go_simp
 refine(Qm W.drew sb L s H1.o.drew n _ (fun _=>⟨by omega,by omega⟩)).mono ?_;intro e P k;have i:=Aq (k.bQ c.o.drew);obtain⟨rfl,_⟩:=k;dsimp only;refine Bh u ?_;clear u K;refine Bb ?_;go_wp2;go_end0;exact i.o
end
end Go.Proofs.YtnhebmgibiomnaaGreat

import Derived.Test.YtnhebmgibiomnaaGreatPi4
set_option linter.unusedVariables false
set_option linter.unusedSimpArgs false
set_option maxRecDepth 100000
set_option maxHeartbeats 8000000
namespace Go.Proofs.YtnhebmgibiomnaaGreat
section
open Go.RowKit Mc
theorem Ur {P:Program}(w:World){ops:Array Oper}{o:Oper}{a:Act}{K:Act→World→Prop}{Q:Exit→Act→World→Prop}{E:Prop}(b:o.guard=none)(s x:Operand)(t:TypeId)
  (U:o.op=.call { callee:=.builtin .append,args:=#[s,x],argTypes:=#[t,t] }) (e:TypeId) (i:TypeInfo) (z:Value) (size bytes:Nat) (f:P.underlying t=some (.slice e)) (hi:P.info? e=some i) (X:i.zero=some z)
  (d:i.size=size) (V:i.bytes=bytes) (D:z.cells.size=size) (Y:0<size)
  (O:Nat→Prop) (v:Value) (n:Nat) (xs:List Value) (S:a.eval s=v) (r:Row w O e size v n xs)
  (B:Nat) (A:Option Addr) (m c:Nat) (p:List Value) (C:a.eval x=.slice A m c) (R:aE w B size A m p) (l:∀u∈p,u.oneCell'=true)
  (H:n+m≤maxLen) (F:(n+m)*bytes≤140737488355328)
  (h:∀v' w',Row w' (ext O w w') e size v' (n+m) (xs++p)→w.grownBy w' v.ownBlock→(∀g,v'.ownBlock=some g→v.ownBlock=some g∨w.heap.size≤g)→K (a.put o.dst v') w') :
  if Region.wanted o (yielded ops a.tmps)=true then Oper.wp P o a w K Q else E:=by
 have Z:Region.wanted o (yielded ops a.tmps)=true:=by simp[Region.wanted,b]
 rw[if_pos Z];exact Fg w s x t U 0 e i z size bytes f hi X d V D Y v n xs S r.1 B A m c p C R l H F (By _)
  fun v' w' q j y=>h v' w' ⟨q,fun g k=>by
   rcases y with y|y
   ·exact .inl (r.2 g (y ▸ k))
   ·rw[y]at k;injection k with k;subst k;exact .inr ⟨Aw,(q.lt _ y).2⟩⟩ j fun g k=>by
   rcases y with y|y
   ·exact .inl (y ▸ k)
   ·rw[y]at k;injection k with k;exact .inr (by omega)
theorem ag.fY {w w1:World}{mb:Nat}{O:Nat→Prop}{L:bd}{s:St}(h:ag w mb O L s){v:Value}{x:Int}(m:bI x)(o:s.stack.length<32)
  (a:Row w1 (ext O w w1) 3 1 v (s.stack.length+1) (ae s.stack.reverse++[Aj x])) (z:w.grownBy w1 L.sk.ownBlock) (f:∀g,v.ownBlock=some g→L.sk.ownBlock=some g∨w.heap.size≤g) :
  (∃cs,aH w1 mb 212 cs∧cs.size=50)∧(∃L',ag (w1.setCell ⟨mb,40,none⟩ v) mb (ext O w w1) L' { s with stack:=x::s.stack })∧Fr O w (w1.setCell ⟨mb,40,none⟩ v):=by
 have q:aH w1 mb 212 L.cs:=h.aG.grown z fun e=>h.sk.cD h.aG (by decide) e.symm rfl
 have i:=z.size;refine⟨⟨_,q,h.c.sz⟩,⟨_,h.stack (u:=v) (l:=x::s.stack) (q.aX 40 v) (h.c.mK _ _) ?_ f ?_ (fun _ h=>.inl h) ?_ (h.ok.kg ?_ ?_)⟩,?_⟩
 ·have:=a.aQ (w':=w1.setCell ⟨mb,40,none⟩ v) (O':=ext O w w1) (fun g n=>Bq _ _ _ _ (fun (e:g=mb)=>a.cD q (by decide) n e)) (fun _ h=>h)
  simpa [ae]using this
 ·intro k p d b;rw[Bq _ _ _ _ d];exact z.block k (h.eO k p) b
 ·intro k p;have:=h.iB i k p
  simpa [World.setCell]using this
 ·intro y r;rcases List.mem_cons.1 r with rfl|r
  ·exact m
  ·exact h.ok.stack y r
 ·simp only[Bp];omega
 ·exact qU (⟨z.os,z.tape,z.output,z.size,fun k p j=>z.block k p (fun e=>j (h.sk.2 k e.symm))⟩) (.inl h.eu) _
def jJ (w:World)(mb:Nat)(O:Nat→Prop)(s:St)(vb:Nat)(vs:List Int)(i:Value)(wx:World):Prop :=
 ∃(k:Nat) (L':bd),k≤vs.length∧i=Aj k∧ag wx mb (ext O w wx) L' { s with stack:=((vs.take k).map bA).reverse++s.stack }∧aH wx vb 3 (ae vs).toArray∧Fr O w wx
theorem jJ.end_ {w:World}{mb:Nat}{O:Nat→Prop}{s:St}{vs:List Int}{wx:World}{L':bd}{k:Nat}(z:k≤vs.length) (y:¬ (k:Int)<vs.length) (h:ag wx mb (ext O w wx) L' { s with stack:=((vs.take k).map bA).reverse++s.stack }) (x:Fr O w wx):aw w mb O { s with stack:=(vs.map bA).reverse++s.stack } (.returned (.tuple #[])) wx:=by
 rw[oL (by omega)]at h;exact⟨rfl,⟨_,h⟩,x⟩
theorem jJ.next {w:World}{mb:Nat}{O:Nat→Prop}{s:St}{vb:Nat}{vs:List Int}{wr y:World}{q:bd}{k:Nat}{x:Int}{o:Obj}{v:Value} (p:vs[k]?=some x) (u:Fr O w wr) (a:aH wr vb 3 (ae vs).toArray) (d:¬ O vb)
  (h:ag (y.setCell ⟨mb,40,none⟩ v) mb (ext (ext O w wr) (wr.drew.alloc o) y) q { s with stack:=bA x::(((vs.take k).map bA).reverse++s.stack) }) (z:Fr (ext O w wr) (wr.drew.alloc o) (y.setCell ⟨mb,40,none⟩ v)) (g:vb<w.heap.size) :
  jJ w mb O s vb vs (Aj ((k:Int)+1)) (y.setCell ⟨mb,40,none⟩ v):=by
 have r:k<vs.length:=(aS.1 p).1;have c:=z.size;have j:=u.size;simp[World.setCell]at c;have b:((vs.take (k+1)).map bA).reverse++s.stack=bA x::(((vs.take k).map bA).reverse++s.stack):=by
  rw[oC,p];simp
 refine⟨k+1,q,r,by simp,?_,?_,Fr.ext u ?_⟩
 ·rw[b];refine h.mono (fun i hi=>?_) (fun i hi=>?_)
  ·rcases hi with(hi|hi)|hi
   ·exact .inl hi
   ·exact .inr ⟨hi.1,by simp[World.setCell];omega⟩
   ·refine .inr ⟨by have:=hi.1;simp at this;omega,by have:=hi.2;simpa [World.setCell]using this⟩
  ·rcases hi with hi|hi
   ·exact h.eO i (.inl (.inl hi))
   ·exact hi.2
 ·have f:aH (wr.drew.alloc o) vb 3 (ae vs).toArray:=a.drew.alloc o;exact z.aG f (fun e=>by rcases e with e|e;exact d e;omega)
 ·exact((qF _ wr).drew.alloc o).trans z
theorem Ri (w:World)(mb:Nat)(O:Nat→Prop)(L:bd)(s:St)(h:ag w mb O L s)(vb:Nat)(vs:List Int) (z:aH w vb 3 (ae vs).toArray) (J:¬ O vb) (hK:s.stack.length+vs.length≤32) :
  Calls Tryz.prog 167 #[.pointer (some ⟨mb,0,none⟩),.slice (some ⟨vb,0,none⟩) vs.length vs.length] w (aw w mb O { s with stack:=(vs.map bA).reverse++s.stack }):=by
 obtain⟨G,M,S,Q,W⟩:=Fe Hv;have j:Hid (jJ w mb O s vb vs (Aj 0) w):=Aq ⟨0,L,By _,rfl,by simpa using h.mono (fun _ h=>.inl h) (h.iB Aw),z,qF _ _⟩;have T:=z.lt;clear h z;go_enter Tryz.func167,Tryz.ntmps167;go_wp2;go_loopw [8] (fun i wr=>jJ w mb O s vb vs i wr) (fun i _=>vs.length-(intOf i).toNat)
 case atStart=>exact j.o
 case round =>
  clear j;obtain⟨k,b,E,rfl,a,z,f⟩:=hrel;by_cases L':(k:Int)<vs.length
  ·obtain⟨x,r⟩:∃x,vs[k]?=some x:=⟨_,Bf (by omega)⟩;have R:=z.cell k;simp only[ae,Az,Cd,r,oH]at R;have d1:=z.lt;have P:=Aq a;have HV:=Aq z;have D:=Aq f;have HX:=Aq r;clear a z f r;go_wp2_with fail
   have v:=P.o.drew;have Y:wr.drew.cell? ⟨mb,40,none⟩=some b.sk:=by rw[v.aG.cell,v.c.dX]
   have p:=v.alloc (.cells #[Aj (bA x)] 3);have I:(wr.drew.alloc (.cells #[Aj (bA x)] 3)).cell? ⟨mb,40,none⟩=some b.sk:=by rw[p.aG.cell,p.c.dX]
   have F:(((vs.take k).map bA).reverse++s.stack).length<32:=by simp;omega
   have g:=Aq p;have _hmbl:=v.aG.lt;clear v p;refine Bv (Cl [6,7,8,11]) (Bm [4]) (Bm [6,7]) [0,1,2,3,4,5,6,7,8,9,10,11] (fun w':World=>w'.cell? ⟨mb,40,none⟩=some b.sk) (by kernel_rfl) (by kernel_rfl) (by kernel_rfl) (by kernel_rfl) ?_
   iterate 4 (refine Be ?_)
   refine Bj Y ?_;refine Be ?_;refine Bi fun K y=>?_;go_simp
   refine(Iz _ _).mono ?_;rintro e w5⟨rfl,rfl⟩;dsimp only;refine y _ _ (fun _=>Y) ?_;clear y K;refine Bi fun K y=>?_;go_simp
   refine y _ _ (fun _=>I) ?_;clear y K;refine Bi fun K y=>?_
   refine Ur _ rfl (.tmp 16) (.tmp 19) _ rfl 3 G _ 1 8 Tryz.underlying22 M S Q W rfl (by decide) _ _ _ _ rfl g.o.sk _ _ 1 1 [Aj (bA x)] rfl (qM (cs:=[Aj (bA x)]) (qG _ _ _) 1 1 rfl) (by simp[Value.oneCell']) (by unfold maxLen;simp only;omega) (by simp only;omega) ?_;intro v' C d l H;obtain⟨Av,nv,cv,B⟩:∃A n c,v'=.slice A n c:=by obtain⟨A,c,e,_⟩:=d.form;exact⟨A,_,c,e⟩
   obtain⟨⟨cs,q,hM⟩,⟨L2,X⟩,U⟩:=g.o.fY (Fq x) F d l H;have Z:jJ w mb O s vb vs (Aj ((k:Int)+1)) (C.setCell ⟨mb,40,none⟩ v'):=jJ.next HX.o D.o HV.o J X U T;have N:=Aq Z;obtain⟨H0,m⟩:∃u,cs[40]?=some u:=⟨_,qy (by omega)⟩;have V:=q.cell 40;rw[m]at V;have e1:=q.frozen 40;have e2:=q.lt;clear X U Z q d m l H;subst B;refine Bh y ?_;clear y K;refine Be ?_;refine Be ?_;refine Bi fun K y=>?_;go_simp
   refine Bh y ?_;clear y K;refine Bb ?_;go_wp2;go_roundw
   case rel=>exact N.o
   case measure=>simp[intOf];omega
  ·go_wp2;go_end0;exact jJ.end_ E (by omega) a f
section
variable {w w1 w2 : World} {O S : Nat → Prop} {mb : Nat} {L : bd} {s : St} {e : Ending}
theorem Fr.new (h:Fr O w w1)(k:Fr S w1 w2)(y:∀i,i<w.heap.size→S i→O i):Fr O w w2 :=
 ⟨k.os.trans h.os,k.tape.trans h.tape,k.output.trans h.output,Ex h.size k.size,fun i hi x=>(k.block i (Dq hi h.size) (fun a=>x (y i hi a))).trans (h.block i hi x)⟩
theorem aw.bQ (h:Fr O w w1)(k:aw w1 mb O s e w2):aw w mb O s e w2:=by
 obtain⟨z,⟨L,x⟩,y⟩:=k;have u:=h.size;refine⟨z,⟨L,x.mono (fun i hi=>?_) (fun i hi=>?_)⟩,h.trans y⟩
 ·rcases hi with hi|hi
  ·exact .inl hi
  ·exact .inr ⟨by omega,hi.2⟩
 ·rcases hi with hi|hi
  ·exact x.eO i (.inl hi)
  ·exact hi.2
theorem aw.dE (h:ag w1 mb O L s)(y:Fr O w w1):aw w mb O s (.returned (.tuple #[])) w1 :=
 ⟨rfl,⟨L,h.mono (fun _ h=>.inl h) (fun k x=>by rcases x with x|x;exact h.eO k x;exact x.2)⟩,y⟩
theorem ag.gZ (h:ag w mb O L s){k:Nat}(x:w.heap.size≤k):¬ O k:=fun e=>by have:=h.eO k e;omega
end
structure ij (w:World) (mb:Nat) (O:Nat→Prop) (s:St) (r:List Int) (n:Nat) (w':World):Prop where
 ma:∃L',ag w' mb O L' { s with stack:=r }
 fr:Fr O w w'
 lt:w.heap.size+n<w'.heap.size
 iE:∀g t cs,t≠212→aH w g t cs→aH w' g t cs
 cell:∀i,i≠40→w'.cell? ⟨mb,i,none⟩=w.cell? ⟨mb,i,none⟩
theorem Ec (w:World)(mb:Nat)(O:Nat→Prop)(L:bd)(s:St)(h:ag w mb O L s)(x:Int)(r:List Int)(l:s.stack=x::r)(u:Value) :
  Calls Tryz.prog 169 #[.pointer (some ⟨mb,0,none⟩),.slice (some ⟨w.heap.size+1,0,none⟩) 1 1] ((w.alloc (.cells #[u] 3)).alloc (.cells #[.pointer (some ⟨w.heap.size,0,none⟩)] 246)) fun e w'=>e=.returned (.tuple #[])∧ij w mb O s r 1 w'∧aH w' w.heap.size 3 #[Aj x]:=by
 have m:ag ((w.alloc (.cells #[u] 3)).alloc (.cells #[.pointer (some ⟨w.heap.size,0,none⟩)] 246)) mb O L s:=(h.alloc _).alloc _;have c:aH ((w.alloc (.cells #[u] 3)).alloc (.cells #[.pointer (some ⟨w.heap.size,0,none⟩)] 246)) w.heap.size 3 #[u]:=(qG _ _ _).alloc _;have f:aH ((w.alloc (.cells #[u] 3)).alloc (.cells #[.pointer (some ⟨w.heap.size,0,none⟩)] 246)) (w.heap.size+1) 246 #[.pointer (some ⟨w.heap.size,0,none⟩)]:=qH _ _ _ (by simp);refine(Zj _ mb O L s m x r l w.heap.size _ _ c f (h.gZ Aw)).mono ?_;rintro e w'⟨rfl,d,a,q,v,k⟩;refine⟨rfl,⟨d,?_,?_,?_,?_⟩,a⟩
 ·refine Fr.new (((qF O w).alloc _).alloc _) q (fun i hi y=>?_);rcases y with y|y
  ·exact y
  ·omega
 ·have:=q.size;simp at this;omega
 ·intro g t cs b z;subst k;have j:=z.lt;exact(((z.alloc _).alloc _).cZ (p:=⟨w.heap.size,0,none⟩) (by simp only;omega) _).cZ (p:=⟨mb,40,none⟩) (z.dF h.aG b) _
 ·intro i hi;subst k;have j:=h.aG.lt;rw[ol _ _ _ _ (fun e=>by injection e with _ e;exact hi e.symm),ol _ _ _ _ (fun e=>by injection e with e;omega),Cc _ _ _ (by simp;omega),Cc _ _ _ (by simp;omega)]
theorem Dz (w:World)(mb:Nat)(O:Nat→Prop)(L:bd)(s:St)(h:ag w mb O L s)(x y:Int)(r:List Int)(o:s.stack=y::x::r)(u z:Value) :
  Calls Tryz.prog 169 #[.pointer (some ⟨mb,0,none⟩),.slice (some ⟨w.heap.size+1+1,0,none⟩) 2 2] (((w.alloc (.cells #[u] 3)).alloc (.cells #[z] 3)).alloc (.cells #[.pointer (some ⟨w.heap.size,0,none⟩),.pointer (some ⟨w.heap.size+1,0,none⟩)] 246)) fun e w'=>e=.returned (.tuple #[])∧ij w mb O s r 2 w'∧aH w' w.heap.size 3 #[Aj x]∧aH w' (w.heap.size+1) 3 #[Aj y]:=by
 have K:ag (((w.alloc (.cells #[u] 3)).alloc (.cells #[z] 3)).alloc (.cells #[.pointer (some ⟨w.heap.size,0,none⟩),.pointer (some ⟨w.heap.size+1,0,none⟩)] 246)) mb O L s:=((h.alloc _).alloc _).alloc _;have f:aH (((w.alloc (.cells #[u] 3)).alloc (.cells #[z] 3)).alloc (.cells #[.pointer (some ⟨w.heap.size,0,none⟩),.pointer (some ⟨w.heap.size+1,0,none⟩)] 246)) w.heap.size 3 #[u]:=((qG _ _ _).alloc _).alloc _;have H:aH (((w.alloc (.cells #[u] 3)).alloc (.cells #[z] 3)).alloc (.cells #[.pointer (some ⟨w.heap.size,0,none⟩),.pointer (some ⟨w.heap.size+1,0,none⟩)] 246)) (w.heap.size+1) 3 #[z]:=(qH _ _ _ (by simp)).alloc _;have l:aH (((w.alloc (.cells #[u] 3)).alloc (.cells #[z] 3)).alloc (.cells #[.pointer (some ⟨w.heap.size,0,none⟩),.pointer (some ⟨w.heap.size+1,0,none⟩)] 246)) (w.heap.size+1+1) 246 #[.pointer (some ⟨w.heap.size,0,none⟩),.pointer (some ⟨w.heap.size+1,0,none⟩)]:=qH _ _ _ (by simp);refine(Zi _ mb O L s K y x r o w.heap.size (w.heap.size+1) _ _ _ f H (by omega) l (h.gZ Aw) (h.gZ (by omega))).mono ?_;rintro e w'⟨rfl,j,c,m,b,v,a⟩;refine⟨rfl,⟨j,?_,?_,?_,?_⟩,c,m⟩
 ·refine Fr.new ((((qF O w).alloc _).alloc _).alloc _) b (fun i hi k=>?_);rcases k with k|k|k
  ·exact k
  ·omega
  ·omega
 ·have:=b.size;simp at this;omega
 ·intro g t cs d q;subst a;have n:=q.lt;exact(((((q.alloc _).alloc _).alloc _).cZ (p:=⟨w.heap.size,0,none⟩) (by simp only;omega) _).cZ (p:=⟨w.heap.size+1,0,none⟩) (by simp only;omega) _).cZ (p:=⟨mb,40,none⟩) (q.dF h.aG d) _
 ·intro i hi;subst a;have n:=h.aG.lt;rw[ol _ _ _ _ (fun e=>by injection e with _ e;exact hi e.symm),ol _ _ _ _ (fun e=>by injection e with e;omega),ol _ _ _ _ (fun e=>by injection e with e;omega),Cc _ _ _ (by simp;omega),Cc _ _ _ (by simp;omega),Cc _ _ _ (by simp;omega)]
theorem Eh (w:World)(mb:Nat)(O:Nat→Prop)(L:bd)(s:St)(h:ag w mb O L s)(v:Int)(y:s.stack.length<32) :
  Calls Tryz.prog 167 #[.pointer (some ⟨mb,0,none⟩),.slice (some ⟨w.heap.size,0,none⟩) 1 1] (w.alloc (.cells #[Aj v] 3)) (aw w mb O (push v s)) :=
 (Ri _ mb O L s (h.alloc _) _ [v] (qG _ _ _) (h.gZ Aw) (by simp;omega)).mono fun _ _ x=>x.bQ ((qF O w).alloc _)
theorem Oh (w:World)(mb:Nat)(O:Nat→Prop)(L:bd)(s:St)(h:ag w mb O L s)(v v':Int)(y:s.stack.length<31) :
  Calls Tryz.prog 167 #[.pointer (some ⟨mb,0,none⟩),.slice (some ⟨w.heap.size,0,none⟩) 2 2] (w.alloc (.cells #[Aj v,Aj v'] 3)) (aw w mb O (push v' (push v s))) :=
 (Ri _ mb O L s (h.alloc _) _ [v,v'] (qG _ _ _) (h.gZ Aw) (by simp;omega)).mono fun _ _ x=>x.bQ ((qF O w).alloc _)
theorem Zao (w:World)(mb:Nat)(O:Nat→Prop)(L:bd)(s:St)(h:ag w mb O L s)(a:Int)(y:s.stack.length<32) :
  Calls Tryz.prog 166 #[.pointer (some ⟨mb,0,none⟩),Aj a] w (aw w mb O (push a s)):=by
 have H:=Aq h;clear h;go_enter Tryz.func166,Tryz.ntmps166;go_wp2_with fail
 refine(Eh w mb O L s H.o a y).mono ?_;intro e u x;have z:=Aq x;obtain⟨rfl,_⟩:=x;go_wp2;go_end0;exact z.o
theorem Zq (w:World)(mb:Nat)(O:Nat→Prop)(L:bd)(s:St)(h:ag w mb O L s)(a:Int)(y:s.stack.length<32) :
  Calls Tryz.prog 223 #[.pointer (some ⟨mb,0,none⟩),Aj a] w (aw w mb O (push s.size s)):=by
 have iL:=h.aG.cell 41;rw[h.c.iL]at iL;have H:=Aq h;clear h;go_enter Tryz.func223,Tryz.ntmps223;go_wp2_with fail
 refine(Eh w mb O L s H.o _ y).mono ?_;intro e u x;have z:=Aq x;obtain⟨rfl,_⟩:=x;go_wp2;go_end0;exact z.o
theorem Zfn (w:World)(mb:Nat)(O:Nat→Prop)(L:bd)(s:St)(h:ag w mb O L s)(a x:Int)(r:List Int)(z:s.stack=x::r) :
  Calls Tryz.prog 168 #[.pointer (some ⟨mb,0,none⟩),Aj a] w (aw w mb O { s with stack:=r }):=by
 have H:=Aq h;have k:=Aq z;clear h z;go_enter Tryz.func168,Tryz.ntmps168;go_wp2_with fail
 refine(Ec w mb O L s H.o x r k.o _).mono ?_;rintro e w'⟨rfl,y,_⟩;have u:=Aq y;clear y;go_wp2;go_end0;obtain⟨p,v⟩:=u.o.ma;exact .dE v u.o.fr
theorem Zgq (w:World)(mb:Nat)(O:Nat→Prop)(L:bd)(s:St)(h:ag w mb O L s)(a x:Int)(r:List Int)(u:s.stack=x::r)(c:s.stack.length<32) :
  Calls Tryz.prog 170 #[.pointer (some ⟨mb,0,none⟩),Aj a] w (aw w mb O (push x (push x { s with stack:=r }))):=by
 have H:=Aq h;have d:=Aq u;rw[u,Bp]at c;clear h u;go_enter Tryz.func170,Tryz.ntmps170;go_wp2_with fail
 refine(Ec w mb O L s H.o x r d.o _).mono ?_;rintro e w'⟨rfl,y,z⟩;obtain⟨b,v⟩:=y.ma;have q:=Aq v;have g:=Aq y;have i:=y.lt;have p:=z.cell 0;have j:=z.lt;have l:=z.frozen 0;simp only[Az,Ay]at p;clear y v z;go_wp2_with fail
 refine(Oh w' mb O b _ q.o x x (by simp only;omega)).mono ?_;intro e m k;have f:=Aq (k.bQ g.o.fr);obtain⟨rfl,_⟩:=k;go_wp2;go_end0;exact f.o
theorem Zk (w:World)(mb:Nat)(O:Nat→Prop)(L:bd)(s:St)(h:ag w mb O L s)(a x y:Int)(r:List Int)(k:s.stack=y::x::r) :
  Calls Tryz.prog 171 #[.pointer (some ⟨mb,0,none⟩),Aj a] w (aw w mb O (push x (push y { s with stack:=r }))):=by
 have H:=Aq h;have i:=Aq k;have f:=h.ok.df;rw[k,Bp,Bp]at f;clear h k;go_enter Tryz.func171,Tryz.ntmps171;go_wp2_with fail
 refine(Dz w mb O L s H.o x y r i.o _ _).mono ?_;rintro e w'⟨rfl,z,v,u⟩;obtain⟨d,p⟩:=z.ma;have c:=Aq p;have l:=Aq z;have n:=z.lt;have b:=v.cell 0;have K:=v.lt;have X:=v.frozen 0;have g:=u.cell 0;have m:=u.lt;have Y:=u.frozen 0;simp only[Az,Ay]at b g;clear z p v u;go_wp2_with fail
 refine(Oh w' mb O d _ c.o y x (by simp only;omega)).mono ?_;intro e Z q;have j:=Aq (q.bQ l.o.fr);obtain⟨rfl,_⟩:=q;go_wp2;go_end0;exact j.o
theorem Gn (w:World)(mb:Nat)(O:Nat→Prop)(L:bd)(s:St)(h:ag w mb O L s)(a x y:Int)(r:List Int)(z:s.stack=y::x::r)(i f:Nat) (q:aH w i 74 #[.func (.func f) #[] #[]]) (v:Int) (D:∀args w,Sem.run Tryz.prog (callFunc f args) w=.ok (.enter f args) w)
  (d:∀w,bI x→bI y→Calls Tryz.prog f #[Aj x,Aj y] w fun e w'=>e=.returned (Aj v)∧w=w') :
  Calls Tryz.prog 250 #[.pointer (some ⟨mb,0,none⟩),Aj a,.pointer (some ⟨i,0,none⟩)] w (aw w mb O (push v { s with stack:=r })):=by
 have H:=Aq h;have V:=Aq z;have j:=h.ok.stack x (by rw[z];simp);have g:=h.ok.stack y (by rw[z];simp);have X:=Aq fun w=>d w j g
 have Y:=Aq q;have Z:=h.ok.df;rw[z,Bp,Bp]at Z;clear h z q d j g;go_enter Tryz.func250,Tryz.ntmps250;go_wp2_with fail
 refine(Dz w mb O L s H.o x y r V.o _ _).mono ?_;rintro e w'⟨rfl,u,p,k⟩;obtain⟨K,b⟩:=u.ma;have n:=Aq b;have l:=Aq u;have R:=u.lt;have m:=p.cell 0;have S:=p.lt;have A:=p.frozen 0;have U:=k.cell 0;have Q:=k.lt;have C:=k.frozen 0;simp only[Az,Ay]at m U;clear u b p k;have c0:=(l.o.iE _ _ _ (by decide) Y.o).cell 0;simp only[Az,Ay]at c0;go_wp2_with fail
 refine(X.o _).mono ?_;rintro e B⟨rfl,rfl⟩;go_wp2_with fail
 refine(Eh w' mb O K _ n.o v (by simp only;omega)).mono ?_;intro e E c;have P:=Aq (c.bQ l.o.fr);obtain⟨rfl,_⟩:=c;go_wp2;go_end0;exact P.o
theorem Mp (w:World)(mb:Nat)(O:Nat→Prop)(L:bd)(s:St)(h:ag w mb O L s)(a x:Int)(r:List Int)(z:s.stack=x::r)(c f:Nat) (k:aH w c 117 #[.func (.func f) #[] #[]]) (v:Int) (Q:∀args w,Sem.run Tryz.prog (callFunc f args) w=.ok (.enter f args) w)
  (b:∀w,bI x→Calls Tryz.prog f #[Aj x] w fun e w'=>e=.returned (Aj v)∧w=w') :
  Calls Tryz.prog 251 #[.pointer (some ⟨mb,0,none⟩),Aj a,.pointer (some ⟨c,0,none⟩)] w (aw w mb O (push v { s with stack:=r })):=by
 have H:=Aq h;have X:=Aq z;have d:=h.ok.stack x (by rw[z];simp);have m:=Aq fun w=>b w d
 have n:=Aq k;have K:=h.ok.df;rw[z,Bp]at K;clear h z k b d;go_enter Tryz.func251,Tryz.ntmps251;go_wp2_with fail
 refine(Ec w mb O L s H.o x r X.o _).mono ?_;rintro e w'⟨rfl,y,u⟩;obtain⟨l,p⟩:=y.ma;have j:=Aq p;have g:=Aq y;have Z:=y.lt;have i:=u.cell 0;have U:=u.lt;have V:=u.frozen 0;simp only[Az,Ay]at i;clear y p u;have c0:=(g.o.iE _ _ _ (by decide) n.o).cell 0;simp only[Az,Ay]at c0;go_wp2_with fail
 refine(m.o _).mono ?_;rintro e P⟨rfl,rfl⟩;go_wp2_with fail
 refine(Eh w' mb O l _ j.o v (by simp only;omega)).mono ?_;intro e R q;have Y:=Aq (q.bQ g.o.fr);obtain⟨rfl,_⟩:=q;go_wp2;go_end0;exact Y.o
end
section
open Go.RowKit Mc
theorem Fy (bG n:Int)(w:World):Calls Tryz.prog 117 #[Aj bG,Aj n] w fun e w'=>e=.returned (Aj (Db bG n))∧w=w':=by
 obtain⟨k1,k2⟩:=Fq n;have p:=pm bG (show (6:Int)≠0 by omega);have q:=po bG (show (0:Int)<6 by omega);have y:Db bG n=bA (if bG % 6=1 then(bA n+32) / 64*64 else if bG % 6=2 then bA n / 64*64+32 else if bG % 6=3 then(bA n+16) / 32*32 else if bG % 6=4 then bA n / 64*64 else if bG % 6=5 then(bA n+63) / 64*64 else bA n):=rfl;have v:=Aq y;clear y;generalize x:bA n=k at *;have r:=Aq x;clear x;generalize z:bG % 6=m at *;have u:=Aq z;clear z;have h:m=0∨m=1∨m=2∨m=3∨m=4∨m=5:=by omega
 rcases h with rfl|rfl|rfl|rfl|rfl|rfl
 all_goals
  clear p q;go_enter Tryz.func117,Tryz.ntmps117;go_wp2_with fail
  refine(Iz n _).mono ?_;rintro e w1⟨rfl,rfl⟩;rw[r.o];go_wp2_with fail
  refine(Qw bG 6 _ (by decide) (by decide)).mono ?_;rintro e w1⟨rfl,rfl⟩;rw[u.o];go_wp2_with fail
  refine(Iz _ _).mono ?_;rintro e w1⟨rfl,rfl⟩;go_wp2;go_ret;rw[v.o];refine⟨Co ?_,rfl⟩
  first|rfl|simp
theorem Zhn {x y:Int}(p : -2147483648≤x∧x≤2147483647)(v : -2147483648≤y∧y≤2147483647):RowKit.wrap64 (x*y)=x*y:=by
 refine pR _ ?_;have k:x*y≤4611686018427387904:=by
  rcases pU 0 x with h|h <;> rcases pU 0 y with z|z
  ·have:=pV (show x≤2147483648 by omega) (show y≤2147483648 by omega) z (by omega);omega
  ·have:=Int.mul_nonpos_of_nonneg_of_nonpos h z;omega
  ·have:=Int.mul_nonpos_of_nonpos_of_nonneg h z;omega
  ·have:=pV (show -x≤2147483648 by omega) (show -y≤2147483648 by omega) (by omega) (by omega);rw[Int.neg_mul_neg]at this;omega
 have u : -4611686018427387904≤x*y:=by
  rcases pU 0 x with h|h <;> rcases pU 0 y with z|z
  ·have:=Int.mul_nonneg h z;omega
  ·have:=pV (show x≤2147483648 by omega) (show -y≤2147483648 by omega) (by omega) (by omega);rw[Int.mul_neg]at this;omega
  ·have:=pV (show -x≤2147483648 by omega) (show y≤2147483648 by omega) (by omega) (by omega);rw[Int.neg_mul]at this;omega
  ·have:=Int.mul_nonneg_of_nonpos_of_nonpos h z;omega
 omega
theorem Zcy {a b:Int}(z : -1000000000000≤a)(y:a≤1000000000000) : -1000000000000≤eT a b∧eT a b≤1000000000000:=by
 unfold eT;split
 ·omega
 ·rename_i x;have key:∀a b:Int,-1000000000000≤a→a≤1000000000000→0<b→-1000000000000≤a / b∧a / b≤1000000000000:=fun a b z y x =>
   ⟨Int.le_ediv_of_mul_le x (by omega),Int.ediv_le_of_le_mul x (by omega)⟩
  rcases Int.lt_or_gt_of_ne x with x|x
  ·rw[←Int.neg_fdiv_neg,Int.fdiv_eq_ediv_of_nonneg _ (by omega)];exact key _ _ (by omega) (by omega) (by omega)
  ·rw[Int.fdiv_eq_ediv_of_nonneg _ (by omega)];exact key _ _ z y x
theorem Je {a:Int}(x : -9223372036854775808≤a)(y:a≤9223372036854775807):iJ a=a:=by unfold iJ;omega
theorem d5 (x y:Int)(w:World)(u:bI x)(z:bI y):Calls Tryz.prog 173 #[Aj x,Aj y] w fun e w'=>e=.returned (Aj (x+y))∧w=w':=by
 unfold bI at u z;go_enter Tryz.func173,Tryz.ntmps173;go_wp2;go_ret;exact⟨rfl,rfl⟩
theorem d6 (x y:Int)(w:World)(u:bI x)(z:bI y):Calls Tryz.prog 174 #[Aj x,Aj y] w fun e w'=>e=.returned (Aj (x-y))∧w=w':=by
 unfold bI at u z;go_enter Tryz.func174,Tryz.ntmps174;go_wp2;go_ret;exact⟨rfl,rfl⟩
theorem d7 (x y:Int)(w:World)(u:bI x)(z:bI y):Calls Tryz.prog 175 #[Aj x,Aj y] w fun e w'=>e=.returned (Aj (bA (x*y / 64)))∧w=w':=by
 unfold bI at u z;have v:=Aq (Zhn u z);go_enter Tryz.func175,Tryz.ntmps175;go_wp2_with fail
 refine(Fd _ _).mono ?_;rintro e w1⟨rfl,rfl⟩;go_wp2;go_ret;exact⟨Co (by rw[v.o]),rfl⟩
theorem d8 (x y:Int)(w:World)(z:bI x)(_hy:bI y):Calls Tryz.prog 177 #[Aj x,Aj y] w fun e w'=>e=.returned (Aj (bA (eT (64*x) y)))∧w=w':=by
 unfold bI at z _hy;go_enter Tryz.func177,Tryz.ntmps177;go_wp2_with fail
 refine(Jq _ _ _).mono ?_;rintro e w1⟨rfl,rfl⟩;go_wp2_with fail
 refine(Fd _ _).mono ?_;rintro e w1⟨rfl,rfl⟩;go_wp2;go_ret;have u:=Zcy (a:=64*x) (b:=y) (by omega) (by omega);exact⟨Co (by rw[Je (by omega) (by omega)]),rfl⟩
theorem d9 (x:Int)(w:World)(y:bI x):Calls Tryz.prog 180 #[Aj x] w fun e w'=>e=.returned (Aj (-x))∧w=w':=by
 unfold bI at y;go_enter Tryz.func180,Tryz.ntmps180;go_wp2;go_ret;exact⟨rfl,rfl⟩
theorem kM (x:Int)(w:World)(y:bI x):Calls Tryz.prog 181 #[Aj x] w fun e w'=>e=.returned (Aj (max x (-x)))∧w=w':=by
 unfold bI at y;go_enter Tryz.func181,Tryz.ntmps181;go_wp2
 all_goals
  go_ret;exact⟨Co (by omega),rfl⟩
theorem iZ (x y:Int)(w:World)(_hx:bI x)(_hy:bI y):Calls Tryz.prog 182 #[Aj x,Aj y] w fun e w'=>e=.returned (Aj (min x y))∧w=w':=by
 unfold bI at _hx _hy;go_enter Tryz.func182,Tryz.ntmps182;go_wp2
 all_goals
  go_ret;exact⟨Co (by omega),rfl⟩
theorem jK (x y:Int)(w:World)(_hx:bI x)(_hy:bI y):Calls Tryz.prog 183 #[Aj x,Aj y] w fun e w'=>e=.returned (Aj (max x y))∧w=w':=by
 unfold bI at _hx _hy;go_enter Tryz.func183,Tryz.ntmps183;go_wp2
 all_goals
  go_ret;exact⟨Co (by omega),rfl⟩
theorem nS (x:Int)(w:World)(_hx:bI x):Calls Tryz.prog 184 #[Aj x] w fun e w'=>e=.returned (Aj (Db 4 x))∧w=w':=by
 unfold bI at _hx;go_enter Tryz.func184,Tryz.ntmps184;go_wp2_with fail
 refine(Fy _ _ _).mono ?_;rintro e w1⟨rfl,rfl⟩;go_wp2;go_ret;exact⟨rfl,rfl⟩
theorem nN (x:Int)(w:World)(_hx:bI x):Calls Tryz.prog 185 #[Aj x] w fun e w'=>e=.returned (Aj (Db 5 x))∧w=w':=by
 unfold bI at _hx;go_enter Tryz.func185,Tryz.ntmps185;go_wp2_with fail
 refine(Fy _ _ _).mono ?_;rintro e w1⟨rfl,rfl⟩;go_wp2;go_ret;exact⟨rfl,rfl⟩
theorem nI (x y:Int)(w:World)(_hx:bI x)(_hy:bI y):Calls Tryz.prog 187 #[Aj x,Aj y] w fun e w'=>e=.returned (Aj (bC (decide (x<y))))∧w=w':=by
 unfold bI at _hx _hy;go_enter Tryz.func187,Tryz.ntmps187;go_wp2_with fail
 refine(Hj _ _).mono ?_;rintro e w1⟨rfl,rfl⟩;go_wp2;go_ret;exact⟨Co (by first|rfl|(congr 1;simp)),rfl⟩
theorem lK (x y:Int)(w:World)(_hx:bI x)(_hy:bI y):Calls Tryz.prog 189 #[Aj x,Aj y] w fun e w'=>e=.returned (Aj (bC (decide (x≤y))))∧w=w':=by
 unfold bI at _hx _hy;go_enter Tryz.func189,Tryz.ntmps189;go_wp2_with fail
 refine(Hj _ _).mono ?_;rintro e w1⟨rfl,rfl⟩;go_wp2;go_ret;exact⟨Co (by first|rfl|(congr 1;simp)),rfl⟩
theorem d18 (x y:Int)(w:World)(_hx:bI x)(_hy:bI y):Calls Tryz.prog 190 #[Aj x,Aj y] w fun e w'=>e=.returned (Aj (bC (decide (x=y))))∧w=w':=by
 unfold bI at _hx _hy;go_enter Tryz.func190,Tryz.ntmps190;go_wp2_with fail
 refine(Hj _ _).mono ?_;rintro e w1⟨rfl,rfl⟩;go_wp2;go_ret;exact⟨Co (by first|rfl|(congr 1;simp)),rfl⟩
theorem d19 (x:Int)(w:World)(_hx:bI x):Calls Tryz.prog 191 #[Aj x] w fun e w'=>e=.returned (Aj (bC (decide (x=0))))∧w=w':=by
 unfold bI at _hx;go_enter Tryz.func191,Tryz.ntmps191;go_wp2_with fail
 refine(Hj _ _).mono ?_;rintro e w1⟨rfl,rfl⟩;go_wp2;go_ret;exact⟨Co (by first|rfl|(congr 1;simp)),rfl⟩
theorem d20 (x y:Int)(w:World)(k:bI x)(u:bI y):Calls Tryz.prog 192 #[Aj x,Aj y] w fun e w'=>e=.returned (Aj (bC (decide (x≠0∧y≠0))))∧w=w':=by
 unfold bI at k u;rcases Decidable.em (x=0) with h|h <;> rcases Decidable.em (y=0) with z|z
 all_goals
  have v:=Aq (show bC (decide (x≠0∧y≠0))=bC (decide (x≠0) && decide (y≠0)) by simp)
  first|subst h|have p:(x != 0)=true:=by simp[h]
  first|subst z|have q:(y != 0)=true:=by simp[z]
  go_enter Tryz.func192,Tryz.ntmps192;go_wp2_with fail
  refine(Hj _ _).mono ?_;rintro e w1⟨rfl,rfl⟩;go_wp2;go_ret;rw[v.o];refine⟨Co ?_,rfl⟩
  simp_all
theorem d21 (x y:Int)(w:World)(k:bI x)(u:bI y):Calls Tryz.prog 193 #[Aj x,Aj y] w fun e w'=>e=.returned (Aj (bC (decide (x≠0∨y≠0))))∧w=w':=by
 unfold bI at k u;rcases Decidable.em (x=0) with h|h <;> rcases Decidable.em (y=0) with z|z
 all_goals
  have v:=Aq (show bC (decide (x≠0∨y≠0))=bC (decide (x≠0) || decide (y≠0)) by simp)
  first|subst h|have p:(x != 0)=true:=by simp[h]
  first|subst z|have q:(y != 0)=true:=by simp[z]
  go_enter Tryz.func193,Tryz.ntmps193;go_wp2_with fail
  refine(Hj _ _).mono ?_;rintro e w1⟨rfl,rfl⟩;go_wp2;go_ret;rw[v.o];refine⟨Co ?_,rfl⟩
  simp_all
theorem Xk (w:World)(mb:Nat)(O:Nat→Prop)(L:bd)(s:St)(h:ag w mb O L s)(a x:Int)(r:List Int)(q:s.stack=x::r) :
  Calls Tryz.prog 186 #[.pointer (some ⟨mb,0,none⟩),Aj a] w (aw w mb O (push (Db s.bG x) { s with stack:=r })):=by
 have H:=Aq h;have Z:=Aq q;have Y:=h.ok.df;rw[q,Bp]at Y;clear h q;go_enter Tryz.func186,Tryz.ntmps186;go_wp2_with fail
 refine(Ec w mb O L s H.o x r Z.o _).mono ?_;rintro e w'⟨rfl,v,k⟩;obtain⟨n,d⟩:=v.ma;have z:=Aq d;have P:=Aq v;have Q:=v.lt;have u:=k.cell 0;have f:=k.lt;have R:=k.frozen 0;simp only[Az,Ay]at u;clear v d k;go_wp2_with fail
 have gY:=z.o.aG.cell 44;rw[z.o.c.gY]at gY;dsimp only at gY;have i:w'.drew.cell? ⟨mb,44,none⟩=some (Aj s.bG)∧w'.drew.cell? ⟨w.heap.size,0,none⟩=some (Aj x):=⟨gY,u⟩;have U:=Aq z.o.drew;have X:(w'.drew.alloc (.cells #[Aj (Db s.bG x)] 3)).cell? ⟨mb,44,none⟩=some (Aj s.bG)∧(w'.drew.alloc (.cells #[Aj (Db s.bG x)] 3)).cell? ⟨w.heap.size,0,none⟩=some (Aj x):=⟨by rw[Cc _ _ _ (by simpa using z.o.aG.lt)];exact gY,by rw[Cc _ _ _ (by simpa using f)];exact u⟩;have _hmbl:=z.o.aG.lt;refine Bv (Cl [6,7,8]) (Bm [4,5]) (Bm [7,8]) [0,1,2,3,4,5,6,7,8] (fun w':World=>w'.cell? ⟨mb,44,none⟩=some (Aj s.bG)∧w'.cell? ⟨w.heap.size,0,none⟩=some (Aj x)) (by kernel_rfl) (by kernel_rfl) (by kernel_rfl) (by kernel_rfl) ?_
 iterate 4 (refine Be ?_)
 refine Bj i ?_;refine Bj i ?_;refine Bi fun K y=>?_;go_simp
 refine(Fy _ _ _).mono ?_;rintro e A⟨rfl,rfl⟩;dsimp only;refine Bh y ?_;clear y K;refine Bi fun K y=>?_;go_simp
 refine y _ _ (fun _=>X) ?_;clear y K;refine Bi fun K y=>?_;go_simp
 refine(Eh w'.drew mb O n _ U.o _ (by simp only;omega)).mono ?_;intro e j g;have V:=Aq (g.bQ P.o.fr.drew);obtain⟨rfl,⟨S,b⟩,l⟩:=g;have p:=b.aG.cell 44;rw[b.c.gY]at p;have m:j.cell? ⟨mb,44,none⟩=some (Aj s.bG)∧j.cell? ⟨w.heap.size,0,none⟩=some (Aj x):=⟨p,(l.cell (by simpa using f) (H.o.gZ Aw)).trans u⟩;clear b l p;dsimp only;refine y _ _ (fun _=>m) ?_;clear y K;refine Bb ?_;go_wp2;go_end0;exact V.o
section
variable {w : World} {mb : Nat} {O : Nat → Prop} {L : bd} {s : St}
theorem Mc.Ok.dr (h:Ok s){st:List Int}{u z y:Int}{k pk:Nat}{c:Bool}{er:Int}(r:∀x∈st,bI x)(p:st.length=32)(b:0≤u∧u≤1)(q:0≤z∧z≤1)(a:0≤y∧y≤5)(v:pk≤32):Ok { s with store:=st,look:=u,move:=z,bG:=y,steps:=k,aM:=pk,ai:=c,br:=er } :=
 ⟨h.stack,h.df,h.aP,r,p,h.aF,h.aT,h.dK,h.aB,h.tl,h.size,b,q,a,v,h.aD,h.fX,h.funcs,h.kJ,h.bH,h.eg,h.c_,h.gy,h.fW⟩
theorem ag.aX (h:ag w mb O L s){i:Nat}{u:Value}{st:List Int}{y v z:Int}{p pk:Nat}{q:Bool}{er:Int} (a:eF { L with cs:=L.cs.setIfInBounds i u } { s with store:=st,look:=y,move:=v,bG:=z,steps:=p,aM:=pk,ai:=q,br:=er }) (r:Ok { s with store:=st,look:=y,move:=v,bG:=z,steps:=p,aM:=pk,ai:=q,br:=er }):ag (w.setCell ⟨mb,i,none⟩ u) mb O { L with cs:=L.cs.setIfInBounds i u } { s with store:=st,look:=y,move:=v,bG:=z,steps:=p,aM:=pk,ai:=q,br:=er } :=
 h.cells (h.aG.aX i u) a (fun _ _ x _=>Bq _ _ _ _ x) (fun _ h=>h) (fun k x=>by have:=h.eO k x;simpa [World.setCell]using this) r
theorem ag.iQ (h:ag w mb O L s)(i:Nat)(u:Value):Fr O w (w.setCell ⟨mb,i,none⟩ u):=(qF O w).setCell (.inl h.eu) _
end
theorem Zar (w:World)(mb:Nat)(O:Nat→Prop)(L:bd)(s:St)(h:ag w mb O L s)(a:Int) :
  Calls Tryz.prog 194 #[.pointer (some ⟨mb,0,none⟩),Aj a] w (aw w mb O { s with look:=a % 2 }):=by
 have x:=h.aX (h.c.im (a % 2)) (h.ok.dr h.ok.store h.ok.dQ (by omega) h.ok.move h.ok.bG h.ok.aM);have y:=Aq (aw.dE x (h.iQ _ _));have c:=h.aG.cell 42;rw[h.c.dH]at c;have f:=h.aG.frozen 42;clear h x;go_enter Tryz.func194,Tryz.ntmps194;go_wp2_with fail
 refine(Qw _ 2 _ (by decide) (by decide)).mono ?_;rintro e w1⟨rfl,rfl⟩;go_wp2;go_end0;exact y.o
theorem Zcs (w:World)(mb:Nat)(O:Nat→Prop)(L:bd)(s:St)(h:ag w mb O L s)(a:Int) :
  Calls Tryz.prog 196 #[.pointer (some ⟨mb,0,none⟩),Aj a] w (aw w mb O { s with move:=a % 2 }):=by
 have x:=h.aX (h.c.ir (a % 2)) (h.ok.dr h.ok.store h.ok.dQ h.ok.look (by omega) h.ok.bG h.ok.aM);have y:=Aq (aw.dE x (h.iQ _ _));have c:=h.aG.cell 43;rw[h.c.dL]at c;have f:=h.aG.frozen 43;clear h x;go_enter Tryz.func196,Tryz.ntmps196;go_wp2_with fail
 refine(Qw _ 2 _ (by decide) (by decide)).mono ?_;rintro e w1⟨rfl,rfl⟩;go_wp2;go_end0;exact y.o
theorem Zbo (w:World)(mb:Nat)(O:Nat→Prop)(L:bd)(s:St)(h:ag w mb O L s)(a:Int) :
  Calls Tryz.prog 197 #[.pointer (some ⟨mb,0,none⟩),Aj a] w (aw w mb O { s with bG:=a % 6 }):=by
 have x:=h.aX (h.c.iw (a % 6)) (h.ok.dr h.ok.store h.ok.dQ h.ok.look h.ok.move (by omega) h.ok.aM);have y:=Aq (aw.dE x (h.iQ _ _));have c:=h.aG.cell 44;rw[h.c.gY]at c;have f:=h.aG.frozen 44;clear h x;go_enter Tryz.func197,Tryz.ntmps197;go_wp2_with fail
 refine(Qw _ 6 _ (by decide) (by decide)).mono ?_;rintro e w1⟨rfl,rfl⟩;go_wp2;go_end0;exact y.o
theorem Vb (w:World)(mb:Nat)(O:Nat→Prop)(L:bd)(s:St)(h:ag w mb O L s)(x:Int)(r:List Int)(K:s.stack=x::r)(A:Option Addr)(l:List Int)(c g off:Nat)(D:l.length≤1000000)
  (m:0<l.length→A=some ⟨g,off,none⟩) (R:∀w',ij w mb O s r 1 w'→∀(i:Nat) v,l[i]?=some v→w'.cell? ⟨g,off+i,none⟩=some (Aj v)) :
  Calls Tryz.prog 199 #[.pointer (some ⟨mb,0,none⟩),.slice A l.length c] w (aw w mb O (push (aL l x) { s with stack:=r })):=by
 have H:=Aq h;have n:=Aq K;have B:=h.ok.df;rw[K,Bp]at B;have S:=Aq R;clear h K R;by_cases p:0≤x∧x<l.length
 ·obtain⟨i,rfl⟩:∃i:Nat,x=i:=⟨x.toNat,by omega⟩;have C:i<l.length:=by omega
  have U:=Aq (m (by omega));obtain⟨v,V⟩:∃v,l[i]?=some v:=⟨_,Bf C⟩;have P:=Aq V;have e:=U.o;subst e;clear V m p U;go_enter Tryz.func199,Tryz.ntmps199;go_wp2_with fail
  refine(Ec w mb O L s H.o _ r n.o _).mono ?_;rintro e w'⟨rfl,y,z⟩;obtain⟨d,u⟩:=y.ma;have b:=Aq u;have q:=Aq y;have X:=y.lt;have a:=z.cell 0;have Y:=z.lt;have Z:=z.frozen 0;simp only[Az,Ay]at a;clear y u z;have c0:=S.o w' q.o i v P.o;go_wp2_with fail
  refine(Eh w' mb O d _ b.o _ (by simp only;omega)).mono ?_;intro e Q k;have f:=Aq (k.bQ q.o.fr);obtain⟨rfl,_⟩:=k;go_wp2;go_end0;rw[Zhr P.o];exact f.o
 ·have F:=Aq p;have j:=mC p;rw[j];clear j m;by_cases j:0≤x
  ·have E:¬ x<l.length:=fun e=>p ⟨j,e⟩
   clear p;go_enter Tryz.func199,Tryz.ntmps199;go_wp2_with fail
   refine(Ec w mb O L s H.o x r n.o _).mono ?_;rintro e w'⟨rfl,y,z⟩;obtain⟨d,u⟩:=y.ma;have b:=Aq u;have q:=Aq y;have X:=y.lt;have a:=z.cell 0;have Y:=z.lt;have Z:=z.frozen 0;simp only[Az,Ay]at a;clear y u z;go_wp2_with fail
   refine(Eh w' mb O d _ b.o _ (by simp only;omega)).mono ?_;intro e Q k;have f:=Aq (k.bQ q.o.fr);obtain⟨rfl,_⟩:=k;go_wp2;go_end0;exact f.o
  ·clear p;go_enter Tryz.func199,Tryz.ntmps199;go_wp2_with fail
   refine(Ec w mb O L s H.o x r n.o _).mono ?_;rintro e w'⟨rfl,y,z⟩;obtain⟨d,u⟩:=y.ma;have b:=Aq u;have q:=Aq y;have X:=y.lt;have a:=z.cell 0;have Y:=z.lt;have Z:=z.frozen 0;simp only[Az,Ay]at a;clear y u z;go_wp2_with fail
   refine(Eh w' mb O d _ b.o _ (by simp only;omega)).mono ?_;intro e Q k;have f:=Aq (k.bQ q.o.fr);obtain⟨rfl,_⟩:=k;go_wp2;go_end0;exact f.o
theorem Uo (w:World)(mb:Nat)(O:Nat→Prop)(L:bd)(s:St)(h:ag w mb O L s)(x y:Int)(r:List Int)(g:s.stack=y::x::r)(A:Option Addr)(n c:Nat)(_hll:n≤1000000) (b:¬ (0≤x∧x<n)) :
  Calls Tryz.prog 201 #[.pointer (some ⟨mb,0,none⟩),.slice A n c] w (aw w mb O { s with stack:=r }):=by
 have H:=Aq h;have f:=Aq g;clear h g;by_cases K:0≤x
 ·have Z:¬ x<n:=fun e=>b ⟨K,e⟩
  clear b;go_enter Tryz.func201,Tryz.ntmps201;go_wp2_with fail
  refine(Dz w mb O L s H.o x y r f.o _ _).mono ?_;rintro e w'⟨rfl,z,v,u⟩;obtain⟨X,k⟩:=z.ma;have q:=Aq k;have d:=Aq z;have j:=z.lt;have p:=v.cell 0;have l:=v.lt;have m:=v.frozen 0;have a:=u.cell 0;have i:=u.lt;have Y:=u.frozen 0;simp only[Az,Ay]at p a;clear z k v u;go_wp2;go_end0;exact .dE q.o d.o.fr
 ·clear b;go_enter Tryz.func201,Tryz.ntmps201;go_wp2_with fail
  refine(Dz w mb O L s H.o x y r f.o _ _).mono ?_;rintro e w'⟨rfl,z,v,u⟩;obtain⟨X,k⟩:=z.ma;have q:=Aq k;have d:=Aq z;have j:=z.lt;have p:=v.cell 0;have l:=v.lt;have m:=v.frozen 0;have a:=u.cell 0;have i:=u.lt;have Y:=u.frozen 0;simp only[Az,Ay]at p a;clear z k v u;go_wp2;go_end0;exact .dE q.o d.o.fr
theorem Qf (w:World)(mb:Nat)(O:Nat→Prop)(L:bd)(s s':St)(h:ag w mb O L s)(i:Nat)(y:Int)(r:List Int) (a:s.stack=y::(i:Int)::r) (n c g off:Nat) (_hll:n≤1000000) (hi:i<n)
  (b:∀w',ij w mb O s r 2 w'→(∃p,ag (w'.setCell ⟨g,off+i,none⟩ (Aj y)) mb O p s'∧Fr O w' (w'.setCell ⟨g,off+i,none⟩ (Aj y)))∧(∃u,w'.cell? ⟨g,off+i,none⟩=some u)∧w'.frozen? ⟨g,off+i,none⟩=false) :
  Calls Tryz.prog 201 #[.pointer (some ⟨mb,0,none⟩),.slice (some ⟨g,off,none⟩) n c] w (aw w mb O s'):=by
 have H:=Aq h;have m:=Aq a;have j:=Aq b;clear h a b;go_enter Tryz.func201,Tryz.ntmps201;go_wp2_with fail
 refine(Dz w mb O L s H.o i y r m.o _ _).mono ?_;rintro e w'⟨rfl,x,v,z⟩;obtain⟨P,k⟩:=x.ma;have Z:=Aq k;have d:=Aq x;have X:=x.lt;have f:=v.cell 0;have U:=v.lt;have V:=v.frozen 0;have l:=z.cell 0;have K:=z.lt;have Q:=z.frozen 0;simp only[Az,Ay]at f l;clear x k v z;obtain⟨⟨p,q⟩,⟨u,Y⟩,R⟩:=j.o w' d.o;have H1:=Aq q;clear q;go_wp2;go_end0;exact .dE H1.o.1 (d.o.fr.trans H1.o.2)
end
section
open Go.RowKit Mc
section
variable {w w' : World} {mb : Nat} {O : Nat → Prop} {L : bd} {s : St} {r : List Int} {n : Nat}
theorem ij.row (k:ij w mb O s r n w'){t:TypeId}(z:t≠212){size m:Nat}{v:Value}{xs:List Value}(x:Row w O t size v m xs):Row w' O t size v m xs :=
 x.aQ (fun g u=>by obtain⟨_,_,cs,y⟩:=x.block u;exact(k.iE g t cs z y).trans y.symm) (fun _ h=>h)
theorem ij.cv (y:ij w mb O s r n w')(h:ag w mb O L s){L':bd} (x:ag w' mb O L' { s with stack:=r }):L'.cv=L.cv:=by
 have:=y.cell 7 (by decide);rw[x.aG.cell,h.aG.cell,x.c.c7,h.c.c7]at this
 injection this
theorem Mc.Ok.kY (h:Ok s){l:List Int}(z:∀x∈l,bI x)(y:l.length=s.aP.length):Ok { s with aP:=l } :=
 ⟨h.stack,h.df,z,h.store,h.dQ,h.aF,h.aT,h.dK,h.aB,h.tl,h.size,h.look,h.move,h.bG,h.aM,h.aD,h.fX,h.funcs,h.kJ,h.bH,h.eg,h.c_,by rw[y];exact h.gy,h.fW⟩
theorem Row.iQ {t:TypeId}{size m:Nat}{v:Value}{xs:List Value}(x:Row w O t size v m xs){g:Nat}(y:v.ownBlock=some g)(i:Nat)(u:Value):Fr O w (w.setCell ⟨g,i,none⟩ u):=(qF O w).setCell (.inl (x.2 g y)) _
theorem ag.ju (h:ag w mb O L s){g m c:Nat} (y:L.cv=.slice (some ⟨g,0,none⟩) m c) {i:Nat} (hi:i<s.aP.length) {v:Int} (x:bI v):ag (w.setCell ⟨g,i,none⟩ (Aj v)) mb O L { s with aP:=s.aP.set i v } := by
 have bU:L.cv.ownBlock=some g:=by rw[y];rfl
 have z:g≠mb:=h.cv.cD h.aG (by decide) bU;refine h.kY (by simp) ?_ (Bq _ _ _ _ z.symm) (fun k _ _ x=>Bq _ _ _ _ (fun e=>x (by rw[bU,e]))) (fun _ h=>h) (fun k x=>by have:=h.eO k x;simpa [World.setCell]using this) (h.ok.kY (Ik h.ok.aP x) (by simp));rw[Gj];exact h.cv.aX bU (by rw[Dg];exact hi) _
end
theorem Zgu (w:World)(mb:Nat)(O:Nat→Prop)(L:bd)(s:St)(h:ag w mb O L s)(a x:Int)(r:List Int)(q:s.stack=x::r) :
  Calls Tryz.prog 198 #[.pointer (some ⟨mb,0,none⟩),Aj a] w (aw w mb O (push (aL s.aP x) { s with stack:=r })):=by
 obtain⟨A,c,u,Z,m⟩:=h.cv.form;have f:=h.aG.cell 7;rw[h.c.c7,u]at f;have l:Hid (∃g,(0<s.aP.length→A=some ⟨g,0,none⟩)∧∀w',ij w mb O s r 1 w'→∀(i:Nat) v,s.aP[i]?=some v→w'.cell? ⟨g,0+i,none⟩=some (Aj v)):=by
  by_cases k:0<s.aP.length
  ·obtain⟨g,U,z,_⟩:=h.cv.aL k;rw[u]at z
   injection z with z
   refine Aq ⟨g,fun _=>z,fun w' b i v hi=>?_⟩;obtain⟨V,P,y,_,_,_,_,Y,_⟩:=(b.row (by decide) h.cv).aL k;rw[u,z]at y
   injection y with y
   injection y with y
   injection y with y
   subst y;rw[nz];exact Y i _ (Cn hi)
  ·exact Aq ⟨0,fun e=>absurd e k,fun w' _ i v hi=>by have:=(aS.1 hi).1;omega⟩
 have X:=Aq h.ok.gy;have H:=Aq h;have n:=Aq q;clear h q u Z m;go_enter Tryz.func198,Tryz.ntmps198;go_wp2_with fail
 obtain⟨g,j,K⟩:=l.o;refine(Vb w mb O L s H.o x r n.o A s.aP c g 0 X.o j K).mono ?_;intro e Q p;have d:=Aq p;obtain⟨rfl,_⟩:=p;go_wp2;go_end0;exact d.o
theorem Zbx (w:World)(mb:Nat)(O:Nat→Prop)(L:bd)(s:St)(h:ag w mb O L s)(a x:Int)(r:List Int)(q:s.stack=x::r) :
  Calls Tryz.prog 202 #[.pointer (some ⟨mb,0,none⟩),Aj a] w (aw w mb O (push (aL s.store x) { s with stack:=r })):=by
 have H:=Aq h;have d:=Aq q;have k:=h.ok.dQ;have p:=Aq k;clear h q k;go_enter Tryz.func202,Tryz.ntmps202;go_wp2_with fail
 have y:=Vb w mb O L s H.o x r d.o (some ⟨mb,8,none⟩) s.store 32 mb 8 (by rw[p.o];decide) (fun _=>rfl) (fun w' b i v hi=>by obtain⟨g,z⟩:=b.ma;rw[z.aG.cell];exact z.c.st i v hi);rw[p.o]at y;refine y.mono ?_;clear y;intro e j u;have f:=Aq u;obtain⟨rfl,_⟩:=u;go_wp2;go_end0;exact f.o
theorem Ss (w:World)(mb:Nat)(O:Nat→Prop)(L:bd)(s:St)(h:ag w mb O L s)(a x y:Int)(r:List Int)(p:s.stack=y::x::r) :
  Calls Tryz.prog 200 #[.pointer (some ⟨mb,0,none⟩),Aj a] w (aw w mb O { s with stack:=r,aP:=Iy s.aP x y }):=by
 obtain⟨A,c,v,K,Y⟩:=h.cv.form;have H:=h.aG.cell 7;rw[h.c.c7,v]at H;have b:=h.ok.gy;have n:Hid (Calls Tryz.prog 201 #[.pointer (some ⟨mb,0,none⟩),.slice A s.aP.length c] w (aw w mb O { s with stack:=r,aP:=Iy s.aP x y })):=by
  by_cases j:0≤x∧x<s.aP.length
  ·obtain⟨i,rfl⟩:∃i:Nat,x=i:=⟨x.toNat,by omega⟩;have hi:i<s.aP.length:=by omega
   obtain⟨g,P,k,_⟩:=h.cv.aL (by omega);rw[v]at k
   injection k with k
   subst k;rw[Pf hi];refine Aq (Qf w mb O L s _ h i y r p _ c g 0 b hi (fun w' q=>?_));obtain⟨m,d⟩:=q.ma;have l:=q.row (by decide) h.cv;obtain⟨Q,S,z,_,_,R,_,U,X⟩:=l.aL (by omega);rw[v]at z
   injection z with z
   injection z with z
   injection z with z
   subst z;obtain⟨u,Z⟩:∃u,s.aP[i]?=some u:=⟨_,Bf hi⟩;rw[nz];exact⟨⟨m,d.ju ((q.cv h d).trans v) hi (h.ok.stack y (by rw[p];simp)),l.iQ (by rw[v];rfl) _ _⟩,⟨_,U i _ (Cn Z)⟩,X i⟩
  ·rw[Vd j];exact Aq (Uo w mb O L s h x y r p A _ c b j)
 clear h p v K Y b;go_enter Tryz.func200,Tryz.ntmps200;go_wp2_with fail
 refine n.o.mono ?_;intro e B f;have V:=Aq f;obtain⟨rfl,_⟩:=f;go_wp2;go_end0;exact V.o
theorem Zx (w:World)(mb:Nat)(O:Nat→Prop)(L:bd)(s:St)(h:ag w mb O L s)(a x y:Int)(r:List Int)(v:s.stack=y::x::r) :
  Calls Tryz.prog 203 #[.pointer (some ⟨mb,0,none⟩),Aj a] w (aw w mb O { s with stack:=r,store:=Iy s.store x y }):=by
 have k:=h.ok.dQ;have d:Hid (Calls Tryz.prog 201 #[.pointer (some ⟨mb,0,none⟩),.slice (some ⟨mb,8,none⟩) 32 32] w (aw w mb O { s with stack:=r,store:=Iy s.store x y })):=by
  by_cases p:0≤x∧x<s.store.length
  ·obtain⟨i,rfl⟩:∃i:Nat,x=i:=⟨x.toNat,by omega⟩;have hi:i<s.store.length:=by omega
   rw[Pf hi];refine Aq (Qf w mb O L s _ h i y r v 32 32 mb 8 (by decide) (by omega) (fun w' b=>?_));obtain⟨j,z⟩:=b.ma;obtain⟨u,f⟩:∃u,s.store[i]?=some u:=⟨_,Bf hi⟩;exact⟨⟨_,z.aX (z.c.lC i y (by omega)) (z.ok.dr (Ik z.ok.store (h.ok.stack y (by rw[v];simp))) (by simp;exact k) z.ok.look z.ok.move z.ok.bG z.ok.aM),z.iQ _ _⟩,⟨_,by rw[z.aG.cell];exact z.c.st i u f⟩,z.aG.frozen _⟩
  ·rw[Vd p];rw[k]at p;exact Aq (Uo w mb O L s h x y r v _ 32 32 (by decide) p)
 have l:=h.aG.lt;clear h v k;go_enter Tryz.func203,Tryz.ntmps203;go_wp2_with fail
 refine d.o.mono ?_;intro e m q;have g:=Aq q;obtain⟨rfl,_⟩:=q;go_wp2;go_end0;exact g.o
end
end Go.Proofs.YtnhebmgibiomnaaGreat

import Derived.Test.YtnhebmgibiomnaaGreatPh4
set_option linter.unusedVariables false
set_option linter.unusedSimpArgs false
set_option maxRecDepth 100000
set_option maxHeartbeats 8000000
namespace Go.Proofs.YtnhebmgibiomnaaGreat
section
open Go.RowKit Mc
theorem Ug {P:Program}(w:World){ops:Array Oper}{o:Oper}{a:Act}{K:Act→World→Prop}{Q:Exit→Act→World→Prop}{E:Prop}(b:o.guard=none)(s x:Operand)(t:TypeId)
  (d:o.op=.call { callee:=.builtin .append,args:=#[s,x],argTypes:=#[t,t] }) (e:TypeId) (i:TypeInfo) (z:Value) (size bytes:Nat) (F:P.underlying t=some (.slice e)) (hi:P.info? e=some i) (U:i.zero=some z)
  (X:i.size=size) (Z:i.bytes=bytes) (Y:z.cells.size=size) (S:0<size)
  (O:Nat→Prop) (v:Value) (n:Nat) (xs:List Value) (f:a.eval s=v) (r:dK w O e size v n xs)
  (B:Nat) (A:Option Addr) (m c:Nat) (p:List Value) (l:a.eval x=.slice A m c) (V:aE w B size A m p) (R:∀u∈p,u.oneCell'=true)
  (j:n+m≤maxLen) (C:(n+m)*bytes≤140737488355328)
  (h:∀v' w',dK w' (ext O w w') e size v' (n+m) (xs++p)→w.grownBy w' v.ownBlock→(∀g,v'.ownBlock=some g→v.ownBlock=some g∨w.heap.size≤g)→K (a.put o.dst v') w') :
  if Region.wanted o (yielded ops a.tmps)=true then Oper.wp P o a w K Q else E:=by
 have D:Region.wanted o (yielded ops a.tmps)=true:=by simp[Region.wanted,b]
 rw[if_pos D];exact Ey w s x t d 0 e i z size bytes F hi U X Z Y S v n xs f r.1 B A m c p l V R j C (By _)
  fun v' w' q H y=>h v' w' ⟨q,fun g k=>by
   rcases y with y|y
   ·exact .inl (r.2 g (y ▸ k))
   ·rw[y]at k;injection k with k;subst k;exact .inr ⟨Aw,(q.lt _ y).2⟩⟩ H fun g k=>by
   rcases y with y|y
   ·exact .inl (y ▸ k)
   ·rw[y]at k;injection k with k;exact .inr (by omega)
theorem ag.fZ {w w1:World}{mb:Nat}{O:Nat→Prop}{L:bd}{s:St}(h:ag w mb O L s){v:Value}{x:Int}(f:bI x)(o:s.stack.length<32)
  (a:dK w1 (ext O w w1) 3 1 v (s.stack.length+1) (ae s.stack.reverse++[Aj x])) (z:w.grownBy w1 L.sk.ownBlock) (n:∀g,v.ownBlock=some g→L.sk.ownBlock=some g∨w.heap.size≤g) :
  (∃cs,aH w1 mb 212 cs∧cs.size=50)∧(∃L',ag (w1.setCell ⟨mb,40,none⟩ v) mb (ext O w w1) L' { s with stack:=x::s.stack })∧Fr O w (w1.setCell ⟨mb,40,none⟩ v):=by
 have q:aH w1 mb 212 L.cs:=h.aG.grown z fun e=>h.sk.bz h.aG (by decide) e.symm rfl
 have j:=z.size;refine⟨⟨_,q,h.c.sz⟩,⟨_,h.stack (u:=v) (l:=x::s.stack) (q.aZ 40 v) (h.c.mO _ _) ?_ n ?_ (fun _ h=>.inl h) ?_ (h.ok.km ?_ ?_)⟩,?_⟩
 ·have:=a.aQ (w':=w1.setCell ⟨mb,40,none⟩ v) (O':=ext O w w1) (fun g d=>Bp _ _ _ _ (fun (e:g=mb)=>a.bz q (by decide) d e)) (fun _ h=>h)
  simpa [ae]using this
 ·intro k p m i;rw[Bp _ _ _ _ m];exact z.block k (h.eQ k p) i
 ·intro k p;have:=h.gu j k p
  simpa [World.setCell]using this
 ·intro y r;rcases List.mem_cons.1 r with rfl|r
  ·exact f
  ·exact h.ok.stack y r
 ·simp only[Bo];omega
 ·exact qJ (⟨z.os,z.tape,z.output,z.size,fun k p b=>z.block k p (fun e=>b (h.sk.2 k e.symm))⟩) (.inl h.ew) _
def jG (w:World)(mb:Nat)(O:Nat→Prop)(s:St)(vb:Nat)(vs:List Int)(i:Value)(wx:World):Prop :=
 ∃(k:Nat) (L':bd),k≤vs.length∧i=Aj k∧ag wx mb (ext O w wx) L' { s with stack:=((vs.take k).map bA).reverse++s.stack }∧aH wx vb 3 (ae vs).toArray∧Fr O w wx
theorem jG.end_ {w:World}{mb:Nat}{O:Nat→Prop}{s:St}{vs:List Int}{wx:World}{L':bd}{k:Nat}(z:k≤vs.length) (y:¬ (k:Int)<vs.length) (h:ag wx mb (ext O w wx) L' { s with stack:=((vs.take k).map bA).reverse++s.stack }) (x:Fr O w wx):aw w mb O { s with stack:=(vs.map bA).reverse++s.stack } (.returned (.tuple #[])) wx:=by
 rw[oy (by omega)]at h;exact⟨rfl,⟨_,h⟩,x⟩
theorem jG.next {w:World}{mb:Nat}{O:Nat→Prop}{s:St}{vb:Nat}{vs:List Int}{wr y:World}{p:bd}{k:Nat}{x:Int}{o:Obj}{v:Value} (u:vs[k]?=some x) (q:Fr O w wr) (b:aH wr vb 3 (ae vs).toArray) (r:¬ O vb)
  (h:ag (y.setCell ⟨mb,40,none⟩ v) mb (ext (ext O w wr) (wr.drew.alloc o) y) p { s with stack:=bA x::(((vs.take k).map bA).reverse++s.stack) }) (z:Fr (ext O w wr) (wr.drew.alloc o) (y.setCell ⟨mb,40,none⟩ v)) (g:vb<w.heap.size) :
  jG w mb O s vb vs (Aj ((k:Int)+1)) (y.setCell ⟨mb,40,none⟩ v):=by
 have f:k<vs.length:=(aS.1 u).1;have a:=z.size;have j:=q.size;simp[World.setCell]at a;have c:((vs.take (k+1)).map bA).reverse++s.stack=bA x::(((vs.take k).map bA).reverse++s.stack):=by
  rw[oh,u];simp
 refine⟨k+1,p,f,by simp,?_,?_,Fr.ext q ?_⟩
 ·rw[c];refine h.mono (fun i hi=>?_) (fun i hi=>?_)
  ·rcases hi with(hi|hi)|hi
   ·exact .inl hi
   ·exact .inr ⟨hi.1,by simp[World.setCell];omega⟩
   ·refine .inr ⟨by have:=hi.1;simp at this;omega,by have:=hi.2;simpa [World.setCell]using this⟩
  ·rcases hi with hi|hi
   ·exact h.eQ i (.inl (.inl hi))
   ·exact hi.2
 ·have d:aH (wr.drew.alloc o) vb 3 (ae vs).toArray:=b.drew.alloc o;exact z.aG d (fun e=>by rcases e with e|e;exact r e;omega)
 ·exact((qu _ wr).drew.alloc o).trans z
theorem Qv (w:World)(mb:Nat)(O:Nat→Prop)(L:bd)(s:St)(h:ag w mb O L s)(vb:Nat)(vs:List Int) (z:aH w vb 3 (ae vs).toArray) (V:¬ O vb) (hS:s.stack.length+vs.length≤32) :
  Calls Tryz.prog 167 #[.pointer (some ⟨mb,0,none⟩),.slice (some ⟨vb,0,none⟩) vs.length vs.length] w (aw w mb O { s with stack:=(vs.map bA).reverse++s.stack }):=by
 obtain⟨I,G,R,D,hK⟩:=Eu Hp;have X:Hid (jG w mb O s vb vs (Aj 0) w):=Aq ⟨0,L,By _,rfl,by simpa using h.mono (fun _ h=>.inl h) (h.gu Aw),z,qu _ _⟩;have C:=z.lt;clear h z;go_enter Tryz.func167,Tryz.ntmps167;go_wp2;go_loopw [8] (fun i wr=>jG w mb O s vb vs i wr) (fun i _=>vs.length-(intOf i).toNat)
 case atStart=>exact X.o
 case round =>
  clear X;obtain⟨k,b,S,rfl,f,z,r⟩:=hrel;by_cases hM:(k:Int)<vs.length
  ·obtain⟨x,d⟩:∃x,vs[k]?=some x:=⟨_,Bg (by omega)⟩;have F:=z.cell k;simp only[ae,Az,Cc,d,ou]at F;have d1:=z.lt;have Q:=Aq f;have B:=Aq z;have E:=Aq r;have M:=Aq d;clear f z r d;go_wp2_with fail
   have v:=Q.o.drew;have g:wr.drew.cell? ⟨mb,40,none⟩=some b.sk:=by rw[v.aG.cell,v.c.dY]
   have q:=v.alloc (.cells #[Aj (bA x)] 3);have T:(wr.drew.alloc (.cells #[Aj (bA x)] 3)).cell? ⟨mb,40,none⟩=some b.sk:=by rw[q.aG.cell,q.c.dY]
   have J:(((vs.take k).map bA).reverse++s.stack).length<32:=by simp;omega
   have Y:=Aq q;have _hmbl:=v.aG.lt;clear v q;refine Bs (fun i=>!([6,7,8,11]:List Nat).contains i) (fun i=>([4]:List Nat).contains i) (fun i=>([6,7]:List Nat).contains i) [0,1,2,3,4,5,6,7,8,9,10,11] (fun w':World=>w'.cell? ⟨mb,40,none⟩=some b.sk) (by kernel_rfl) (by kernel_rfl) (by kernel_rfl) (by kernel_rfl) ?_
   iterate 4 (refine Be ?_)
   refine Bj g ?_;refine Be ?_;refine Bi fun K y=>?_;go_simp
   refine(Iq _ _).mono ?_;rintro e w5⟨rfl,rfl⟩;dsimp only;refine y _ _ (fun _=>g) ?_;clear y K;refine Bi fun K y=>?_;go_simp
   refine y _ _ (fun _=>T) ?_;clear y K;refine Bi fun K y=>?_
   refine Ug _ rfl (.tmp 16) (.tmp 19) _ rfl 3 I _ 1 8 Tryz.underlying22 G R D hK rfl (by decide) _ _ _ _ rfl Y.o.sk _ _ 1 1 [Aj (bA x)] rfl (qB (cs:=[Aj (bA x)]) (qv _ _ _) 1 1 rfl) (by simp[Value.oneCell']) (by unfold maxLen;simp only;omega) (by simp only;omega) ?_;intro v' N a j Z;obtain⟨Av,nv,cv,L'⟩:∃A n c,v'=.slice A n c:=by obtain⟨A,c,e,_⟩:=a.form;exact⟨A,_,c,e⟩
   obtain⟨⟨cs,p,hg⟩,⟨L2,l⟩,U⟩:=Y.o.fZ (Fg x) J a j Z;have H:jG w mb O s vb vs (Aj ((k:Int)+1)) (N.setCell ⟨mb,40,none⟩ v'):=jG.next M.o E.o B.o V l U C;have W:=Aq H;obtain⟨hR,m⟩:∃u,cs[40]?=some u:=⟨_,qj (by omega)⟩;have P:=p.cell 40;rw[m]at P;have e1:=p.frozen 40;have e2:=p.lt;clear l U H p a m j Z;subst L';refine Bh y ?_;clear y K;refine Be ?_;refine Be ?_;refine Bi fun K y=>?_;go_simp
   refine Bh y ?_;clear y K;refine Bb ?_;go_wp2;go_roundw
   case rel=>exact W.o
   case measure=>simp[intOf];omega
  ·go_wp2;go_end0;exact jG.end_ S (by omega) f r
section
variable {w w1 w2 : World} {O S : Nat → Prop} {mb : Nat} {L : bd} {s : St} {e : Ending}
theorem Fr.new (h:Fr O w w1)(k:Fr S w1 w2)(y:∀i,i<w.heap.size→S i→O i):Fr O w w2 :=
 ⟨k.os.trans h.os,k.tape.trans h.tape,k.output.trans h.output,Ex h.size k.size,fun i hi x=>(k.block i (Dm hi h.size) (fun a=>x (y i hi a))).trans (h.block i hi x)⟩
theorem aw.bL (h:Fr O w w1)(k:aw w1 mb O s e w2):aw w mb O s e w2:=by
 obtain⟨y,⟨L,x⟩,z⟩:=k;have u:=h.size;refine⟨y,⟨L,x.mono (fun i hi=>?_) (fun i hi=>?_)⟩,h.trans z⟩
 ·rcases hi with hi|hi
  ·exact .inl hi
  ·exact .inr ⟨by omega,hi.2⟩
 ·rcases hi with hi|hi
  ·exact x.eQ i (.inl hi)
  ·exact hi.2
theorem aw.dD (h:ag w1 mb O L s)(y:Fr O w w1):aw w mb O s (.returned (.tuple #[])) w1 :=
 ⟨rfl,⟨L,h.mono (fun _ h=>.inl h) (fun k x=>by rcases x with x|x;exact h.eQ k x;exact x.2)⟩,y⟩
theorem ag.gY (h:ag w mb O L s){k:Nat}(x:w.heap.size≤k):¬ O k:=fun e=>by have:=h.eQ k e;omega
end
structure ik (w:World) (mb:Nat) (O:Nat→Prop) (s:St) (r:List Int) (n:Nat) (w':World):Prop where
 ma:∃L',ag w' mb O L' { s with stack:=r }
 fr:Fr O w w'
 lt:w.heap.size+n<w'.heap.size
 kK:∀g t cs,t≠212→aH w g t cs→aH w' g t cs
 cell:∀i,i≠40→w'.cell? ⟨mb,i,none⟩=w.cell? ⟨mb,i,none⟩
theorem Dx (w:World)(mb:Nat)(O:Nat→Prop)(L:bd)(s:St)(h:ag w mb O L s)(x:Int)(r:List Int)(a:s.stack=x::r)(u:Value) :
  Calls Tryz.prog 169 #[.pointer (some ⟨mb,0,none⟩),.slice (some ⟨w.heap.size+1,0,none⟩) 1 1] ((w.alloc (.cells #[u] 3)).alloc (.cells #[.pointer (some ⟨w.heap.size,0,none⟩)] 246)) fun e w'=>e=.returned (.tuple #[])∧ik w mb O s r 1 w'∧aH w' w.heap.size 3 #[Aj x]:=by
 have b:ag ((w.alloc (.cells #[u] 3)).alloc (.cells #[.pointer (some ⟨w.heap.size,0,none⟩)] 246)) mb O L s:=(h.alloc _).alloc _;have l:aH ((w.alloc (.cells #[u] 3)).alloc (.cells #[.pointer (some ⟨w.heap.size,0,none⟩)] 246)) w.heap.size 3 #[u]:=(qv _ _ _).alloc _;have j:aH ((w.alloc (.cells #[u] 3)).alloc (.cells #[.pointer (some ⟨w.heap.size,0,none⟩)] 246)) (w.heap.size+1) 246 #[.pointer (some ⟨w.heap.size,0,none⟩)]:=qw _ _ _ (by simp);refine(Yy _ mb O L s b x r a w.heap.size _ _ l j (h.gY Aw)).mono ?_;rintro e w'⟨rfl,f,c,q,v,k⟩;refine⟨rfl,⟨f,?_,?_,?_,?_⟩,c⟩
 ·refine Fr.new (((qu O w).alloc _).alloc _) q (fun i hi y=>?_);rcases y with y|y
  ·exact y
  ·omega
 ·have:=q.size;simp at this;omega
 ·intro g t cs m z;subst k;have d:=z.lt;exact(((z.alloc _).alloc _).dE (p:=⟨w.heap.size,0,none⟩) (by simp only;omega) _).dE (p:=⟨mb,40,none⟩) (z.dF h.aG m) _
 ·intro i hi;subst k;have d:=h.aG.lt;rw[mt _ _ _ _ (fun e=>by injection e with _ e;exact hi e.symm),mt _ _ _ _ (fun e=>by injection e with e;omega),Cb _ _ _ (by simp;omega),Cb _ _ _ (by simp;omega)]
theorem Du (w:World)(mb:Nat)(O:Nat→Prop)(L:bd)(s:St)(h:ag w mb O L s)(x y:Int)(r:List Int)(c:s.stack=y::x::r)(u z:Value) :
  Calls Tryz.prog 169 #[.pointer (some ⟨mb,0,none⟩),.slice (some ⟨w.heap.size+1+1,0,none⟩) 2 2] (((w.alloc (.cells #[u] 3)).alloc (.cells #[z] 3)).alloc (.cells #[.pointer (some ⟨w.heap.size,0,none⟩),.pointer (some ⟨w.heap.size+1,0,none⟩)] 246)) fun e w'=>e=.returned (.tuple #[])∧ik w mb O s r 2 w'∧aH w' w.heap.size 3 #[Aj x]∧aH w' (w.heap.size+1) 3 #[Aj y]:=by
 have d:ag (((w.alloc (.cells #[u] 3)).alloc (.cells #[z] 3)).alloc (.cells #[.pointer (some ⟨w.heap.size,0,none⟩),.pointer (some ⟨w.heap.size+1,0,none⟩)] 246)) mb O L s:=((h.alloc _).alloc _).alloc _;have o:aH (((w.alloc (.cells #[u] 3)).alloc (.cells #[z] 3)).alloc (.cells #[.pointer (some ⟨w.heap.size,0,none⟩),.pointer (some ⟨w.heap.size+1,0,none⟩)] 246)) w.heap.size 3 #[u]:=((qv _ _ _).alloc _).alloc _;have l:aH (((w.alloc (.cells #[u] 3)).alloc (.cells #[z] 3)).alloc (.cells #[.pointer (some ⟨w.heap.size,0,none⟩),.pointer (some ⟨w.heap.size+1,0,none⟩)] 246)) (w.heap.size+1) 3 #[z]:=(qw _ _ _ (by simp)).alloc _;have n:aH (((w.alloc (.cells #[u] 3)).alloc (.cells #[z] 3)).alloc (.cells #[.pointer (some ⟨w.heap.size,0,none⟩),.pointer (some ⟨w.heap.size+1,0,none⟩)] 246)) (w.heap.size+1+1) 246 #[.pointer (some ⟨w.heap.size,0,none⟩),.pointer (some ⟨w.heap.size+1,0,none⟩)]:=qw _ _ _ (by simp);refine(Yx _ mb O L s d y x r c w.heap.size (w.heap.size+1) _ _ _ o l (by omega) n (h.gY Aw) (h.gY (by omega))).mono ?_;rintro e w'⟨rfl,m,f,H,b,v,a⟩;refine⟨rfl,⟨m,?_,?_,?_,?_⟩,f,H⟩
 ·refine Fr.new ((((qu O w).alloc _).alloc _).alloc _) b (fun i hi k=>?_);rcases k with k|k|k
  ·exact k
  ·omega
  ·omega
 ·have:=b.size;simp at this;omega
 ·intro g t cs K q;subst a;have j:=q.lt;exact(((((q.alloc _).alloc _).alloc _).dE (p:=⟨w.heap.size,0,none⟩) (by simp only;omega) _).dE (p:=⟨w.heap.size+1,0,none⟩) (by simp only;omega) _).dE (p:=⟨mb,40,none⟩) (q.dF h.aG K) _
 ·intro i hi;subst a;have j:=h.aG.lt;rw[mt _ _ _ _ (fun e=>by injection e with _ e;exact hi e.symm),mt _ _ _ _ (fun e=>by injection e with e;omega),mt _ _ _ _ (fun e=>by injection e with e;omega),Cb _ _ _ (by simp;omega),Cb _ _ _ (by simp;omega),Cb _ _ _ (by simp;omega)]
theorem Ec (w:World)(mb:Nat)(O:Nat→Prop)(L:bd)(s:St)(h:ag w mb O L s)(v:Int)(y:s.stack.length<32) :
  Calls Tryz.prog 167 #[.pointer (some ⟨mb,0,none⟩),.slice (some ⟨w.heap.size,0,none⟩) 1 1] (w.alloc (.cells #[Aj v] 3)) (aw w mb O (push v s)) :=
 (Qv _ mb O L s (h.alloc _) _ [v] (qv _ _ _) (h.gY Aw) (by simp;omega)).mono fun _ _ x=>x.bL ((qu O w).alloc _)
theorem Nv (w:World)(mb:Nat)(O:Nat→Prop)(L:bd)(s:St)(h:ag w mb O L s)(v v':Int)(y:s.stack.length<31) :
  Calls Tryz.prog 167 #[.pointer (some ⟨mb,0,none⟩),.slice (some ⟨w.heap.size,0,none⟩) 2 2] (w.alloc (.cells #[Aj v,Aj v'] 3)) (aw w mb O (push v' (push v s))) :=
 (Qv _ mb O L s (h.alloc _) _ [v,v'] (qv _ _ _) (h.gY Aw) (by simp;omega)).mono fun _ _ x=>x.bL ((qu O w).alloc _)
theorem Zad (w:World)(mb:Nat)(O:Nat→Prop)(L:bd)(s:St)(h:ag w mb O L s)(a:Int)(y:s.stack.length<32) :
  Calls Tryz.prog 166 #[.pointer (some ⟨mb,0,none⟩),Aj a] w (aw w mb O (push a s)):=by
 have H:=Aq h;clear h;go_enter Tryz.func166,Tryz.ntmps166;go_wp2_with fail
 refine(Ec w mb O L s H.o a y).mono ?_;intro e u x;have z:=Aq x;obtain⟨rfl,_⟩:=x;go_wp2;go_end0;exact z.o
theorem Ze (w:World)(mb:Nat)(O:Nat→Prop)(L:bd)(s:St)(h:ag w mb O L s)(a:Int)(y:s.stack.length<32) :
  Calls Tryz.prog 223 #[.pointer (some ⟨mb,0,none⟩),Aj a] w (aw w mb O (push s.size s)):=by
 have iJ:=h.aG.cell 41;rw[h.c.iJ]at iJ;have H:=Aq h;clear h;go_enter Tryz.func223,Tryz.ntmps223;go_wp2_with fail
 refine(Ec w mb O L s H.o _ y).mono ?_;intro e u x;have z:=Aq x;obtain⟨rfl,_⟩:=x;go_wp2;go_end0;exact z.o
theorem Zfa (w:World)(mb:Nat)(O:Nat→Prop)(L:bd)(s:St)(h:ag w mb O L s)(a x:Int)(r:List Int)(y:s.stack=x::r) :
  Calls Tryz.prog 168 #[.pointer (some ⟨mb,0,none⟩),Aj a] w (aw w mb O { s with stack:=r }):=by
 have H:=Aq h;have k:=Aq y;clear h y;go_enter Tryz.func168,Tryz.ntmps168;go_wp2_with fail
 refine(Dx w mb O L s H.o x r k.o _).mono ?_;rintro e w'⟨rfl,u,_⟩;have z:=Aq u;clear u;go_wp2;go_end0;obtain⟨p,v⟩:=z.o.ma;exact .dD v z.o.fr
theorem Zgd (w:World)(mb:Nat)(O:Nat→Prop)(L:bd)(s:St)(h:ag w mb O L s)(a x:Int)(r:List Int)(u:s.stack=x::r)(p:s.stack.length<32) :
  Calls Tryz.prog 170 #[.pointer (some ⟨mb,0,none⟩),Aj a] w (aw w mb O (push x (push x { s with stack:=r }))):=by
 have H:=Aq h;have b:=Aq u;rw[u,Bo]at p;clear h u;go_enter Tryz.func170,Tryz.ntmps170;go_wp2_with fail
 refine(Dx w mb O L s H.o x r b.o _).mono ?_;rintro e w'⟨rfl,z,y⟩;obtain⟨d,v⟩:=z.ma;have f:=Aq v;have g:=Aq z;have m:=z.lt;have c:=y.cell 0;have i:=y.lt;have j:=y.frozen 0;simp only[Az,Ay]at c;clear z v y;go_wp2_with fail
 refine(Nv w' mb O d _ f.o x x (by simp only;omega)).mono ?_;intro e l k;have q:=Aq (k.bL g.o.fr);obtain⟨rfl,_⟩:=k;go_wp2;go_end0;exact q.o
theorem Yz (w:World)(mb:Nat)(O:Nat→Prop)(L:bd)(s:St)(h:ag w mb O L s)(a x y:Int)(r:List Int)(k:s.stack=y::x::r) :
  Calls Tryz.prog 171 #[.pointer (some ⟨mb,0,none⟩),Aj a] w (aw w mb O (push x (push y { s with stack:=r }))):=by
 have H:=Aq h;have f:=Aq k;have c:=h.ok.dg;rw[k,Bo,Bo]at c;clear h k;go_enter Tryz.func171,Tryz.ntmps171;go_wp2_with fail
 refine(Du w mb O L s H.o x y r f.o _ _).mono ?_;rintro e w'⟨rfl,v,u,z⟩;obtain⟨i,p⟩:=v.ma;have j:=Aq p;have l:=Aq v;have n:=v.lt;have g:=u.cell 0;have K:=u.lt;have X:=u.frozen 0;have b:=z.cell 0;have m:=z.lt;have Z:=z.frozen 0;simp only[Az,Ay]at g b;clear v p u z;go_wp2_with fail
 refine(Nv w' mb O i _ j.o y x (by simp only;omega)).mono ?_;intro e Y q;have d:=Aq (q.bL l.o.fr);obtain⟨rfl,_⟩:=q;go_wp2;go_end0;exact d.o
theorem Gh (w:World)(mb:Nat)(O:Nat→Prop)(L:bd)(s:St)(h:ag w mb O L s)(a x y:Int)(r:List Int)(z:s.stack=y::x::r)(g f:Nat) (q:aH w g 74 #[.func (.func f) #[] #[]]) (v:Int) (R:∀args w,Sem.run Tryz.prog (callFunc f args) w=.ok (.enter f args) w)
  (l:∀w,bI x→bI y→Calls Tryz.prog f #[Aj x,Aj y] w fun e w'=>e=.returned (Aj v)∧w=w') :
  Calls Tryz.prog 250 #[.pointer (some ⟨mb,0,none⟩),Aj a,.pointer (some ⟨g,0,none⟩)] w (aw w mb O (push v { s with stack:=r })):=by
 have H:=Aq h;have Y:=Aq z;have c:=h.ok.stack x (by rw[z];simp);have d:=h.ok.stack y (by rw[z];simp);have P:=Aq fun w=>l w c d
 have K:=Aq q;have n:=h.ok.dg;rw[z,Bo,Bo]at n;clear h z q l c d;go_enter Tryz.func250,Tryz.ntmps250;go_wp2_with fail
 refine(Du w mb O L s H.o x y r Y.o _ _).mono ?_;rintro e w'⟨rfl,p,k,u⟩;obtain⟨U,b⟩:=p.ma;have V:=Aq b;have j:=Aq p;have E:=p.lt;have Z:=k.cell 0;have S:=k.lt;have C:=k.frozen 0;have m:=u.cell 0;have Q:=u.lt;have A:=u.frozen 0;simp only[Az,Ay]at Z m;clear p b k u;have c0:=(j.o.kK _ _ _ (by decide) K.o).cell 0;simp only[Az,Ay]at c0;go_wp2_with fail
 refine(P.o _).mono ?_;rintro e B⟨rfl,rfl⟩;go_wp2_with fail
 refine(Ec w' mb O U _ V.o v (by simp only;omega)).mono ?_;intro e D i;have X:=Aq (i.bL j.o.fr);obtain⟨rfl,_⟩:=i;go_wp2;go_end0;exact X.o
theorem Ma (w:World)(mb:Nat)(O:Nat→Prop)(L:bd)(s:St)(h:ag w mb O L s)(a x:Int)(r:List Int)(y:s.stack=x::r)(b f:Nat) (k:aH w b 117 #[.func (.func f) #[] #[]]) (v:Int) (Z:∀args w,Sem.run Tryz.prog (callFunc f args) w=.ok (.enter f args) w)
  (g:∀w,bI x→Calls Tryz.prog f #[Aj x] w fun e w'=>e=.returned (Aj v)∧w=w') :
  Calls Tryz.prog 251 #[.pointer (some ⟨mb,0,none⟩),Aj a,.pointer (some ⟨b,0,none⟩)] w (aw w mb O (push v { s with stack:=r })):=by
 have H:=Aq h;have m:=Aq y;have q:=h.ok.stack x (by rw[y];simp);have Y:=Aq fun w=>g w q
 have j:=Aq k;have i:=h.ok.dg;rw[y,Bo]at i;clear h y k g q;go_enter Tryz.func251,Tryz.ntmps251;go_wp2_with fail
 refine(Dx w mb O L s H.o x r m.o _).mono ?_;rintro e w'⟨rfl,u,z⟩;obtain⟨K,p⟩:=u.ma;have X:=Aq p;have d:=Aq u;have R:=u.lt;have n:=z.cell 0;have U:=z.lt;have P:=z.frozen 0;simp only[Az,Ay]at n;clear u p z;have c0:=(d.o.kK _ _ _ (by decide) j.o).cell 0;simp only[Az,Ay]at c0;go_wp2_with fail
 refine(Y.o _).mono ?_;rintro e V⟨rfl,rfl⟩;go_wp2_with fail
 refine(Ec w' mb O K _ X.o v (by simp only;omega)).mono ?_;intro e Q c;have l:=Aq (c.bL d.o.fr);obtain⟨rfl,_⟩:=c;go_wp2;go_end0;exact l.o
end
section
open Go.RowKit Mc
theorem Fo (bG n:Int)(w:World):Calls Tryz.prog 117 #[Aj bG,Aj n] w fun e w'=>e=.returned (Aj (Cx bG n))∧w=w':=by
 obtain⟨k1,k2⟩:=Fg n;have u:=oT bG (show (6:Int)≠0 by omega);have r:=oU bG (show (0:Int)<6 by omega);have y:Cx bG n=bA (if bG % 6=1 then(bA n+32) / 64*64 else if bG % 6=2 then bA n / 64*64+32 else if bG % 6=3 then(bA n+16) / 32*32 else if bG % 6=4 then bA n / 64*64 else if bG % 6=5 then(bA n+63) / 64*64 else bA n):=rfl;have v:=Aq y;clear y;generalize z:bA n=k at *;have p:=Aq z;clear z;generalize x:bG % 6=m at *;have q:=Aq x;clear x;have h:m=0∨m=1∨m=2∨m=3∨m=4∨m=5:=by omega
 rcases h with rfl|rfl|rfl|rfl|rfl|rfl
 all_goals
  clear u r;go_enter Tryz.func117,Tryz.ntmps117;go_wp2_with fail
  refine(Iq n _).mono ?_;rintro e w1⟨rfl,rfl⟩;rw[p.o];go_wp2_with fail
  refine(Qk bG 6 _ (by decide) (by decide)).mono ?_;rintro e w1⟨rfl,rfl⟩;rw[q.o];go_wp2_with fail
  refine(Iq _ _).mono ?_;rintro e w1⟨rfl,rfl⟩;go_wp2;go_ret;rw[v.o];refine⟨Cl ?_,rfl⟩
  first|rfl|simp
theorem Zha {x y:Int}(k : -2147483648≤x∧x≤2147483647)(u : -2147483648≤y∧y≤2147483647):RowKit.wrap64 (x*y)=x*y:=by
 refine pG _ ?_;have p:x*y≤4611686018427387904:=by
  rcases pJ 0 x with h|h <;> rcases pJ 0 y with z|z
  ·have:=pK (show x≤2147483648 by omega) (show y≤2147483648 by omega) z (by omega);omega
  ·have:=Int.mul_nonpos_of_nonneg_of_nonpos h z;omega
  ·have:=Int.mul_nonpos_of_nonpos_of_nonneg h z;omega
  ·have:=pK (show -x≤2147483648 by omega) (show -y≤2147483648 by omega) (by omega) (by omega);rw[Int.neg_mul_neg]at this;omega
 have v : -4611686018427387904≤x*y:=by
  rcases pJ 0 x with h|h <;> rcases pJ 0 y with z|z
  ·have:=Int.mul_nonneg h z;omega
  ·have:=pK (show x≤2147483648 by omega) (show -y≤2147483648 by omega) (by omega) (by omega);rw[Int.mul_neg]at this;omega
  ·have:=pK (show -x≤2147483648 by omega) (show y≤2147483648 by omega) (by omega) (by omega);rw[Int.neg_mul]at this;omega
  ·have:=Int.mul_nonneg_of_nonpos_of_nonpos h z;omega
 omega
theorem Zcl {a b:Int}(z : -1000000000000≤a)(y:a≤1000000000000) : -1000000000000≤eT a b∧eT a b≤1000000000000:=by
 unfold eT;split
 ·omega
 ·rename_i x;have key:∀a b:Int,-1000000000000≤a→a≤1000000000000→0<b→-1000000000000≤a / b∧a / b≤1000000000000:=fun a b z y x =>
   ⟨Int.le_ediv_of_mul_le x (by omega),Int.ediv_le_of_le_mul x (by omega)⟩
  rcases Int.lt_or_gt_of_ne x with x|x
  ·rw[←Int.neg_fdiv_neg,Int.fdiv_eq_ediv_of_nonneg _ (by omega)];exact key _ _ (by omega) (by omega) (by omega)
  ·rw[Int.fdiv_eq_ediv_of_nonneg _ (by omega)];exact key _ _ z y x
theorem Iw {a:Int}(y : -9223372036854775808≤a)(x:a≤9223372036854775807):iD a=a:=by unfold iD;omega
theorem d5 (x y:Int)(w:World)(u:bI x)(z:bI y):Calls Tryz.prog 173 #[Aj x,Aj y] w fun e w'=>e=.returned (Aj (x+y))∧w=w':=by
 unfold bI at u z;go_enter Tryz.func173,Tryz.ntmps173;go_wp2;go_ret;exact⟨rfl,rfl⟩
theorem d6 (x y:Int)(w:World)(u:bI x)(z:bI y):Calls Tryz.prog 174 #[Aj x,Aj y] w fun e w'=>e=.returned (Aj (x-y))∧w=w':=by
 unfold bI at u z;go_enter Tryz.func174,Tryz.ntmps174;go_wp2;go_ret;exact⟨rfl,rfl⟩
theorem d7 (x y:Int)(w:World)(u:bI x)(z:bI y):Calls Tryz.prog 175 #[Aj x,Aj y] w fun e w'=>e=.returned (Aj (bA (x*y / 64)))∧w=w':=by
 unfold bI at u z;have v:=Aq (Zha u z);go_enter Tryz.func175,Tryz.ntmps175;go_wp2_with fail
 refine(Et _ _).mono ?_;rintro e w1⟨rfl,rfl⟩;go_wp2;go_ret;exact⟨Cl (by rw[v.o]),rfl⟩
theorem d8 (x y:Int)(w:World)(z:bI x)(_hy:bI y):Calls Tryz.prog 177 #[Aj x,Aj y] w fun e w'=>e=.returned (Aj (bA (eT (64*x) y)))∧w=w':=by
 unfold bI at z _hy;go_enter Tryz.func177,Tryz.ntmps177;go_wp2_with fail
 refine(Jg _ _ _).mono ?_;rintro e w1⟨rfl,rfl⟩;go_wp2_with fail
 refine(Et _ _).mono ?_;rintro e w1⟨rfl,rfl⟩;go_wp2;go_ret;have u:=Zcl (a:=64*x) (b:=y) (by omega) (by omega);exact⟨Cl (by rw[Iw (by omega) (by omega)]),rfl⟩
theorem d9 (x:Int)(w:World)(y:bI x):Calls Tryz.prog 180 #[Aj x] w fun e w'=>e=.returned (Aj (-x))∧w=w':=by
 unfold bI at y;go_enter Tryz.func180,Tryz.ntmps180;go_wp2;go_ret;exact⟨rfl,rfl⟩
theorem kE (x:Int)(w:World)(y:bI x):Calls Tryz.prog 181 #[Aj x] w fun e w'=>e=.returned (Aj (max x (-x)))∧w=w':=by
 unfold bI at y;go_enter Tryz.func181,Tryz.ntmps181;go_wp2
 all_goals
  go_ret;exact⟨Cl (by omega),rfl⟩
theorem iq (x y:Int)(w:World)(_hx:bI x)(_hy:bI y):Calls Tryz.prog 182 #[Aj x,Aj y] w fun e w'=>e=.returned (Aj (min x y))∧w=w':=by
 unfold bI at _hx _hy;go_enter Tryz.func182,Tryz.ntmps182;go_wp2
 all_goals
  go_ret;exact⟨Cl (by omega),rfl⟩
theorem jH (x y:Int)(w:World)(_hx:bI x)(_hy:bI y):Calls Tryz.prog 183 #[Aj x,Aj y] w fun e w'=>e=.returned (Aj (max x y))∧w=w':=by
 unfold bI at _hx _hy;go_enter Tryz.func183,Tryz.ntmps183;go_wp2
 all_goals
  go_ret;exact⟨Cl (by omega),rfl⟩
theorem nU (x:Int)(w:World)(_hx:bI x):Calls Tryz.prog 184 #[Aj x] w fun e w'=>e=.returned (Aj (Cx 4 x))∧w=w':=by
 unfold bI at _hx;go_enter Tryz.func184,Tryz.ntmps184;go_wp2_with fail
 refine(Fo _ _ _).mono ?_;rintro e w1⟨rfl,rfl⟩;go_wp2;go_ret;exact⟨rfl,rfl⟩
theorem nW (x:Int)(w:World)(_hx:bI x):Calls Tryz.prog 185 #[Aj x] w fun e w'=>e=.returned (Aj (Cx 5 x))∧w=w':=by
 unfold bI at _hx;go_enter Tryz.func185,Tryz.ntmps185;go_wp2_with fail
 refine(Fo _ _ _).mono ?_;rintro e w1⟨rfl,rfl⟩;go_wp2;go_ret;exact⟨rfl,rfl⟩
theorem mW (x y:Int)(w:World)(_hx:bI x)(_hy:bI y):Calls Tryz.prog 187 #[Aj x,Aj y] w fun e w'=>e=.returned (Aj (bC (decide (x<y))))∧w=w':=by
 unfold bI at _hx _hy;go_enter Tryz.func187,Tryz.ntmps187;go_wp2_with fail
 refine(Hc _ _).mono ?_;rintro e w1⟨rfl,rfl⟩;go_wp2;go_ret;exact⟨Cl (by first|rfl|(congr 1;simp)),rfl⟩
theorem lB (x y:Int)(w:World)(_hx:bI x)(_hy:bI y):Calls Tryz.prog 189 #[Aj x,Aj y] w fun e w'=>e=.returned (Aj (bC (decide (x≤y))))∧w=w':=by
 unfold bI at _hx _hy;go_enter Tryz.func189,Tryz.ntmps189;go_wp2_with fail
 refine(Hc _ _).mono ?_;rintro e w1⟨rfl,rfl⟩;go_wp2;go_ret;exact⟨Cl (by first|rfl|(congr 1;simp)),rfl⟩
theorem d18 (x y:Int)(w:World)(_hx:bI x)(_hy:bI y):Calls Tryz.prog 190 #[Aj x,Aj y] w fun e w'=>e=.returned (Aj (bC (decide (x=y))))∧w=w':=by
 unfold bI at _hx _hy;go_enter Tryz.func190,Tryz.ntmps190;go_wp2_with fail
 refine(Hc _ _).mono ?_;rintro e w1⟨rfl,rfl⟩;go_wp2;go_ret;exact⟨Cl (by first|rfl|(congr 1;simp)),rfl⟩
theorem d19 (x:Int)(w:World)(_hx:bI x):Calls Tryz.prog 191 #[Aj x] w fun e w'=>e=.returned (Aj (bC (decide (x=0))))∧w=w':=by
 unfold bI at _hx;go_enter Tryz.func191,Tryz.ntmps191;go_wp2_with fail
 refine(Hc _ _).mono ?_;rintro e w1⟨rfl,rfl⟩;go_wp2;go_ret;exact⟨Cl (by first|rfl|(congr 1;simp)),rfl⟩
theorem d20 (x y:Int)(w:World)(k:bI x)(u:bI y):Calls Tryz.prog 192 #[Aj x,Aj y] w fun e w'=>e=.returned (Aj (bC (decide (x≠0∧y≠0))))∧w=w':=by
 unfold bI at k u;rcases Decidable.em (x=0) with h|h <;> rcases Decidable.em (y=0) with z|z
 all_goals
  have v:=Aq (show bC (decide (x≠0∧y≠0))=bC (decide (x≠0) && decide (y≠0)) by simp)
  first|subst h|have q:(x != 0)=true:=by simp[h]
  first|subst z|have p:(y != 0)=true:=by simp[z]
  go_enter Tryz.func192,Tryz.ntmps192;go_wp2_with fail
  refine(Hc _ _).mono ?_;rintro e w1⟨rfl,rfl⟩;go_wp2;go_ret;rw[v.o];refine⟨Cl ?_,rfl⟩
  simp_all
theorem d21 (x y:Int)(w:World)(k:bI x)(u:bI y):Calls Tryz.prog 193 #[Aj x,Aj y] w fun e w'=>e=.returned (Aj (bC (decide (x≠0∨y≠0))))∧w=w':=by
 unfold bI at k u;rcases Decidable.em (x=0) with h|h <;> rcases Decidable.em (y=0) with z|z
 all_goals
  have v:=Aq (show bC (decide (x≠0∨y≠0))=bC (decide (x≠0) || decide (y≠0)) by simp)
  first|subst h|have q:(x != 0)=true:=by simp[h]
  first|subst z|have p:(y != 0)=true:=by simp[z]
  go_enter Tryz.func193,Tryz.ntmps193;go_wp2_with fail
  refine(Hc _ _).mono ?_;rintro e w1⟨rfl,rfl⟩;go_wp2;go_ret;rw[v.o];refine⟨Cl ?_,rfl⟩
  simp_all
theorem Wz (w:World)(mb:Nat)(O:Nat→Prop)(L:bd)(s:St)(h:ag w mb O L s)(a x:Int)(r:List Int)(p:s.stack=x::r) :
  Calls Tryz.prog 186 #[.pointer (some ⟨mb,0,none⟩),Aj a] w (aw w mb O (push (Cx s.bG x) { s with stack:=r })):=by
 have H:=Aq h;have U:=Aq p;have Y:=h.ok.dg;rw[p,Bo]at Y;clear h p;go_enter Tryz.func186,Tryz.ntmps186;go_wp2_with fail
 refine(Dx w mb O L s H.o x r U.o _).mono ?_;rintro e w'⟨rfl,k,v⟩;obtain⟨V,d⟩:=k.ma;have z:=Aq d;have P:=Aq k;have B:=k.lt;have u:=v.cell 0;have f:=v.lt;have A:=v.frozen 0;simp only[Az,Ay]at u;clear k d v;go_wp2_with fail
 have gW:=z.o.aG.cell 44;rw[z.o.c.gW]at gW;dsimp only at gW;have g:w'.drew.cell? ⟨mb,44,none⟩=some (Aj s.bG)∧w'.drew.cell? ⟨w.heap.size,0,none⟩=some (Aj x):=⟨gW,u⟩;have n:=Aq z.o.drew;have X:(w'.drew.alloc (.cells #[Aj (Cx s.bG x)] 3)).cell? ⟨mb,44,none⟩=some (Aj s.bG)∧(w'.drew.alloc (.cells #[Aj (Cx s.bG x)] 3)).cell? ⟨w.heap.size,0,none⟩=some (Aj x):=⟨by rw[Cb _ _ _ (by simpa using z.o.aG.lt)];exact gW,by rw[Cb _ _ _ (by simpa using f)];exact u⟩;have _hmbl:=z.o.aG.lt;refine Bs (fun i=>!([6,7,8]:List Nat).contains i) (fun i=>([4,5]:List Nat).contains i) (fun i=>([7,8]:List Nat).contains i) [0,1,2,3,4,5,6,7,8] (fun w':World=>w'.cell? ⟨mb,44,none⟩=some (Aj s.bG)∧w'.cell? ⟨w.heap.size,0,none⟩=some (Aj x)) (by kernel_rfl) (by kernel_rfl) (by kernel_rfl) (by kernel_rfl) ?_
 iterate 4 (refine Be ?_)
 refine Bj g ?_;refine Bj g ?_;refine Bi fun K y=>?_;go_simp
 refine(Fo _ _ _).mono ?_;rintro e S⟨rfl,rfl⟩;dsimp only;refine Bh y ?_;clear y K;refine Bi fun K y=>?_;go_simp
 refine y _ _ (fun _=>X) ?_;clear y K;refine Bi fun K y=>?_;go_simp
 refine(Ec w'.drew mb O V _ n.o _ (by simp only;omega)).mono ?_;intro e m l;have Z:=Aq (l.bL P.o.fr.drew);obtain⟨rfl,⟨R,b⟩,j⟩:=l;have q:=b.aG.cell 44;rw[b.c.gW]at q;have Q:m.cell? ⟨mb,44,none⟩=some (Aj s.bG)∧m.cell? ⟨w.heap.size,0,none⟩=some (Aj x):=⟨q,(j.cell (by simpa using f) (H.o.gY Aw)).trans u⟩;clear b j q;dsimp only;refine y _ _ (fun _=>Q) ?_;clear y K;refine Bb ?_;go_wp2;go_end0;exact Z.o
section
variable {w : World} {mb : Nat} {O : Nat → Prop} {L : bd} {s : St}
theorem Mc.Ok.dr (h:Ok s){st:List Int}{u z y:Int}{r pk:Nat}{k:Bool}{er:Int}(a:∀x∈st,bI x)(b:st.length=32)(q:0≤u∧u≤1)(p:0≤z∧z≤1)(v:0≤y∧y≤5)(c:pk≤32):Ok { s with store:=st,look:=u,move:=z,bG:=y,steps:=r,aL:=pk,ai:=k,bp:=er } :=
 ⟨h.stack,h.dg,h.aP,a,b,h.aF,h.aT,h.dL,h.aB,h.tl,h.size,q,p,v,c,h.aD,h.fW,h.funcs,h.jy,h.bH,h.ej,h.cX,h.iC,h.fY⟩
theorem ag.aZ (h:ag w mb O L s){i:Nat}{u:Value}{st:List Int}{v z x:Int}{p pk:Nat}{y:Bool}{er:Int} (r:eH { L with cs:=L.cs.setIfInBounds i u } { s with store:=st,look:=v,move:=z,bG:=x,steps:=p,aL:=pk,ai:=y,bp:=er }) (a:Ok { s with store:=st,look:=v,move:=z,bG:=x,steps:=p,aL:=pk,ai:=y,bp:=er }):ag (w.setCell ⟨mb,i,none⟩ u) mb O { L with cs:=L.cs.setIfInBounds i u } { s with store:=st,look:=v,move:=z,bG:=x,steps:=p,aL:=pk,ai:=y,bp:=er } :=
 h.cells (h.aG.aZ i u) r (fun _ _ q _=>Bp _ _ _ _ q) (fun _ h=>h) (fun k q=>by have:=h.eQ k q;simpa [World.setCell]using this) a
theorem ag.iQ (h:ag w mb O L s)(i:Nat)(u:Value):Fr O w (w.setCell ⟨mb,i,none⟩ u):=(qu O w).setCell (.inl h.ew) _
end
theorem Zag (w:World)(mb:Nat)(O:Nat→Prop)(L:bd)(s:St)(h:ag w mb O L s)(a:Int) :
  Calls Tryz.prog 194 #[.pointer (some ⟨mb,0,none⟩),Aj a] w (aw w mb O { s with look:=a % 2 }):=by
 have x:=h.aZ (h.c.ie (a % 2)) (h.ok.dr h.ok.store h.ok.dR (by omega) h.ok.move h.ok.bG h.ok.aL);have y:=Aq (aw.dD x (h.iQ _ _));have c:=h.aG.cell 42;rw[h.c.dH]at c;have f:=h.aG.frozen 42;clear h x;go_enter Tryz.func194,Tryz.ntmps194;go_wp2_with fail
 refine(Qk _ 2 _ (by decide) (by decide)).mono ?_;rintro e w1⟨rfl,rfl⟩;go_wp2;go_end0;exact y.o
theorem Zcf (w:World)(mb:Nat)(O:Nat→Prop)(L:bd)(s:St)(h:ag w mb O L s)(a:Int) :
  Calls Tryz.prog 196 #[.pointer (some ⟨mb,0,none⟩),Aj a] w (aw w mb O { s with move:=a % 2 }):=by
 have x:=h.aZ (h.c.ij (a % 2)) (h.ok.dr h.ok.store h.ok.dR h.ok.look (by omega) h.ok.bG h.ok.aL);have y:=Aq (aw.dD x (h.iQ _ _));have c:=h.aG.cell 43;rw[h.c.dO]at c;have f:=h.aG.frozen 43;clear h x;go_enter Tryz.func196,Tryz.ntmps196;go_wp2_with fail
 refine(Qk _ 2 _ (by decide) (by decide)).mono ?_;rintro e w1⟨rfl,rfl⟩;go_wp2;go_end0;exact y.o
theorem Zbb (w:World)(mb:Nat)(O:Nat→Prop)(L:bd)(s:St)(h:ag w mb O L s)(a:Int) :
  Calls Tryz.prog 197 #[.pointer (some ⟨mb,0,none⟩),Aj a] w (aw w mb O { s with bG:=a % 6 }):=by
 have x:=h.aZ (h.c.iY (a % 6)) (h.ok.dr h.ok.store h.ok.dR h.ok.look h.ok.move (by omega) h.ok.aL);have y:=Aq (aw.dD x (h.iQ _ _));have c:=h.aG.cell 44;rw[h.c.gW]at c;have f:=h.aG.frozen 44;clear h x;go_enter Tryz.func197,Tryz.ntmps197;go_wp2_with fail
 refine(Qk _ 6 _ (by decide) (by decide)).mono ?_;rintro e w1⟨rfl,rfl⟩;go_wp2;go_end0;exact y.o
theorem Ur (w:World)(mb:Nat)(O:Nat→Prop)(L:bd)(s:St)(h:ag w mb O L s)(x:Int)(r:List Int)(m:s.stack=x::r)(A:Option Addr)(l:List Int)(c g off:Nat)(D:l.length≤1000000)
  (K:0<l.length→A=some ⟨g,off,none⟩) (Z:∀w',ik w mb O s r 1 w'→∀(i:Nat) v,l[i]?=some v→w'.cell? ⟨g,off+i,none⟩=some (Aj v)) :
  Calls Tryz.prog 199 #[.pointer (some ⟨mb,0,none⟩),.slice A l.length c] w (aw w mb O (push (aK l x) { s with stack:=r })):=by
 have H:=Aq h;have n:=Aq m;have S:=h.ok.dg;rw[m,Bo]at S;have B:=Aq Z;clear h m Z;by_cases p:0≤x∧x<l.length
 ·obtain⟨i,rfl⟩:∃i:Nat,x=i:=⟨x.toNat,by omega⟩;have C:i<l.length:=by omega
  have V:=Aq (K (by omega));obtain⟨v,X⟩:∃v,l[i]?=some v:=⟨_,Bg C⟩;have P:=Aq X;have e:=V.o;subst e;clear X K p V;go_enter Tryz.func199,Tryz.ntmps199;go_wp2_with fail
  refine(Dx w mb O L s H.o _ r n.o _).mono ?_;rintro e w'⟨rfl,z,y⟩;obtain⟨d,u⟩:=z.ma;have f:=Aq u;have q:=Aq z;have R:=z.lt;have b:=y.cell 0;have Y:=y.lt;have U:=y.frozen 0;simp only[Az,Ay]at b;clear z u y;have c0:=B.o w' q.o i v P.o;go_wp2_with fail
  refine(Ec w' mb O d _ f.o _ (by simp only;omega)).mono ?_;intro e Q k;have a:=Aq (k.bL q.o.fr);obtain⟨rfl,_⟩:=k;go_wp2;go_end0;rw[Zhe P.o];exact a.o
 ·have E:=Aq p;have j:=lf p;rw[j];clear j K;by_cases j:0≤x
  ·have F:¬ x<l.length:=fun e=>p ⟨j,e⟩
   clear p;go_enter Tryz.func199,Tryz.ntmps199;go_wp2_with fail
   refine(Dx w mb O L s H.o x r n.o _).mono ?_;rintro e w'⟨rfl,z,y⟩;obtain⟨d,u⟩:=z.ma;have f:=Aq u;have q:=Aq z;have R:=z.lt;have b:=y.cell 0;have Y:=y.lt;have U:=y.frozen 0;simp only[Az,Ay]at b;clear z u y;go_wp2_with fail
   refine(Ec w' mb O d _ f.o _ (by simp only;omega)).mono ?_;intro e Q k;have a:=Aq (k.bL q.o.fr);obtain⟨rfl,_⟩:=k;go_wp2;go_end0;exact a.o
  ·clear p;go_enter Tryz.func199,Tryz.ntmps199;go_wp2_with fail
   refine(Dx w mb O L s H.o x r n.o _).mono ?_;rintro e w'⟨rfl,z,y⟩;obtain⟨d,u⟩:=z.ma;have f:=Aq u;have q:=Aq z;have R:=z.lt;have b:=y.cell 0;have Y:=y.lt;have U:=y.frozen 0;simp only[Az,Ay]at b;clear z u y;go_wp2_with fail
   refine(Ec w' mb O d _ f.o _ (by simp only;omega)).mono ?_;intro e Q k;have a:=Aq (k.bL q.o.fr);obtain⟨rfl,_⟩:=k;go_wp2;go_end0;exact a.o
theorem Ud (w:World)(mb:Nat)(O:Nat→Prop)(L:bd)(s:St)(h:ag w mb O L s)(x y:Int)(r:List Int)(f:s.stack=y::x::r)(A:Option Addr)(n c:Nat)(_hll:n≤1000000) (p:¬ (0≤x∧x<n)) :
  Calls Tryz.prog 201 #[.pointer (some ⟨mb,0,none⟩),.slice A n c] w (aw w mb O { s with stack:=r }):=by
 have H:=Aq h;have g:=Aq f;clear h f;by_cases j:0≤x
 ·have Z:¬ x<n:=fun e=>p ⟨j,e⟩
  clear p;go_enter Tryz.func201,Tryz.ntmps201;go_wp2_with fail
  refine(Du w mb O L s H.o x y r g.o _ _).mono ?_;rintro e w'⟨rfl,v,u,z⟩;obtain⟨K,k⟩:=v.ma;have b:=Aq k;have d:=Aq v;have Y:=v.lt;have a:=u.cell 0;have l:=u.lt;have X:=u.frozen 0;have q:=z.cell 0;have i:=z.lt;have m:=z.frozen 0;simp only[Az,Ay]at a q;clear v k u z;go_wp2;go_end0;exact .dD b.o d.o.fr
 ·clear p;go_enter Tryz.func201,Tryz.ntmps201;go_wp2_with fail
  refine(Du w mb O L s H.o x y r g.o _ _).mono ?_;rintro e w'⟨rfl,v,u,z⟩;obtain⟨K,k⟩:=v.ma;have b:=Aq k;have d:=Aq v;have Y:=v.lt;have a:=u.cell 0;have l:=u.lt;have X:=u.frozen 0;have q:=z.cell 0;have i:=z.lt;have m:=z.frozen 0;simp only[Az,Ay]at a q;clear v k u z;go_wp2;go_end0;exact .dD b.o d.o.fr
theorem Pt (w:World)(mb:Nat)(O:Nat→Prop)(L:bd)(s s':St)(h:ag w mb O L s)(i:Nat)(y:Int)(r:List Int) (k:s.stack=y::(i:Int)::r) (n c g off:Nat) (_hll:n≤1000000) (hi:i<n)
  (a:∀w',ik w mb O s r 2 w'→(∃q,ag (w'.setCell ⟨g,off+i,none⟩ (Aj y)) mb O q s'∧Fr O w' (w'.setCell ⟨g,off+i,none⟩ (Aj y)))∧(∃u,w'.cell? ⟨g,off+i,none⟩=some u)∧w'.frozen? ⟨g,off+i,none⟩=false) :
  Calls Tryz.prog 201 #[.pointer (some ⟨mb,0,none⟩),.slice (some ⟨g,off,none⟩) n c] w (aw w mb O s'):=by
 have H:=Aq h;have l:=Aq k;have j:=Aq a;clear h k a;go_enter Tryz.func201,Tryz.ntmps201;go_wp2_with fail
 refine(Du w mb O L s H.o i y r l.o _ _).mono ?_;rintro e w'⟨rfl,v,z,x⟩;obtain⟨V,p⟩:=v.ma;have P:=Aq p;have b:=Aq v;have R:=v.lt;have m:=z.cell 0;have Z:=z.lt;have Q:=z.frozen 0;have f:=x.cell 0;have K:=x.lt;have U:=x.frozen 0;simp only[Az,Ay]at m f;clear v p z x;obtain⟨⟨q,d⟩,⟨u,X⟩,Y⟩:=j.o w' b.o;have H1:=Aq d;clear d;go_wp2;go_end0;exact .dD H1.o.1 (b.o.fr.trans H1.o.2)
end
section
open Go.RowKit Mc
section
variable {w w' : World} {mb : Nat} {O : Nat → Prop} {L : bd} {s : St} {r : List Int} {n : Nat}
theorem ik.row (k:ik w mb O s r n w'){t:TypeId}(u:t≠212){size m:Nat}{v:Value}{xs:List Value}(y:dK w O t size v m xs):dK w' O t size v m xs :=
 y.aQ (fun g z=>by obtain⟨_,_,cs,x⟩:=y.block z;exact(k.kK g t cs u x).trans x.symm) (fun _ h=>h)
theorem ik.cv (y:ik w mb O s r n w')(h:ag w mb O L s){L':bd} (x:ag w' mb O L' { s with stack:=r }):L'.cv=L.cv:=by
 have:=y.cell 7 (by decide);rw[x.aG.cell,h.aG.cell,x.c.c7,h.c.c7]at this
 injection this
theorem Mc.Ok.kQ (h:Ok s){l:List Int}(z:∀x∈l,bI x)(y:l.length=s.aP.length):Ok { s with aP:=l } :=
 ⟨h.stack,h.dg,z,h.store,h.dR,h.aF,h.aT,h.dL,h.aB,h.tl,h.size,h.look,h.move,h.bG,h.aL,h.aD,h.fW,h.funcs,h.jy,h.bH,h.ej,h.cX,by rw[y];exact h.iC,h.fY⟩
theorem dK.iQ {t:TypeId}{size m:Nat}{v:Value}{xs:List Value}(y:dK w O t size v m xs){g:Nat}(x:v.ownBlock=some g)(i:Nat)(u:Value):Fr O w (w.setCell ⟨g,i,none⟩ u):=(qu O w).setCell (.inl (y.2 g x)) _
theorem ag.jr (h:ag w mb O L s){g m c:Nat} (z:L.cv=.slice (some ⟨g,0,none⟩) m c) {i:Nat} (hi:i<s.aP.length) {v:Int} (x:bI v):ag (w.setCell ⟨g,i,none⟩ (Aj v)) mb O L { s with aP:=s.aP.set i v } := by
 have bU:L.cv.ownBlock=some g:=by rw[z];rfl
 have y:g≠mb:=h.cv.bz h.aG (by decide) bU;refine h.kQ (by simp) ?_ (Bp _ _ _ _ y.symm) (fun k _ _ x=>Bp _ _ _ _ (fun e=>x (by rw[bU,e]))) (fun _ h=>h) (fun k x=>by have:=h.eQ k x;simpa [World.setCell]using this) (h.ok.kQ (Ib h.ok.aP x) (by simp));rw[Gd];exact h.cv.aZ bU (by rw[Dc];exact hi) _
end
theorem Zgh (w:World)(mb:Nat)(O:Nat→Prop)(L:bd)(s:St)(h:ag w mb O L s)(a x:Int)(r:List Int)(p:s.stack=x::r) :
  Calls Tryz.prog 198 #[.pointer (some ⟨mb,0,none⟩),Aj a] w (aw w mb O (push (aK s.aP x) { s with stack:=r })):=by
 obtain⟨A,c,u,n,X⟩:=h.cv.form;have b:=h.aG.cell 7;rw[h.c.c7,u]at b;have l:Hid (∃g,(0<s.aP.length→A=some ⟨g,0,none⟩)∧∀w',ik w mb O s r 1 w'→∀(i:Nat) v,s.aP[i]?=some v→w'.cell? ⟨g,0+i,none⟩=some (Aj v)):=by
  by_cases k:0<s.aP.length
  ·obtain⟨g,P,z,_⟩:=h.cv.aK k;rw[u]at z
   injection z with z
   refine Aq ⟨g,fun _=>z,fun w' Z i v hi=>?_⟩;obtain⟨Q,U,y,_,_,_,_,d,_⟩:=(Z.row (by decide) h.cv).aK k;rw[u,z]at y
   injection y with y
   injection y with y
   injection y with y
   subst y;rw[ns];exact d i _ (Ck hi)
  ·exact Aq ⟨0,fun e=>absurd e k,fun w' _ i v hi=>by have:=(aS.1 hi).1;omega⟩
 have K:=Aq h.ok.iC;have H:=Aq h;have m:=Aq p;clear h p u n X;go_enter Tryz.func198,Tryz.ntmps198;go_wp2_with fail
 obtain⟨g,Y,j⟩:=l.o;refine(Ur w mb O L s H.o x r m.o A s.aP c g 0 K.o Y j).mono ?_;intro e V q;have f:=Aq q;obtain⟨rfl,_⟩:=q;go_wp2;go_end0;exact f.o
theorem Zbk (w:World)(mb:Nat)(O:Nat→Prop)(L:bd)(s:St)(h:ag w mb O L s)(a x:Int)(r:List Int)(z:s.stack=x::r) :
  Calls Tryz.prog 202 #[.pointer (some ⟨mb,0,none⟩),Aj a] w (aw w mb O (push (aK s.store x) { s with stack:=r })):=by
 have H:=Aq h;have d:=Aq z;have u:=h.ok.dR;have q:=Aq u;clear h z u;go_enter Tryz.func202,Tryz.ntmps202;go_wp2_with fail
 have y:=Ur w mb O L s H.o x r d.o (some ⟨mb,8,none⟩) s.store 32 mb 8 (by rw[q.o];decide) (fun _=>rfl) (fun w' f i v hi=>by obtain⟨g,k⟩:=f.ma;rw[k.aG.cell];exact k.c.st i v hi);rw[q.o]at y;refine y.mono ?_;clear y;intro e j p;have b:=Aq p;obtain⟨rfl,_⟩:=p;go_wp2;go_end0;exact b.o
theorem Sg (w:World)(mb:Nat)(O:Nat→Prop)(L:bd)(s:St)(h:ag w mb O L s)(a x y:Int)(r:List Int)(k:s.stack=y::x::r) :
  Calls Tryz.prog 200 #[.pointer (some ⟨mb,0,none⟩),Aj a] w (aw w mb O { s with stack:=r,aP:=Ip s.aP x y }):=by
 obtain⟨A,c,v,Y,Z⟩:=h.cv.form;have n:=h.aG.cell 7;rw[h.c.c7,v]at n;have q:=h.ok.iC;have X:Hid (Calls Tryz.prog 201 #[.pointer (some ⟨mb,0,none⟩),.slice A s.aP.length c] w (aw w mb O { s with stack:=r,aP:=Ip s.aP x y })):=by
  by_cases d:0≤x∧x<s.aP.length
  ·obtain⟨i,rfl⟩:∃i:Nat,x=i:=⟨x.toNat,by omega⟩;have hi:i<s.aP.length:=by omega
   obtain⟨g,S,p,_⟩:=h.cv.aK (by omega);rw[v]at p
   injection p with p
   subst p;rw[Ou hi];refine Aq (Pt w mb O L s _ h i y r k _ c g 0 q hi (fun w' b=>?_));obtain⟨U,j⟩:=b.ma;have f:=b.row (by decide) h.cv;obtain⟨B,P,z,_,_,Q,_,H,V⟩:=f.aK (by omega);rw[v]at z
   injection z with z
   injection z with z
   injection z with z
   subst z;obtain⟨u,m⟩:∃u,s.aP[i]?=some u:=⟨_,Bg hi⟩;rw[ns];exact⟨⟨U,j.jr ((b.cv h j).trans v) hi (h.ok.stack y (by rw[k];simp)),f.iQ (by rw[v];rfl) _ _⟩,⟨_,H i _ (Ck m)⟩,V i⟩
  ·rw[Ut d];exact Aq (Ud w mb O L s h x y r k A _ c q d)
 clear h k v Y Z q;go_enter Tryz.func200,Tryz.ntmps200;go_wp2_with fail
 refine X.o.mono ?_;intro e R l;have K:=Aq l;obtain⟨rfl,_⟩:=l;go_wp2;go_end0;exact K.o
theorem Zl (w:World)(mb:Nat)(O:Nat→Prop)(L:bd)(s:St)(h:ag w mb O L s)(a x y:Int)(r:List Int)(v:s.stack=y::x::r) :
  Calls Tryz.prog 203 #[.pointer (some ⟨mb,0,none⟩),Aj a] w (aw w mb O { s with stack:=r,store:=Ip s.store x y }):=by
 have p:=h.ok.dR;have f:Hid (Calls Tryz.prog 201 #[.pointer (some ⟨mb,0,none⟩),.slice (some ⟨mb,8,none⟩) 32 32] w (aw w mb O { s with stack:=r,store:=Ip s.store x y })):=by
  by_cases k:0≤x∧x<s.store.length
  ·obtain⟨i,rfl⟩:∃i:Nat,x=i:=⟨x.toNat,by omega⟩;have hi:i<s.store.length:=by omega
   rw[Ou hi];refine Aq (Pt w mb O L s _ h i y r v 32 32 mb 8 (by decide) (by omega) (fun w' g=>?_));obtain⟨j,z⟩:=g.ma;obtain⟨u,b⟩:∃u,s.store[i]?=some u:=⟨_,Bg hi⟩;exact⟨⟨_,z.aZ (z.c.kU i y (by omega)) (z.ok.dr (Ib z.ok.store (h.ok.stack y (by rw[v];simp))) (by simp;exact p) z.ok.look z.ok.move z.ok.bG z.ok.aL),z.iQ _ _⟩,⟨_,by rw[z.aG.cell];exact z.c.st i u b⟩,z.aG.frozen _⟩
  ·rw[Ut k];rw[p]at k;exact Aq (Ud w mb O L s h x y r v _ 32 32 (by decide) k)
 have m:=h.aG.lt;clear h v p;go_enter Tryz.func203,Tryz.ntmps203;go_wp2_with fail
 refine f.o.mono ?_;intro e l q;have d:=Aq q;obtain⟨rfl,_⟩:=q;go_wp2;go_end0;exact d.o
end
end Go.Proofs.YtnhebmgibiomnaaGreat

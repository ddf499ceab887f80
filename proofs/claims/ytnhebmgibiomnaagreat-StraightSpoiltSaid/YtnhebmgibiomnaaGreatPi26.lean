import Derived.Deep.CutBlock
import Derived.Deep.DeepCutAuto
import Derived.Deep.RegionHeld
import Derived.Deep.RegionLaw
import Derived.Laws.MakeOwn
import Derived.Test.YtnhebmgibiomnaaGreatPi16
set_option linter.unusedVariables false
set_option linter.unusedSimpArgs false
set_option maxRecDepth 100000
set_option maxHeartbeats 8000000
namespace Go.Proofs.YtnhebmgibiomnaaGreat
section
open Go.RowKit
theorem Vs:(Tryz.prog.info? 96).map (fun i=>(i.zero,i.size,i.bytes))=some (some (.agg #[Aj 0,Aj 0]),2,16):=by kernel_rfl
theorem Zki {w:World}{aN:Nat}{e:TypeId}{size n j:Nat}{v:Value}{xs:List Value}(h:w.ownsRow aN e size v n xs)(k:j<n*size) :
  ∃g cY,v=.slice (some ⟨g,0,none⟩) n cY∧aN≤g∧g<w.heap.size∧w.cell? ⟨g,j,none⟩=xs[j]?∧w.frozen? ⟨g,j,none⟩=false∧∀u,(w.setCell ⟨g,j,none⟩ u).ownsRow aN e size v n (xs.set j u):=by
 obtain⟨p,h|⟨g,cY,aF,rfl,y,q,a,r,s,z⟩⟩:=h
 ·obtain⟨_,rfl⟩:=h;simp at k
 ·have x:aH w g e aF:=q;refine⟨g,cY,rfl,y,x.lt,?_,x.frozen j,fun u=>⟨by simpa using p,.inr ⟨g,cY,_,rfl,y,x.aX j u,a,r,by simpa using s,?_⟩⟩⟩
  ·rw[x.cell,←z,oB,if_pos k];simp
  ·rw[qr,List.take_set,z]
def Jp (N0:Nat):Repr N0 (Int×Int):=Repr.bi Repr.int Repr.int
def Em (N0:Nat):Repr N0 (List (Int×Int)):=Repr.row 96 (Jp N0)
theorem Tu (N0:Nat)(w:World)(B:Nat)(op a:Int)(y:bK op)(x:bK a):(Jp N0).rel w B (op,a) [Aj op,Aj a]:=⟨[_],[_],rfl,⟨rfl,y⟩,rfl,x⟩
theorem Pv {N0:Nat}{w:World}{B:Nat}{x:Int×Int}{cs:List Value} (h:(Jp N0).rel w B x cs):cs=[Aj x.1,Aj x.2]:=by
 obtain⟨_,_,rfl,⟨rfl,_⟩,rfl,_⟩:=h;rfl
theorem Zgg {N0:Nat}{w:World}{B:Nat}{x:Int×Int}{cs:List Value} (h:(Jp N0).rel w B x cs):bK x.1∧bK x.2:=by
 obtain⟨_,_,rfl,⟨rfl,z⟩,rfl,y⟩:=h;exact⟨z,y⟩
theorem Kh (l:List (Int×Int)):Cu l=l.flatMap fun x=>[Aj x.1,Aj x.2]:=by
 induction l with
 |nil=>rfl
 |cons x r ih=>simp[Cu,ih]
theorem Nh {N0:Nat}{w:World}{B:Nat}{A:Option Addr} {l:List (Int×Int)} (h:af (Jp N0) 96 w B A l):aE w B 2 A l.length (Cu l):=by
 rw[Kh];exact h.iO _ fun a cs h=>Pv h
def Ints (l:List (Int×Int)):Prop:=∀x∈l,bK x.1∧bK x.2
theorem Zfk {N0:Nat}{w:World}{B:Nat}{A:Option Addr} {ll:List (List (Int×Int))} (h:af (Em N0) 24 w B A ll):cN w B A ll:=by
 obtain⟨x,P,f,Y⟩:=h;have key:∀(i:Nat) l cs,ll[i]?=some l→x[i]?=some cs→∃v,cs=[v]∧gV w B v l:=by
  intro i l cs p s;obtain⟨A,c,rfl,_,_,X⟩:=f i l cs p s;exact⟨_,rfl,A,c,rfl,Nh X⟩
 have o:∀cs∈x,cs.length=1:=by
  intro cs Z;obtain⟨i,hi⟩:=pd Z;have q:i<x.length:=(aS.1 hi).1;obtain⟨v,rfl,_⟩:=key i (ll[i]'(by omega)) cs (Bf (by omega)) hi;rfl
 obtain⟨V,a⟩:=Fb x o;refine⟨x.flatten,⟨by omega,fun U=>?_⟩,fun i l p=>?_⟩
 ·obtain⟨b,off,xs,t',m,e,g,_,K,s⟩:=Y U;refine⟨b,off,e,g,fun j u y=>?_⟩;have d:j<x.length:=by have:=(aS.1 y).1;omega
  have z:x[j]?=some (x[j]'d):=Bf d;obtain⟨v,r,_⟩:=key j (ll[j]'(by omega)) _ (Bf (by omega)) z;rw[r]at z;have k:=a j 0 [v] v z rfl;simp only[ow,oh]at k;rw[k]at y
  injection y with y
  subst y;rw[cell_of_row w b _ xs _ m K];have n:=s j 0 [v] v z rfl
  simpa [Em,Repr.row]using n
 ·have q:i<x.length:=by have:=(aS.1 p).1;omega
  obtain⟨v,r,H⟩:=key i l _ p (Bf q);refine⟨v,?_,H⟩;have k:=a i 0 [v] v (by rw[Bf q,r]) rfl
  simpa using k
theorem Dj {P:Program}(w:World){ops:Array Oper}{o:Oper}{a:Act}{K:Act→World→Prop}{Q:Exit→Act→World→Prop}{E:Prop}(X:o.guard=none)(s x:Operand)(t:TypeId)
  (F:o.op=.call { callee:=.builtin .append,args:=#[s,x],argTypes:=#[t,t] }) {N0:Nat} {α:Type} (R:Repr N0 α)
  (aN:Nat) (e:TypeId) (i:TypeInfo) (z:Value) (bytes:Nat) (U:P.underlying t=some (.slice e)) (hi:P.info? e=some i) (B:i.zero=some z)
  (Z:i.size=R.size) (G:i.bytes=bytes) (W:z.cells.size=R.size) (C:0<R.size) (m:e ∉ R.da) (T:N0≤aN)
  (v:Value) (l:List α) (N:a.eval s=v) (H:aK R e aN w v l)
  (g:Nat) (cs:List Value) (y:α) (O:a.eval x=.slice (some ⟨g,0,none⟩) 1 1) (f:aH w g e cs.toArray) (q:R.rel w w.heap.size y cs)
  (A:l.length+1≤maxLen) (I:(l.length+1)*bytes≤140737488355328) (V:aN≤w.heap.size)
  (h:∀p k w',aK R e aN w' (.slice p (l.length+1) k) (l++[y])→w.grownBy w' v.ownBlock→K (a.put o.dst (.slice p (l.length+1) k)) w') :
  if Region.wanted o (yielded ops a.tmps)=true then Oper.wp P o a w K Q else E:=by
 have D:Region.wanted o (yielded ops a.tmps)=true:=by simp[Region.wanted,X]
 rw[if_pos D];obtain⟨n,r,S,Y⟩:=H;have J:aE w w.heap.size R.size (some ⟨g,0,none⟩) 1 cs:=⟨by rw[R.len q];omega,fun _=>⟨_,_,rfl,f.lt,fun j u L=>by rw[nz,f.cell];simpa using L⟩⟩;exact Fg w s x t F aN e i z R.size bytes U hi B Z G W C v l.length n.flatten N r w.heap.size _ 1 1 cs O J (R.du q) A I V
  fun v' w' M b _=>by
   have d:=aK.push r S Y m T q M b;obtain⟨p,k,c,_⟩:=d.form;rw[Ca,om]at c;subst c;exact h p k w' d b
theorem Repr.fr {N0:Nat}{α:Type}(R:Repr N0 α){w w':World}{B:Nat}{a:α}{cs:List Value}(h:R.rel w B a cs){M:Nat}{u:TypeId}{r:Array Value} (s:Fr (fun k=>k=M) w w') (z:aH w M u r) (p:u ∉ R.da) (c:N0≤M):R.rel w' B a cs :=
 R.aQ h fun g t xs b _ y x=>by
  have v:g<w.heap.size:=(bO.1 x).1;rw[s.block g v]
  ·exact x
  ·rintro rfl;rcases y with y|y
   ·omega
   ·unfold aH at z;rw[z]at x
    injection x with x
    injection x with _ q
    exact p (q ▸ y)
theorem aK.fr {N0:Nat}{α:Type}{R:Repr N0 α}{t:TypeId}{aN:Nat}{w w':World}{v:Value}{l:List α}(h:aK R t aN w v l){M:Nat}{p:TypeId}{a:Array Value} (u:Fr (fun k=>k=M) w w') (z:aH w M p a) (r:p ∉ t::R.da) (c:N0≤M):aK R t aN w' v l :=
 h.aQ u.size fun g t xs b y x=>by
  have q:g<w.heap.size:=(bO.1 x).1;rw[u.block g q]
  ·exact x
  ·rintro rfl;rcases y with y|y
   ·omega
   ·unfold aH at z;rw[z]at x
    injection x with x
    injection x with _ s
    exact r (s ▸ y)
theorem Repr.setCell {N0:Nat}{α:Type}(R:Repr N0 α){w:World}{B:Nat}{a:α}{cs:List Value}(h:R.rel w B a cs){g0:Nat}{t0:TypeId}{p:Array Value}(v:aH w g0 t0 p)(z:t0 ∉ R.da)(q:N0≤g0)(i:Nat)(u:Value):R.rel (w.setCell ⟨g0,i,none⟩ u) B a cs :=
 R.aQ h fun g t xs k _ x y=>by
  rcases x with x|x
  ·rw[Bq _ _ _ _ (by simp;omega)];exact y
  ·exact Hm v i u g t xs k (fun e=>z (e ▸ x)) y
theorem Br (w:World)(p:Addr)(u:Value):(w.setCell p u).heap.size=w.heap.size:=by simp[World.setCell]
theorem af.kV {N0:Nat}{α:Type}{R:Repr N0 α}{t:TypeId}{w:World}{B:Nat}{A:Option Addr}{l:List α}(h:af R t w B A l) :
  ∃y:List (List Value),y.length=l.length∧(∀(i:Nat) a cs,l[i]?=some a→y[i]?=some cs→R.rel w B a cs)∧aE w B R.size A l.length y.flatten:=by
 obtain⟨y,c,s,o⟩:=h;have d:∀cs∈y,cs.length=R.size:=by
  intro cs p;obtain⟨i,hi⟩:=pd p;have Z:i<y.length:=(aS.1 hi).1;exact R.len (s i (l[i]'(by omega)) cs (Bf (by omega)) hi)
 have key:∀(m:List (List Value)),(∀cs∈m,cs.length=R.size)→∀(j:Nat) u,m.flatten[j]?=some u→∃(i k:Nat) (cs:List Value),m[i]?=some cs∧cs[k]?=some u∧j=i*R.size+k:=by
  intro m
  induction m with
  |nil=>intro _ j u z;simp at z
  |cons x r ih =>
   intro e j u z;have H:=e x oP;rw[oY]at z;rcases oe j R.size with X|X
   ·rw[Ez (by omega)]at z;exact⟨0,j,x,rfl,z,by omega⟩
   ·rw[Dv (by omega),H]at z;obtain⟨i,k,cs,q,v,U⟩:=ih (fun cs p=>e cs (oT _ p)) _ _ z;exact⟨i+1,k,cs,q,v,by rw[oZ];omega⟩
 refine⟨y,c,s,by rw[(Fb y d).1,c],fun K=>?_⟩;obtain⟨b,off,xs,t',g,rfl,f,_,n,Y⟩:=o K;refine⟨b,off,rfl,f,fun j u z=>?_⟩;obtain⟨i,k,cs,q,v,rfl⟩:=key y d j u z;rw[cell_of_row w b _ xs t' g n,←mt];exact Y i k cs u q v
theorem aK.lV {N0:Nat}{α:Type}{R:Repr N0 α}{t:TypeId}{aN:Nat}{w w':World}{v v':Value}{l p:List α} {x k:List (List Value)} (H:w.ownsRow aN t R.size v l.length x.flatten) (r:x.length=l.length) (s:∀(i:Nat) a cs,l[i]?=some a→x[i]?=some cs→R.rel w w.heap.size a cs)
  (k1:k.length=p.length) (k2:∀(i:Nat) a cs,p[i]?=some a→k[i]?=some cs→R.rel w w.heap.size a cs) (j:t ∉ R.da) (X:N0≤aN)
  (m:w'.ownsRow aN t R.size v' (l.length+p.length) (x.flatten++k.flatten)) (y:w.grownBy w' v.ownBlock):aK R t aN w' v' (l++p):=by
 have o:=fun g=>aK.block (g:=g) ⟨x,H,r,s⟩
 have f:∀(g:Nat) (t':TypeId) (xs:Array Value) (b:Nat×Nat),v.ownBlock=some g→w.heap[g]?=some (.cells xs t' b)→N0≤g∧t' ∉ R.da:=by
  intro g t' xs b e u;obtain⟨Z,_,Y,K⟩:=o g e;rw[K]at u
  injection u with u
  injection u with _ n
  exact⟨by omega,n ▸ j⟩
 refine⟨x++k,by simpa using m,by simp[r,k1],fun i c d q z=>?_⟩;rcases oe i l.length with hi|hi
 ·rw[Ez hi]at q;rw[Ez (by omega)]at z;exact R.aY (R.grown (s i c d q z) y f) y.size
 ·rw[Dv hi]at q;rw[Dv (by omega),r]at z;exact R.aY (R.grown (k2 _ c d q z) y f) y.size
theorem af.du {N0:Nat}{α:Type}{R:Repr N0 α}{w:World}{B:Nat}{l:List α} {x:List (List Value)} (p:x.length=l.length) (z:∀(i:Nat) a cs,l[i]?=some a→x[i]?=some cs→R.rel w B a cs):∀u∈x.flatten,u.oneCell'=true:=by
 intro u y;obtain⟨cs,v,y⟩:=List.mem_flatten.1 y;obtain⟨i,hi⟩:=pd v;have k:i<x.length:=(aS.1 hi).1;exact R.du (z i (l[i]'(by omega)) cs (Bf (by omega)) hi) u y
theorem Gb {P:Program}(w:World){ops:Array Oper}{rest:List Oper}{o:Oper}{a:Act}{Q:Exit→Act→World→Prop}(g:o.guard=none)(s x:Operand)(t:TypeId)
  (C:o.op=.call { callee:=.builtin .append,args:=#[s,x],argTypes:=#[t,t] }) {N0:Nat} {α:Type} (R:Repr N0 α)
  (aN:Nat) (e:TypeId) (i:TypeInfo) (z:Value) (bytes:Nat) (X:P.underlying t=some (.slice e)) (hi:P.info? e=some i) (S:i.zero=some z)
  (K:i.size=R.size) (D:i.bytes=bytes) (L:z.cells.size=R.size) (B:0<R.size) (d:e ∉ R.da) (J:N0≤aN)
  (v:Value) (l:List α) (G:a.eval s=v) (j:aK R e aN w v l)
  (A:Option Addr) (m c:Nat) (k:List α) (M:k.length=m) (I:a.eval x=.slice A m c) (n:TypeId) (O:af R n w w.heap.size A k)
  (V:l.length+m≤maxLen) (E:(l.length+m)*bytes≤140737488355328) (Y:aN≤w.heap.size)
  (h:∀u y w',aK R e aN w' (.slice u (l.length+m) y) (l++k)→w.grownBy w' v.ownBlock→wpList P ops Q rest (a.put o.dst (.slice u (l.length+m) y)) w'):wpList P ops Q (o::rest) a w:=by
 subst M;obtain⟨f,r,U,H⟩:=j;obtain⟨N,k1,k2,Z⟩:=O.kV;exact Cp w g s x t C aN e i z R.size bytes X hi S K D L B v l.length f.flatten G r w.heap.size A k.length c N.flatten I Z (af.du k1 k2) V E Y
  fun v' w' F p _=>by
   have b:=aK.lV r U H k1 k2 d J F p;obtain⟨u,y,q,_⟩:=b.form;rw[Ca]at q;subst q;exact h u y w' b p
section
variable {P : Program} (w : World)
theorem Mi (t u e:TypeId)(i:TypeInfo) (x:P.underlying t=some (.slice e)) (hi:P.info? e=some i) (z:Addr) (n c0:Nat) (y:n≤c0) (A:Option Addr) (c:Nat) :
  (Builtin.append_ #[t,t] u #[.slice (some z) n c0,.slice A 0 c]).run P w=.ok (.slice (some z) n c0) w:=by
 cases A with
 |none=>simp[Builtin.append_,run_underlying x,sizeOf,typeInfo,hi,Builtin.lenOf,Builtin.firstCells,y,storeCells]
 |some a=>simp[Builtin.append_,run_underlying x,sizeOf,typeInfo,hi,Builtin.lenOf,Builtin.firstCells,y,storeCells,loadCells,loadCellsFrom]
theorem Pc {N0:Nat}{α:Type}(R:Repr N0 α)(t K e:TypeId)(i:TypeInfo)(z:Value)(bytes:Nat) (V:P.underlying t=some (.slice e)) (hi:P.info? e=some i) (N:i.zero=some z)
  (Z:i.size=R.size) (O:i.bytes=bytes) (_hzs:z.cells.size=R.size)
  (A:Option Addr) (n:Nat) (l:List α) (T:l.length=n) (G:0<n) (E:af R e w w.heap.size A l)
  (X:Option Addr) (m c2:Nat) (v:List α) (f:v.length=m) (F:TypeId) (I:af R F w w.heap.size X v) (g:n+m≤maxLen) (hc:(n+m)*bytes≤140737488355328) :
  ∃B c w',(Builtin.append_ #[t,t] K #[.slice A n n,.slice X m c2]).run P w=.ok (.slice B (n+m) c) w'∧n+m≤c∧c≤maxLen∧af R e w' w'.heap.size B (l++v)∧Below w.heap.size w w':=by
 subst T f;obtain⟨p,S,U,D⟩:=E.kV;obtain⟨q,k1,k2,Q⟩:=I.kV;obtain⟨b,off,rfl,hb,M⟩:=D.2 G;have C:∀(d a j:Nat),(⟨d,a,none⟩:Addr).add j=⟨d,a+j,none⟩:=fun d a j=>by unfold Addr.add;split <;> simp_all
 rcases oQ v.length with o|o
 ·have f:v=[]:=pu o;subst f;refine⟨_,l.length,w,Mi w t K e i V hi _ _ _ Aw X c2,by simp,by simp at g;omega,by simpa using E,aI⟩
 ·obtain⟨b2,W,rfl,hy,L⟩:=Q.2 o;have hr:=run_append_grow (P:=P) w t K e i z V hi N ⟨b,off,none⟩ l.length l.length p.flatten (by rw[Z];exact D.1) (fun j u H=>by rw[C];exact M j u H) ⟨b2,W,none⟩ v.length c2 q.flatten (by rw[Z];exact Q.1) (fun j u H=>by rw[C];exact L j u H) (by omega) (by unfold maxLen at g;omega) (by rw[O];exact growslice_fits (by omega) hc);refine⟨_,_,_,hr,grownCap_ge _ _ _ _,grownCap_le_maxLen _ _ _ _ g,?_,((ny w.heap.size w).drew).alloc Aw _⟩;have Y:Below w.heap.size w (w.drew.alloc (.cells (p.flatten.toArray++q.flatten.toArray++Builtin.zeroCells z.cells (grownCap w (l.length+v.length) l.length e-(l.length+v.length))) e)):=((ny w.heap.size w).drew).alloc Aw _;have hj:∀cs∈p++q,cs.length=R.size:=by
   intro cs l2;rcases List.mem_append.1 l2 with k|k
   ·obtain⟨j,x⟩:=pd k;have s:j<p.length:=(aS.1 x).1;exact R.len (U j (l[j]'(by omega)) cs (Bf (by omega)) x)
   ·obtain⟨j,x⟩:=pd k;have s:j<q.length:=(aS.1 x).1;exact R.len (k2 j (v[j]'(by omega)) cs (Bf (by omega)) x)
  obtain⟨f1,f2⟩:=Fb _ hj;refine⟨p++q,by simp[S,k1],?_,fun _=>⟨w.heap.size,0,_,e,(0,0),rfl,by simp,.inr rfl,heap_alloc_new w.drew _,?_⟩⟩
  ·intro j y cs r k;rcases oe j l.length with x|x
   ·rw[Ez x]at r;rw[Ez (by omega)]at k;exact R.aY (R.below (U j y cs r k) Y Aw) (by simp)
   ·rw[Dv x]at r;rw[Dv (by omega),S]at k;exact R.aY (R.below (k2 _ y cs r k) Y Aw) (by simp)
  ·intro J j cs u ha x;have:=f2 J j cs u ha x;rw[pQ]at this;have s:=(aS.1 this).1;rw[nz,Array.getElem?_append_left (by simpa using s)]
   simpa using this
theorem Ie {o:Oper}{a:Act}{K:Act→World→Prop}{Q:Exit→Act→World→Prop}(s x:Operand)(t:TypeId)
  (X:o.op=.call { callee:=.builtin .append,args:=#[s,x],argTypes:=#[t,t] }) {N0:Nat} {α:Type} (R:Repr N0 α) (e:TypeId) (i:TypeInfo) (z:Value) (bytes:Nat) (r:P.underlying t=some (.slice e)) (hi:P.info? e=some i) (j:i.zero=some z)
  (q:i.size=R.size) (U:i.bytes=bytes) (C:z.cells.size=R.size)
  (A:Option Addr) (n:Nat) (l:List α) (V:l.length=n) (b:0<n) (S:a.eval s=.slice A n n) (D:af R e w w.heap.size A l)
  (k:Option Addr) (m c2:Nat) (v:List α) (d:v.length=m) (B:a.eval x=.slice k m c2) (p:TypeId) (f:af R p w w.heap.size k v) (g:n+m≤maxLen) (E:(n+m)*bytes≤140737488355328)
  (h:∀u y w',n+m≤y→y≤maxLen→af R e w' w'.heap.size u (l++v)→Below w.heap.size w w'→K (a.put o.dst (.slice u (n+m) y)) w'):o.wp P a w K Q:=by
 obtain⟨u,y,w',Z,Y,c,F,H⟩:=Pc (P:=P) w R t o.type e i z bytes r hi j q U C A n l V b D k m c2 v d p f g E;unfold Oper.wp execOp;simp only[X,resolve,invoke,builtin,Sem.run_bind,Sem.run_pure,Result.andThen_ok,List.map_toArray,oD,oR,S,B,Z];exact h u y w' Y c F H
end
end
section
open Go.RowKit
theorem My {n:Nat}(u:Value):∀(y:List (List Value)),(∀cs∈y,cs.length=n)→∀(i j:Nat) (cs:List Value),y[i]?=some cs→j<n→y.flatten.set (i*n+j) u=(y.set i (cs.set j u)).flatten
 | [],_,i,j,cs,h,_=>by simp at h
 |x::r,h,i,j,cs,hi,hj=>by
  have k:=h x oP;cases i with
  |zero =>
   simp only[Ay,Bw]at hi;subst hi;simp only[oY,oV,Nat.zero_mul,nz];rw[List.set_append_left _ _ (by omega)]
  |succ i =>
   simp only[Ba]at hi;have z:=My u r (fun cs v=>h cs (oT _ v)) i j cs hi hj;simp only[oY,oE];rw[oS _ _ (by rw[oZ];omega),show (i+1)*n+j-x.length=i*n+j by rw[oZ];omega,z]
section
variable {N0 : Nat} {α : Type} {R : Repr N0 α} {t : TypeId} {aN : Nat} {w : World} {v : Value} {l : List α}
theorem aK.elem (h:aK R t aN w v l){i:Nat}{a:α} (p:l[i]?=some a) :
  ∃g cY xs cs,v=.slice (some ⟨g,0,none⟩) l.length cY∧aN≤g∧g<w.heap.size∧aH w g t xs∧R.rel w w.heap.size a cs∧(∀(j:Nat) u,cs[j]?=some u→w.cell? ⟨g,i*R.size+j,none⟩=some u)∧(∀j,w.frozen? ⟨g,j,none⟩=false):=by
 obtain⟨y,c,s,z⟩:=h;have H:i<l.length:=(aS.1 p).1;have b:=aK.jP s z;obtain⟨n,f⟩:=Fb y b;have k:y[i]?=some (y[i]'(by omega)):=Bf (by omega);rcases c.2 with⟨rfl,m⟩|⟨g,cY,aF,rfl,r,d,o,K,_,q⟩
 ·omega
 ·have x:aH w g t aF:=d;refine⟨g,cY,aF,_,rfl,r,x.lt,x,z i a _ p k,fun j u e=>?_,x.frozen⟩;have:=f i j _ u k e;rw[←q,oB]at this;split at this
  ·rw[x.cell];simpa using this
  ·cases this
theorem aK.upd (h:aK R t aN w v l){i j:Nat}{a a':α} (o:l[i]?=some a) (B:j<R.size) (u:Value) (H:t ∉ R.da) (E:N0≤aN) (P:∀cs,R.rel w w.heap.size a cs→R.rel w w.heap.size a' (cs.set j u)) {g n cY:Nat} (r:v=.slice (some ⟨g,0,none⟩) n cY) :
  aK R t aN (w.setCell ⟨g,i*R.size+j,none⟩ u) v (l.set i a'):=by
 obtain⟨p,f,c,q⟩:=h;have D:i<l.length:=(aS.1 o).1;have U:=aK.jP c q;have m:p[i]?=some (p[i]'(by omega)):=Bf (by omega);have K:i*R.size+j<l.length*R.size:=by
  have:(i+1)*R.size≤l.length*R.size:=pD _ (by omega);rw[oZ]at this;omega
 have A:∃aF,aH w g t aF∧aN≤g:=by
  rcases f.2 with⟨x,_⟩|⟨d,X,aF,x,Z,V,_⟩
  ·rw[r]at x;cases x
  ·rw[r]at x;injection x with x;injection x with x;injection x with x;subst x;exact⟨aF,V,Z⟩
 obtain⟨aF,Y,C⟩:=A;obtain⟨d,X,s,_,_,_,_,S⟩:=Zki f K;have Q:g=d:=by rw[r]at s;injection s with x;injection x with x;injection x with x
 subst Q;refine⟨p.set i ((p[i]'(by omega)).set j u),?_,by simp[c],fun k b cs y z=>?_⟩
 ·rw[←My u p U i j _ m B]
  simpa using S u
 ·rw[Br];refine R.setCell ?_ Y H (by omega) _ _;by_cases e:i=k
  ·subst e;rw[pO (by omega)]at y z
   injection y with y
   injection z with z
   subst y z;exact P _ (q i a _ o m)
  ·rw[List.getElem?_set_ne e]at y z;exact q k b cs y z
theorem aK.aG (h:aK R t aN w v l){g n cY:Nat} (y:v=.slice (some ⟨g,0,none⟩) n cY):aN≤g∧∃xs,aH w g t xs:=by
 obtain⟨p,z,_,_⟩:=h;rcases z.2 with⟨x,_⟩|⟨r,q,aF,x,k,u,_⟩
 ·rw[y]at x;cases x
 ·rw[y]at x;injection x with x;injection x with x;injection x with x;subst x;exact⟨k,aF,u⟩
theorem aK.cZ (h:aK R t aN w v l){k:Nat}{t0:TypeId}{xs:Array Value}(b:aH w k t0 xs)(p:∀x,v.ownBlock=some x→x≠k)(r:t0 ∉ R.da)(n:N0≤k)(i:Nat)(u:Value):aK R t aN (w.setCell ⟨k,i,none⟩ u) v l:=by
 obtain⟨q,y,c,s⟩:=h;refine⟨q,⟨y.1,?_⟩,c,fun j a cs f o=>?_⟩
 ·rcases y.2 with h|⟨g,cY,aF,z,m,d,e⟩
  ·exact .inl h
  ·exact .inr ⟨g,cY,aF,z,m,by rw[Bq _ _ _ _ (by have:=p g (by rw[z];rfl);simpa using this)];exact d,e⟩
 ·rw[Br];exact R.setCell (s j a cs f o) b r n _ _
theorem aK.mI (h:aK R t aN w v l)(q:N0≤aN)(g:Nat)(t':TypeId)(xs:Array Value)(y:Nat×Nat)(e:v.ownBlock=some g) (x:w.heap[g]?=some (.cells xs t' y)):N0≤g∧t'=t:=by
 obtain⟨p,_,k,z⟩:=h.block e;rw[z]at x
 injection x with x
 injection x with _ u
 exact⟨by omega,u.symm⟩
theorem aK.apart {β:Type}{S:Repr N0 β}{w':World}{y:Nat}{x:TypeId}{z:Value}{u:List β}(h:aK S x y w z u)(k:aK R t aN w v l)(r:w.grownBy w' v.ownBlock)(c:N0≤aN)(p:t ∉ x::S.da):aK S x y w' z u :=
 h.grown r fun g t' xs s e b=>by obtain⟨a,q⟩:=k.mI c g t' xs s e b;exact⟨a,q ▸ p⟩
end
theorem Repr.apart {N0:Nat}{β:Type}(S:Repr N0 β){α:Type}{R:Repr N0 α}{t:TypeId}{aN:Nat}{w:World}{v:Value}{l:List α}{w':World}{B:Nat}{b:β}{cs:List Value}(h:S.rel w B b cs)(k:aK R t aN w v l)(z:w.grownBy w' v.ownBlock)(r:N0≤aN)(x:t ∉ S.da):S.rel w' B b cs :=
 S.grown h z fun g t' xs u e q=>by obtain⟨p,y⟩:=k.mI r g t' xs u e q;exact⟨p,y ▸ x⟩
end
section
open Go.RowKit
structure cX where
 M:Nat
 B:Nat
 sA:Option Addr
 sn:Nat
 sc:Nat
 c2:Value
 c3:Value
 c4:Value
 c5:Value
 c6:Value
 c7:Value
 c8:Value
 c9:Value
 fS:Value
 fa:Value
def Mk (w:World)(m:cX):Prop :=
 ∃aL:Nat,aL≤m.sn∧m.sn≤1000000000000∧m.B≤m.M∧aH w m.M 121 #[.slice m.sA m.sn m.sc,Aj aL,m.c2,m.c3,m.c4,m.c5,m.c6,m.c7,m.c8,m.c9,m.fS,m.fa] ∧
  ∃xs:List Int,aE w m.B 1 m.sA m.sn (xs.map (Value.int .i64))∧∀x∈xs,bK x
theorem Mk.lt {w:World}{m:cX}(h:Mk w m):m.M<w.heap.size:=by
 obtain⟨_,_,_,_,x,_⟩:=h;exact x.lt
theorem Mk.cells {w:World}{m:cX}(h:Mk w m) :
  (∀i,2≤i→w.cell? ⟨m.M,i,none⟩=(#[m.c2,m.c3,m.c4,m.c5,m.c6,m.c7,m.c8,m.c9,m.fS,m.fa]:Array Value)[i-2]?)∧∀i,w.frozen? ⟨m.M,i,none⟩=false:=by
 obtain⟨_,_,_,_,x,_⟩:=h;refine⟨fun i hi=>?_,x.frozen⟩;rw[x.cell];obtain⟨j,rfl⟩:∃j,i=j+2:=⟨i-2,by omega⟩;simp
abbrev dY (M:Nat)(w w':World):Prop:=Fr (fun k=>k=M) w w'
def Zhc (m:cX)(n:Int)(w:World)(e:Ending)(w':World):Prop :=
 ∃r:Int,0≤r∧r<n∧e=.returned (Aj r)∧Mk w' m∧dY m.M w w'∧w'.heap.size=w.heap.size
theorem Bk (w:World)(m:cX)(n:Int)(h:Mk w m)(W:1≤n)(Q:n≤1000000000) :
  Calls Tryz.prog 56 #[.pointer (some ⟨m.M,0,none⟩),Aj n] w (Zhc m n w):=by
 obtain⟨M,B,C,z,T,D,G,c4,I,c6,A,V,R,fS,fa⟩:=m;obtain⟨aL,i,r,v,y,xs,q,a⟩:=h;simp only at i r v y q a ⊢;have J:=y.lt;have l:=y.cell 0;have H:=y.cell 1;have S:=y.frozen 1;simp only[Az,Ay,Ba]at l H;have e:=Aq y;have u:=Aq q;have c:=Aq a;clear y q a;by_cases Z:aL<z
 ·obtain⟨b,off,rfl,O,f⟩:=u.o.2 (by omega);have j:xs.length=z:=by have:=u.o.1;simpa using this
  obtain⟨x,s⟩:∃x,xs[aL]?=some x:=⟨_,Bf (by omega)⟩;have E:=f aL (Aj x) (by rw[Cd,s];rfl);have K:=c.o x (Bz s);unfold bK at K;have F : -n<x.tmod n:=by have:=Int.lt_tmod_of_pos x (show 0<n by omega);omega
  have L:x.tmod n<n:=Int.tmod_lt_of_pos x (by omega);have U:b≠M:=by omega
  have Y:b<w.heap.size:=by omega
  have d:0≤(x.tmod n+n) % n∧(x.tmod n+n) % n<n:=⟨pm _ (by omega),po _ (by omega)⟩;have N:(0:Int)≤(aL:Int):=by omega
  have P:(aL:Int)<(z:Int):=by omega
  clear f s j;go_enter Tryz.func56,Tryz.ntmps56;go_wp2_with fail
  go_quiet (fail);obtain⟨p,g⟩:∃p,p=nq:=⟨_,rfl⟩;rw[←g];clear g;go_wp2_with fail
  go_quiet (fail);go_wp2_with fail
  go_ret;refine⟨_,d.1,d.2,rfl,⟨aL+1,by show aL+1≤z;omega,r,v,?_,xs,(u.o.drewN _).setCell v _,c.o⟩,((qF (fun k=>k=M) w).drewN _).setCell (.inl rfl) _,by simp[World.setCell]⟩;have:=(e.o.drewN (p+nq)).aX 1 (Aj ((aL:Int)+1))
  simpa using this
 ·have X:(z:Int)≤(aL:Int):=by omega
  go_enter Tryz.func56,Tryz.ntmps56;go_wp2_with fail
  go_quiet (fail);go_wp2_with fail
  go_ret;exact⟨0,by omega,by omega,rfl,⟨aL,i,r,v,e.o.drewN _,xs,u.o.drewN _,c.o⟩,(qF _ w).drewN _,rfl⟩
def Gr (N0:Nat):Repr N0 (Int×Int×Bool):=Repr.bi Repr.int (Repr.bi Repr.int Repr.bool)
def Ep (N0:Nat):Repr N0 (List Int):=Repr.row 3 Repr.int
def Cz (N0:Nat):Repr N0 (List (Int×Int×Bool)×List Int):=Repr.bi (Repr.row 230 (Gr N0)) (Ep N0)
theorem Qy (N0:Nat)(w:World)(B:Nat)(x y:Int)(b:Bool)(u:bK x)(z:bK y):(Gr N0).rel w B (x,y,b) [Aj x,Aj y,.bool b]:=⟨[_],[_,_],rfl,⟨rfl,u⟩,[_],[_],rfl,⟨rfl,z⟩,rfl⟩
theorem Xn:(Tryz.prog.info? 230).map (fun i=>(i.zero,i.size,i.bytes))=some (some (.agg #[Aj 0,Aj 0,.bool false]),3,24):=by kernel_rfl
theorem Io:(Tryz.prog.info? 3).map (fun i=>(i.zero,i.size,i.bytes))=some (some (Aj 0),1,8):=by kernel_rfl
section
variable (N0 : Nat) (m : cX) (w0 : World)
structure fC (ob:Nat) (wx:World) (vp ve:Value) (l:List (Int×Int×Bool)) (es:List Int):Prop where
 box:aH wx ob 68 #[vp,ve]
 bu:aK (Gr N0) 230 w0.heap.size wx vp l
 aJ:aK (Repr.int (N0:=N0)) 3 w0.heap.size wx ve es
 am:Mk wx m
 fr:dY m.M w0 wx
 bU:w0.heap.size≤ob
 hM:N0≤m.M∧m.M<w0.heap.size
end
section
variable {N0 : Nat} {m : cX} {w0 wx wy : World} {ob : Nat} {vp ve : Value} {l : List (Int × Int × Bool)} {es : List Int}
theorem fC.next (h:fC N0 m w0 ob wx vp ve l es)(z:Mk wy m)(x:dY m.M wx wy):fC N0 m w0 ob wy vp ve l es:=by
 have u:=h.am;obtain⟨aL,_,_,_,y,_⟩:=u;have hM:=h.hM;have bU:=h.bU;exact⟨x.aG h.box (by omega),h.bu.fr x y (by simp[Gr,Repr.bi,Repr.int,Repr.bool]) hM.1,h.aJ.fr x y (by simp[Repr.int]) hM.1,z,h.fr.trans x,bU,hM⟩
theorem fC.alloc (h:fC N0 m w0 ob wx vp ve l es)(o:Obj):fC N0 m w0 ob (wx.alloc o) vp ve l es:=by
 obtain⟨aL,z,v,y,x,xs,u,k⟩:=h.am;have p:=x.lt;exact⟨h.box.alloc o,h.bu.below (aI.alloc Aw _) Aw,h.aJ.below (aI.alloc Aw _) Aw,⟨aL,z,v,y,x.alloc o,xs,u.alloc (by omega) o,k⟩,h.fr.alloc o,h.bU,h.hM⟩
theorem fC.drew (h:fC N0 m w0 ob wx vp ve l es):fC N0 m w0 ob wx.drew vp ve l es :=
 ⟨h.box,h.bu.below (ny wx.heap.size wx).drew Aw,h.aJ.below (ny wx.heap.size wx).drew Aw,h.am,h.fr.drew,h.bU,h.hM⟩
theorem Fs (x:Int):bK (IntKind.i64.wrap x):=by rw[IntKind.wrap_i64];unfold bK;omega
theorem Mk.grown {α:Type}{R:Repr N0 α}{t:TypeId}{aN:Nat}{v:Value}{l:List α}(h:Mk wx m)(y:aK R t aN wx v l)(x:wx.grownBy wy v.ownBlock)(u:121≠t)(b:m.M<aN):Mk wy m:=by
 obtain⟨aL,a,r,k,z,xs,q,s⟩:=h;refine⟨aL,a,r,k,z.bj y x u,xs,q.aQ fun p d=>?_,s⟩;exact pW (w:=wx) (x.block p.block (by have:=z.lt;omega) fun e=>by obtain⟨c,_⟩:=y.block e.symm;omega)
theorem Mk.alloc (h:Mk wx m)(o:Obj):Mk (wx.alloc o) m:=by
 obtain⟨aL,z,v,y,x,xs,u,k⟩:=h;have p:=x.lt;exact⟨aL,z,v,y,x.alloc o,xs,u.alloc (by omega) o,k⟩
theorem Mk.setCell (h:Mk wx m){p:Addr}(r:m.M<p.block)(u:Value):Mk (wx.setCell p u) m:=by
 obtain⟨aL,y,v,x,k,xs,z,q⟩:=h;exact⟨aL,y,v,x,k.cZ (by omega) u,xs,z.setCell (by omega) u,q⟩
theorem Fr.dt {M:Nat}{row:Option Nat}(h:dY M w0 wx)(x:wx.grownBy wy row)(z:∀g,row=some g→w0.heap.size≤g):dY M w0 wy :=
 ⟨x.os.trans h.os,x.tape.trans h.tape,x.output.trans h.output,Ex h.size x.size,fun k y u=>(x.block k (Dq y h.size) fun e=>by have:=z k e.symm;omega).trans (h.block k y u)⟩
theorem fC.push (h:fC N0 m w0 ob wx vp ve l es){o:Obj}{v:Option Addr}{n' y:Nat} {l':List (Int×Int×Bool)} (q:aK (Gr N0) 230 w0.heap.size wy (.slice v n' y) l') (u:(wx.alloc o).grownBy wy vp.ownBlock) :
  aH wy ob 68 #[vp,ve]∧fC N0 m w0 ob (wy.setCell ⟨ob,0,none⟩ (.slice v n' y)) (.slice v n' y) ve l' es:=by
 have x:=h.alloc o;have hM:=h.hM;have bU:=h.bU;have z:=x.box.bj x.bu u (by decide);have s:aK (Repr.int (N0:=N0)) 3 w0.heap.size wy ve es:=x.aJ.grown u fun g t' xs a e k=>by
  obtain⟨b,_,c,r⟩:=x.bu.block e;rw[r]at k
  injection k with k
  injection k with _ p
  subst p;exact⟨by omega,by simp[Repr.int]⟩
 refine⟨z,⟨by simpa using z.aX 0 (.slice v n' y),q.setCell z (by simp[Gr,Repr.bi,Repr.int,Repr.bool]) (by omega) 0 _,s.setCell z (by simp[Repr.int]) (by omega) 0 _,(x.am.grown x.bu u (by decide) (by omega)).setCell (by simp;omega) _,?_,bU,hM⟩⟩;exact(x.fr.dt u fun g e=>(x.bu.block e).1).setCell (.inr bU) _
theorem fC.pushE (h:fC N0 m w0 ob wx vp ve l es){o:Obj}{v:Option Addr}{n' y:Nat}{p:List Int} (r:aK (Repr.int (N0:=N0)) 3 w0.heap.size wy (.slice v n' y) p) (u:(wx.alloc o).grownBy wy ve.ownBlock) :
  aH wy ob 68 #[vp,ve]∧fC N0 m w0 ob (wy.setCell ⟨ob,1,none⟩ (.slice v n' y)) vp (.slice v n' y) l p:=by
 have x:=h.alloc o;have hM:=h.hM;have bU:=h.bU;have z:=x.box.bj x.aJ u (by decide);have a:aK (Gr N0) 230 w0.heap.size wy vp l:=x.bu.grown u fun g t' xs b e k=>by
  obtain⟨c,_,d,s⟩:=x.aJ.block e;rw[s]at k
  injection k with k
  injection k with _ q
  subst q;exact⟨by omega,by simp[Gr,Repr.bi,Repr.int,Repr.bool]⟩
 refine⟨z,⟨by simpa using z.aX 1 (.slice v n' y),a.setCell z (by simp[Gr,Repr.bi,Repr.int,Repr.bool]) (by omega) 1 _,r.setCell z (by simp[Repr.int]) (by omega) 1 _,(x.am.grown x.aJ u (by decide) (by omega)).setCell (by simp;omega) _,?_,bU,hM⟩⟩;exact(x.fr.dt u fun g e=>(x.aJ.block e).1).setCell (.inr bU) _
end
end
section
open Go.RowKit
def Nl (N0:Nat)(m:cX)(w0:World)(ob a b:Nat)(wx:World):Prop:=∃vp ve l es,fC N0 m w0 ob wx vp ve l es∧l.length≤a∧es.length≤b
def Zle (N0:Nat)(m:cX)(w:World)(e:Ending)(w':World):Prop :=
 ∃vp ve l es,e=.returned (.agg #[vp,ve])∧(Cz N0).rel w' w'.heap.size (l,es) [vp,ve]∧l.length≤10∧es.length≤2∧Mk w' m∧dY m.M w w'
theorem Tj (N0:Nat)(m:cX)(w:World)(h:Mk w m)(hN:N0≤m.M) :
  Calls Tryz.prog 84 #[.pointer (some ⟨m.M,0,none⟩)] w (Zle N0 m w):=by
 obtain⟨i0,hi,W,hl,HI⟩:=info_parts Xn;obtain⟨i1,ji,y0,y7,b1⟩:=info_parts Io;have z5:=h.lt;have y3:=Aq h;clear h;go_enter Tryz.func84,Tryz.ntmps84;go_wp2_with fail
 obtain⟨w0,Y⟩:∃w0,w0=w.alloc (.cells #[.slice none 0 0,.slice none 0 0] 68):=⟨_,rfl⟩;have hz:w0.heap.size=w.heap.size+1:=by rw[Y];simp
 have J:Mk (w0.alloc (.cells #[.slice none 0 0,.slice none 0 0] 68)) m:=by
  obtain⟨aL,ha,hs,x9,hb,xs,hr,hx⟩:=y3.o;rw[Y];exact⟨aL,ha,hs,x9,(hb.alloc _).alloc _,xs,(hr.alloc (by omega) _).alloc (by simp;omega) _,hx⟩
 have he:aH w0 w.heap.size 68 #[.slice none 0 0,.slice none 0 0]:=by rw[Y];exact qG _ _ _
 have N:fC N0 m w0 (w.heap.size+1) (w0.alloc (.cells #[.slice none 0 0,.slice none 0 0] 68)) (.slice none 0 0) (.slice none 0 0) [] [] :=
  ⟨qH _ _ _ (by omega),qJ _ _ _ _,qJ _ _ _ _,J,(qF _ _).alloc _,by omega,hN,by omega⟩
 have w3:dY m.M w w0:=by rw[Y];exact(qF _ _).alloc _
 rw[←Y];have F:=Aq N;have x6:=Aq he;clear Y N J;refine(Bk _ m 3 F.o.am (by omega) (by omega)).mono ?_;rintro e w1⟨n,z6,z2,rfl,X,H,-⟩;have c2:=F.o.next X H;have Q:Hid (Nl N0 m w0 (w.heap.size+1) 0 0 w1):=⟨_,_,_,_,c2,by simp,by simp⟩;clear F c2 X H;go_wp2_with fail
 go_loopw [5] (fun i wr=>∃k:Nat,k≤n.toNat∧i=Aj k∧Nl N0 m w0 (w.heap.size+1) (5*k) k wr) (fun i _=>n.toNat-(intOf i).toNat)
 case atStart=>exact⟨0,by omega,rfl,Q.o⟩
 case round =>
  clear Q;obtain⟨k,hk,rfl,I⟩:=hrel;obtain⟨vp,ve,l,es,s,G,R⟩:=I;have r:=Aq s;clear s;by_cases z3:(k:Int)<n
  ·go_wp2_with fail
   refine(Bk _ m 4 r.o.am (by omega) (by omega)).mono ?_;rintro e w2⟨q,z4,v2,rfl,j,Z,-⟩;have hK:=r.o.next j Z;have Q:Hid (Nl N0 m w0 (w.heap.size+1) (5*k) k w2):=⟨_,_,_,_,hK,G,R⟩;clear r j Z hK G R;go_wp2_with fail
   go_loopw [7] (fun i wr=>∃p:Nat,p≤(2+q).toNat∧i=Aj p∧Nl N0 m w0 (w.heap.size+1) (5*k+p) k wr) (fun i _=>(2+q).toNat-(intOf i).toNat)
   case atStart=>exact⟨0,by omega,rfl,Q.o⟩
   case round =>
    clear Q;obtain⟨p,hp,rfl,I⟩:=hrel;obtain⟨vp,ve,l,es,s,G,R⟩:=I;by_cases z0:(p:Int)<2+q
    ·go_upto_block 3 with(fail)
     go_cut [] (fun wx=>Nl N0 m w0 (w.heap.size+1) (5*k+p+1) k wx)
     case first =>
      have P:=s.drew;have b:wr.drew.cell? ⟨w.heap.size+1,0,none⟩=some vp:=by rw[P.box.cell];rfl
      have v3:l.length≤100:=by omega
      have z8:w0.heap.size≤wr.heap.size:=s.fr.size;by_cases y5:p=0
      ·subst y5;go_wp2_with fail
       refine Bv (Cl [3,7,18,19,21]) (Bm [1]) (Bm [3,7,18]) [0,1,2,6,10,11,3,4,5,7,8,9,12,13,14,15,16,17,18,19,20,21] (fun w'=>w'.cell? ⟨w.heap.size+1,0,none⟩=some vp) (by kernel_rfl) (by kernel_rfl) (by kernel_rfl) (by kernel_rfl) ?_;refine Be ?_;refine Bj b ?_
       iterate 4 (refine Be ?_)
       refine Bi fun K u=>?_;go_simp
       refine(Bk _ m _ P.am (by omega) (by omega)).mono ?_;rintro e E⟨r1,y1,x7,rfl,X,H,-⟩;have d:=P.next X H;have b:E.cell? ⟨w.heap.size+1,0,none⟩=some vp:=by rw[d.box.cell];rfl
       dsimp only;refine u _ _ (fun _=>b) ?_;clear u K;refine Be ?_;refine Be ?_;refine Bi fun K u=>?_;go_simp
       refine(Bk _ m _ d.am (by omega) (by omega)).mono ?_;rintro e D⟨r2,y4,y8,rfl,j,Z,-⟩;have c:=d.next j Z;have b:D.cell? ⟨w.heap.size+1,0,none⟩=some vp:=by rw[c.box.cell];rfl
       dsimp only;refine u _ _ (fun _=>b) ?_;clear u K
       iterate 3 (refine Be ?_)
       refine Ci rfl rfl rfl (by kernel_rfl) (fun _ _ _ h=>h) ?_;refine Ci rfl rfl rfl (by kernel_rfl) (fun _ _ _ h=>h) ?_;refine Ci rfl rfl rfl (by kernel_rfl) (fun _ _ _ h=>h) ?_;refine Be ?_;refine Be ?_;refine Bi fun K u=>?_;go_simp
       refine u _ _ (fun _=>by rw[(c.alloc _).box.cell];rfl) ?_;clear u K;refine Bi fun K u=>?_
       refine Dj _ rfl (.tmp 24) (.tmp 41) _ rfl (Gr N0) w0.heap.size 230 i0 _ 24 Tryz.underlying66 hi W hl HI rfl (show 0<3 by decide) (by simp[Gr,Repr.bi,Repr.int,Repr.bool]) (by omega) vp l rfl (c.alloc _).bu D.heap.size _ _ rfl (qG _ _ _) (Qy _ _ _ _ _ _ (Fs _) (Fs _)) (by unfold maxLen;omega) (by omega) (by simp;have:=c.fr.size;omega) ?_;intro A' c' T g V;obtain⟨a,f⟩:=c.push g V;have U:=a.cell 0;have O:=a.frozen 0;have b2:=a.lt;simp only[Az,Ay]at U;refine Bh u ?_;clear u K;refine Be ?_;refine Bi fun K u=>?_;go_simp
       refine Bh u ?_;clear u K;refine Bb ?_;go_wp2_with fail
       go_meet;exact⟨_,_,_,_,f,by simp;omega,R⟩
      ·have z1:((p:Int)==0)=false:=by simpa using (by omega:¬ (p:Int)=0)
       go_wp2_with fail
       refine Bv (Cl [3,7,14,18,19,21]) (Bm [1]) (Bm [3,7,14,18]) [0,1,2,6,10,11,3,4,5,7,8,9,12,13,14,15,16,17,18,19,20,21] (fun w'=>w'.cell? ⟨w.heap.size+1,0,none⟩=some vp) (by kernel_rfl) (by kernel_rfl) (by kernel_rfl) (by kernel_rfl) ?_;refine Be ?_;refine Bj b ?_
       iterate 4 (refine Be ?_)
       refine Bi fun K u=>?_;go_simp
       refine(Bk _ m _ P.am (by omega) (by omega)).mono ?_;rintro e E⟨r1,y1,x7,rfl,X,H,-⟩;have d:=P.next X H;have b:E.cell? ⟨w.heap.size+1,0,none⟩=some vp:=by rw[d.box.cell];rfl
       dsimp only;refine u _ _ (fun _=>b) ?_;clear u K;refine Be ?_;refine Be ?_;refine Bi fun K u=>?_;go_simp
       refine(Bk _ m _ d.am (by omega) (by omega)).mono ?_;rintro e D⟨r2,y4,y8,rfl,j,Z,-⟩;have c:=d.next j Z;have b:D.cell? ⟨w.heap.size+1,0,none⟩=some vp:=by rw[c.box.cell];rfl
       dsimp only;refine u _ _ (fun _=>b) ?_;clear u K
       iterate 4 (refine Be ?_)
       refine Bi fun K u=>?_;go_simp
       refine(Bk _ m _ c.am (by omega) (by omega)).mono ?_;rintro e b0⟨r3,v0,v4,rfl,x5,x8,-⟩;have S:=c.next x5 x8;have b:b0.cell? ⟨w.heap.size+1,0,none⟩=some vp:=by rw[S.box.cell];rfl
       dsimp only;refine u _ _ (fun _=>b) ?_;clear u K
       iterate 3 (refine Be ?_)
       refine Bi fun K u=>?_;go_simp
       refine u _ _ (fun _=>by rw[(S.alloc _).box.cell];rfl) ?_;clear u K;refine Bi fun K u=>?_
       refine Dj _ rfl (.tmp 24) (.tmp 41) _ rfl (Gr N0) w0.heap.size 230 i0 _ 24 Tryz.underlying66 hi W hl HI rfl (show 0<3 by decide) (by simp[Gr,Repr.bi,Repr.int,Repr.bool]) (by omega) vp l rfl (S.alloc _).bu b0.heap.size _ _ rfl (qG _ _ _) (Qy _ _ _ _ _ _ (Fs _) (Fs _)) (by unfold maxLen;omega) (by omega) (by simp;have:=S.fr.size;omega) ?_;intro A' c' T g V;obtain⟨a,f⟩:=S.push g V;have U:=a.cell 0;have O:=a.frozen 0;have b2:=a.lt;simp only[Az,Ay]at U;refine Bh u ?_;clear u K;refine Be ?_;refine Bi fun K u=>?_;go_simp
       refine Bh u ?_;clear u K;refine Bb ?_;go_wp2_with fail
       go_meet;exact⟨_,_,_,_,f,by simp;omega,R⟩
     case rest =>
      go_wp2_with fail
      go_roundw
      case rel=>exact⟨p+1,by omega,by go_num,hcut⟩
      case measure=>simp[intOf];omega
    ·have c1:(p:Int)=2+q:=by omega
     have z7:l.length≤100:=by omega
     obtain⟨B,C,rfl,_,_,_⟩:=s.bu.form;have x0:=s.box.cell 0;have x1:=s.box.cell 1;have x2:=s.box.lt;have x3:=s.fr.size;have hM:=s.hM;simp only[Az,Ay,Ba]at x0 x1;have r:=Aq s;have v1:=Aq c1;clear s c1;go_wp2_with (at_builtin;refine Ek _ rfl (.tmp 45) (.tmp 50) _ rfl (Repr.int (N0:=N0)) w0.heap.size 3 i1 _ 8 Tryz.underlying22 ji y0 y7 b1 rfl (show 0<1 by decide) (by simp[Repr.int]) (by omega) ve es rfl (r.o.alloc _).aJ wr.heap.size [_] ((l.length:Int)-1) rfl (qG _ _ _) ⟨rfl,(by unfold bK;omega)⟩ (by unfold maxLen;omega) (by omega) (by simp;omega) ?_;intro A' c' T g V;obtain⟨a,f⟩:=r.o.pushE g V;have U:=a.cell 1;have O:=a.frozen 1;have b2:=a.lt;simp only[Az,Ay,Ba]at U;have y6:=Aq f;clear f a g)
     exact⟨⟨k+1,by omega,by go_num,⟨_,_,_,_,y6.o,by omega,by simp;omega⟩⟩,by simp[intOf];omega⟩
  ·obtain⟨B,C,rfl,e1,e2,e3⟩:=r.o.bu.form;obtain⟨A2,L,rfl,f1,f2,f3⟩:=r.o.aJ.form;have x:=r.o.box.cell;have x2:=r.o.box.lt;have A1:=r.o.fr;have A:=A1.aG x6.o (by omega);have y:=A.cell;have z:=A.frozen;have y2:=A.lt;have hM:=r.o.hM;have z9:w.heap.size+1≠w.heap.size:=by omega
   have x4:=Aq A;clear A he;go_wp2;refine bodyPost_ret (v:=.agg #[.slice B l.length C,.slice A2 es.length L]) (by simp[results,Tryz.results84,go_sem,y]) rfl ?_;have hS:=x4.o;refine⟨_,_,l,es,rfl,?_,by omega,by omega,?_,?_⟩
   ·have hrel:(Cz N0).rel wr wr.heap.size (l,es) [.slice B l.length C,.slice A2 es.length L]:=⟨[_],[_],rfl,⟨_,_,rfl,e1,e2,e3⟩,⟨_,_,rfl,f1,f2,f3⟩⟩;have y9:=hS.aX 0 (.slice B l.length C);rw[Br,Br];exact(Cz N0).setCell ((Cz N0).setCell hrel hS (by simp[Cz,Gr,Ep,Repr.row,Repr.bi,Repr.int,Repr.bool]) (by omega) 0 _) y9 (by simp[Cz,Gr,Ep,Repr.row,Repr.bi,Repr.int,Repr.bool]) (by omega) 1 _
   ·exact(r.o.am.setCell (by simp;omega) _).setCell (by simp;omega) _
   ·exact((w3.trans A1).setCell (.inr (by simp)) _).setCell (.inr (by simp)) _
def wtI (M L:Nat)(x:Int×Int):Nat:=if x.1=37 then M else if x.1=38 then L else 1
def wt (M L:Nat):List (Int×Int)→Nat
 | []=>0
 |x::r=>wtI M L x+wt M L r
theorem Qe (M L:Nat):∀(l k:List (Int×Int)),wt M L (l++k)=wt M L l+wt M L k
 | [],k=>by simp[wt]
 |x::r,k=>by rw[oy,wt,wt,Qe M L r k];omega
def Zat (l:List (Int×Int)):Bool:=l.all fun x=>x.1 != 37 && x.1 != 38
theorem Pn {l:List (Int×Int)} (h:Zat l=true):∀x∈l,x.1≠37∧x.1≠38:=fun x y=>by
 have:=List.all_eq_true.1 h x y
 simpa using this
theorem Vh (M L:Nat):∀(l:List (Int×Int)),(∀x∈l,x.1≠37∧x.1≠38)→wt M L l=l.length
 | [],_=>rfl
 |x::r,h=>by
  have z:=h x oP;rw[wt,wtI,if_neg z.1,if_neg z.2,Vh M L r (fun y u=>h y (oT _ u)),Bp];omega
def Tg (fu:Int) (l:List (Int×Int)):Prop:=∀x∈l,(x.1=37∨x.1=38)→0≤x.2∧x.2<fu
def Wo (fu y z:Int) (l:List (Int×Int)):Prop:=Tg fu l∧((z=y∧(∀x∈l,x.1≠38)∧∀M L,9≤M→wt M L l≤M)∨(z=y-1∧0<y∧∀M L,wt M L l=L+1))
def eW (fu:Int)(k:Nat)(z y:Int) (l:List (Int×Int)):Prop:=Tg fu l∧y≤z∧(y=z→∀x∈l,x.1≠38)∧∀M D:Nat,9≤M→(wt M (M+D-1) l:Int)+y*D≤k*M+z*D
theorem Zkg {fu z:Int} (l:List (Int×Int)) (h:Zat l=true) (u:l.length≤9):Wo fu z z l :=
 ⟨fun x y v=>by have:=Pn h x y;omega,.inl ⟨rfl,fun x y=>(Pn h x y).2,fun M L k=>by rw[Vh M L l (Pn h)];omega⟩⟩
theorem eW.nil (fu z:Int):eW fu 0 z z []:=⟨fun x y=>by simp at y,pJ _,fun _ x y=>by simp at y,fun M D _=>by simp[wt]⟩
theorem eW.step {fu q v s:Int}{k:Nat} {l r:List (Int×Int)} (h:eW fu k q v l) (p:Wo fu v s r):eW fu (k+1) q s (l++r):=by
 obtain⟨d,m,i,b⟩:=h;obtain⟨g,y⟩:=p;refine⟨fun x z=>(List.mem_append.1 z).elim (d x) (g x),?_,?_,?_⟩
 ·rcases y with⟨e,_⟩|⟨e,_⟩ <;> omega
 ·intro e x z;rcases y with⟨j,f,_⟩|⟨j,_⟩
  ·exact(List.mem_append.1 z).elim (i (by omega) x) (f x)
  ·omega
 ·intro M D u;have a:=b M D u;rw[Qe];have c:((k+1:Nat):Int)*M=k*M+M:=by rw[Int.natCast_add,Int.add_mul];simp
  rw[c];rcases y with⟨rfl,_,e⟩|⟨rfl,_,e⟩
  ·have:=e M (M+D-1) u;omega
  ·have:=e M (M+D-1);rw[Int.sub_mul];omega
theorem eW.mono {fu z y:Int}{k x:Nat} {l:List (Int×Int)} (h:eW fu k z y l) (v:k≤x):eW fu x z y l :=
 ⟨h.1,h.2.1,h.2.2.1,fun M D u=>by
  have a:=h.2.2.2 M D u;have:(k:Int)*M≤(x:Int)*M:=qE (by omega) (by omega);omega⟩
def Jl (l:List (Int×Int)):Prop:=l.length≤54∧∀M D:Nat,9≤M→wt M (M+D-1) l≤5*M+2*D
theorem Zci {fu x:Int} {l:List (Int×Int)} (h:eW fu 5 2 x l) (u:0≤x) (y:l.length≤54):Jl l:=⟨y,fun M D z=>by
 have a:=h.2.2.2 M D z;have:0≤x*(D:Int):=Int.mul_nonneg u (by omega);omega⟩
def FnW (i:Nat) (f:List (Int×Int)):Prop:=Tg i f∧(∀x∈f,x.1≠38)∧∀M L,9≤M→wt M L f≤3*M
def ei (fl:List (List (Int×Int))):Prop:=(∀f∈fl,f.length≤36)∧∀i f,fl[i]?=some f→FnW i f
theorem Yx (M L L':Nat):∀(l:List (Int×Int)),(∀x∈l,x.1≠38)→wt M L l=wt M L' l
 | [],_=>rfl
 |x::r,h=>by rw[wt,wt,wtI,wtI,if_neg (h x oP),if_neg (h x oP),Yx M L L' r (fun y z=>h y (oT _ z))]
theorem nu {i:Nat}{x:Int} {l:List (Int×Int)} (h:eW i 3 0 x l) (z:0≤x):FnW i l:=by
 have e:x=0:=by have:=h.2.1;omega
 refine⟨h.1,h.2.2.1 e,fun M L y=>?_⟩;have a:=h.2.2.2 M 0 y;rw[Yx M L (M+0-1) l (h.2.2.1 e)];omega
theorem ei.push {fl:List (List (Int×Int))} {f:List (Int×Int)} (h:ei fl) (z:f.length≤36) (y:FnW fl.length f):ei (fl++[f]):=by
 refine⟨fun g x=>?_,fun i g x=>?_⟩
 ·rcases List.mem_append.1 x with x|x
  ·exact h.1 g x
  ·simp only[py]at x;subst x;exact z
 ·rw[List.getElem?_append]at x;split at x
  ·exact h.2 i g x
  ·rename_i hi;have:i-fl.length=0:=by
    by_cases e:i-fl.length=0
    ·exact e
    ·rw[ge (by simp;omega)]at x;cases x
   rw[this]at x;simp only[Ay,Bw]at x;subst x;rw[show i=fl.length by omega];exact y
theorem ei.nil:ei []:=⟨fun f x=>by simp at x,fun i f x=>by simp at x⟩
def Sd (N0:Nat)(m:cX)(w:World)(fu y:Int)(e:Ending)(w':World):Prop :=
 ∃(l:List (Int×Int)) (A:Option Addr) (c:Nat) (x:Int),e=.returned (.slice A l.length c)∧l.length≤c∧c≤maxLen∧af (Jp N0) 96 w' w'.heap.size A l∧l.length≤9∧Mk w' {m with fa:=Aj x}∧0≤x∧x≤2∧dY m.M w w'∧Wo fu y x l
theorem Yb (N0:Nat)(w:World) (l:List (Int×Int)) (hi:Ints l):af (Jp N0) 96 (w.alloc (.cells (Cu l).toArray 96)) (w.alloc (.cells (Cu l).toArray 96)).heap.size (some ⟨w.heap.size,0,none⟩) l:=by
 have z:aH (w.alloc (.cells (Cu l).toArray 96)) w.heap.size 96 ((l.map fun x=>[Value.int .i64 x.1,Value.int .i64 x.2]).flatten).toArray:=by
  rw[←qC,←Kh];exact qG _ _ _
 refine af.jR _ z (by simp) ?_;clear z;generalize (w.alloc (.cells (Cu l).toArray 96))=W;generalize W.heap.size=B
 induction l with
 |nil=>trivial
 |cons x r ih=>exact⟨Tu _ _ _ _ _ (hi x oP).1 (hi x oP).2,ih fun y u=>hi y (oT _ u)⟩
theorem Mk.gz {w:World}{m:cX}(h:Mk w m)(x:Int):Mk (w.setCell ⟨m.M,11,none⟩ (Aj x)) {m with fa:=Aj x} := by
 obtain⟨aL,z,k,y,v,xs,u,p⟩:=h;exact⟨aL,z,k,y,by simpa using v.aX 11 (Aj x),xs,u.setCell y _,p⟩
theorem Dw {N0:Nat}{m0 m:cX}{w w':World}{fu y x:Int} (l:List (Int×Int)) (h:Mk w' m) (k:dY m0.M w w') (q:m.fa=Aj x) (z:0≤x∧x≤2) (hi:Ints l) (p:l.length≤9) (u:Wo fu y x l:=by exact Zkg _ (by simp[Zat]) (by simp)) (v:m = {m0 with fa:=m.fa} := by rfl) :
  Sd N0 m0 w fu y (.returned (.slice (some ⟨w'.heap.size,0,none⟩) l.length l.length)) (w'.alloc (.cells (Cu l).toArray 96)):=by
 refine⟨l,_,_,x,rfl,Aw,by unfold maxLen;omega,Yb N0 w' l hi,p,?_,z.1,z.2,k.alloc _,u⟩;rw[←q,←v];exact h.alloc _
theorem Zav (N0:Nat)(m:cX)(w:World)(n fu b:Int)(h:Mk w m)(_hN:N0≤m.M)(x4:0≤n)(x0:n≤1000)(x8:0≤fu)(y1:fu≤1000)(U:m.fa=Aj b)(k:0≤b∧b≤2) :
  Calls Tryz.prog 83 #[.pointer (some ⟨m.M,0,none⟩),Aj n,Aj fu] w (Sd N0 m w fu b):=by
 have A:=Aq h;have v:=Aq U;clear h U;go_enter Tryz.func83,Tryz.ntmps83;go_wp2_with fail
 refine(Bk _ m _ A.o (by omega) (by omega)).mono ?_;rintro e w1⟨p,y0,x7,rfl,B,S,-⟩;have F:=Aq B;clear B A;go_wp2_with fail
 refine(Bk _ m _ F.o (by omega) (by omega)).mono ?_;rintro e w2⟨q,x2,x6,rfl,V,D,-⟩;have C:=Aq V;clear V F;go_wp2_with fail
 refine(Bk _ m _ C.o (by omega) (by omega)).mono ?_;rintro e w3⟨a,x9,w6,rfl,Y,P,-⟩;have E:=Aq Y;clear Y C;go_wp2_with fail
 refine(Bk _ m _ E.o (by omega) (by omega)).mono ?_;rintro e K⟨s,x1,x5,rfl,H,Q,-⟩;have u:dY m.M w K:=((S.trans D).trans P).trans Q;have x3:=H.lt;have z:=Aq H;clear H E S D P Q;have hs:s=0∨s=1∨s=2∨s=3∨s=4∨s=5∨s=6∨s=7∨s=8∨s=9∨s=10∨s=11:=by omega
 rcases hs with rfl|rfl|rfl|rfl|rfl|rfl|rfl|rfl|rfl|rfl|rfl|rfl
 ·go_wp2;go_ret;exact Dw [(22,a),(23,a)] z.o u v.o k (by intro x y;simp only[If,eq,or_false]at y;rcases y with rfl|rfl <;> exact⟨by unfold bK;simp only;omega,by unfold bK;simp only;omega⟩) (by simp)
 ·go_wp2_with fail
  refine(Bk _ m _ z.o (by omega) (by omega)).mono ?_;rintro e g⟨r,l,j,rfl,c,i,-⟩;have d:=Aq c;have f:dY m.M w g:=u.trans i;clear c;go_wp2;go_ret;exact Dw [(24,r)] d.o f v.o k (by intro x y;simp only[If,eq,or_false]at y;rcases y with rfl <;> exact⟨by unfold bK;simp only;omega,by unfold bK;simp only;omega⟩) (by simp)
 ·go_wp2;go_ret;exact Dw [(1,p),(1,p),(29,0),(15,0),(32,0)] z.o u v.o k (by intro x y;simp only[If,eq,or_false]at y;rcases y with rfl|rfl|rfl|rfl|rfl <;> exact⟨by unfold bK;simp only;omega,by unfold bK;simp only;omega⟩) (by simp)
 ·go_wp2;go_ret;exact Dw [(1,p),(1,p),(29,0),(15,0),(32,0)] z.o u v.o k (by intro x y;simp only[If,eq,or_false]at y;rcases y with rfl|rfl|rfl|rfl|rfl <;> exact⟨by unfold bK;simp only;omega,by unfold bK;simp only;omega⟩) (by simp)
 ·go_wp2_with fail
  refine(Bk _ m _ z.o (by omega) (by omega)).mono ?_;rintro e g⟨r,l,j,rfl,c,i,-⟩;have d:=Aq c;have f:dY m.M w g:=u.trans i;clear c;go_wp2;go_ret;exact Dw [(1,p),(1,r-100),(31,0)] d.o f v.o k (by intro x y;simp only[If,eq,or_false]at y;rcases y with rfl|rfl|rfl <;> exact⟨by unfold bK;simp only;omega,by unfold bK;simp only;omega⟩) (by simp)
 ·go_wp2;go_ret;exact Dw [(1,p),(1,q),(33,0)] z.o u v.o k (by intro x y;simp only[If,eq,or_false]at y;rcases y with rfl|rfl|rfl <;> exact⟨by unfold bK;simp only;omega,by unfold bK;simp only;omega⟩) (by simp)
 ·go_wp2;go_ret;exact Dw [(34,a)] z.o u v.o k (by intro x y;simp only[If,eq,or_false]at y;rcases y with rfl <;> exact⟨by unfold bK;simp only;omega,by unfold bK;simp only;omega⟩) (by simp)
 ·go_wp2;go_ret;exact Dw [(1,a),(1,q),(25,0),(1,3),(5,0),(26,0)] z.o u v.o k (by intro x y;simp only[If,eq,or_false]at y;rcases y with rfl|rfl|rfl|rfl|rfl|rfl <;> exact⟨by unfold bK;simp only;omega,by unfold bK;simp only;omega⟩) (by simp)
 ·by_cases HC:0<fu
  ·go_wp2_with fail
   refine(Bk _ m _ z.o (by omega) (by omega)).mono ?_;rintro e g⟨r,l,j,rfl,c,i,-⟩;have d:=Aq c;have f:dY m.M w g:=u.trans i;clear c;go_wp2;go_ret;exact Dw [(37,r)] d.o f v.o k (by intro x y;simp only[If,eq,or_false]at y;rcases y with rfl <;> exact⟨by unfold bK;simp only;omega,by unfold bK;simp only;omega⟩) (by simp) ⟨fun x y _=>by simp only[If,eq,or_false]at y;subst y;exact⟨l,j⟩,.inl ⟨rfl,fun x y=>by simp only[If,eq,or_false]at y;subst y;simp,fun M L hM=>by simp[wt,wtI]⟩⟩
  ·go_wp2;go_ret;exact Dw [(39,0),(1,16),(17,0),(36,2),(1,q),(2,0)] z.o u v.o k (by intro x y;simp only[If,eq,or_false]at y;rcases y with rfl|rfl|rfl|rfl|rfl|rfl <;> exact⟨by unfold bK;simp only;omega,by unfold bK;simp only;omega⟩) (by simp)
 ·have X:=z.o.cells.1 11 (by omega);have N:=z.o.cells.2 11;simp only[Nat.reduceSub,Az,Ba,Ay]at X;rw[v.o]at X;by_cases HC:0<fu
  ·by_cases G:0<b
   ·have c:=z.o.gz (b-1);have f:dY m.M w (K.setCell ⟨m.M,11,none⟩ (Aj (b-1))):=u.setCell (.inl rfl) _;have d:=Aq c;clear c;go_wp2_with fail
    generalize w4:K.setCell _ _=g at *;refine(Bk _ {m with fa:=Aj (b-1)} _ d.o (by omega) (by omega)).mono ?_;rintro e W⟨r,l,j,rfl,R,hx,-⟩;have w7:=Aq R;have r':dY m.M w W:=f.trans hx;clear R w4 X N;go_wp2_with fail
    refine(Bk _ {m with fa:=Aj (b-1)} _ w7.o (by omega) (by omega)).mono ?_;rintro e I⟨O,J,hc,rfl,Z,T,-⟩;have w5:=Aq Z;have lo:dY m.M w I:=r'.trans T;clear Z;go_wp2;go_ret;exact Dw (m0:=m) [(1,r),(38,O)] w5.o lo rfl ⟨(by omega:0≤b-1),(by omega:b-1≤2)⟩ (by intro x y;simp only[If,eq,or_false]at y;rcases y with rfl|rfl <;> exact⟨by unfold bK;simp only;omega,by unfold bK;simp only;omega⟩) (by simp) ⟨fun x y hh=>by simp only[If,eq,or_false]at y;rcases y with rfl|rfl;(simp at hh);exact⟨J,hc⟩,.inr ⟨rfl,G,fun M L=>by simp[wt,wtI];omega⟩⟩
   ·go_wp2;go_ret;exact Dw [(39,0),(1,16),(17,0),(36,2),(1,q),(2,0)] z.o u v.o k (by intro x y;simp only[If,eq,or_false]at y;rcases y with rfl|rfl|rfl|rfl|rfl|rfl <;> exact⟨by unfold bK;simp only;omega,by unfold bK;simp only;omega⟩) (by simp)
  ·go_wp2;go_ret;exact Dw [(39,0),(1,16),(17,0),(36,2),(1,q),(2,0)] z.o u v.o k (by intro x y;simp only[If,eq,or_false]at y;rcases y with rfl|rfl|rfl|rfl|rfl|rfl <;> exact⟨by unfold bK;simp only;omega,by unfold bK;simp only;omega⟩) (by simp)
 ·go_wp2;go_ret;exact Dw [(1,p),(30,0),(1,q),(29,0),(16,0),(36,3),(1,q),(1,64),(31,0)] z.o u v.o k (by intro x y;simp only[If,eq,or_false]at y;rcases y with rfl|rfl|rfl|rfl|rfl|rfl|rfl|rfl|rfl <;> exact⟨by unfold bK;simp only;omega,by unfold bK;simp only;omega⟩) (by simp)
 ·go_wp2;go_ret;exact Dw [(39,0),(1,16),(17,0),(36,2),(1,q),(2,0)] z.o u v.o k (by intro x y;simp only[If,eq,or_false]at y;rcases y with rfl|rfl|rfl|rfl|rfl|rfl <;> exact⟨by unfold bK;simp only;omega,by unfold bK;simp only;omega⟩) (by simp)
def Zhe (N0:Nat)(m:cX)(w:World)(b:Nat)(fu:Int)(K:Nat)(y:Int)(e:Ending)(w':World):Prop :=
 ∃(l:List (Int×Int)) (A:Option Addr) (c:Nat) (x:Int),e=.returned (.slice A l.length c)∧l.length≤c∧c≤maxLen∧af (Jp N0) 96 w' w'.heap.size A l∧l.length≤b∧Mk w' {m with fa:=Aj x}∧0≤x∧x≤2∧dY m.M w w'∧eW fu K y x l
def HInv (N0:Nat)(m:cX)(w:World)(fu y:Int)(K:Nat)(v i:Value)(wr:World):Prop :=
 ∃(k:Nat) (l:List (Int×Int)) (A:Option Addr) (c:Nat) (x:Int),k≤K∧i=Aj k∧v=.slice A l.length c∧aK (Jp N0) 96 w.heap.size wr v l∧l.length≤9*k∧Mk wr {m with fa:=Aj x}∧0≤x∧x≤2∧dY m.M w wr∧eW fu k y x l
theorem Mk.aG {w:World}{m:cX}(h:Mk w m):∃xs,aH w m.M 121 xs:=by obtain⟨_,_,_,_,x,_⟩:=h;exact⟨_,x⟩
theorem Vt (N0:Nat)(m:cX)(w:World)(n fu y x:Int)(h:Mk w m)(J:N0≤m.M)(l2:0≤n)(L:n≤1000)(hw:0≤fu)(hN:fu≤1000)(c2:1≤y)(x5:y≤100)(X:m.fa=Aj x)(j:0≤x∧x≤2) :
  Calls Tryz.prog 57 #[.pointer (some ⟨m.M,0,none⟩),Aj n,Aj fu,Aj y] w (Zhe N0 m w (9*y.toNat) fu (y-1).toNat x):=by
 obtain⟨i0,hi,W,h0,hc⟩:=info_parts Vs;have lo:=h.lt;have S:=Aq h;have HC:=Aq X;clear h X;go_enter Tryz.func57,Tryz.ntmps57;go_wp2_with fail
 refine(Bk _ m _ S.o (by omega) (by omega)).mono ?_;rintro e w1⟨K,x4,x0,rfl,D,R,-⟩;have G:HInv N0 m w fu x K.toNat (.slice none 0 0) (Aj 0) w1:=⟨0,[],none,0,x,by omega,rfl,rfl,qJ _ _ _ _,by simp,by rw[←HC.o];exact D,j.1,j.2,R,eW.nil _ _⟩;have Y:=Aq G;clear G D R S;go_wp2_with fail
 go_loopw [9,11] (fun v i wr=>HInv N0 m w fu x K.toNat v i wr) (fun _ i _=>K.toNat-(intOf i).toNat)
 case atStart=>exact Y.o
 case round =>
  clear Y;obtain⟨k,l,A,c,u,hk,rfl,rfl,F,hl,am,a,H,r,C⟩:=hrel;have A3:=r.size;have q:=Aq F;have z:=Aq am;have Q:=Aq C;clear F am C;by_cases x1:(k:Int)<K
  ·go_wp2_with fail
   refine(Zav N0 {m with fa:=Aj u} _ n fu u z.o J l2 L hw hN rfl ⟨a,H⟩).mono ?_;rintro e w2⟨p,A2,N,T,rfl,f,B,E,x3,Z,g0,g1,I,b⟩;have H0:=Aq (Q.o.step b);clear b;obtain⟨xM,V⟩:=z.o.aG;have d:=q.o.fr I V (by simp[Jp,Repr.bi,Repr.int]) J;have P:dY m.M w w2:=r.trans I;have x2:=P.size;have s:=Aq d;have e1:=Aq E;have e2:=Aq Z;clear d E Z V z q;go_wp2_with (at_builtin;refine Gb _ rfl (.tmp 20) (.tmp 24) _ rfl (Jp N0) w.heap.size 96 i0 _ 16 Tryz.underlying24 hi W h0 hc rfl (show 0<2 by decide) (by simp[Jp,Repr.bi,Repr.int]) (by omega) (.slice A l.length c) l rfl s.o A2 p.length N p rfl rfl _ e1.o (by unfold maxLen;omega) (by omega) (by omega) ?_;intro O c3 w3 HM U)
   refine⟨⟨k+1,l++p,O,c3,T,by omega,by go_num,by simp,HM,by simp;omega,?_,g0,g1,?_,H0.o⟩,by simp[intOf];omega⟩
   ·exact e2.o.grown s.o U (by decide) lo
   ·exact P.dt U fun g e=>(s.o.block e).1
  ·obtain⟨A',c',e',f,B,e3⟩:=q.o.form
   injection e' with q1 q2 q3
   subst q1 q3;clear q2;go_wp2;go_ret;exact⟨l,A,c,u,rfl,f,B,e3,by omega,z.o,a,H,r,Q.o.mono (by omega)⟩
def Zdy {N0:Nat}{α:Type}(R:Repr N0 α)(t:TypeId)(m:cX)(w:World)(b:Nat)(e:Ending)(w':World):Prop :=
 ∃(l:List α) (A:Option Addr) (c:Nat),e=.returned (.slice A l.length c)∧l.length≤c∧c≤maxLen∧af R t w' w'.heap.size A l∧l.length≤b∧Mk w' m∧dY m.M w w'
def SInv (N0:Nat)(m:cX)(w:World)(x:Nat)(v i:Value)(wr:World):Prop :=
 ∃(k:Nat) (l:List Int) (A:Option Addr) (c:Nat),k≤x∧i=Aj k∧v=.slice A l.length c∧aK (Repr.int (N0:=N0)) 3 w.heap.size wr v l∧l.length≤4∧Mk wr m∧dY m.M w wr
theorem Mu (N0:Nat)(m:cX)(w:World)(gA:Option Addr)(x gc:Nat)(h:Mk w m)(hN:N0≤m.M)(H:m.c3=.slice gA x gc)(hc:1≤x)(e2:x≤1000) :
  Calls Tryz.prog 159 #[.pointer (some ⟨m.M,0,none⟩)] w (Zdy (Repr.int (N0:=N0)) 3 m w 4):=by
 obtain⟨i1,I,O,HM,E⟩:=info_parts Io;have T:=h.lt;have f:=h.cells.1 3 (by omega);simp only[Nat.reduceSub,Az,Ba,Ay]at f;rw[H]at f;have U:=Aq h;clear h H;go_enter Tryz.func159,Tryz.ntmps159;go_wp2_with fail
 refine(Bk _ m _ U.o (by omega) (by omega)).mono ?_;rintro e w1⟨a,ak,h0,rfl,P,s,-⟩;have hr:=s.size;obtain⟨y,rfl⟩:=Dm ak;have d:SInv N0 m w x (.slice (some ⟨w1.heap.size,0,none⟩) 1 1) (Aj ((y+1:Nat):Int)) (w1.alloc (.cells #[Aj y] 3)) :=
  ⟨y+1,[(y:Int)],_,_,by omega,rfl,rfl,aK.du (cs:=[_]) (qG _ _ _) (by omega) ⟨rfl,by unfold bK;omega⟩,by simp,P.alloc _,s.alloc _⟩
 rw[show ((y+1:Nat):Int)=(y:Int)+1 by omega]at d;have K:=Aq d;clear d P s U f;go_wp2_with fail
 go_loopw [5,6] (fun v i wr=>SInv N0 m w x v i wr) (fun _ i _=>x-(intOf i).toNat)
 case atStart=>exact K.o
 case round =>
  clear K;obtain⟨k,l,A,c,hk,rfl,rfl,Q,W,am,u⟩:=hrel;have e1:=u.size;have b:=Aq Q;have z:=Aq am;clear Q am;by_cases G:(k:Int)<x∧l.length<4
  ·obtain⟨L,c3⟩:=G;have gn:(l.length:Int)<4:=by omega
   go_wp2_with fail
   refine(Bk _ m _ z.o (by omega) (by omega)).mono ?_;rintro e w2⟨r,A3,H0,rfl,X,B,-⟩;obtain⟨xM,Z⟩:=z.o.aG;have j:=b.o.fr B Z (by simp[Repr.int]) hN;have q:dY m.M w w2:=u.trans B;have e3:=q.size;have S:=Aq j;have R:=Aq X;clear j X Z z b;by_cases C:r=0
   ·subst C;have p:=Aq (S.o.below (aI.alloc Aw (.cells #[Aj (k:Int)] 3)) Aw);go_wp2_with (at_builtin;refine Ek _ rfl (.tmp 33) (.tmp 35) _ rfl (Repr.int (N0:=N0)) w.heap.size 3 i1 _ 8 Tryz.underlying22 I O HM E rfl (show 0<1 by decide) (by simp[Repr.int]) (by omega) (.slice A l.length c) l rfl p.o w2.heap.size [_] (k:Int) rfl (qG _ _ _) ⟨rfl,(by unfold bK;omega)⟩ (by unfold maxLen;omega) (by omega) (by simp;omega) ?_;intro F N w3 J Y)
    refine⟨⟨k+1,l++[(k:Int)],F,N,by omega,by go_num,by simp,J,by simp;omega,?_,?_⟩,by simp[intOf];omega⟩
    ·exact(R.o.alloc _).grown p.o Y (by decide) T
    ·exact(q.alloc _).dt Y fun g e=>(p.o.block e).1
   ·have ji:(r==0)=false:=by simpa using C
    go_wp2_with fail
    refine⟨⟨k+1,l,A,c,by omega,by go_num,rfl,S.o,W,R.o,q⟩,by simp[intOf];omega⟩
  ·obtain⟨A',c',e',n,V,D⟩:=b.o.form
   injection e' with q1 q2 q3
   subst q1 q3;clear q2;by_cases L:(k:Int)<x
   ·have gn:¬ (l.length:Int)<4:=by omega
    go_wp2;go_ret;exact⟨l,A,c,rfl,n,V,D,by omega,z.o,u⟩
   ·go_wp2;go_ret;exact⟨l,A,c,rfl,n,V,D,by omega,z.o,u⟩
def mQ (N0:Nat)(m:cX)(w:World)(K:Nat)(v i:Value)(wr:World):Prop :=
 ∃(k:Nat) (l:List (List Int)) (A:Option Addr) (c:Nat),k≤K∧i=Aj k∧v=.slice A l.length c∧aK (Ep N0) 22 w.heap.size wr v l∧l.length≤k∧Mk wr m∧dY m.M w wr
theorem Lf:(Tryz.prog.info? 22).map (fun i=>(i.zero,i.size,i.bytes))=some (some (.slice none 0 0),1,24):=by kernel_rfl
theorem Pe (N0:Nat)(m:cX)(w:World)(u:Int)(D:Option Addr)(p gc:Nat)(h:Mk w m)(E:N0≤m.M)(n:m.c3=.slice D p gc)(G:1≤p)(N:p≤1000)(gn:0≤u)(gA:u≤100) :
  Calls Tryz.prog 160 #[.pointer (some ⟨m.M,0,none⟩),Aj u] w (Zdy (Ep N0) 22 m w u.toNat):=by
 obtain⟨i1,J,T,c2,F⟩:=info_parts Lf;have W:=h.lt;have P:=Aq h;have HC:=Aq n;clear h n;go_enter Tryz.func160,Tryz.ntmps160;go_wp2_with fail
 refine(Bk _ m _ P.o (by omega) (by omega)).mono ?_;rintro e w1⟨K,h0,e1,rfl,Q,V,-⟩;have B:mQ N0 m w K.toNat (.slice none 0 0) (Aj 0) w1:=⟨0,[],none,0,by omega,rfl,rfl,qJ _ _ _ _,by simp,Q,V⟩;have H:=Aq B;clear B Q V P;go_wp2_with fail
 go_loopw [5,7] (fun v i wr=>mQ N0 m w K.toNat v i wr) (fun _ i _=>K.toNat-(intOf i).toNat)
 case atStart=>exact H.o
 case round =>
  clear H;obtain⟨k,l,A,c,hk,rfl,rfl,S,hl,am,b⟩:=hrel;have A2:=b.size;have s:=Aq S;have y:=Aq am;clear S am;by_cases e2:(k:Int)<K
  ·go_wp2_with fail
   refine(Mu N0 m _ D p gc y.o E HC.o G N).mono ?_;rintro e w2⟨x,q,z,rfl,r,a,R,H0,X,C⟩;obtain⟨xM,Z⟩:=y.o.aG;have f:=(s.o.fr C Z (by simp[Ep,Repr.row,Repr.int]) E).below (aI.alloc Aw (.cells #[.slice q x.length z] 22)) Aw;have U:dY m.M w w2:=b.trans C;have hc:=U.size;have j:(Ep N0).rel (w2.alloc (.cells #[.slice q x.length z] 22)) (w2.alloc (.cells #[.slice q x.length z] 22)).heap.size x [.slice q x.length z]:=⟨_,_,rfl,r,a,(R.below (aI.alloc Aw _) Aw).aY (by simp)⟩;have d:=Aq f;have l2:=Aq j;have HM:=Aq X;clear f R X Z y s j;generalize x.length=n2 at *;go_wp2_with (at_builtin;refine Ek _ rfl (.tmp 17) (.tmp 20) _ rfl (Ep N0) w.heap.size 22 i1 _ 24 Tryz.underlying187 J T c2 F rfl (show 0<1 by decide) (by simp[Ep,Repr.row,Repr.int]) (by omega) (.slice A l.length c) l rfl d.o w2.heap.size [_] x rfl (qG _ _ _) l2.o (by unfold maxLen;omega) (by omega) (by simp;omega) ?_;intro I O w3 L Y)
   refine⟨⟨k+1,l++[x],I,O,by omega,by go_num,by simp,L,by simp;omega,?_,?_⟩,by simp[intOf];omega⟩
   ·exact(HM.o.alloc _).grown d.o Y (by decide) W
   ·exact(U.alloc _).dt Y fun g e=>(d.o.block e).1
  ·obtain⟨A',c',e',r,a,e3⟩:=s.o.form
   injection e' with q1 q2 q3
   subst q1 q3;clear q2;go_wp2;go_ret;exact⟨l,A,c,rfl,r,a,e3,by omega,y.o,b⟩
def Cr (N0:Nat):Repr N0 (List (List Int)):=Repr.row 22 (Ep N0)
def Jr (N0:Nat):Repr N0 (Int×Int):=Repr.bi Repr.int Repr.int
structure dG where
 eH:List (List Int)
 eC:List (List Int)
 ahead:List (List Int)
 o:List Int
 ao:List (Int×Int)
 x:Int
def Ho (N0:Nat):Repr N0 dG:=Repr.map (fun r=>(r.eH,r.eC,r.ahead,r.o,r.ao,r.x)) (Repr.bi (Cr N0) (Repr.bi (Cr N0) (Repr.bi (Cr N0) (Repr.bi (Ep N0) (Repr.bi (Repr.row 233 (Jr N0)) Repr.int)))))
theorem Zdk:(Tryz.prog.info? 233).map (fun i=>(i.zero,i.size,i.bytes))=some (some (.agg #[Aj 0,Aj 0]),2,16):=by kernel_rfl
theorem Repr.gF {N0:Nat}{α:Type}(R:Repr N0 α){w w':World}{B:Nat}{a:α}{cs:List Value}(h:R.rel w B a cs){row:Option Nat}(z:w.grownBy w' row)(u:∀g,row=some g→B≤g):R.rel w' B a cs :=
 R.aQ h fun g t xs v k _ x=>by
  have y:g<w.heap.size:=(bO.1 x).1;rw[z.block g y (fun e=>by have:=u g e.symm;omega)];exact x
structure ba (N0:Nat) (m:cX) (w0:World) (rb B1:Nat) (wx:World) (vb vi va vo vc:Value) (r:dG):Prop where
 box:aH wx rb 190 #[vb,vi,va,vo,vc,Aj r.x]
 eH:(Cr N0).rel wx B1 r.eH [vb]
 eC:(Cr N0).rel wx B1 r.eC [vi]
 ahead:(Cr N0).rel wx B1 r.ahead [va]
 o:aK (Repr.int (N0:=N0)) 3 B1 wx vo r.o
 ao:aK (Jr N0) 233 B1 wx vc r.ao
 x:bK r.x
 am:Mk wx m
 fr:dY m.M w0 wx
 bU:w0.heap.size≤rb∧rb<B1
 hM:N0≤m.M∧m.M<w0.heap.size
 hB:w0.heap.size≤B1∧B1≤wx.heap.size
section
variable {N0 : Nat} {m : cX} {w0 wx wy : World} {rb B1 : Nat} {vb vi va vo vc : Value} {r : dG}
theorem ba.next (h:ba N0 m w0 rb B1 wx vb vi va vo vc r)(u:Mk wy m)(y:dY m.M wx wy):ba N0 m w0 rb B1 wy vb vi va vo vc r:=by
 obtain⟨v,z⟩:=h.am.aG;have hM:=h.hM;have bU:=h.bU;have k:=y.size;have hB:=h.hB;exact⟨y.aG h.box (by omega),(Cr N0).fr h.eH y z (by simp[Cr,Ep,Repr.row,Repr.int]) hM.1,(Cr N0).fr h.eC y z (by simp[Cr,Ep,Repr.row,Repr.int]) hM.1,(Cr N0).fr h.ahead y z (by simp[Cr,Ep,Repr.row,Repr.int]) hM.1,
  h.o.fr y z (by simp[Repr.int]) hM.1,h.ao.fr y z (by simp[Jr,Repr.bi,Repr.int]) hM.1,h.x,u,h.fr.trans y,bU,hM,hB.1,by omega⟩
theorem ba.below (h:ba N0 m w0 rb B1 wx vb vi va vo vc r)(y:Below wx.heap.size wx wy):ba N0 m w0 rb B1 wy vb vi va vo vc r:=by
 have hM:=h.hM;have bU:=h.bU;have c:=y.size;have hB:=h.hB;obtain⟨aL,q,a,v,z,xs,s,b⟩:=h.am;have p:=z.lt;exact⟨h.box.below y (by omega),(Cr N0).below h.eH y hB.2,(Cr N0).below h.eC y hB.2,(Cr N0).below h.ahead y hB.2,h.o.below y Aw,h.ao.below y Aw,h.x,
  ⟨aL,q,a,v,z.below y p,xs,s.below y (by omega),b⟩,h.fr.trans (qN y fun k u _=>u),bU,hM,hB.1,by omega⟩
theorem ba.alloc (h:ba N0 m w0 rb B1 wx vb vi va vo vc r)(o:Obj):ba N0 m w0 rb B1 (wx.alloc o) vb vi va vo vc r:=h.below (aI.alloc Aw _)
theorem ba.drew (h:ba N0 m w0 rb B1 wx vb vi va vo vc r):ba N0 m w0 rb B1 wx.drew vb vi va vo vc r:=h.below aI.drew
theorem ba.dM (h:ba N0 m w0 rb B1 wx vb vi va (.slice none 0 0) (.slice none 0 0) r) (y:r.o=[]) (z:r.ao=[]):ba N0 m w0 rb wx.heap.size wx vb vi va (.slice none 0 0) (.slice none 0 0) r:=by
 have hB:=h.hB;have bU:=h.bU;exact⟨h.box,(Cr N0).aY h.eH hB.2,(Cr N0).aY h.eC hB.2,(Cr N0).aY h.ahead hB.2,by rw[y];exact qJ _ _ _ _,by rw[z];exact qJ _ _ _ _,h.x,h.am,h.fr,⟨bU.1,by omega⟩,h.hM,by omega,Aw⟩
theorem ba.set (h:ba N0 m w0 rb B1 wx vb vi va vo vc r)(i:Nat)(u:Value){k z y v p:Value}{r':dG} (s : #[vb,vi,va,vo,vc,Aj r.x].setIfInBounds i u = #[k,z,y,v,p,Aj r'.x])
  (b:(Cr N0).rel wx B1 r'.eH [k]) (q:(Cr N0).rel wx B1 r'.eC [z]) (d:(Cr N0).rel wx B1 r'.ahead [y]) (a:aK (Repr.int (N0:=N0)) 3 B1 wx v r'.o) (c:aK (Jr N0) 233 B1 wx p r'.ao) (e:bK r'.x) :
  ba N0 m w0 rb B1 (wx.setCell ⟨rb,i,none⟩ u) k z y v p r':=by
 have hM:=h.hM;have bU:=h.bU;have hB:=h.hB;exact⟨by rw[←s];exact h.box.aX i u,(Cr N0).setCell b h.box (by simp[Cr,Ep,Repr.row,Repr.int]) (by omega) _ _,(Cr N0).setCell q h.box (by simp[Cr,Ep,Repr.row,Repr.int]) (by omega) _ _,(Cr N0).setCell d h.box (by simp[Cr,Ep,Repr.row,Repr.int]) (by omega) _ _,
  a.setCell h.box (by simp[Repr.int]) (by omega) _ _,c.setCell h.box (by simp[Jr,Repr.bi,Repr.int]) (by omega) _ _,e,h.am.setCell (by simp;omega) _,h.fr.setCell (.inr bU.1) _,bU,hM,hB.1,by rw[Br];exact hB.2⟩
theorem ba.jt (h:ba N0 m w0 rb B1 wx vb vi va vo vc r){v:Option Addr}{n' u:Nat}{l':List Int} (s:aK (Repr.int (N0:=N0)) 3 B1 wy (.slice v n' u) l') (y:wx.grownBy wy vo.ownBlock) :
  aH wy rb 190 #[vb,vi,va,vo,vc,Aj r.x]∧ba N0 m w0 rb B1 (wy.setCell ⟨rb,3,none⟩ (.slice v n' u)) vb vi va (.slice v n' u) vc {r with o:=l'} := by
 have hM:=h.hM;have bU:=h.bU;have hB:=h.hB;have z:=h.box.bj h.o y (by decide);have p:=fun g e=>(h.o.block (g:=g) e).1
 have b:aK (Jr N0) 233 B1 wy vc r.ao:=h.ao.grown y fun g t' xs c e k=>by
  obtain⟨d,_,f,a⟩:=h.o.block e;rw[a]at k
  injection k with k
  injection k with _ q
  subst q;exact⟨by omega,by simp[Jr,Repr.bi,Repr.int]⟩
 refine⟨z,⟨by simpa using z.aX 3 (.slice v n' u),(Cr N0).setCell ((Cr N0).gF h.eH y p) z (by simp[Cr,Ep,Repr.row,Repr.int]) (by omega) _ _,(Cr N0).setCell ((Cr N0).gF h.eC y p) z (by simp[Cr,Ep,Repr.row,Repr.int]) (by omega) _ _,(Cr N0).setCell ((Cr N0).gF h.ahead y p) z (by simp[Cr,Ep,Repr.row,Repr.int]) (by omega) _ _,
  s.setCell z (by simp[Repr.int]) (by omega) _ _,b.setCell z (by simp[Jr,Repr.bi,Repr.int]) (by omega) _ _,h.x,(h.am.grown h.o y (by decide) (by omega)).setCell (by simp;omega) _,?_,bU,hM,hB.1,by rw[Br];have:=y.size;omega⟩⟩
 exact(h.fr.dt y fun g e=>by have:=p g e;omega).setCell (.inr bU.1) _
theorem ba.gG (h:ba N0 m w0 rb B1 wx vb vi va vo vc r){v:Option Addr}{n' u:Nat} {l':List (Int×Int)} (s:aK (Jr N0) 233 B1 wy (.slice v n' u) l') (y:wx.grownBy wy vc.ownBlock) :
  aH wy rb 190 #[vb,vi,va,vo,vc,Aj r.x]∧ba N0 m w0 rb B1 (wy.setCell ⟨rb,4,none⟩ (.slice v n' u)) vb vi va vo (.slice v n' u) {r with ao:=l'} := by
 have hM:=h.hM;have bU:=h.bU;have hB:=h.hB;have z:=h.box.bj h.ao y (by decide);have p:=fun g e=>(h.ao.block (g:=g) e).1
 have b:aK (Repr.int (N0:=N0)) 3 B1 wy vo r.o:=h.o.grown y fun g t' xs c e k=>by
  obtain⟨d,_,f,a⟩:=h.ao.block e;rw[a]at k
  injection k with k
  injection k with _ q
  subst q;exact⟨by omega,by simp[Repr.int]⟩
 refine⟨z,⟨by simpa using z.aX 4 (.slice v n' u),(Cr N0).setCell ((Cr N0).gF h.eH y p) z (by simp[Cr,Ep,Repr.row,Repr.int]) (by omega) _ _,(Cr N0).setCell ((Cr N0).gF h.eC y p) z (by simp[Cr,Ep,Repr.row,Repr.int]) (by omega) _ _,(Cr N0).setCell ((Cr N0).gF h.ahead y p) z (by simp[Cr,Ep,Repr.row,Repr.int]) (by omega) _ _,
  b.setCell z (by simp[Repr.int]) (by omega) _ _,s.setCell z (by simp[Jr,Repr.bi,Repr.int]) (by omega) _ _,h.x,(h.am.grown h.ao y (by decide) (by omega)).setCell (by simp;omega) _,?_,bU,hM,hB.1,by rw[Br];have:=y.size;omega⟩⟩
 exact(h.fr.dt y fun g e=>by have:=p g e;omega).setCell (.inr bU.1) _
end
end
end Go.Proofs.YtnhebmgibiomnaaGreat

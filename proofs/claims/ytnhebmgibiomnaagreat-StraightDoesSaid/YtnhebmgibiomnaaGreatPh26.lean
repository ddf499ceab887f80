import Derived.Deep.CutBlock
import Derived.Deep.DeepCutAuto
import Derived.Deep.RegionHeld
import Derived.Deep.RegionLaw
import Derived.Laws.MakeOwn
import Derived.Test.YtnhebmgibiomnaaGreatPh16
set_option linter.unusedVariables false
set_option linter.unusedSimpArgs false
set_option maxRecDepth 100000
set_option maxHeartbeats 8000000
namespace Go.Proofs.YtnhebmgibiomnaaGreat
section
open Go.RowKit
theorem Zft:(Tryz.prog.info? 96).map (fun i=>(i.zero,i.size,i.bytes))=some (some (.agg #[Aj 0,Aj 0]),2,16):=by kernel_rfl
theorem Zjv {w:World}{aN:Nat}{e:TypeId}{size n j:Nat}{v:Value}{xs:List Value}(h:w.ownsRow aN e size v n xs)(z:j<n*size) :
  ∃g dA,v=.slice (some ⟨g,0,none⟩) n dA∧aN≤g∧g<w.heap.size∧w.cell? ⟨g,j,none⟩=xs[j]?∧w.frozen? ⟨g,j,none⟩=false∧∀u,(w.setCell ⟨g,j,none⟩ u).ownsRow aN e size v n (xs.set j u):=by
 obtain⟨p,h|⟨g,dA,aF,rfl,y,a,r,s,q,k⟩⟩:=h
 ·obtain⟨_,rfl⟩:=h;simp at z
 ·have x:aH w g e aF:=a;refine⟨g,dA,rfl,y,x.lt,?_,x.frozen j,fun u=>⟨by simpa using p,.inr ⟨g,dA,_,rfl,y,x.aZ j u,r,s,by simpa using q,?_⟩⟩⟩
  ·rw[x.cell,←k,oe,if_pos z];simp
  ·rw[qa,List.take_set,k]
def Qx (N0:Nat):Repr N0 (Int×Int):=Repr.bi Repr.int Repr.int
def Fk (N0:Nat):Repr N0 (List (Int×Int)):=Repr.row 96 (Qx N0)
theorem Zkg (N0:Nat)(w:World)(B:Nat)(op a:Int)(y:bS op)(x:bS a):(Qx N0).rel w B (op,a) [Aj op,Aj a]:=⟨[_],[_],rfl,⟨rfl,y⟩,rfl,x⟩
theorem Zkh {N0:Nat}{w:World}{B:Nat}{x:Int×Int}{cs:List Value} (h:(Qx N0).rel w B x cs):cs=[Aj x.1,Aj x.2]:=by
 obtain⟨_,_,rfl,⟨rfl,_⟩,rfl,_⟩:=h;rfl
theorem Jw (l:List (Int×Int)):Cq l=l.flatMap fun x=>[Aj x.1,Aj x.2]:=by
 induction l with
 |nil=>rfl
 |cons x r ih=>simp[Cq,ih]
theorem Mu {N0:Nat}{w:World}{B:Nat}{A:Option Addr} {l:List (Int×Int)} (h:af (Qx N0) 96 w B A l):aE w B 2 A l.length (Cq l):=by
 rw[Jw];exact h.iN _ fun a cs h=>Zkh h
def Ints (l:List (Int×Int)):Prop:=∀x∈l,bS x.1∧bS x.2
theorem Zex {N0:Nat}{w:World}{B:Nat}{A:Option Addr} {ll:List (List (Int×Int))} (h:af (Fk N0) 24 w B A ll):cK w B A ll:=by
 obtain⟨x,P,g,o⟩:=h;have key:∀(i:Nat) l cs,ll[i]?=some l→x[i]?=some cs→∃v,cs=[v]∧gR w B v l:=by
  intro i l cs p r;obtain⟨A,c,rfl,_,_,Y⟩:=g i l cs p r;exact⟨_,rfl,A,c,rfl,Mu Y⟩
 have X:∀cs∈x,cs.length=1:=by
  intro cs m;obtain⟨i,hi⟩:=oS m;have s:i<x.length:=(aS.1 hi).1;obtain⟨v,rfl,_⟩:=key i (ll[i]'(by omega)) cs (Bg (by omega)) hi;rfl
 obtain⟨V,a⟩:=Ep x X;refine⟨x.flatten,⟨by omega,fun H=>?_⟩,fun i l p=>?_⟩
 ·obtain⟨b,off,xs,t',n,e,Z,_,U,r⟩:=o H;refine⟨b,off,e,Z,fun j u y=>?_⟩;have d:j<x.length:=by have:=(aS.1 y).1;omega
  have z:x[j]?=some (x[j]'d):=Bg d;obtain⟨v,q,_⟩:=key j (ll[j]'(by omega)) _ (Bg (by omega)) z;rw[q]at z;have k:=a j 0 [v] v z rfl;simp only[ox,oq]at k;rw[k]at y
  injection y with y
  subst y;rw[cell_of_row w b _ xs _ n U];have K:=r j 0 [v] v z rfl
  simpa [Fk,Repr.row]using K
 ·have s:i<x.length:=by have:=(aS.1 p).1;omega
  obtain⟨v,q,f⟩:=key i l _ p (Bg s);refine⟨v,?_,f⟩;have k:=a i 0 [v] v (by rw[Bg s,q]) rfl
  simpa using k
theorem Df {P:Program}(w:World){ops:Array Oper}{o:Oper}{a:Act}{K:Act→World→Prop}{Q:Exit→Act→World→Prop}{E:Prop}(m:o.guard=none)(s x:Operand)(t:TypeId)
  (n:o.op=.call { callee:=.builtin .append,args:=#[s,x],argTypes:=#[t,t] }) {N0:Nat} {α:Type} (R:Repr N0 α)
  (aN:Nat) (e:TypeId) (i:TypeInfo) (z:Value) (bytes:Nat) (T:P.underlying t=some (.slice e)) (hi:P.info? e=some i) (G:i.zero=some z)
  (C:i.size=R.size) (F:i.bytes=bytes) (D:z.cells.size=R.size) (M:0<R.size) (I:e ∉ R.df) (A:N0≤aN)
  (v:Value) (l:List α) (X:a.eval s=v) (W:aM R e aN w v l)
  (g:Nat) (cs:List Value) (y:α) (V:a.eval x=.slice (some ⟨g,0,none⟩) 1 1) (d:aH w g e cs.toArray) (q:R.rel w w.heap.size y cs)
  (U:l.length+1≤maxLen) (O:(l.length+1)*bytes≤140737488355328) (Y:aN≤w.heap.size)
  (h:∀p k w',aM R e aN w' (.slice p (l.length+1) k) (l++[y])→w.grownBy w' v.ownBlock→K (a.put o.dst (.slice p (l.length+1) k)) w') :
  if Region.wanted o (yielded ops a.tmps)=true then Oper.wp P o a w K Q else E:=by
 have N:Region.wanted o (yielded ops a.tmps)=true:=by simp[Region.wanted,m]
 rw[if_pos N];obtain⟨H,b,L,S⟩:=W;have J:aE w w.heap.size R.size (some ⟨g,0,none⟩) 1 cs:=⟨by rw[R.len q];omega,fun _=>⟨_,_,rfl,d.lt,fun j u Z=>by rw[ns,d.cell];simpa using Z⟩⟩;exact Ey w s x t n aN e i z R.size bytes T hi G C F D M v l.length H.flatten X b w.heap.size _ 1 1 cs V J (R.eB q) U O Y
  fun v' w' B r _=>by
   have c:=aM.push b L S I A q B r;obtain⟨p,k,f,_⟩:=c.form;rw[Bz,nr]at f;subst f;exact h p k w' c r
theorem Repr.fr {N0:Nat}{α:Type}(R:Repr N0 α){w w':World}{B:Nat}{a:α}{cs:List Value}(h:R.rel w B a cs){M:Nat}{u:TypeId}{q:Array Value} (r:Fr (fun k=>k=M) w w') (z:aH w M u q) (v:u ∉ R.df) (b:N0≤M):R.rel w' B a cs :=
 R.aQ h fun g t xs c _ y x=>by
  have s:g<w.heap.size:=(bN.1 x).1;rw[r.block g s]
  ·exact x
  ·rintro rfl;rcases y with y|y
   ·omega
   ·unfold aH at z;rw[z]at x
    injection x with x
    injection x with _ p
    exact v (p ▸ y)
theorem aM.fr {N0:Nat}{α:Type}{R:Repr N0 α}{t:TypeId}{aN:Nat}{w w':World}{v:Value}{l:List α}(h:aM R t aN w v l){M:Nat}{u:TypeId}{s:Array Value} (p:Fr (fun k=>k=M) w w') (z:aH w M u s) (q:u ∉ t::R.df) (b:N0≤M):aM R t aN w' v l :=
 h.aQ p.size fun g t xs c y x=>by
  have a:g<w.heap.size:=(bN.1 x).1;rw[p.block g a]
  ·exact x
  ·rintro rfl;rcases y with y|y
   ·omega
   ·unfold aH at z;rw[z]at x
    injection x with x
    injection x with _ r
    exact q (r ▸ y)
theorem Repr.setCell {N0:Nat}{α:Type}(R:Repr N0 α){w:World}{B:Nat}{a:α}{cs:List Value}(h:R.rel w B a cs){g0:Nat}{t0:TypeId}{k:Array Value}(p:aH w g0 t0 k)(z:t0 ∉ R.df)(q:N0≤g0)(i:Nat)(u:Value):R.rel (w.setCell ⟨g0,i,none⟩ u) B a cs :=
 R.aQ h fun g t xs v _ x y=>by
  rcases x with x|x
  ·rw[Bp _ _ _ _ (by simp;omega)];exact y
  ·exact Hg p i u g t xs v (fun e=>z (e ▸ x)) y
theorem Br (w:World)(p:Addr)(u:Value):(w.setCell p u).heap.size=w.heap.size:=by simp[World.setCell]
theorem af.kS {N0:Nat}{α:Type}{R:Repr N0 α}{t:TypeId}{w:World}{B:Nat}{A:Option Addr}{l:List α}(h:af R t w B A l) :
  ∃y:List (List Value),y.length=l.length∧(∀(i:Nat) a cs,l[i]?=some a→y[i]?=some cs→R.rel w B a cs)∧aE w B R.size A l.length y.flatten:=by
 obtain⟨y,e,c,o⟩:=h;have d:∀cs∈y,cs.length=R.size:=by
  intro cs v;obtain⟨i,hi⟩:=oS v;have U:i<y.length:=(aS.1 hi).1;exact R.len (c i (l[i]'(by omega)) cs (Bg (by omega)) hi)
 have key:∀(m:List (List Value)),(∀cs∈m,cs.length=R.size)→∀(j:Nat) u,m.flatten[j]?=some u→∃(i k:Nat) (cs:List Value),m[i]?=some cs∧cs[k]?=some u∧j=i*R.size+k:=by
  intro m
  induction m with
  |nil=>intro _ j u z;simp at z
  |cons x r ih =>
   intro s j u z;have f:=s x oD;rw[oO]at z;rcases le j R.size with K|K
   ·rw[En (by omega)]at z;exact⟨0,j,x,rfl,z,by omega⟩
   ·rw[Dp (by omega),f]at z;obtain⟨i,k,cs,p,q,Z⟩:=ih (fun cs v=>s cs (oJ _ v)) _ _ z;exact⟨i+1,k,cs,p,q,by rw[oP];omega⟩
 refine⟨y,e,c,by rw[(Ep y d).1,e],fun H=>?_⟩;obtain⟨b,off,xs,t',n,rfl,X,_,Y,g⟩:=o H;refine⟨b,off,rfl,X,fun j u z=>?_⟩;obtain⟨i,k,cs,p,q,rfl⟩:=key y d j u z;rw[cell_of_row w b _ xs t' n Y,←Lb];exact g i k cs u p q
theorem aM.lY {N0:Nat}{α:Type}{R:Repr N0 α}{t:TypeId}{aN:Nat}{w w':World}{v v':Value}{l z:List α} {x p:List (List Value)} (j:w.ownsRow aN t R.size v l.length x.flatten) (r:x.length=l.length) (s:∀(i:Nat) a cs,l[i]?=some a→x[i]?=some cs→R.rel w w.heap.size a cs)
  (k1:p.length=z.length) (k2:∀(i:Nat) a cs,z[i]?=some a→p[i]?=some cs→R.rel w w.heap.size a cs) (n:t ∉ R.df) (X:N0≤aN)
  (K:w'.ownsRow aN t R.size v' (l.length+z.length) (x.flatten++p.flatten)) (y:w.grownBy w' v.ownBlock):aM R t aN w' v' (l++z):=by
 have o:=fun g=>aM.block (g:=g) ⟨x,j,r,s⟩
 have d:∀(g:Nat) (t':TypeId) (xs:Array Value) (b:Nat×Nat),v.ownBlock=some g→w.heap[g]?=some (.cells xs t' b)→N0≤g∧t' ∉ R.df:=by
  intro g t' xs b e u;obtain⟨Z,_,Y,m⟩:=o g e;rw[m]at u
  injection u with u
  injection u with _ H
  exact⟨by omega,H ▸ n⟩
 refine⟨x++p,by simpa using K,by simp[r,k1],fun i f c k q=>?_⟩;rcases le i l.length with hi|hi
 ·rw[En hi]at k;rw[En (by omega)]at q;exact R.a_ (R.grown (s i f c k q) y d) y.size
 ·rw[Dp hi]at k;rw[Dp (by omega),r]at q;exact R.a_ (R.grown (k2 _ f c k q) y d) y.size
theorem af.eB {N0:Nat}{α:Type}{R:Repr N0 α}{w:World}{B:Nat}{l:List α} {x:List (List Value)} (p:x.length=l.length) (v:∀(i:Nat) a cs,l[i]?=some a→x[i]?=some cs→R.rel w B a cs):∀u∈x.flatten,u.oneCell'=true:=by
 intro u y;obtain⟨cs,z,y⟩:=List.mem_flatten.1 y;obtain⟨i,hi⟩:=oS z;have k:i<x.length:=(aS.1 hi).1;exact R.eB (v i (l[i]'(by omega)) cs (Bg (by omega)) hi) u y
theorem Mz {P:Program}(w:World){ops:Array Oper}{rest:List Oper}{o:Oper}{a:Act}{Q:Exit→Act→World→Prop}(d:o.guard=none)(s x:Operand)(t:TypeId)
  (f:o.op=.call { callee:=.builtin .append,args:=#[s,x],argTypes:=#[t,t] }) {N0:Nat} {α:Type} (R:Repr N0 α)
  (aN:Nat) (e:TypeId) (i:TypeInfo) (z:Value) (bytes:Nat) (N:P.underlying t=some (.slice e)) (hi:P.info? e=some i) (E:i.zero=some z)
  (V:i.size=R.size) (D:i.bytes=bytes) (C:z.cells.size=R.size) (I:0<R.size) (F:e ∉ R.df) (Z:N0≤aN)
  (v:Value) (l:List α) (g:a.eval s=v) (O:aM R e aN w v l)
  (A:Option Addr) (m c:Nat) (y:List α) (X:y.length=m) (K:a.eval x=.slice A m c) (S:TypeId) (B:af R S w w.heap.size A y)
  (H:l.length+m≤maxLen) (M:(l.length+m)*bytes≤140737488355328) (n:aN≤w.heap.size)
  (h:∀k u w',aM R e aN w' (.slice k (l.length+m) u) (l++y)→w.grownBy w' v.ownBlock→wpList P ops Q rest (a.put o.dst (.slice k (l.length+m) u)) w'):wpList P ops Q (o::rest) a w:=by
 subst X;obtain⟨j,b,G,Y⟩:=O;obtain⟨L,k1,k2,J⟩:=B.kS;exact Cm w d s x t f aN e i z R.size bytes N hi E V D C I v l.length j.flatten g b w.heap.size A y.length c L.flatten K J (af.eB k1 k2) H M n
  fun v' w' U p _=>by
   have q:=aM.lY b G Y k1 k2 F Z U p;obtain⟨k,u,r,_⟩:=q.form;rw[Bz]at r;subst r;exact h k u w' q p
section
variable {P : Program} (w : World)
theorem Lu (t u e:TypeId)(i:TypeInfo) (z:P.underlying t=some (.slice e)) (hi:P.info? e=some i) (y:Addr) (n c0:Nat) (x:n≤c0) (A:Option Addr) (c:Nat) :
  (Builtin.append_ #[t,t] u #[.slice (some y) n c0,.slice A 0 c]).run P w=.ok (.slice (some y) n c0) w:=by
 cases A with
 |none=>simp[Builtin.append_,run_underlying z,sizeOf,typeInfo,hi,Builtin.lenOf,Builtin.firstCells,x,storeCells]
 |some a=>simp[Builtin.append_,run_underlying z,sizeOf,typeInfo,hi,Builtin.lenOf,Builtin.firstCells,x,storeCells,loadCells,loadCellsFrom]
theorem Op {N0:Nat}{α:Type}(R:Repr N0 α)(t H e:TypeId)(i:TypeInfo)(z:Value)(bytes:Nat) (D:P.underlying t=some (.slice e)) (hi:P.info? e=some i) (W:i.zero=some z)
  (U:i.size=R.size) (T:i.bytes=bytes) (_hzs:z.cells.size=R.size)
  (A:Option Addr) (n:Nat) (l:List α) (N:l.length=n) (L:0<n) (Q:af R e w w.heap.size A l)
  (f:Option Addr) (m c2:Nat) (v:List α) (K:v.length=m) (O:TypeId) (hy:af R O w w.heap.size f v) (a:n+m≤maxLen) (hc:(n+m)*bytes≤140737488355328) :
  ∃E X w',(Builtin.append_ #[t,t] H #[.slice A n n,.slice f m c2]).run P w=.ok (.slice E (n+m) X) w'∧n+m≤X∧X≤maxLen∧af R e w' w'.heap.size E (l++v)∧Below w.heap.size w w':=by
 subst N K;obtain⟨p,S,Y,Z⟩:=Q.kS;obtain⟨q,k1,k2,B⟩:=hy.kS;obtain⟨b,off,rfl,hb,F⟩:=Z.2 L;have C:∀(o d j:Nat),(⟨o,d,none⟩:Addr).add j=⟨o,d+j,none⟩:=fun o d j=>by unfold Addr.add;split <;> simp_all
 rcases oG v.length with g|g
 ·have K:v=[]:=oX g;subst K;refine⟨_,l.length,w,Lu w t H e i D hi _ _ _ Aw f c2,by simp,by simp at a;omega,by simpa using Q,aI⟩
 ·obtain⟨I,hj,rfl,hu,l2⟩:=B.2 g;have hr:=run_append_grow (P:=P) w t H e i z D hi W ⟨b,off,none⟩ l.length l.length p.flatten (by rw[U];exact Z.1) (fun j u s=>by rw[C];exact F j u s) ⟨I,hj,none⟩ v.length c2 q.flatten (by rw[U];exact B.1) (fun j u s=>by rw[C];exact l2 j u s) (by omega) (by unfold maxLen at a;omega) (by rw[T];exact growslice_fits (by omega) hc);refine⟨_,_,_,hr,grownCap_ge _ _ _ _,grownCap_le_maxLen _ _ _ _ a,?_,((ds w.heap.size w).drew).alloc Aw _⟩;have V:Below w.heap.size w (w.drew.alloc (.cells (p.flatten.toArray++q.flatten.toArray++Builtin.zeroCells z.cells (grownCap w (l.length+v.length) l.length e-(l.length+v.length))) e)):=((ds w.heap.size w).drew).alloc Aw _;have J:∀cs∈p++q,cs.length=R.size:=by
   intro cs M;rcases List.mem_append.1 M with k|k
   ·obtain⟨j,x⟩:=oS k;have c:j<p.length:=(aS.1 x).1;exact R.len (Y j (l[j]'(by omega)) cs (Bg (by omega)) x)
   ·obtain⟨j,x⟩:=oS k;have c:j<q.length:=(aS.1 x).1;exact R.len (k2 j (v[j]'(by omega)) cs (Bg (by omega)) x)
  obtain⟨f1,G⟩:=Ep _ J;refine⟨p++q,by simp[S,k1],?_,fun _=>⟨w.heap.size,0,_,e,(0,0),rfl,by simp,.inr rfl,heap_alloc_new w.drew _,?_⟩⟩
  ·intro j y cs r k;rcases le j l.length with x|x
   ·rw[En x]at r;rw[En (by omega)]at k;exact R.a_ (R.below (Y j y cs r k) V Aw) (by simp)
   ·rw[Dp x]at r;rw[Dp (by omega),S]at k;exact R.a_ (R.below (k2 _ y cs r k) V Aw) (by simp)
  ·intro a' j cs u ha x;have:=G a' j cs u ha x;rw[pF]at this;have c:=(aS.1 this).1;rw[ns,Array.getElem?_append_left (by simpa using c)]
   simpa using this
theorem Hx {o:Oper}{a:Act}{K:Act→World→Prop}{Q:Exit→Act→World→Prop}(s x:Operand)(t:TypeId)
  (q:o.op=.call { callee:=.builtin .append,args:=#[s,x],argTypes:=#[t,t] }) {N0:Nat} {α:Type} (R:Repr N0 α) (e:TypeId) (i:TypeInfo) (z:Value) (bytes:Nat) (E:P.underlying t=some (.slice e)) (hi:P.info? e=some i) (Z:i.zero=some z)
  (j:i.size=R.size) (Y:i.bytes=bytes) (X:z.cells.size=R.size)
  (A:Option Addr) (n:Nat) (l:List α) (g:l.length=n) (d:0<n) (r:a.eval s=.slice A n n) (H:af R e w w.heap.size A l)
  (k:Option Addr) (m c2:Nat) (u:List α) (D:u.length=m) (c:a.eval x=.slice k m c2) (p:TypeId) (C:af R p w w.heap.size k u) (b:n+m≤maxLen) (V:(n+m)*bytes≤140737488355328)
  (h:∀v y w',n+m≤y→y≤maxLen→af R e w' w'.heap.size v (l++u)→Below w.heap.size w w'→K (a.put o.dst (.slice v (n+m) y)) w'):o.wp P a w K Q:=by
 obtain⟨v,y,w',U,S,F,B,f⟩:=Op (P:=P) w R t o.type e i z bytes E hi Z j Y X A n l g d H k m c2 u D p C b V;unfold Oper.wp execOp;simp only[q,resolve,invoke,builtin,Sem.run_bind,Sem.run_pure,Result.andThen_ok,List.map_toArray,ol,oH,r,c,U];exact h v y w' S F B f
end
end
section
open Go.RowKit
theorem Mj {n:Nat}(u:Value):∀(y:List (List Value)),(∀cs∈y,cs.length=n)→∀(i j:Nat) (cs:List Value),y[i]?=some cs→j<n→y.flatten.set (i*n+j) u=(y.set i (cs.set j u)).flatten
 | [],_,i,j,cs,h,_=>by simp at h
 |x::r,h,i,j,cs,hi,hj=>by
  have k:=h x oD;cases i with
  |zero =>
   simp only[Ay,Bv]at hi;subst hi;simp only[oO,oL,Nat.zero_mul,ns];rw[List.set_append_left _ _ (by omega)]
  |succ i =>
   simp only[Bc]at hi;have v:=Mj u r (fun cs z=>h cs (oJ _ z)) i j cs hi hj;simp only[oO,om];rw[oI _ _ (by rw[oP];omega),show (i+1)*n+j-x.length=i*n+j by rw[oP];omega,v]
section
variable {N0 : Nat} {α : Type} {R : Repr N0 α} {t : TypeId} {aN : Nat} {w : World} {v : Value} {l : List α}
theorem aM.elem (h:aM R t aN w v l){i:Nat}{a:α} (p:l[i]?=some a) :
  ∃g dA xs cs,v=.slice (some ⟨g,0,none⟩) l.length dA∧aN≤g∧g<w.heap.size∧aH w g t xs∧R.rel w w.heap.size a cs∧(∀(j:Nat) u,cs[j]?=some u→w.cell? ⟨g,i*R.size+j,none⟩=some u)∧(∀j,w.frozen? ⟨g,j,none⟩=false):=by
 obtain⟨y,q,e,z⟩:=h;have H:i<l.length:=(aS.1 p).1;have d:=aM.j_ e z;obtain⟨m,r⟩:=Ep y d;have k:y[i]?=some (y[i]'(by omega)):=Bg (by omega);rcases q.2 with⟨rfl,n⟩|⟨g,dA,aF,rfl,c,f,o,K,_,s⟩
 ·omega
 ·have x:aH w g t aF:=f;refine⟨g,dA,aF,_,rfl,c,x.lt,x,z i a _ p k,fun j u b=>?_,x.frozen⟩;have:=r i j _ u k b;rw[←s,oe]at this;split at this
  ·rw[x.cell];simpa using this
  ·cases this
theorem aM.upd (h:aM R t aN w v l){i j:Nat}{a H:α} (f:l[i]?=some a) (V:j<R.size) (u:Value) (Q:t ∉ R.df) (D:N0≤aN) (S:∀cs,R.rel w w.heap.size a cs→R.rel w w.heap.size H (cs.set j u)) {g n dA:Nat} (q:v=.slice (some ⟨g,0,none⟩) n dA) :
  aM R t aN (w.setCell ⟨g,i*R.size+j,none⟩ u) v (l.set i H):=by
 obtain⟨p,s,m,r⟩:=h;have F:i<l.length:=(aS.1 f).1;have Z:=aM.j_ m r;have c:p[i]?=some (p[i]'(by omega)):=Bg (by omega);have C:i*R.size+j<l.length*R.size:=by
  have:(i+1)*R.size≤l.length*R.size:=pd _ (by omega);rw[oP]at this;omega
 have K:∃aF,aH w g t aF∧aN≤g:=by
  rcases s.2 with⟨x,_⟩|⟨d,U,aF,x,Y,B,_⟩
  ·rw[q]at x;cases x
  ·rw[q]at x;injection x with x;injection x with x;injection x with x;subst x;exact⟨aF,B,Y⟩
 obtain⟨aF,A,E⟩:=K;obtain⟨d,U,e,_,_,_,_,X⟩:=Zjv s C;have P:g=d:=by rw[q]at e;injection e with x;injection x with x;injection x with x
 subst P;refine⟨p.set i ((p[i]'(by omega)).set j u),?_,by simp[m],fun k b cs y z=>?_⟩
 ·rw[←Mj u p Z i j _ c V]
  simpa using X u
 ·rw[Br];refine R.setCell ?_ A Q (by omega) _ _;by_cases o:i=k
  ·subst o;rw[pQ (by omega)]at y z
   injection y with y
   injection z with z
   subst y z;exact S _ (r i a _ f c)
  ·rw[List.getElem?_set_ne o]at y z;exact r k b cs y z
theorem aM.aG (h:aM R t aN w v l){g n dA:Nat} (y:v=.slice (some ⟨g,0,none⟩) n dA):aN≤g∧∃xs,aH w g t xs:=by
 obtain⟨p,z,_,_⟩:=h;rcases z.2 with⟨x,_⟩|⟨r,q,aF,x,k,u,_⟩
 ·rw[y]at x;cases x
 ·rw[y]at x;injection x with x;injection x with x;injection x with x;subst x;exact⟨k,aF,u⟩
theorem aM.dE (h:aM R t aN w v l){k:Nat}{t0:TypeId}{xs:Array Value}(n:aH w k t0 xs)(c:∀z,v.ownBlock=some z→z≠k)(q:t0 ∉ R.df)(s:N0≤k)(i:Nat)(u:Value):aM R t aN (w.setCell ⟨k,i,none⟩ u) v l:=by
 obtain⟨p,x,f,r⟩:=h;refine⟨p,⟨x.1,?_⟩,f,fun j a cs e b=>?_⟩
 ·rcases x.2 with h|⟨g,dA,aF,y,m,o,d⟩
  ·exact .inl h
  ·exact .inr ⟨g,dA,aF,y,m,by rw[Bp _ _ _ _ (by have:=c g (by rw[y];rfl);simpa using this)];exact o,d⟩
 ·rw[Br];exact R.setCell (r j a cs e b) n q s _ _
theorem aM.mN (h:aM R t aN w v l)(q:N0≤aN)(g:Nat)(t':TypeId)(xs:Array Value)(z:Nat×Nat)(e:v.ownBlock=some g) (x:w.heap[g]?=some (.cells xs t' z)):N0≤g∧t'=t:=by
 obtain⟨p,_,k,y⟩:=h.block e;rw[y]at x
 injection x with x
 injection x with _ u
 exact⟨by omega,u.symm⟩
theorem aM.apart {β:Type}{S:Repr N0 β}{w':World}{u:Nat}{x:TypeId}{z:Value}{y:List β}(h:aM S x u w z y)(k:aM R t aN w v l)(p:w.grownBy w' v.ownBlock)(s:N0≤aN)(q:t ∉ x::S.df):aM S x u w' z y :=
 h.grown p fun g t' xs a e c=>by obtain⟨b,r⟩:=k.mN s g t' xs a e c;exact⟨b,r ▸ q⟩
end
theorem Repr.apart {N0:Nat}{β:Type}(S:Repr N0 β){α:Type}{R:Repr N0 α}{t:TypeId}{aN:Nat}{w:World}{v:Value}{l:List α}{w':World}{B:Nat}{b:β}{cs:List Value}(h:S.rel w B b cs)(k:aM R t aN w v l)(x:w.grownBy w' v.ownBlock)(u:N0≤aN)(y:t ∉ S.df):S.rel w' B b cs :=
 S.grown h x fun g t' xs p e r=>by obtain⟨q,z⟩:=k.mN u g t' xs p e r;exact⟨q,z ▸ y⟩
end
section
open Go.RowKit
structure cW where
 M:Nat
 B:Nat
 sA:Option Addr
 sn:Nat
 sc:Nat
 c2:Value
 c3:Value
 c4:Value
 c5:Value
 c6:Value
 c7:Value
 c8:Value
 c9:Value
 fS:Value
 fa:Value
def Mk (w:World)(m:cW):Prop :=
 ∃aK:Nat,aK≤m.sn∧m.sn≤1000000000000∧m.B≤m.M∧aH w m.M 121 #[.slice m.sA m.sn m.sc,Aj aK,m.c2,m.c3,m.c4,m.c5,m.c6,m.c7,m.c8,m.c9,m.fS,m.fa] ∧
  ∃xs:List Int,aE w m.B 1 m.sA m.sn (xs.map (Value.int .i64))∧∀x∈xs,bS x
theorem Mk.lt {w:World}{m:cW}(h:Mk w m):m.M<w.heap.size:=by
 obtain⟨_,_,_,_,x,_⟩:=h;exact x.lt
theorem Mk.cells {w:World}{m:cW}(h:Mk w m) :
  (∀i,2≤i→w.cell? ⟨m.M,i,none⟩=(#[m.c2,m.c3,m.c4,m.c5,m.c6,m.c7,m.c8,m.c9,m.fS,m.fa]:Array Value)[i-2]?)∧∀i,w.frozen? ⟨m.M,i,none⟩=false:=by
 obtain⟨_,_,_,_,x,_⟩:=h;refine⟨fun i hi=>?_,x.frozen⟩;rw[x.cell];obtain⟨j,rfl⟩:∃j,i=j+2:=⟨i-2,by omega⟩;simp
abbrev dX (M:Nat)(w w':World):Prop:=Fr (fun k=>k=M) w w'
def Zgp (m:cW)(n:Int)(w:World)(e:Ending)(w':World):Prop :=
 ∃r:Int,0≤r∧r<n∧e=.returned (Aj r)∧Mk w' m∧dX m.M w w'∧w'.heap.size=w.heap.size
theorem Bk (w:World)(m:cW)(n:Int)(h:Mk w m)(hb:1≤n)(F:n≤1000000000) :
  Calls Tryz.prog 56 #[.pointer (some ⟨m.M,0,none⟩),Aj n] w (Zgp m n w):=by
 obtain⟨M,B,R,z,J,U,W,O,G,I,V,S,A,fS,fa⟩:=m;obtain⟨aK,f,p,v,y,xs,c,q⟩:=h;simp only at f p v y c q ⊢;have L:=y.lt;have j:=y.cell 0;have H:=y.cell 1;have C:=y.frozen 1;simp only[Az,Ay,Bc]at j H;have e:=Aq y;have u:=Aq c;have s:=Aq q;clear y c q;by_cases sn:aK<z
 ·obtain⟨b,off,rfl,T,d⟩:=u.o.2 (by omega);have K:xs.length=z:=by have:=u.o.1;simpa using this
  obtain⟨x,r⟩:∃x,xs[aK]?=some x:=⟨_,Bg (by omega)⟩;have N:=d aK (Aj x) (by rw[Cc,r];rfl);have l:=s.o x (Bx r);unfold bS at l;have Z : -n<x.tmod n:=by have:=Int.lt_tmod_of_pos x (show 0<n by omega);omega
  have Q:x.tmod n<n:=Int.tmod_lt_of_pos x (by omega);have P:b≠M:=by omega
  have E:b<w.heap.size:=by omega
  have g:0≤(x.tmod n+n) % n∧(x.tmod n+n) % n<n:=⟨oT _ (by omega),oU _ (by omega)⟩;have Y:(0:Int)≤(aK:Int):=by omega
  have X:(aK:Int)<(z:Int):=by omega
  clear d r K;go_enter Tryz.func56,Tryz.ntmps56;go_wp2_with fail
  go_quiet (fail);obtain⟨a,i⟩:∃a,a=nq:=⟨_,rfl⟩;rw[←i];clear i;go_wp2_with fail
  go_quiet (fail);go_wp2_with fail
  go_ret;refine⟨_,g.1,g.2,rfl,⟨aK+1,by show aK+1≤z;omega,p,v,?_,xs,(u.o.drewN _).setCell v _,s.o⟩,((qu (fun k=>k=M) w).drewN _).setCell (.inl rfl) _,by simp[World.setCell]⟩;have:=(e.o.drewN (a+nq)).aZ 1 (Aj ((aK:Int)+1))
  simpa using this
 ·have D:(z:Int)≤(aK:Int):=by omega
  go_enter Tryz.func56,Tryz.ntmps56;go_wp2_with fail
  go_quiet (fail);go_wp2_with fail
  go_ret;exact⟨0,by omega,by omega,rfl,⟨aK,f,p,v,e.o.drewN _,xs,u.o.drewN _,s.o⟩,(qu _ w).drewN _,rfl⟩
def Gk (N0:Nat):Repr N0 (Int×Int×Bool):=Repr.bi Repr.int (Repr.bi Repr.int Repr.bool)
def Ei (N0:Nat):Repr N0 (List Int):=Repr.row 3 Repr.int
def Cv (N0:Nat):Repr N0 (List (Int×Int×Bool)×List Int):=Repr.bi (Repr.row 230 (Gk N0)) (Ei N0)
theorem Qm (N0:Nat)(w:World)(B:Nat)(x y:Int)(b:Bool)(u:bS x)(z:bS y):(Gk N0).rel w B (x,y,b) [Aj x,Aj y,.bool b]:=⟨[_],[_,_],rfl,⟨rfl,u⟩,[_],[_],rfl,⟨rfl,z⟩,rfl⟩
theorem Xc:(Tryz.prog.info? 230).map (fun i=>(i.zero,i.size,i.bytes))=some (some (.agg #[Aj 0,Aj 0,.bool false]),3,24):=by kernel_rfl
theorem Ig:(Tryz.prog.info? 3).map (fun i=>(i.zero,i.size,i.bytes))=some (some (Aj 0),1,8):=by kernel_rfl
section
variable (N0 : Nat) (m : cW) (w0 : World)
structure ez (ob:Nat) (wx:World) (vp ve:Value) (l:List (Int×Int×Bool)) (es:List Int):Prop where
 box:aH wx ob 68 #[vp,ve]
 bq:aM (Gk N0) 230 w0.heap.size wx vp l
 aJ:aM (Repr.int (N0:=N0)) 3 w0.heap.size wx ve es
 am:Mk wx m
 fr:dX m.M w0 wx
 bU:w0.heap.size≤ob
 hM:N0≤m.M∧m.M<w0.heap.size
end
section
variable {N0 : Nat} {m : cW} {w0 wx wy : World} {ob : Nat} {vp ve : Value} {l : List (Int × Int × Bool)} {es : List Int}
theorem ez.next (h:ez N0 m w0 ob wx vp ve l es)(u:Mk wy m)(x:dX m.M wx wy):ez N0 m w0 ob wy vp ve l es:=by
 have z:=h.am;obtain⟨aK,_,_,_,y,_⟩:=z;have hM:=h.hM;have bU:=h.bU;exact⟨x.aG h.box (by omega),h.bq.fr x y (by simp[Gk,Repr.bi,Repr.int,Repr.bool]) hM.1,h.aJ.fr x y (by simp[Repr.int]) hM.1,u,h.fr.trans x,bU,hM⟩
theorem ez.alloc (h:ez N0 m w0 ob wx vp ve l es)(o:Obj):ez N0 m w0 ob (wx.alloc o) vp ve l es:=by
 obtain⟨aK,k,y,z,x,xs,v,u⟩:=h.am;have p:=x.lt;exact⟨h.box.alloc o,h.bq.below (aI.alloc Aw _) Aw,h.aJ.below (aI.alloc Aw _) Aw,⟨aK,k,y,z,x.alloc o,xs,v.alloc (by omega) o,u⟩,h.fr.alloc o,h.bU,h.hM⟩
theorem ez.drew (h:ez N0 m w0 ob wx vp ve l es):ez N0 m w0 ob wx.drew vp ve l es :=
 ⟨h.box,h.bq.below (ds wx.heap.size wx).drew Aw,h.aJ.below (ds wx.heap.size wx).drew Aw,h.am,h.fr.drew,h.bU,h.hM⟩
theorem Ft (x:Int):bS (IntKind.i64.wrap x):=by rw[IntKind.wrap_i64];unfold bS;omega
theorem Mk.grown {α:Type}{R:Repr N0 α}{t:TypeId}{aN:Nat}{v:Value}{l:List α}(h:Mk wx m)(x:aM R t aN wx v l)(y:wx.grownBy wy v.ownBlock)(q:121≠t)(d:m.M<aN):Mk wy m:=by
 obtain⟨aK,s,u,a,z,xs,r,k⟩:=h;refine⟨aK,s,u,a,z.cT x y q,xs,r.aQ fun p b=>?_,k⟩;exact pL (w:=wx) (y.block p.block (by have:=z.lt;omega) fun e=>by obtain⟨c,_⟩:=x.block e.symm;omega)
theorem Mk.alloc (h:Mk wx m)(o:Obj):Mk (wx.alloc o) m:=by
 obtain⟨aK,k,y,z,x,xs,v,u⟩:=h;have p:=x.lt;exact⟨aK,k,y,z,x.alloc o,xs,v.alloc (by omega) o,u⟩
theorem Mk.setCell (h:Mk wx m){p:Addr}(r:m.M<p.block)(u:Value):Mk (wx.setCell p u) m:=by
 obtain⟨aK,q,x,y,z,xs,k,v⟩:=h;exact⟨aK,q,x,y,z.dE (by omega) u,xs,k.setCell (by omega) u,v⟩
theorem Fr.dt {M:Nat}{row:Option Nat}(h:dX M w0 wx)(x:wx.grownBy wy row)(u:∀g,row=some g→w0.heap.size≤g):dX M w0 wy :=
 ⟨x.os.trans h.os,x.tape.trans h.tape,x.output.trans h.output,Ex h.size x.size,fun k y z=>(x.block k (Dm y h.size) fun e=>by have:=u k e.symm;omega).trans (h.block k y z)⟩
theorem ez.push (h:ez N0 m w0 ob wx vp ve l es){o:Obj}{k:Option Addr}{n' v:Nat} {l':List (Int×Int×Bool)} (p:aM (Gk N0) 230 w0.heap.size wy (.slice k n' v) l') (y:(wx.alloc o).grownBy wy vp.ownBlock) :
  aH wy ob 68 #[vp,ve]∧ez N0 m w0 ob (wy.setCell ⟨ob,0,none⟩ (.slice k n' v)) (.slice k n' v) ve l' es:=by
 have x:=h.alloc o;have hM:=h.hM;have bU:=h.bU;have z:=x.box.cT x.bq y (by decide);have r:aM (Repr.int (N0:=N0)) 3 w0.heap.size wy ve es:=x.aJ.grown y fun g t' xs a e u=>by
  obtain⟨c,_,b,q⟩:=x.bq.block e;rw[q]at u
  injection u with u
  injection u with _ s
  subst s;exact⟨by omega,by simp[Repr.int]⟩
 refine⟨z,⟨by simpa using z.aZ 0 (.slice k n' v),p.setCell z (by simp[Gk,Repr.bi,Repr.int,Repr.bool]) (by omega) 0 _,r.setCell z (by simp[Repr.int]) (by omega) 0 _,(x.am.grown x.bq y (by decide) (by omega)).setCell (by simp;omega) _,?_,bU,hM⟩⟩;exact(x.fr.dt y fun g e=>(x.bq.block e).1).setCell (.inr bU) _
theorem ez.pushE (h:ez N0 m w0 ob wx vp ve l es){o:Obj}{k:Option Addr}{n' v:Nat}{p:List Int} (q:aM (Repr.int (N0:=N0)) 3 w0.heap.size wy (.slice k n' v) p) (y:(wx.alloc o).grownBy wy ve.ownBlock) :
  aH wy ob 68 #[vp,ve]∧ez N0 m w0 ob (wy.setCell ⟨ob,1,none⟩ (.slice k n' v)) vp (.slice k n' v) l p:=by
 have x:=h.alloc o;have hM:=h.hM;have bU:=h.bU;have z:=x.box.cT x.aJ y (by decide);have s:aM (Gk N0) 230 w0.heap.size wy vp l:=x.bq.grown y fun g t' xs b e u=>by
  obtain⟨d,_,c,r⟩:=x.aJ.block e;rw[r]at u
  injection u with u
  injection u with _ a
  subst a;exact⟨by omega,by simp[Gk,Repr.bi,Repr.int,Repr.bool]⟩
 refine⟨z,⟨by simpa using z.aZ 1 (.slice k n' v),s.setCell z (by simp[Gk,Repr.bi,Repr.int,Repr.bool]) (by omega) 1 _,q.setCell z (by simp[Repr.int]) (by omega) 1 _,(x.am.grown x.aJ y (by decide) (by omega)).setCell (by simp;omega) _,?_,bU,hM⟩⟩;exact(x.fr.dt y fun g e=>(x.aJ.block e).1).setCell (.inr bU) _
end
end
section
open Go.RowKit
def My (N0:Nat)(m:cW)(w0:World)(ob a b:Nat)(wx:World):Prop:=∃vp ve l es,ez N0 m w0 ob wx vp ve l es∧l.length≤a∧es.length≤b
def Zkt (N0:Nat)(m:cW)(w:World)(e:Ending)(w':World):Prop :=
 ∃vp ve l es,e=.returned (.agg #[vp,ve])∧(Cv N0).rel w' w'.heap.size (l,es) [vp,ve]∧l.length≤10∧es.length≤2∧Mk w' m∧dX m.M w w'
theorem Sx (N0:Nat)(m:cW)(w:World)(h:Mk w m)(hN:N0≤m.M) :
  Calls Tryz.prog 84 #[.pointer (some ⟨m.M,0,none⟩)] w (Zkt N0 m w):=by
 obtain⟨i0,hi,HI,b0,A1⟩:=info_parts Xc;obtain⟨i1,ji,h4,h8,h2⟩:=info_parts Ig;have z0:=h.lt;have h6:=Aq h;clear h;go_enter Tryz.func84,Tryz.ntmps84;go_wp2_with fail
 obtain⟨w0,Z⟩:∃w0,w0=w.alloc (.cells #[.slice none 0 0,.slice none 0 0] 68):=⟨_,rfl⟩;have hz:w0.heap.size=w.heap.size+1:=by rw[Z];simp
 have hS:Mk (w0.alloc (.cells #[.slice none 0 0,.slice none 0 0] 68)) m:=by
  obtain⟨aK,ha,hs,x5,hb,xs,hr,hx⟩:=h6.o;rw[Z];exact⟨aK,ha,hs,x5,(hb.alloc _).alloc _,xs,(hr.alloc (by omega) _).alloc (by simp;omega) _,hx⟩
 have c1:aH w0 w.heap.size 68 #[.slice none 0 0,.slice none 0 0]:=by rw[Z];exact qv _ _ _
 have T:ez N0 m w0 (w.heap.size+1) (w0.alloc (.cells #[.slice none 0 0,.slice none 0 0] 68)) (.slice none 0 0) (.slice none 0 0) [] [] :=
  ⟨qw _ _ _ (by omega),qz _ _ _ _,qz _ _ _ _,hS,(qu _ _).alloc _,by omega,hN,by omega⟩
 have h9:dX m.M w w0:=by rw[Z];exact(qu _ _).alloc _
 rw[←Z];have F:=Aq T;have x6:=Aq c1;clear Z T hS;refine(Bk _ m 3 F.o.am (by omega) (by omega)).mono ?_;rintro e w1⟨n,y1,z2,rfl,H,f,-⟩;have W:=F.o.next H f;have S:Hid (My N0 m w0 (w.heap.size+1) 0 0 w1):=⟨_,_,_,_,W,by simp,by simp⟩;clear F W H f;go_wp2_with fail
 go_loopw [5] (fun i wr=>∃k:Nat,k≤n.toNat∧i=Aj k∧My N0 m w0 (w.heap.size+1) (5*k) k wr) (fun i _=>n.toNat-(intOf i).toNat)
 case atStart=>exact⟨0,by omega,rfl,S.o⟩
 case round =>
  clear S;obtain⟨k,hk,rfl,I⟩:=hrel;obtain⟨vp,ve,l,es,r,E,Q⟩:=I;have s:=Aq r;clear r;by_cases y3:(k:Int)<n
  ·go_wp2_with fail
   refine(Bk _ m 4 s.o.am (by omega) (by omega)).mono ?_;rintro e w2⟨q,z4,y6,rfl,Y,g,-⟩;have N:=s.o.next Y g;have S:Hid (My N0 m w0 (w.heap.size+1) (5*k) k w2):=⟨_,_,_,_,N,E,Q⟩;clear s Y g N E Q;go_wp2_with fail
   go_loopw [7] (fun i wr=>∃p:Nat,p≤(2+q).toNat∧i=Aj p∧My N0 m w0 (w.heap.size+1) (5*k+p) k wr) (fun i _=>(2+q).toNat-(intOf i).toNat)
   case atStart=>exact⟨0,by omega,rfl,S.o⟩
   case round =>
    clear S;obtain⟨p,hp,rfl,I⟩:=hrel;obtain⟨vp,ve,l,es,r,E,Q⟩:=I;by_cases x9:(p:Int)<2+q
    ·go_upto_block 3 with(fail)
     go_cut [] (fun wx=>My N0 m w0 (w.heap.size+1) (5*k+p+1) k wx)
     case first =>
      have U:=r.drew;have a:wr.drew.cell? ⟨w.heap.size+1,0,none⟩=some vp:=by rw[U.box.cell];rfl
      have y7:l.length≤100:=by omega
      have y4:w0.heap.size≤wr.heap.size:=r.fr.size;by_cases h7:p=0
      ·subst h7;go_wp2_with fail
       refine Bs (fun i=>!([3,7,18,19,21]:List Nat).contains i) (fun i=>([1]:List Nat).contains i) (fun i=>([3,7,18]:List Nat).contains i) [0,1,2,6,10,11,3,4,5,7,8,9,12,13,14,15,16,17,18,19,20,21] (fun w'=>w'.cell? ⟨w.heap.size+1,0,none⟩=some vp) (by kernel_rfl) (by kernel_rfl) (by kernel_rfl) (by kernel_rfl) ?_;refine Be ?_;refine Bj a ?_
       iterate 4 (refine Be ?_)
       refine Bi fun K u=>?_;go_simp
       refine(Bk _ m _ U.am (by omega) (by omega)).mono ?_;rintro e G⟨r1,x4,x7,rfl,H,f,-⟩;have d:=U.next H f;have a:G.cell? ⟨w.heap.size+1,0,none⟩=some vp:=by rw[d.box.cell];rfl
       dsimp only;refine u _ _ (fun _=>a) ?_;clear u K;refine Be ?_;refine Be ?_;refine Bi fun K u=>?_;go_simp
       refine(Bk _ m _ d.am (by omega) (by omega)).mono ?_;rintro e C⟨r2,h5,b1,rfl,Y,g,-⟩;have c:=d.next Y g;have a:C.cell? ⟨w.heap.size+1,0,none⟩=some vp:=by rw[c.box.cell];rfl
       dsimp only;refine u _ _ (fun _=>a) ?_;clear u K
       iterate 3 (refine Be ?_)
       refine Ch rfl rfl rfl (by kernel_rfl) (fun _ _ _ h=>h) ?_;refine Ch rfl rfl rfl (by kernel_rfl) (fun _ _ _ h=>h) ?_;refine Ch rfl rfl rfl (by kernel_rfl) (fun _ _ _ h=>h) ?_;refine Be ?_;refine Be ?_;refine Bi fun K u=>?_;go_simp
       refine u _ _ (fun _=>by rw[(c.alloc _).box.cell];rfl) ?_;clear u K;refine Bi fun K u=>?_
       refine Df _ rfl (.tmp 24) (.tmp 41) _ rfl (Gk N0) w0.heap.size 230 i0 _ 24 Tryz.underlying66 hi HI b0 A1 rfl (show 0<3 by decide) (by simp[Gk,Repr.bi,Repr.int,Repr.bool]) (by omega) vp l rfl (c.alloc _).bq C.heap.size _ _ rfl (qv _ _ _) (Qm _ _ _ _ _ _ (Ft _) (Ft _)) (by unfold maxLen;omega) (by omega) (by simp;have:=c.fr.size;omega) ?_;intro A' c' w3 X P;obtain⟨b,j⟩:=c.push X P;have A:=b.cell 0;have O:=b.frozen 0;have L:=b.lt;simp only[Az,Ay]at A;refine Bh u ?_;clear u K;refine Be ?_;refine Bi fun K u=>?_;go_simp
       refine Bh u ?_;clear u K;refine Bb ?_;go_wp2_with fail
       go_meet;exact⟨_,_,_,_,j,by simp;omega,Q⟩
      ·have z1:((p:Int)==0)=false:=by simpa using (by omega:¬ (p:Int)=0)
       go_wp2_with fail
       refine Bs (fun i=>!([3,7,14,18,19,21]:List Nat).contains i) (fun i=>([1]:List Nat).contains i) (fun i=>([3,7,14,18]:List Nat).contains i) [0,1,2,6,10,11,3,4,5,7,8,9,12,13,14,15,16,17,18,19,20,21] (fun w'=>w'.cell? ⟨w.heap.size+1,0,none⟩=some vp) (by kernel_rfl) (by kernel_rfl) (by kernel_rfl) (by kernel_rfl) ?_;refine Be ?_;refine Bj a ?_
       iterate 4 (refine Be ?_)
       refine Bi fun K u=>?_;go_simp
       refine(Bk _ m _ U.am (by omega) (by omega)).mono ?_;rintro e G⟨r1,x4,x7,rfl,H,f,-⟩;have d:=U.next H f;have a:G.cell? ⟨w.heap.size+1,0,none⟩=some vp:=by rw[d.box.cell];rfl
       dsimp only;refine u _ _ (fun _=>a) ?_;clear u K;refine Be ?_;refine Be ?_;refine Bi fun K u=>?_;go_simp
       refine(Bk _ m _ d.am (by omega) (by omega)).mono ?_;rintro e C⟨r2,h5,b1,rfl,Y,g,-⟩;have c:=d.next Y g;have a:C.cell? ⟨w.heap.size+1,0,none⟩=some vp:=by rw[c.box.cell];rfl
       dsimp only;refine u _ _ (fun _=>a) ?_;clear u K
       iterate 4 (refine Be ?_)
       refine Bi fun K u=>?_;go_simp
       refine(Bk _ m _ c.am (by omega) (by omega)).mono ?_;rintro e hl⟨r3,y5,y9,rfl,h0,b2,-⟩;have V:=c.next h0 b2;have a:hl.cell? ⟨w.heap.size+1,0,none⟩=some vp:=by rw[V.box.cell];rfl
       dsimp only;refine u _ _ (fun _=>a) ?_;clear u K
       iterate 3 (refine Be ?_)
       refine Bi fun K u=>?_;go_simp
       refine u _ _ (fun _=>by rw[(V.alloc _).box.cell];rfl) ?_;clear u K;refine Bi fun K u=>?_
       refine Df _ rfl (.tmp 24) (.tmp 41) _ rfl (Gk N0) w0.heap.size 230 i0 _ 24 Tryz.underlying66 hi HI b0 A1 rfl (show 0<3 by decide) (by simp[Gk,Repr.bi,Repr.int,Repr.bool]) (by omega) vp l rfl (V.alloc _).bq hl.heap.size _ _ rfl (qv _ _ _) (Qm _ _ _ _ _ _ (Ft _) (Ft _)) (by unfold maxLen;omega) (by omega) (by simp;have:=V.fr.size;omega) ?_;intro A' c' w3 X P;obtain⟨b,j⟩:=V.push X P;have A:=b.cell 0;have O:=b.frozen 0;have L:=b.lt;simp only[Az,Ay]at A;refine Bh u ?_;clear u K;refine Be ?_;refine Bi fun K u=>?_;go_simp
       refine Bh u ?_;clear u K;refine Bb ?_;go_wp2_with fail
       go_meet;exact⟨_,_,_,_,j,by simp;omega,Q⟩
     case rest =>
      go_wp2_with fail
      go_roundw
      case rel=>exact⟨p+1,by omega,by go_num,hcut⟩
      case measure=>simp[intOf];omega
    ·have c2:(p:Int)=2+q:=by omega
     have y0:l.length≤100:=by omega
     obtain⟨B,D,rfl,_,_,_⟩:=r.bq.form;have x0:=r.box.cell 0;have x1:=r.box.cell 1;have x2:=r.box.lt;have x3:=r.fr.size;have hM:=r.hM;simp only[Az,Ay,Bc]at x0 x1;have s:=Aq r;have z3:=Aq c2;clear r c2;go_wp2_with (at_builtin;refine Ee _ rfl (.tmp 45) (.tmp 50) _ rfl (Repr.int (N0:=N0)) w0.heap.size 3 i1 _ 8 Tryz.underlying22 ji h4 h8 h2 rfl (show 0<1 by decide) (by simp[Repr.int]) (by omega) ve es rfl (s.o.alloc _).aJ wr.heap.size [_] ((l.length:Int)-1) rfl (qv _ _ _) ⟨rfl,(by unfold bS;omega)⟩ (by unfold maxLen;omega) (by omega) (by simp;omega) ?_;intro A' c' w3 X P;obtain⟨b,j⟩:=s.o.pushE X P;have A:=b.cell 1;have O:=b.frozen 1;have L:=b.lt;simp only[Az,Ay,Bc]at A;have h1:=Aq j;clear j b X)
     exact⟨⟨k+1,by omega,by go_num,⟨_,_,_,_,h1.o,by omega,by simp;omega⟩⟩,by simp[intOf];omega⟩
  ·obtain⟨B,D,rfl,e1,e2,e3⟩:=s.o.bq.form;obtain⟨A2,J,rfl,f1,f2,f3⟩:=s.o.aJ.form;have x:=s.o.box.cell;have x2:=s.o.box.lt;have he:=s.o.fr;have R:=he.aG x6.o (by omega);have y:=R.cell;have z:=R.frozen;have y2:=R.lt;have hM:=s.o.hM;have y8:w.heap.size+1≠w.heap.size:=by omega
   have h3:=Aq R;clear R c1;go_wp2;refine bodyPost_ret (v:=.agg #[.slice B l.length D,.slice A2 es.length J]) (by simp[results,Tryz.results84,go_sem,y]) rfl ?_;have hK:=h3.o;refine⟨_,_,l,es,rfl,?_,by omega,by omega,?_,?_⟩
   ·have hrel:(Cv N0).rel wr wr.heap.size (l,es) [.slice B l.length D,.slice A2 es.length J]:=⟨[_],[_],rfl,⟨_,_,rfl,e1,e2,e3⟩,⟨_,_,rfl,f1,f2,f3⟩⟩;have x8:=hK.aZ 0 (.slice B l.length D);rw[Br,Br];exact(Cv N0).setCell ((Cv N0).setCell hrel hK (by simp[Cv,Gk,Ei,Repr.row,Repr.bi,Repr.int,Repr.bool]) (by omega) 0 _) x8 (by simp[Cv,Gk,Ei,Repr.row,Repr.bi,Repr.int,Repr.bool]) (by omega) 1 _
   ·exact(s.o.am.setCell (by simp;omega) _).setCell (by simp;omega) _
   ·exact((h9.trans he).setCell (.inr (by simp)) _).setCell (.inr (by simp)) _
def wtI (M L:Nat)(x:Int×Int):Nat:=if x.1=37 then M else if x.1=38 then L else 1
def wt (M L:Nat):List (Int×Int)→Nat
 | []=>0
 |x::r=>wtI M L x+wt M L r
theorem Ps (M L:Nat):∀(l k:List (Int×Int)),wt M L (l++k)=wt M L l+wt M L k
 | [],k=>by simp[wt]
 |x::r,k=>by rw[oa,wt,wt,Ps M L r k];omega
def Zai (l:List (Int×Int)):Bool:=l.all fun x=>x.1 != 37 && x.1 != 38
theorem Oz {l:List (Int×Int)} (h:Zai l=true):∀x∈l,x.1≠37∧x.1≠38:=fun x y=>by
 have:=List.all_eq_true.1 h x y
 simpa using this
theorem Ux (M L:Nat):∀(l:List (Int×Int)),(∀x∈l,x.1≠37∧x.1≠38)→wt M L l=l.length
 | [],_=>rfl
 |x::r,h=>by
  have z:=h x oD;rw[wt,wtI,if_neg z.1,if_neg z.2,Ux M L r (fun y u=>h y (oJ _ u)),Bo];omega
def Tg (fu:Int) (l:List (Int×Int)):Prop:=∀x∈l,(x.1=37∨x.1=38)→0≤x.2∧x.2<fu
def We (fu y z:Int) (l:List (Int×Int)):Prop:=Tg fu l∧((z=y∧(∀x∈l,x.1≠38)∧∀M L,9≤M→wt M L l≤M)∨(z=y-1∧0<y∧∀M L,wt M L l=L+1))
def eV (fu:Int)(k:Nat)(y z:Int) (l:List (Int×Int)):Prop:=Tg fu l∧z≤y∧(z=y→∀x∈l,x.1≠38)∧∀M D:Nat,9≤M→(wt M (M+D-1) l:Int)+z*D≤k*M+y*D
theorem Zjt {fu z:Int} (l:List (Int×Int)) (h:Zai l=true) (k:l.length≤9):We fu z z l :=
 ⟨fun x y u=>by have:=Oz h x y;omega,.inl ⟨rfl,fun x y=>(Oz h x y).2,fun M L v=>by rw[Ux M L l (Oz h)];omega⟩⟩
theorem eV.nil (fu z:Int):eV fu 0 z z []:=⟨fun x y=>by simp at y,pw _,fun _ x y=>by simp at y,fun M D _=>by simp[wt]⟩
theorem eV.step {fu r u s:Int}{k:Nat} {l q:List (Int×Int)} (h:eV fu k r u l) (p:We fu u s q):eV fu (k+1) r s (l++q):=by
 obtain⟨g,m,f,d⟩:=h;obtain⟨b,z⟩:=p;refine⟨fun x y=>(List.mem_append.1 y).elim (g x) (b x),?_,?_,?_⟩
 ·rcases z with⟨e,_⟩|⟨e,_⟩ <;> omega
 ·intro e x y;rcases z with⟨j,i,_⟩|⟨j,_⟩
  ·exact(List.mem_append.1 y).elim (f (by omega) x) (i x)
  ·omega
 ·intro M D v;have a:=d M D v;rw[Ps];have c:((k+1:Nat):Int)*M=k*M+M:=by rw[Int.natCast_add,Int.add_mul];simp
  rw[c];rcases z with⟨rfl,_,e⟩|⟨rfl,_,e⟩
  ·have:=e M (M+D-1) v;omega
  ·have:=e M (M+D-1);rw[Int.sub_mul];omega
theorem eV.mono {fu y z:Int}{k x:Nat} {l:List (Int×Int)} (h:eV fu k y z l) (v:k≤x):eV fu x y z l :=
 ⟨h.1,h.2.1,h.2.2.1,fun M D u=>by
  have a:=h.2.2.2 M D u;have:(k:Int)*M≤(x:Int)*M:=qt (by omega) (by omega);omega⟩
def Jd (l:List (Int×Int)):Prop:=l.length≤54∧∀M D:Nat,9≤M→wt M (M+D-1) l≤5*M+2*D
theorem Zbv {fu x:Int} {l:List (Int×Int)} (h:eV fu 5 2 x l) (u:0≤x) (z:l.length≤54):Jd l:=⟨z,fun M D y=>by
 have a:=h.2.2.2 M D y;have:0≤x*(D:Int):=Int.mul_nonneg u (by omega);omega⟩
def FnW (i:Nat) (f:List (Int×Int)):Prop:=Tg i f∧(∀x∈f,x.1≠38)∧∀M L,9≤M→wt M L f≤3*M
def ei (fl:List (List (Int×Int))):Prop:=(∀f∈fl,f.length≤36)∧∀i f,fl[i]?=some f→FnW i f
theorem Ym (M L L':Nat):∀(l:List (Int×Int)),(∀x∈l,x.1≠38)→wt M L l=wt M L' l
 | [],_=>rfl
 |x::r,h=>by rw[wt,wt,wtI,wtI,if_neg (h x oD),if_neg (h x oD),Ym M L L' r (fun y z=>h y (oJ _ z))]
theorem nC {i:Nat}{x:Int} {l:List (Int×Int)} (h:eV i 3 0 x l) (z:0≤x):FnW i l:=by
 have e:x=0:=by have:=h.2.1;omega
 refine⟨h.1,h.2.2.1 e,fun M L y=>?_⟩;have a:=h.2.2.2 M 0 y;rw[Ym M L (M+0-1) l (h.2.2.1 e)];omega
theorem ei.push {fl:List (List (Int×Int))} {f:List (Int×Int)} (h:ei fl) (z:f.length≤36) (y:FnW fl.length f):ei (fl++[f]):=by
 refine⟨fun g x=>?_,fun i g x=>?_⟩
 ·rcases List.mem_append.1 x with x|x
  ·exact h.1 g x
  ·simp only[oZ]at x;subst x;exact z
 ·rw[List.getElem?_append]at x;split at x
  ·exact h.2 i g x
  ·rename_i hi;have:i-fl.length=0:=by
    by_cases e:i-fl.length=0
    ·exact e
    ·rw[Je (by simp;omega)]at x;cases x
   rw[this]at x;simp only[Ay,Bv]at x;subst x;rw[show i=fl.length by omega];exact y
theorem ei.nil:ei []:=⟨fun f x=>by simp at x,fun i f x=>by simp at x⟩
def Rt (N0:Nat)(m:cW)(w:World)(fu y:Int)(e:Ending)(w':World):Prop :=
 ∃(l:List (Int×Int)) (A:Option Addr) (c:Nat) (x:Int),e=.returned (.slice A l.length c)∧l.length≤c∧c≤maxLen∧af (Qx N0) 96 w' w'.heap.size A l∧l.length≤9∧Mk w' {m with fa:=Aj x}∧0≤x∧x≤2∧dX m.M w w'∧We fu y x l
theorem Xq (N0:Nat)(w:World) (l:List (Int×Int)) (hi:Ints l):af (Qx N0) 96 (w.alloc (.cells (Cq l).toArray 96)) (w.alloc (.cells (Cq l).toArray 96)).heap.size (some ⟨w.heap.size,0,none⟩) l:=by
 have z:aH (w.alloc (.cells (Cq l).toArray 96)) w.heap.size 96 ((l.map fun x=>[Value.int .i64 x.1,Value.int .i64 x.2]).flatten).toArray:=by
  rw[←qp,←Jw];exact qv _ _ _
 refine af.jU _ z (by simp) ?_;clear z;generalize (w.alloc (.cells (Cq l).toArray 96))=W;generalize W.heap.size=B
 induction l with
 |nil=>trivial
 |cons x r ih=>exact⟨Zkg _ _ _ _ _ (hi x oD).1 (hi x oD).2,ih fun y u=>hi y (oJ _ u)⟩
theorem Mk.gw {w:World}{m:cW}(h:Mk w m)(x:Int):Mk (w.setCell ⟨m.M,11,none⟩ (Aj x)) {m with fa:=Aj x} := by
 obtain⟨aK,p,z,y,u,xs,k,v⟩:=h;exact⟨aK,p,z,y,by simpa using u.aZ 11 (Aj x),xs,k.setCell y _,v⟩
theorem Dq {N0:Nat}{m0 m:cW}{w w':World}{fu z x:Int} (l:List (Int×Int)) (h:Mk w' m) (v:dX m0.M w w') (u:m.fa=Aj x) (y:0≤x∧x≤2) (hi:Ints l) (k:l.length≤9) (p:We fu z x l:=by exact Zjt _ (by simp[Zai]) (by simp)) (q:m = {m0 with fa:=m.fa} := by rfl) :
  Rt N0 m0 w fu z (.returned (.slice (some ⟨w'.heap.size,0,none⟩) l.length l.length)) (w'.alloc (.cells (Cq l).toArray 96)):=by
 refine⟨l,_,_,x,rfl,Aw,by unfold maxLen;omega,Xq N0 w' l hi,k,?_,y.1,y.2,v.alloc _,p⟩;rw[←u,←q];exact h.alloc _
theorem Zak (N0:Nat)(m:cW)(w:World)(n fu b:Int)(h:Mk w m)(_hN:N0≤m.M)(h0:0≤n)(h8:n≤1000)(h2:0≤fu)(h7:fu≤1000)(R:m.fa=Aj b)(k:0≤b∧b≤2) :
  Calls Tryz.prog 83 #[.pointer (some ⟨m.M,0,none⟩),Aj n,Aj fu] w (Rt N0 m w fu b):=by
 have S:=Aq h;have u:=Aq R;clear h R;go_enter Tryz.func83,Tryz.ntmps83;go_wp2_with fail
 refine(Bk _ m _ S.o (by omega) (by omega)).mono ?_;rintro e w1⟨p,h3,h5,rfl,B,Z,-⟩;have A:=Aq B;clear B S;go_wp2_with fail
 refine(Bk _ m _ A.o (by omega) (by omega)).mono ?_;rintro e w2⟨q,x0,h6,rfl,C,Q,-⟩;have U:=Aq C;clear C A;go_wp2_with fail
 refine(Bk _ m _ U.o (by omega) (by omega)).mono ?_;rintro e w3⟨a,hc,h9,rfl,V,Y,-⟩;have P:=Aq V;clear V U;go_wp2_with fail
 refine(Bk _ m _ P.o (by omega) (by omega)).mono ?_;rintro e H⟨s,x1,h4,rfl,K,F,-⟩;have v:dX m.M w H:=((Z.trans Q).trans Y).trans F;have h1:=K.lt;have z:=Aq K;clear K P Z Q Y F;have hs:s=0∨s=1∨s=2∨s=3∨s=4∨s=5∨s=6∨s=7∨s=8∨s=9∨s=10∨s=11:=by omega
 rcases hs with rfl|rfl|rfl|rfl|rfl|rfl|rfl|rfl|rfl|rfl|rfl|rfl
 ·go_wp2;go_ret;exact Dq [(22,a),(23,a)] z.o v u.o k (by intro x y;simp only[Ga,If,or_false]at y;rcases y with rfl|rfl <;> exact⟨by unfold bS;simp only;omega,by unfold bS;simp only;omega⟩) (by simp)
 ·go_wp2_with fail
  refine(Bk _ m _ z.o (by omega) (by omega)).mono ?_;rintro e g⟨r,l,j,rfl,c,i,-⟩;have f:=Aq c;have d:dX m.M w g:=v.trans i;clear c;go_wp2;go_ret;exact Dq [(24,r)] f.o d u.o k (by intro x y;simp only[Ga,If,or_false]at y;rcases y with rfl <;> exact⟨by unfold bS;simp only;omega,by unfold bS;simp only;omega⟩) (by simp)
 ·go_wp2;go_ret;exact Dq [(1,p),(1,p),(29,0),(15,0),(32,0)] z.o v u.o k (by intro x y;simp only[Ga,If,or_false]at y;rcases y with rfl|rfl|rfl|rfl|rfl <;> exact⟨by unfold bS;simp only;omega,by unfold bS;simp only;omega⟩) (by simp)
 ·go_wp2;go_ret;exact Dq [(1,p),(1,p),(29,0),(15,0),(32,0)] z.o v u.o k (by intro x y;simp only[Ga,If,or_false]at y;rcases y with rfl|rfl|rfl|rfl|rfl <;> exact⟨by unfold bS;simp only;omega,by unfold bS;simp only;omega⟩) (by simp)
 ·go_wp2_with fail
  refine(Bk _ m _ z.o (by omega) (by omega)).mono ?_;rintro e g⟨r,l,j,rfl,c,i,-⟩;have f:=Aq c;have d:dX m.M w g:=v.trans i;clear c;go_wp2;go_ret;exact Dq [(1,p),(1,r-100),(31,0)] f.o d u.o k (by intro x y;simp only[Ga,If,or_false]at y;rcases y with rfl|rfl|rfl <;> exact⟨by unfold bS;simp only;omega,by unfold bS;simp only;omega⟩) (by simp)
 ·go_wp2;go_ret;exact Dq [(1,p),(1,q),(33,0)] z.o v u.o k (by intro x y;simp only[Ga,If,or_false]at y;rcases y with rfl|rfl|rfl <;> exact⟨by unfold bS;simp only;omega,by unfold bS;simp only;omega⟩) (by simp)
 ·go_wp2;go_ret;exact Dq [(34,a)] z.o v u.o k (by intro x y;simp only[Ga,If,or_false]at y;rcases y with rfl <;> exact⟨by unfold bS;simp only;omega,by unfold bS;simp only;omega⟩) (by simp)
 ·go_wp2;go_ret;exact Dq [(1,a),(1,q),(25,0),(1,3),(5,0),(26,0)] z.o v u.o k (by intro x y;simp only[Ga,If,or_false]at y;rcases y with rfl|rfl|rfl|rfl|rfl|rfl <;> exact⟨by unfold bS;simp only;omega,by unfold bS;simp only;omega⟩) (by simp)
 ·by_cases W:0<fu
  ·go_wp2_with fail
   refine(Bk _ m _ z.o (by omega) (by omega)).mono ?_;rintro e g⟨r,l,j,rfl,c,i,-⟩;have f:=Aq c;have d:dX m.M w g:=v.trans i;clear c;go_wp2;go_ret;exact Dq [(37,r)] f.o d u.o k (by intro x y;simp only[Ga,If,or_false]at y;rcases y with rfl <;> exact⟨by unfold bS;simp only;omega,by unfold bS;simp only;omega⟩) (by simp) ⟨fun x y _=>by simp only[Ga,If,or_false]at y;subst y;exact⟨l,j⟩,.inl ⟨rfl,fun x y=>by simp only[Ga,If,or_false]at y;subst y;simp,fun M L hM=>by simp[wt,wtI]⟩⟩
  ·go_wp2;go_ret;exact Dq [(39,0),(1,16),(17,0),(36,2),(1,q),(2,0)] z.o v u.o k (by intro x y;simp only[Ga,If,or_false]at y;rcases y with rfl|rfl|rfl|rfl|rfl|rfl <;> exact⟨by unfold bS;simp only;omega,by unfold bS;simp only;omega⟩) (by simp)
 ·have X:=z.o.cells.1 11 (by omega);have w4:=z.o.cells.2 11;simp only[Nat.reduceSub,Az,Bc,Ay]at X;rw[u.o]at X;by_cases W:0<fu
  ·by_cases HC:0<b
   ·have c:=z.o.gw (b-1);have d:dX m.M w (H.setCell ⟨m.M,11,none⟩ (Aj (b-1))):=v.setCell (.inl rfl) _;have f:=Aq c;clear c;go_wp2_with fail
    generalize O:H.setCell _ _=g at *;refine(Bk _ {m with fa:=Aj (b-1)} _ f.o (by omega) (by omega)).mono ?_;rintro e w6⟨r,l,j,rfl,E,T,-⟩;have hx:=Aq E;have G:dX m.M w w6:=d.trans T;clear E O X w4;go_wp2_with fail
    refine(Bk _ {m with fa:=Aj (b-1)} _ hx.o (by omega) (by omega)).mono ?_;rintro e w7⟨r',w5,N,rfl,D,lo,-⟩;have I:=Aq D;have J:dX m.M w w7:=G.trans lo;clear D;go_wp2;go_ret;exact Dq (m0:=m) [(1,r),(38,r')] I.o J rfl ⟨(by omega:0≤b-1),(by omega:b-1≤2)⟩ (by intro x y;simp only[Ga,If,or_false]at y;rcases y with rfl|rfl <;> exact⟨by unfold bS;simp only;omega,by unfold bS;simp only;omega⟩) (by simp) ⟨fun x y hh=>by simp only[Ga,If,or_false]at y;rcases y with rfl|rfl;(simp at hh);exact⟨w5,N⟩,.inr ⟨rfl,HC,fun M L=>by simp[wt,wtI];omega⟩⟩
   ·go_wp2;go_ret;exact Dq [(39,0),(1,16),(17,0),(36,2),(1,q),(2,0)] z.o v u.o k (by intro x y;simp only[Ga,If,or_false]at y;rcases y with rfl|rfl|rfl|rfl|rfl|rfl <;> exact⟨by unfold bS;simp only;omega,by unfold bS;simp only;omega⟩) (by simp)
  ·go_wp2;go_ret;exact Dq [(39,0),(1,16),(17,0),(36,2),(1,q),(2,0)] z.o v u.o k (by intro x y;simp only[Ga,If,or_false]at y;rcases y with rfl|rfl|rfl|rfl|rfl|rfl <;> exact⟨by unfold bS;simp only;omega,by unfold bS;simp only;omega⟩) (by simp)
 ·go_wp2;go_ret;exact Dq [(1,p),(30,0),(1,q),(29,0),(16,0),(36,3),(1,q),(1,64),(31,0)] z.o v u.o k (by intro x y;simp only[Ga,If,or_false]at y;rcases y with rfl|rfl|rfl|rfl|rfl|rfl|rfl|rfl|rfl <;> exact⟨by unfold bS;simp only;omega,by unfold bS;simp only;omega⟩) (by simp)
 ·go_wp2;go_ret;exact Dq [(39,0),(1,16),(17,0),(36,2),(1,q),(2,0)] z.o v u.o k (by intro x y;simp only[Ga,If,or_false]at y;rcases y with rfl|rfl|rfl|rfl|rfl|rfl <;> exact⟨by unfold bS;simp only;omega,by unfold bS;simp only;omega⟩) (by simp)
def Zgr (N0:Nat)(m:cW)(w:World)(b:Nat)(fu:Int)(K:Nat)(y:Int)(e:Ending)(w':World):Prop :=
 ∃(l:List (Int×Int)) (A:Option Addr) (c:Nat) (x:Int),e=.returned (.slice A l.length c)∧l.length≤c∧c≤maxLen∧af (Qx N0) 96 w' w'.heap.size A l∧l.length≤b∧Mk w' {m with fa:=Aj x}∧0≤x∧x≤2∧dX m.M w w'∧eV fu K y x l
def HInv (N0:Nat)(m:cW)(w:World)(fu y:Int)(K:Nat)(v i:Value)(wr:World):Prop :=
 ∃(k:Nat) (l:List (Int×Int)) (A:Option Addr) (c:Nat) (x:Int),k≤K∧i=Aj k∧v=.slice A l.length c∧aM (Qx N0) 96 w.heap.size wr v l∧l.length≤9*k∧Mk wr {m with fa:=Aj x}∧0≤x∧x≤2∧dX m.M w wr∧eV fu k y x l
theorem Mk.aG {w:World}{m:cW}(h:Mk w m):∃xs,aH w m.M 121 xs:=by obtain⟨_,_,_,_,x,_⟩:=h;exact⟨_,x⟩
theorem Vi (N0:Nat)(m:cW)(w:World)(n fu y x:Int)(h:Mk w m)(C:N0≤m.M)(W:0≤n)(H0:n≤1000)(HM:0≤fu)(h0:fu≤1000)(h5:1≤y)(e3:y≤100)(V:m.fa=Aj x)(X:0≤x∧x≤2) :
  Calls Tryz.prog 57 #[.pointer (some ⟨m.M,0,none⟩),Aj n,Aj fu,Aj y] w (Zgr N0 m w (9*y.toNat) fu (y-1).toNat x):=by
 obtain⟨i0,hi,lo,l2,e2⟩:=info_parts Zft;have hw:=h.lt;have P:=Aq h;have T:=Aq V;clear h V;go_enter Tryz.func57,Tryz.ntmps57;go_wp2_with fail
 refine(Bk _ m _ P.o (by omega) (by omega)).mono ?_;rintro e w1⟨K,h2,HC,rfl,D,b,-⟩;have a:HInv N0 m w fu x K.toNat (.slice none 0 0) (Aj 0) w1:=⟨0,[],none,0,x,by omega,rfl,rfl,qz _ _ _ _,by simp,by rw[←T.o];exact D,X.1,X.2,b,eV.nil _ _⟩;have F:=Aq a;clear a D b P;go_wp2_with fail
 go_loopw [9,11] (fun v i wr=>HInv N0 m w fu x K.toNat v i wr) (fun _ i _=>K.toNat-(intOf i).toNat)
 case atStart=>exact F.o
 case round =>
  clear F;obtain⟨k,l,A,c,q,hk,rfl,rfl,Y,hl,am,B,R,p,S⟩:=hrel;have h6:=p.size;have u:=Aq Y;have z:=Aq am;have Z:=Aq S;clear Y am S;by_cases h4:(k:Int)<K
  ·go_wp2_with fail
   refine(Zak N0 {m with fa:=Aj q} _ n fu q z.o C W H0 HM h0 rfl ⟨B,R⟩).mono ?_;rintro e w2⟨r,A2,L,c2,rfl,J,H,E,h3,G,g0,g1,f,d⟩;have e1:=Aq (Z.o.step d);clear d;obtain⟨xM,j⟩:=z.o.aG;have I:=u.o.fr f j (by simp[Qx,Repr.bi,Repr.int]) C;have U:dX m.M w w2:=p.trans f;have h1:=U.size;have s:=Aq I;have hc:=Aq E;have N:=Aq G;clear I E G j z u;go_wp2_with (at_builtin;refine Mz _ rfl (.tmp 20) (.tmp 24) _ rfl (Qx N0) w.heap.size 96 i0 _ 16 Tryz.underlying24 hi lo l2 e2 rfl (show 0<2 by decide) (by simp[Qx,Repr.bi,Repr.int]) (by omega) (.slice A l.length c) l rfl s.o A2 r.length L r rfl rfl _ hc.o (by unfold maxLen;omega) (by omega) (by omega) ?_;intro A3 c3 w3 hN Q)
   refine⟨⟨k+1,l++r,A3,c3,c2,by omega,by go_num,by simp,hN,by simp;omega,?_,g0,g1,?_,e1.o⟩,by simp[intOf];omega⟩
   ·exact N.o.grown s.o Q (by decide) hw
   ·exact U.dt Q fun g e=>(s.o.block e).1
  ·obtain⟨A',c',e',J,H,O⟩:=u.o.form
   injection e' with q1 q2 q3
   subst q1 q3;clear q2;go_wp2;go_ret;exact⟨l,A,c,q,rfl,J,H,O,by omega,z.o,B,R,p,Z.o.mono (by omega)⟩
def Zdl {N0:Nat}{α:Type}(R:Repr N0 α)(t:TypeId)(m:cW)(w:World)(b:Nat)(e:Ending)(w':World):Prop :=
 ∃(l:List α) (A:Option Addr) (c:Nat),e=.returned (.slice A l.length c)∧l.length≤c∧c≤maxLen∧af R t w' w'.heap.size A l∧l.length≤b∧Mk w' m∧dX m.M w w'
def SInv (N0:Nat)(m:cW)(w:World)(x:Nat)(v i:Value)(wr:World):Prop :=
 ∃(k:Nat) (l:List Int) (A:Option Addr) (c:Nat),k≤x∧i=Aj k∧v=.slice A l.length c∧aM (Repr.int (N0:=N0)) 3 w.heap.size wr v l∧l.length≤4∧Mk wr m∧dX m.M w wr
theorem Mf (N0:Nat)(m:cW)(w:World)(L:Option Addr)(x gc:Nat)(h:Mk w m)(hN:N0≤m.M)(Z:m.c3=.slice L x gc)(h0:1≤x)(HM:x≤1000) :
  Calls Tryz.prog 159 #[.pointer (some ⟨m.M,0,none⟩)] w (Zdl (Repr.int (N0:=N0)) 3 m w 4):=by
 obtain⟨i1,I,O,W,N⟩:=info_parts Ig;have gn:=h.lt;have f:=h.cells.1 3 (by omega);simp only[Nat.reduceSub,Az,Bc,Ay]at f;rw[Z]at f;have U:=Aq h;clear h Z;go_enter Tryz.func159,Tryz.ntmps159;go_wp2_with fail
 refine(Bk _ m _ U.o (by omega) (by omega)).mono ?_;rintro e w1⟨a,E,ji,rfl,P,s,-⟩;have hc:=s.size;obtain⟨y,rfl⟩:=Ds E;have p:SInv N0 m w x (.slice (some ⟨w1.heap.size,0,none⟩) 1 1) (Aj ((y+1:Nat):Int)) (w1.alloc (.cells #[Aj y] 3)) :=
  ⟨y+1,[(y:Int)],_,_,by omega,rfl,rfl,aM.eB (cs:=[_]) (qv _ _ _) (by omega) ⟨rfl,by unfold bS;omega⟩,by simp,P.alloc _,s.alloc _⟩
 rw[show ((y+1:Nat):Int)=(y:Int)+1 by omega]at p;have Q:=Aq p;clear p P s U f;go_wp2_with fail
 go_loopw [5,6] (fun v i wr=>SInv N0 m w x v i wr) (fun _ i _=>x-(intOf i).toNat)
 case atStart=>exact Q.o
 case round =>
  clear Q;obtain⟨k,l,A,c,hk,rfl,rfl,Y,T,am,u⟩:=hrel;have gA:=u.size;have b:=Aq Y;have z:=Aq am;clear Y am;by_cases J:(k:Int)<x∧l.length<4
  ·obtain⟨F,hr⟩:=J;have G:(l.length:Int)<4:=by omega
   go_wp2_with fail
   refine(Bk _ m _ z.o (by omega) (by omega)).mono ?_;rintro e w2⟨r,e1,e2,rfl,R,n,-⟩;obtain⟨xM,H⟩:=z.o.aG;have S:=b.o.fr n H (by simp[Repr.int]) hN;have d:dX m.M w w2:=u.trans n;have e3:=d.size;have C:=Aq S;have j:=Aq R;clear S R H z b;by_cases B:r=0
   ·subst B;have q:=Aq (C.o.below (aI.alloc Aw (.cells #[Aj (k:Int)] 3)) Aw);go_wp2_with (at_builtin;refine Ee _ rfl (.tmp 33) (.tmp 35) _ rfl (Repr.int (N0:=N0)) w.heap.size 3 i1 _ 8 Tryz.underlying22 I O W N rfl (show 0<1 by decide) (by simp[Repr.int]) (by omega) (.slice A l.length c) l rfl q.o w2.heap.size [_] (k:Int) rfl (qv _ _ _) ⟨rfl,(by unfold bS;omega)⟩ (by unfold maxLen;omega) (by omega) (by simp;omega) ?_;intro A3 c3 w3 ak V)
    refine⟨⟨k+1,l++[(k:Int)],A3,c3,by omega,by go_num,by simp,ak,by simp;omega,?_,?_⟩,by simp[intOf];omega⟩
    ·exact(j.o.alloc _).grown q.o V (by decide) gn
    ·exact(d.alloc _).dt V fun g e=>(q.o.block e).1
   ·have H0:(r==0)=false:=by simpa using B
    go_wp2_with fail
    refine⟨⟨k+1,l,A,c,by omega,by go_num,rfl,C.o,T,j.o,d⟩,by simp[intOf];omega⟩
  ·obtain⟨A',c',e',D,X,K⟩:=b.o.form
   injection e' with q1 q2 q3
   subst q1 q3;clear q2;by_cases F:(k:Int)<x
   ·have G:¬ (l.length:Int)<4:=by omega
    go_wp2;go_ret;exact⟨l,A,c,rfl,D,X,K,by omega,z.o,u⟩
   ·go_wp2;go_ret;exact⟨l,A,c,rfl,D,X,K,by omega,z.o,u⟩
def lw (N0:Nat)(m:cW)(w:World)(K:Nat)(v i:Value)(wr:World):Prop :=
 ∃(k:Nat) (l:List (List Int)) (A:Option Addr) (c:Nat),k≤K∧i=Aj k∧v=.slice A l.length c∧aM (Ei N0) 22 w.heap.size wr v l∧l.length≤k∧Mk wr m∧dX m.M w wr
theorem Ku:(Tryz.prog.info? 22).map (fun i=>(i.zero,i.size,i.bytes))=some (some (.slice none 0 0),1,24):=by kernel_rfl
theorem Ot (N0:Nat)(m:cW)(w:World)(p:Int)(Y:Option Addr)(q gc:Nat)(h:Mk w m)(R:N0≤m.M)(U:m.c3=.slice Y q gc)(I:1≤q)(F:q≤1000)(hc:0≤p)(A2:p≤100) :
  Calls Tryz.prog 160 #[.pointer (some ⟨m.M,0,none⟩),Aj p] w (Zdl (Ei N0) 22 m w p.toNat):=by
 obtain⟨i1,J,T,W,O⟩:=info_parts Ku;have c2:=h.lt;have V:=Aq h;have L:=Aq U;clear h U;go_enter Tryz.func160,Tryz.ntmps160;go_wp2_with fail
 refine(Bk _ m _ V.o (by omega) (by omega)).mono ?_;rintro e w1⟨K,e1,gn,rfl,Q,j,-⟩;have f:lw N0 m w K.toNat (.slice none 0 0) (Aj 0) w1:=⟨0,[],none,0,by omega,rfl,rfl,qz _ _ _ _,by simp,Q,j⟩;have B:=Aq f;clear f Q j V;go_wp2_with fail
 go_loopw [5,7] (fun v i wr=>lw N0 m w K.toNat v i wr) (fun _ i _=>K.toNat-(intOf i).toNat)
 case atStart=>exact B.o
 case round =>
  clear B;obtain⟨k,l,A,c,hk,rfl,rfl,X,hl,am,a⟩:=hrel;have hN:=a.size;have r:=Aq X;have z:=Aq am;clear X am;by_cases gA:(k:Int)<K
  ·go_wp2_with fail
   refine(Mf N0 m _ Y q gc z.o R L.o I F).mono ?_;rintro e w2⟨x,u,y,rfl,d,s,S,h0,D,n⟩;obtain⟨xM,H⟩:=z.o.aG;have E:=(r.o.fr n H (by simp[Ei,Repr.row,Repr.int]) R).below (aI.alloc Aw (.cells #[.slice u x.length y] 22)) Aw;have Z:dX m.M w w2:=a.trans n;have e2:=Z.size;have C:(Ei N0).rel (w2.alloc (.cells #[.slice u x.length y] 22)) (w2.alloc (.cells #[.slice u x.length y] 22)).heap.size x [.slice u x.length y]:=⟨_,_,rfl,d,s,(S.below (aI.alloc Aw _) Aw).a_ (by simp)⟩;have b:=Aq E;have l2:=Aq C;have G:=Aq D;clear E S D H z r C;generalize x.length=n2 at *;go_wp2_with (at_builtin;refine Ee _ rfl (.tmp 17) (.tmp 20) _ rfl (Ei N0) w.heap.size 22 i1 _ 24 Tryz.underlying187 J T W O rfl (show 0<1 by decide) (by simp[Ei,Repr.row,Repr.int]) (by omega) (.slice A l.length c) l rfl b.o w2.heap.size [_] x rfl (qv _ _ _) l2.o (by unfold maxLen;omega) (by omega) (by simp;omega) ?_;intro A3 c3 w3 HM P)
   refine⟨⟨k+1,l++[x],A3,c3,by omega,by go_num,by simp,HM,by simp;omega,?_,?_⟩,by simp[intOf];omega⟩
   ·exact(G.o.alloc _).grown b.o P (by decide) c2
   ·exact(Z.alloc _).dt P fun g e=>(b.o.block e).1
  ·obtain⟨A',c',e',d,s,N⟩:=r.o.form
   injection e' with q1 q2 q3
   subst q1 q3;clear q2;go_wp2;go_ret;exact⟨l,A,c,rfl,d,s,N,by omega,z.o,a⟩
def Cn (N0:Nat):Repr N0 (List (List Int)):=Repr.row 22 (Ei N0)
def Jh (N0:Nat):Repr N0 (Int×Int):=Repr.bi Repr.int Repr.int
structure dI where
 eJ:List (List Int)
 eC:List (List Int)
 ahead:List (List Int)
 o:List Int
 ao:List (Int×Int)
 x:Int
def Hi (N0:Nat):Repr N0 dI:=Repr.map (fun r=>(r.eJ,r.eC,r.ahead,r.o,r.ao,r.x)) (Repr.bi (Cn N0) (Repr.bi (Cn N0) (Repr.bi (Cn N0) (Repr.bi (Ei N0) (Repr.bi (Repr.row 233 (Jh N0)) Repr.int)))))
theorem Zcx:(Tryz.prog.info? 233).map (fun i=>(i.zero,i.size,i.bytes))=some (some (.agg #[Aj 0,Aj 0]),2,16):=by kernel_rfl
theorem Repr.gG {N0:Nat}{α:Type}(R:Repr N0 α){w w':World}{B:Nat}{a:α}{cs:List Value}(h:R.rel w B a cs){row:Option Nat}(y:w.grownBy w' row)(z:∀g,row=some g→B≤g):R.rel w' B a cs :=
 R.aQ h fun g t xs v k _ x=>by
  have u:g<w.heap.size:=(bN.1 x).1;rw[y.block g u (fun e=>by have:=z g e.symm;omega)];exact x
structure bc (N0:Nat) (m:cW) (w0:World) (rb B1:Nat) (wx:World) (vb vi va vo vc:Value) (r:dI):Prop where
 box:aH wx rb 190 #[vb,vi,va,vo,vc,Aj r.x]
 eJ:(Cn N0).rel wx B1 r.eJ [vb]
 eC:(Cn N0).rel wx B1 r.eC [vi]
 ahead:(Cn N0).rel wx B1 r.ahead [va]
 o:aM (Repr.int (N0:=N0)) 3 B1 wx vo r.o
 ao:aM (Jh N0) 233 B1 wx vc r.ao
 x:bS r.x
 am:Mk wx m
 fr:dX m.M w0 wx
 bU:w0.heap.size≤rb∧rb<B1
 hM:N0≤m.M∧m.M<w0.heap.size
 hB:w0.heap.size≤B1∧B1≤wx.heap.size
section
variable {N0 : Nat} {m : cW} {w0 wx wy : World} {rb B1 : Nat} {vb vi va vo vc : Value} {r : dI}
theorem bc.next (h:bc N0 m w0 rb B1 wx vb vi va vo vc r)(u:Mk wy m)(y:dX m.M wx wy):bc N0 m w0 rb B1 wy vb vi va vo vc r:=by
 obtain⟨v,z⟩:=h.am.aG;have hM:=h.hM;have bU:=h.bU;have k:=y.size;have hB:=h.hB;exact⟨y.aG h.box (by omega),(Cn N0).fr h.eJ y z (by simp[Cn,Ei,Repr.row,Repr.int]) hM.1,(Cn N0).fr h.eC y z (by simp[Cn,Ei,Repr.row,Repr.int]) hM.1,(Cn N0).fr h.ahead y z (by simp[Cn,Ei,Repr.row,Repr.int]) hM.1,
  h.o.fr y z (by simp[Repr.int]) hM.1,h.ao.fr y z (by simp[Jh,Repr.bi,Repr.int]) hM.1,h.x,u,h.fr.trans y,bU,hM,hB.1,by omega⟩
theorem bc.below (h:bc N0 m w0 rb B1 wx vb vi va vo vc r)(y:Below wx.heap.size wx wy):bc N0 m w0 rb B1 wy vb vi va vo vc r:=by
 have hM:=h.hM;have bU:=h.bU;have c:=y.size;have hB:=h.hB;obtain⟨aK,a,u,v,z,xs,s,q⟩:=h.am;have p:=z.lt;exact⟨h.box.below y (by omega),(Cn N0).below h.eJ y hB.2,(Cn N0).below h.eC y hB.2,(Cn N0).below h.ahead y hB.2,h.o.below y Aw,h.ao.below y Aw,h.x,
  ⟨aK,a,u,v,z.below y p,xs,s.below y (by omega),q⟩,h.fr.trans (qC y fun k b _=>b),bU,hM,hB.1,by omega⟩
theorem bc.alloc (h:bc N0 m w0 rb B1 wx vb vi va vo vc r)(o:Obj):bc N0 m w0 rb B1 (wx.alloc o) vb vi va vo vc r:=h.below (aI.alloc Aw _)
theorem bc.drew (h:bc N0 m w0 rb B1 wx vb vi va vo vc r):bc N0 m w0 rb B1 wx.drew vb vi va vo vc r:=h.below aI.drew
theorem bc.dP (h:bc N0 m w0 rb B1 wx vb vi va (.slice none 0 0) (.slice none 0 0) r) (y:r.o=[]) (z:r.ao=[]):bc N0 m w0 rb wx.heap.size wx vb vi va (.slice none 0 0) (.slice none 0 0) r:=by
 have hB:=h.hB;have bU:=h.bU;exact⟨h.box,(Cn N0).a_ h.eJ hB.2,(Cn N0).a_ h.eC hB.2,(Cn N0).a_ h.ahead hB.2,by rw[y];exact qz _ _ _ _,by rw[z];exact qz _ _ _ _,h.x,h.am,h.fr,⟨bU.1,by omega⟩,h.hM,by omega,Aw⟩
theorem bc.set (h:bc N0 m w0 rb B1 wx vb vi va vo vc r)(i:Nat)(u:Value){k v p z y:Value}{r':dI} (e : #[vb,vi,va,vo,vc,Aj r.x].setIfInBounds i u = #[k,v,p,z,y,Aj r'.x])
  (c:(Cn N0).rel wx B1 r'.eJ [k]) (q:(Cn N0).rel wx B1 r'.eC [v]) (a:(Cn N0).rel wx B1 r'.ahead [p]) (s:aM (Repr.int (N0:=N0)) 3 B1 wx z r'.o) (b:aM (Jh N0) 233 B1 wx y r'.ao) (d:bS r'.x) :
  bc N0 m w0 rb B1 (wx.setCell ⟨rb,i,none⟩ u) k v p z y r':=by
 have hM:=h.hM;have bU:=h.bU;have hB:=h.hB;exact⟨by rw[←e];exact h.box.aZ i u,(Cn N0).setCell c h.box (by simp[Cn,Ei,Repr.row,Repr.int]) (by omega) _ _,(Cn N0).setCell q h.box (by simp[Cn,Ei,Repr.row,Repr.int]) (by omega) _ _,(Cn N0).setCell a h.box (by simp[Cn,Ei,Repr.row,Repr.int]) (by omega) _ _,
  s.setCell h.box (by simp[Repr.int]) (by omega) _ _,b.setCell h.box (by simp[Jh,Repr.bi,Repr.int]) (by omega) _ _,d,h.am.setCell (by simp;omega) _,h.fr.setCell (.inr bU.1) _,bU,hM,hB.1,by rw[Br];exact hB.2⟩
theorem bc.jh (h:bc N0 m w0 rb B1 wx vb vi va vo vc r){p:Option Addr}{n' k:Nat}{l':List Int} (q:aM (Repr.int (N0:=N0)) 3 B1 wy (.slice p n' k) l') (y:wx.grownBy wy vo.ownBlock) :
  aH wy rb 190 #[vb,vi,va,vo,vc,Aj r.x]∧bc N0 m w0 rb B1 (wy.setCell ⟨rb,3,none⟩ (.slice p n' k)) vb vi va (.slice p n' k) vc {r with o:=l'} := by
 have hM:=h.hM;have bU:=h.bU;have hB:=h.hB;have z:=h.box.cT h.o y (by decide);have u:=fun g e=>(h.o.block (g:=g) e).1
 have s:aM (Jh N0) 233 B1 wy vc r.ao:=h.ao.grown y fun g t' xs c e v=>by
  obtain⟨f,_,d,a⟩:=h.o.block e;rw[a]at v
  injection v with v
  injection v with _ b
  subst b;exact⟨by omega,by simp[Jh,Repr.bi,Repr.int]⟩
 refine⟨z,⟨by simpa using z.aZ 3 (.slice p n' k),(Cn N0).setCell ((Cn N0).gG h.eJ y u) z (by simp[Cn,Ei,Repr.row,Repr.int]) (by omega) _ _,(Cn N0).setCell ((Cn N0).gG h.eC y u) z (by simp[Cn,Ei,Repr.row,Repr.int]) (by omega) _ _,(Cn N0).setCell ((Cn N0).gG h.ahead y u) z (by simp[Cn,Ei,Repr.row,Repr.int]) (by omega) _ _,
  q.setCell z (by simp[Repr.int]) (by omega) _ _,s.setCell z (by simp[Jh,Repr.bi,Repr.int]) (by omega) _ _,h.x,(h.am.grown h.o y (by decide) (by omega)).setCell (by simp;omega) _,?_,bU,hM,hB.1,by rw[Br];have:=y.size;omega⟩⟩
 exact(h.fr.dt y fun g e=>by have:=u g e;omega).setCell (.inr bU.1) _
theorem bc.gD (h:bc N0 m w0 rb B1 wx vb vi va vo vc r){p:Option Addr}{n' k:Nat} {l':List (Int×Int)} (q:aM (Jh N0) 233 B1 wy (.slice p n' k) l') (y:wx.grownBy wy vc.ownBlock) :
  aH wy rb 190 #[vb,vi,va,vo,vc,Aj r.x]∧bc N0 m w0 rb B1 (wy.setCell ⟨rb,4,none⟩ (.slice p n' k)) vb vi va vo (.slice p n' k) {r with ao:=l'} := by
 have hM:=h.hM;have bU:=h.bU;have hB:=h.hB;have z:=h.box.cT h.ao y (by decide);have u:=fun g e=>(h.ao.block (g:=g) e).1
 have s:aM (Repr.int (N0:=N0)) 3 B1 wy vo r.o:=h.o.grown y fun g t' xs c e v=>by
  obtain⟨f,_,d,a⟩:=h.ao.block e;rw[a]at v
  injection v with v
  injection v with _ b
  subst b;exact⟨by omega,by simp[Repr.int]⟩
 refine⟨z,⟨by simpa using z.aZ 4 (.slice p n' k),(Cn N0).setCell ((Cn N0).gG h.eJ y u) z (by simp[Cn,Ei,Repr.row,Repr.int]) (by omega) _ _,(Cn N0).setCell ((Cn N0).gG h.eC y u) z (by simp[Cn,Ei,Repr.row,Repr.int]) (by omega) _ _,(Cn N0).setCell ((Cn N0).gG h.ahead y u) z (by simp[Cn,Ei,Repr.row,Repr.int]) (by omega) _ _,
  s.setCell z (by simp[Repr.int]) (by omega) _ _,q.setCell z (by simp[Jh,Repr.bi,Repr.int]) (by omega) _ _,h.x,(h.am.grown h.ao y (by decide) (by omega)).setCell (by simp;omega) _,?_,bU,hM,hB.1,by rw[Br];have:=y.size;omega⟩⟩
 exact(h.fr.dt y fun g e=>by have:=u g e;omega).setCell (.inr bU.1) _
end
end
end Go.Proofs.YtnhebmgibiomnaaGreat

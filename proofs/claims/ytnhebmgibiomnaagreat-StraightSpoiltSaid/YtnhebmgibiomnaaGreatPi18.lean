import Derived.Test.YtnhebmgibiomnaaGreatPi15
import Derived.Test.YtnhebmgibiomnaaGreatPi17
set_option linter.unusedVariables false
set_option linter.unusedSimpArgs false
set_option maxRecDepth 100000
set_option maxHeartbeats 8000000
namespace Go.Proofs.YtnhebmgibiomnaaGreat
section
open Go.RowKit Mc
theorem fn_at {fs:List Bd.aa}{x:Int}(u:0≤x)(z:x<fs.length):∃(i:Nat) (c:Bd.aa),x=i∧fs[i]?=some c∧Bd.fn fs x=c:=by
 obtain⟨i,rfl⟩:∃i:Nat,x=i:=⟨x.toNat,by omega⟩;obtain⟨c,y⟩:∃c,fs[i]?=some c:=⟨_,Bf (by omega)⟩;exact⟨i,c,rfl,y,by unfold Bd.fn;rw[Da,Bo,y];rfl⟩
theorem pl_at {ps:List Bu.aq}{x:Int}(u:0≤x)(z:x<ps.length):∃(i:Nat) (p:Bu.aq),x=i∧ps[i]?=some p∧Bu.pl ps x=p:=by
 obtain⟨i,rfl⟩:∃i:Nat,x=i:=⟨x.toNat,by omega⟩;obtain⟨c,y⟩:∃c,ps[i]?=some c:=⟨_,Bf (by omega)⟩;exact⟨i,c,rfl,y,by unfold Bu.pl;rw[Da,Bo,y];rfl⟩
theorem Ja (op a:Int)(fs:List Bd.aa)(w:World)(B:Nat)(A:Option Addr)(c:Nat)(X:B≤w.heap.size) (v:aE w B 4 A fs.length (Ct fs)) (H:fs.length≤1000000) (k:(op=37∨op=38)→0≤a∧a<fs.length) (u:fs.all Bd.dB=true) :
  Calls Tryz.prog 65 #[.agg #[Aj op,Aj a],.slice A fs.length c] w fun e w'=>e=.returned (Aj (Bu.bc (op,a) fs))∧Below w.heap.size w w':=by
 by_cases x:op=37∨op=38
 ·obtain⟨d,s⟩:=k x;obtain⟨i,q,rfl,z,y⟩:=fn_at d s;have g:=Bd.jw u (i:Int);rw[y]at g;have l:=(aS.1 z).1;obtain⟨b,off,rfl,n,r⟩:=v.2 (by omega);have f:=r _ _ (Hb fs i q z).2.1;rw[←mt]at f;have j:b<w.heap.size:=by omega
  rcases x with rfl|rfl
  ·have p:Hid (Bu.bc (37,(i:Int)) fs=q.delta):=Aq (by unfold Bu.bc;rw[y];rfl);rw[p.o];clear k u y v r z;go_enter Tryz.func65,Tryz.ntmps65;go_wp2;go_ret;exact⟨by first|rfl|simp[*],aI.alloc Aw _⟩
  ·have p:Hid (Bu.bc (38,(i:Int)) fs=q.delta-1):=Aq (by unfold Bu.bc;rw[y];rfl);rw[p.o];clear k u y v r z;go_enter Tryz.func65,Tryz.ntmps65;go_wp2;go_ret;exact⟨by first|rfl|simp[*],aI.alloc Aw _⟩
 ·have s:¬ op=37:=fun h=>x (.inl h)
  have m:¬ op=38:=fun h=>x (.inr h)
  clear k v u x;go_enter Tryz.func65,Tryz.ntmps65;go_wp2_with (refine(Iv _ _).mono ?_;rintro e K⟨rfl,rfl⟩)
  all_goals
   go_ret;refine⟨Co ?_,aI.alloc Aw _⟩;unfold Bu.bc
   simp_all
theorem Xe (op a:Int)(ps:List Bu.aq)(w:World)(B:Nat)(A:Option Addr)(c:Nat)(Q:B≤w.heap.size) (v:af (Ll 0) 89 w B A ps) (V:ps.length≤1000000) (k:(op=37∨op=38)→0≤a∧a<ps.length) (z:∀p∈ps,0≤p.size∧p.size≤20001) :
  Calls Tryz.prog 64 #[.agg #[Aj op,Aj a],.slice A ps.length c] w fun e w'=>e=.returned (Aj (Bu.sizeOf (op,a) ps))∧Below w.heap.size w w':=by
 by_cases y:op=37∨op=38
 ·obtain⟨f,d⟩:=k y;obtain⟨i,q,rfl,x,u⟩:=pl_at f d;have j:=z q (Bz x);have m:=(aS.1 x).1;obtain⟨b,off,cs,rfl,K,hrel,s⟩:=v.get x;obtain⟨U,cA,rfl,_⟩:=Vf hrel;have g:=s 1 (Aj q.size) rfl;simp only[Ll,Repr.map,Repr.bi,Repr.row,Repr.int,Nat.reduceAdd]at g;have l:b<w.heap.size:=by omega
  obtain⟨Y,Z⟩:=j;have P:IntKind.i64.wrap (1+q.size)=1+q.size:=Do _ (by omega);have X:IntKind.i64.wrap (16*(1+q.size))=16*(1+q.size):=Do _ (by omega);have H:IntKind.i64.wrap (1+16*(1+q.size))=1+16*(1+q.size):=Do _ (by omega);rcases y with rfl|rfl
  ·have r:Hid (Bu.sizeOf (37,(i:Int)) ps=q.size):=Aq (by unfold Bu.sizeOf;rw[u];rfl);rw[r.o];clear k u v s x hrel z;go_enter Tryz.func64,Tryz.ntmps64;go_wp2;go_ret;refine⟨Co ?_,aI.alloc Aw _⟩
   first|rfl|simp[*]
  ·have r:Hid (Bu.sizeOf (38,(i:Int)) ps=1+16*(1+q.size)):=Aq (by unfold Bu.sizeOf;rw[u];rfl);rw[r.o];clear k u v s x hrel z;go_enter Tryz.func64,Tryz.ntmps64;go_wp2;go_ret;refine⟨Co ?_,aI.alloc Aw _⟩
   first|rfl|simp[*]
 ·have d:¬ op=37:=fun h=>y (.inl h)
  have n:¬ op=38:=fun h=>y (.inr h)
  clear k v z y;go_enter Tryz.func64,Tryz.ntmps64;go_wp2
  all_goals
   go_ret;refine⟨Co ?_,aI.alloc Aw _⟩;unfold Bu.sizeOf
   simp_all
end
section
namespace Bu
variable (fs : List Bd.aa) (ps : List aq)
theorem Pm (l r:List (Int×Int)):∀(i:Nat) (s:gj),bL fs ps (l++r) i s=bL fs ps r (i+l.length) (bL fs ps l i s):=by
 induction l with
 |nil=>intro i s;rfl
 |cons x l ih =>
  intro i s;rw[oy,bL,bL,ih,Bp,mt,Nat.add_comm 1]
theorem gU (l:List (Int×Int)) {i:Nat} {x:Int×Int} (h:l[i]?=some x) (s:gj):bL fs ps (l.take (i+1)) 0 s=bz fs ps i x (bL fs ps (l.take i) 0 s):=by
 have hi:=(aS.1 h).1;rw[oC,h,Option.toList_some,Pm,Du,pp (Nat.le_of_lt hi),nz];rfl
structure ez (k:Nat) (l:List (Int×Int)):Prop where
 az:∀(i:Nat) x,l[i]?=some x→i+1+jump x≤l.length
 ahead:∀x∈l,(x.1=35∨x.1=36)→0≤x.2
 ao:∀x∈l,(x.1=37∨x.1=38)→0≤x.2∧x.2<k
 kj:∀x∈l,-1000≤bc x fs∧bc x fs≤1000
 fe:∀x∈l,0≤sizeOf x ps∧sizeOf x ps≤1000000
structure jr (n i:Nat) (s:gj):Prop where
 aR:s.aR.length=n+1
 aC:s.aC.length=n+1
 index:s.index.length=n+1
 nQ:∀k,-1000*(i:Int)≤s.aC.getD k 0∧s.aC.getD k 0≤1000*(i:Int)
 steps:s.steps.length≤i
 gos:∀p∈s.steps,p.go≤n
 aL:∀k,s.index.getD k 0≤s.steps.length
 size:0≤s.size∧s.size≤20001
theorem eX (n:Nat):jr n 0 (start n) where
 aR:=by simp[start]
 aC:=by simp[start]
 index:=by simp[start]
 nQ:=fun k=>by
  have:(start n).aC.getD k 0=0:=by
   simp only[start,Bo,pT];split <;> rfl
  rw[this];simp
 steps:=by simp[start]
 gos:=fun p h=>by simp[start]at h
 aL:=fun k=>by
  have:(start n).index.getD k 0=0:=by
   simp only[start,Bo,pT];split <;> rfl
  omega
 size:=by simp[start]
theorem Lt {α:Type}(l:List α)(i k:Nat)(a d:α):(l.set i a).getD k d=a∨(l.set i a).getD k d=l.getD k d:=by
 simp only[Bo,Jc];by_cases h:i=k
 ·subst h;by_cases x:i<l.length
  ·left;simp[x]
  ·right;simp[x]
 ·right;simp[h]
theorem Zfo {n i:Nat}{x:Int×Int}{s:gj}(h:jr n i s)(hi:i<n)(r:i+1+jump x≤n)(b : -1000≤bc x fs∧bc x fs≤1000)(c:0≤sizeOf x ps):jr n (i+1) (bz fs ps i x s):=by
 have a:=h.nQ i;have u:∀k,-1000*((i+1:Nat):Int)≤s.aC.getD k 0∧s.aC.getD k 0≤1000*((i+1:Nat):Int):=fun k=>by
  have:=h.nQ k;omega
 have z : -1000*((i+1:Nat):Int)≤s.aC.getD i 0+bc x fs∧s.aC.getD i 0+bc x fs≤1000*((i+1:Nat):Int):=by omega
 have d:=h.steps;unfold bz;split
 ·exact⟨h.aR,h.aC,h.index,u,by omega,h.gos,h.aL,h.size⟩
 ·simp only;refine⟨?_,?_,?_,?_,?_,?_,?_,?_⟩
  ·dsimp only;split <;> simp[h.aR]
  ·dsimp only;split <;> simp[h.aC]
  ·simp[h.index]
  ·intro k;dsimp only;split
   ·rcases Lt s.aC (i+1+jump x) k (s.aC.getD i 0+bc x fs) 0 with e|e
    ·rw[e];exact z
    ·rw[e];exact u k
   ·rcases Lt (s.aC.set (i+1+jump x) (s.aC.getD i 0+bc x fs)) (i+1) k (s.aC.getD i 0+bc x fs) 0 with e|e
    ·rw[e];exact z
    ·rw[e];rcases Lt s.aC (i+1+jump x) k (s.aC.getD i 0+bc x fs) 0 with e|e
     ·rw[e];exact z
     ·rw[e];exact u k
  ·dsimp only;split
   ·simp;omega
   ·omega
  ·intro p y;dsimp only at y;split at y
   ·rcases List.mem_append.1 y with y|y
    ·exact h.gos p y
    ·rw[py]at y;subst y;exact r
   ·exact h.gos p y
  ·intro k;dsimp only;have q:=h.aL k;have v:(s.index.set i s.steps.length).getD k 0≤s.steps.length:=by
    rcases Lt s.index i k s.steps.length 0 with e|e
    ·omega
    ·rw[e];exact q
   split
   ·exact Ex v (by simp)
   ·exact v
  ·have:=h.size;dsimp only;split <;> omega
theorem gM (l:List (Int×Int)) (k:Nat) (h:ez fs ps k l):∀i,i≤l.length→jr l.length i (bL fs ps (l.take i) 0 (start l.length)):=by
 intro i
 induction i with
 |zero=>intro _;exact eX _
 |succ i ih =>
  intro hi;obtain⟨x,y⟩:∃x,l[i]?=some x:=⟨_,Bf (by omega)⟩;rw[gU fs ps l y];have z:=Bz y;exact Zfo fs ps (ih (by omega)) (by omega) (h.az i x y) (h.kj x z) (h.fe x z).1
end Bu
end
section
open Go.RowKit Mc
def Dr (l:List Bu.PS):List Value:=l.flatMap fun s=>[Aj s.op,Aj s.a,Aj s.aC,Aj (s.go:Int)]
theorem Sy (l:List Bu.PS):(Dr l).length=l.length*4:=by
 induction l with
 |nil=>rfl
 |cons s l ih=>simp only[Dr,pC,Ca,Bp,Bx]at ih ⊢;omega
theorem Jo (l r:List Bu.PS):Dr (l++r)=Dr l++Dr r:=by simp[Dr]
def Ib (l:List Bool):List Value:=l.map .bool
theorem Rx (l:List Bool):(Ib l).length=l.length:=by simp[Ib]
theorem Rw (l:List Bool)(i:Nat)(b:Bool):Ib (l.set i b)=(Ib l).set i (.bool b):=by simp[Ib,pS]
theorem Fu {l:List Bool}{i:Nat}(h:i<l.length):(Ib l)[i]?=some (.bool (l.getD i false)):=by
 simp[Ib,Bo,Bf h]
theorem Zch:(Tryz.prog.info? 4).map (fun i=>(i.zero,i.size,i.bytes))=some (some (.bool false),1,1):=by kernel_rfl
theorem Xt (n:Nat):madeCells #[Value.bool false] n=(Ib (List.replicate n false)).toArray:=by
 unfold madeCells;apply Array.toList_inj.1;simp only[pL,pM,Ib,qw];rw[qx];exact⟨by simp,by intro b x;simp at x;obtain⟨a,y,rfl⟩:=x;rw[show a % 1=0 by omega];rfl⟩
theorem Xs (n:Nat)(u:n≤1000000)(w:World):(Instr.makeSlice 142 (Aj (n:Int)) (Aj (n:Int))).run Tryz.prog w=.ok (.slice (some ⟨w.heap.size,0,none⟩) n n) (w.alloc (.cells (Ib (List.replicate n false)).toArray 4)):=by
 obtain⟨i,hi,y,z,x⟩:=Fe Zch;have:=Kf (P:=Tryz.prog) 142 4 i _ Tryz.underlying142 hi y n (by rw[x];omega) (by omega) w;rw[z,ow,show (Value.bool false).cells = #[.bool false] from rfl,Xt]at this;exact this
def kX (l:List Nat):List Value:=ae (l.map fun (k:Nat)=>(k:Int))
theorem Pp (l:List Nat):(kX l).length=l.length:=by simp[kX,Dg]
theorem Zfu (l:List Nat)(i k:Nat):kX (l.set i k)=(kX l).set i (Aj (k:Int)):=by
 unfold kX;rw[pS,Gj]
structure eL (w:World) (n:Nat) (s:Bu.gj) (vs:Value) (W:World):Prop where
 o:aH W w.heap.size 89 #[.slice none 0 0,Aj 0]
 box:aH W (w.heap.size+1) 89 #[vs,Aj s.size]
 aR:W.ownsRow w.heap.size 4 1 (.slice (some ⟨w.heap.size+1+1,0,none⟩) (n+1) (n+1)) (n+1) (Ib s.aR)
 aC:W.ownsRow w.heap.size 3 1 (.slice (some ⟨w.heap.size+1+1+1,0,none⟩) (n+1) (n+1)) (n+1) (ae s.aC)
 index:W.ownsRow w.heap.size 3 1 (.slice (some ⟨w.heap.size+1+1+1+1,0,none⟩) (n+1) (n+1)) (n+1) (kX s.index)
 steps:W.ownsRow w.heap.size 145 4 vs s.steps.length (Dr s.steps)
 below:Below w.heap.size w W
def bn (x:List Nat)(l:List Bu.PS)(k:Nat):List Bu.PS:=(l.take k).map (fun p => { p with go:=x.getD p.go 0 })++l.drop k
theorem Ls (x:List Nat)(l:List Bu.PS)(k:Nat):(bn x l k).length=l.length:=by unfold bn;simp;omega
theorem Zck (x:List Nat)(l:List Bu.PS):bn x l 0=l:=by unfold bn;simp
theorem Zgk (x:List Nat)(l:List Bu.PS):bn x l l.length=l.map fun p => { p with go:=x.getD p.go 0 } := by unfold bn;simp
theorem Zkt (x:List Nat)(l:List Bu.PS)(k:Nat):(bn x l k)[k]?=l[k]?:=by
 unfold bn;by_cases h:k<l.length
 ·rw[Dv (by simp;omega)];simp[pp (Nat.le_of_lt h)]
 ·rw[ge (by simp;omega),ge (by omega)]
theorem Zcl (x:List Nat)(l:List Bu.PS)(k:Nat){p:Bu.PS} (h:l[k]?=some p):(bn x l k).set k { p with go:=x.getD p.go 0 } = bn x l (k+1):=by
 unfold bn;have y:=(aS.1 h).1;have z:l.drop k=p::l.drop (k+1):=by
  rw[pI y];rw[Bf y]at h;rw[oU h]
 have u:((l.take k).map fun p:Bu.PS => { p with go:=x.getD p.go 0 }).length=k:=by rw[Gc,Du];omega
 rw[oS _ _ (by omega),u,qo,z,oV,oC,h];simp
section
variable {w W : World} {n : Nat} {s : Bu.gj} {vs : Value}
theorem eL.alloc (h:eL w n s vs W)(o:Obj):eL w n s vs (W.alloc o):=⟨h.o.alloc o,h.box.alloc o,h.aR.alloc o,h.aC.alloc o,h.index.alloc o,h.steps.alloc o,h.below.alloc h.below.size o⟩
theorem eL.drew (h:eL w n s vs W):eL w n s vs W.drew:=⟨h.o.drew,h.box.drew,h.aR.drew,h.aC.drew,h.index.drew,h.steps.drew,h.below.drew⟩
theorem eL.iE {W':World}(h:eL w n s vs W)(y:Below W.heap.size W W'):eL w n s vs W':=by
 have x:∀{aN size m:Nat} {t:TypeId} {v:Value} {xs:List Value},W.ownsRow aN t size v m xs→W'.ownsRow aN t size v m xs:=fun z=>Dd z fun g e=>y.block g (Bg z e).2.1
 exact⟨(y.block _ h.o.lt).trans h.o,(y.block _ h.box.lt).trans h.box,x h.aR,x h.aC,x h.index,x h.steps,h.below.trans (y.mono h.below.size)⟩
theorem Ew {W:World}{aN size n:Nat}{t:TypeId}{v:Value}{xs:List Value}(h:W.ownsRow aN t size v n xs){g:Nat}(x:∀k,v.ownBlock=some k→k≠g)(i:Nat)(u:Value):(W.setCell ⟨g,i,none⟩ u).ownsRow aN t size v n xs :=
 Dd h fun k e=>Bq _ _ _ _ (x k e)
theorem eL.dx (h:eL w n s vs W){i:Nat}(hi:i<s.aR.length)(b:Bool):eL w n { s with aR:=s.aR.set i b } vs (W.setCell ⟨w.heap.size+1+1,i,none⟩ (.bool b)):=by
 obtain⟨_,_,cs,x⟩:=Bg h.aR (g:=w.heap.size+1+1) rfl;refine⟨h.o.cZ (p:=⟨w.heap.size+1+1,i,none⟩) (by show w.heap.size≠w.heap.size+1+1;omega) _,h.box.cZ (p:=⟨w.heap.size+1+1,i,none⟩) (by show w.heap.size+1≠w.heap.size+1+1;omega) _,?_,Ew h.aC (fun k e=>by simp only[Value.ownBlock,Bw]at e;omega) _ _,Ew h.index (fun k e=>by simp only[Value.ownBlock,Bw]at e;omega) _ _,Ck h.steps x (by decide) _ _,h.below.setCell (p:=⟨w.heap.size+1+1,i,none⟩) (by show w.heap.size≤w.heap.size+1+1;omega) _⟩;have:=Ee h.aR (g:=w.heap.size+1+1) rfl (j:=i) (by rw[Rx];omega) (.bool b)
 rwa [←Rw]at this
theorem eL.eZ (h:eL w n s vs W){i:Nat}(hi:i<s.aC.length)(v:Int):eL w n { s with aC:=s.aC.set i v } vs (W.setCell ⟨w.heap.size+1+1+1,i,none⟩ (Aj v)):=by
 obtain⟨_,_,cs,x⟩:=Bg h.aC (g:=w.heap.size+1+1+1) rfl;refine⟨h.o.cZ (p:=⟨w.heap.size+1+1+1,i,none⟩) (by show w.heap.size≠w.heap.size+1+1+1;omega) _,h.box.cZ (p:=⟨w.heap.size+1+1+1,i,none⟩) (by show w.heap.size+1≠w.heap.size+1+1+1;omega) _,Ew h.aR (fun k e=>by simp only[Value.ownBlock,Bw]at e;omega) _ _,?_,Ew h.index (fun k e=>by simp only[Value.ownBlock,Bw]at e;omega) _ _,Ck h.steps x (by decide) _ _,h.below.setCell (p:=⟨w.heap.size+1+1+1,i,none⟩) (by show w.heap.size≤w.heap.size+1+1+1;omega) _⟩;have:=Ee h.aC (g:=w.heap.size+1+1+1) rfl (j:=i) (by rw[Dg];omega) (Aj v)
 rwa [←Gj]at this
theorem eL.jG (h:eL w n s vs W){i:Nat}(hi:i<s.index.length)(v:Nat):eL w n { s with index:=s.index.set i v } vs (W.setCell ⟨w.heap.size+1+1+1+1,i,none⟩ (Aj (v:Int))):=by
 obtain⟨_,_,cs,x⟩:=Bg h.index (g:=w.heap.size+1+1+1+1) rfl;refine⟨h.o.cZ (p:=⟨w.heap.size+1+1+1+1,i,none⟩) (by show w.heap.size≠w.heap.size+1+1+1+1;omega) _,h.box.cZ (p:=⟨w.heap.size+1+1+1+1,i,none⟩) (by show w.heap.size+1≠w.heap.size+1+1+1+1;omega) _,Ew h.aR (fun k e=>by simp only[Value.ownBlock,Bw]at e;omega) _ _,Ew h.aC (fun k e=>by simp only[Value.ownBlock,Bw]at e;omega) _ _,?_,Ck h.steps x (by decide) _ _,h.below.setCell (p:=⟨w.heap.size+1+1+1+1,i,none⟩) (by show w.heap.size≤w.heap.size+1+1+1+1;omega) _⟩;have:=Ee h.index (g:=w.heap.size+1+1+1+1) rfl (j:=i) (by rw[Pp];omega) (Aj (v:Int))
 rwa [←Zfu]at this
theorem eL.start (w:World)(n:Nat)(u:n≤1000000):eL w n (Bu.start n) (.slice none 0 0) (((((w.alloc (.cells #[.slice none 0 0,Aj 0] 89)).alloc (.cells #[.slice none 0 0,Aj 0] 89)).alloc (.cells ((Ib (List.replicate (n+1) false)).set 0 (.bool true)).toArray 4)).alloc (.cells (ae (List.replicate (n+1) 0)).toArray 3)).alloc (.cells (ae (List.replicate (n+1) 0)).toArray 3)):=by
 have x:n+1≤maxLen:=by unfold maxLen;omega
 have y:(Ib (List.replicate (n+1) false)).set 0 (.bool true)=Ib (Bu.start n).aR:=by
  rw[←Rw,qD];rfl
 have hi:ae (List.replicate (n+1) 0)=kX (Bu.start n).index:=by
  unfold kX Bu.start;rw[qw];rfl
 refine⟨(((((qG w _ _).alloc _).alloc _).alloc _).alloc _),?_,?_,?_,?_,Eo _ _ _ _,?_⟩
 ·exact(((qH _ _ _ (by simp)).alloc _).alloc _).alloc _
 ·rw[y];have:=Fk (W:=(w.alloc (.cells #[.slice none 0 0,Aj 0] 89)).alloc (.cells #[.slice none 0 0,Aj 0] 89)) (B:=w.heap.size) (t:=4) (size:=1) (n:=n+1) (xs:=Ib (Bu.start n).aR) (by rw[Rx];simp[Bu.start]) (by simp;omega) x
  simpa using (this.alloc _).alloc _
 ·have:=Fk (W:=((w.alloc (.cells #[.slice none 0 0,Aj 0] 89)).alloc (.cells #[.slice none 0 0,Aj 0] 89)).alloc (.cells ((Ib (List.replicate (n+1) false)).set 0 (.bool true)).toArray 4)) (B:=w.heap.size) (t:=3) (size:=1) (n:=n+1) (xs:=ae (List.replicate (n+1) 0)) (by rw[Dg];simp) (by simp;omega) x;have z:=this.alloc (.cells (ae (List.replicate (n+1) 0)).toArray 3)
  simpa [Bu.start]using z
 ·rw[←hi];have:=Fk (W:=(((w.alloc (.cells #[.slice none 0 0,Aj 0] 89)).alloc (.cells #[.slice none 0 0,Aj 0] 89)).alloc (.cells ((Ib (List.replicate (n+1) false)).set 0 (.bool true)).toArray 4)).alloc (.cells (ae (List.replicate (n+1) 0)).toArray 3)) (B:=w.heap.size) (t:=3) (size:=1) (n:=n+1) (xs:=ae (List.replicate (n+1) 0)) (by rw[Dg];simp) (by simp;omega) x
  simpa using this
 ·exact(((((ny _ w).alloc Aw _).alloc (by simp) _).alloc (by simp;omega) _).alloc (by simp;omega) _).alloc (by simp;omega) _
theorem eL.nm (h:eL w n s vs W)(k:Nat)(u v':Value){x:Int} (y:(#[vs,Aj s.size]:Array Value).setIfInBounds k u = #[v',Aj x]) (z:(W.setCell ⟨w.heap.size+1,k,none⟩ u).ownsRow w.heap.size 145 4 v' s.steps.length (Dr s.steps)):eL w n { s with size:=x } v' (W.setCell ⟨w.heap.size+1,k,none⟩ u):=by
 refine⟨h.o.cZ (p:=⟨w.heap.size+1,k,none⟩) (by show w.heap.size≠w.heap.size+1;omega) _,?_,Ew h.aR (fun k e=>by simp only[Value.ownBlock,Bw]at e;omega) _ _,Ew h.aC (fun k e=>by simp only[Value.ownBlock,Bw]at e;omega) _ _,Ew h.index (fun k e=>by simp only[Value.ownBlock,Bw]at e;omega) _ _,z,h.below.setCell (p:=⟨w.heap.size+1,k,none⟩) (by show w.heap.size≤w.heap.size+1;omega) _⟩;have:=h.box.aX k u
 rwa [y]at this
theorem eL.ie (h:eL w n s vs W)(z:Int):eL w n { s with size:=z } vs (W.setCell ⟨w.heap.size+1,1,none⟩ (Aj z)) :=
 h.nm 1 _ vs (by simp) (Ck h.steps h.box (by decide) _ _)
theorem eL.fY (h:eL w n s vs W){W':World}{v':Value}{x:Bu.PS} (z:W'.ownsRow w.heap.size 145 4 v' (s.steps++[x]).length (Dr (s.steps++[x]))) (r:W.grownBy W' vs.ownBlock):eL w n { s with steps:=s.steps++[x] } v' (W'.setCell ⟨w.heap.size+1,0,none⟩ v'):=by
 have c:∀g,vs.ownBlock=some g→∃cs,aH W g 145 cs:=fun g e=>(Bg h.steps e).2.2
 have y:∀(g:Nat) (t:TypeId) (cs:Array Value),aH W g t cs→t≠145→aH W' g t cs:=fun g t cs y u=>y.grown r fun e=>by
  obtain⟨l,j⟩:=c g e.symm;exact y.dF j u rfl
 have q:∀{aN size m:Nat} {t:TypeId} {v:Value} {xs:List Value},W.ownsRow aN t size v m xs→t≠145→W'.ownsRow aN t size v m xs:=fun z u=>Dd z fun g e=>by
  obtain⟨_,_,cs,b⟩:=Bg z e;exact(y g _ cs b u).trans b.symm
 have i:Below w.heap.size w W':=h.below.grown r h.below.size fun g e=>by
  obtain⟨d,_,_⟩:=Bg h.steps e;exact d
 have a:=y _ _ _ h.box (by decide);have f:=a.aX 0 v';refine⟨(y _ _ _ h.o (by decide)).cZ (p:=⟨w.heap.size+1,0,none⟩) (by show w.heap.size≠w.heap.size+1;omega) _,?_,Ew (q h.aR (by decide)) (fun k e=>by simp only[Value.ownBlock,Bw]at e;omega) _ _,Ew (q h.aC (by decide)) (fun k e=>by simp only[Value.ownBlock,Bw]at e;omega) _ _,Ew (q h.index (by decide)) (fun k e=>by simp only[Value.ownBlock,Bw]at e;omega) _ _,Ck z a (by decide) _ _,i.setCell (p:=⟨w.heap.size+1,0,none⟩) (by show w.heap.size≤w.heap.size+1;omega) _⟩
 simpa using f
theorem eL.gP (h:eL w n s vs W){W':World}(y:W.grownBy W' vs.ownBlock):aH W' (w.heap.size+1) 89 #[vs,Aj s.size]:=h.box.grown y fun e=>by
 obtain⟨z,x⟩:=(Bg h.steps e.symm).2.2;exact h.box.dF x (by decide) rfl
theorem eL.gD (h:eL w n s vs W){W':World}{g:Nat}{t:TypeId}{cs:Array Value}(x:aH W g t cs)(z:t≠145)(u:W.grownBy W' vs.ownBlock):aH W' g t cs:=x.grown u fun e=>by
 obtain⟨v,y⟩:=(Bg h.steps e.symm).2.2;exact x.dF y z rfl
theorem Kb:∀(l:List Bu.PS)(i:Nat)(r:Bu.PS)(v:Nat),l[i]?=some r→Dr (l.set i { r with go:=v })=(Dr l).set (i*4+3) (Aj (v:Int))
 | [],i,r,v,h=>by simp at h
 |x::l,0,r,v,h=>by
  simp only[Ay,Bw]at h;subst h;rfl
 |x::l,i+1,r,v,h=>by
  simp only[Ba]at h;have:=Kb l i r v h;rw[show (i+1)*4+3=(i*4+3)+1+1+1+1 by omega];simp only[Dr,pC,oE,oy,le]at this ⊢;rw[this]
theorem Od:∀(l:List Bu.PS)(i:Nat)(r:Bu.PS),l[i]?=some r→(Dr l)[i*4+3]?=some (Aj (r.go:Int))
 | [],i,r,h=>by simp at h
 |x::l,0,r,h=>by
  simp only[Ay,Bw]at h;subst h;rfl
 |x::l,i+1,r,h=>by
  simp only[Ba]at h;rw[show (i+1)*4+3=(i*4+3)+1+1+1+1 by omega];simp only[Dr,pC,oy,le,Ba];exact Od l i r h
theorem eL.setGo (h:eL w n s vs W){g:Nat}(z:vs.ownBlock=some g){i:Nat}{r:Bu.PS} (y:s.steps[i]?=some r) (v:Nat):eL w n { s with steps:=s.steps.set i { r with go:=v } } vs (W.setCell ⟨g,i*4+3,none⟩ (Aj (v:Int))):=by
 obtain⟨u,_,cs,x⟩:=Bg h.steps z;have hi:=(aS.1 y).1;refine⟨h.o.cZ (p:=⟨g,i*4+3,none⟩) (h.o.dF x (by decide)) _,h.box.cZ (p:=⟨g,i*4+3,none⟩) (h.box.dF x (by decide)) _,Ck h.aR x (by decide) _ _,Ck h.aC x (by decide) _ _,Ck h.index x (by decide) _ _,?_,h.below.setCell (p:=⟨g,i*4+3,none⟩) u _⟩;have:=Ee h.steps z (j:=i*4+3) (by rw[Sy];omega) (Aj (v:Int));rw[←Kb s.steps i r v y]at this
 simpa using this
end
end
section
open Go.RowKit Mc
def PlI (l:List (Int×Int)) (fs:List Bd.aa) (ps:List Bu.aq) (w:World) (i:Value) (W:World):Prop :=
 ∃(j:Nat) (vs:Value),j≤l.length∧i=Aj (j:Int)∧eL w l.length (Bu.bL fs ps (l.take j) 0 (Bu.start l.length)) vs W
def PlJ (w:World)(n:Nat)(s:Bu.gj)(vs:Value)(i:Value)(W:World):Prop :=
 ∃(k:Nat),k≤s.steps.length∧i=Aj (k:Int)∧eL w n { s with steps:=bn s.index s.steps k } vs W
theorem Zce:(Tryz.prog.info? 145).map (fun i=>(i.zero,i.size,i.bytes))=some (some (.agg #[Aj 0,Aj 0,Aj 0,Aj 0]),4,32):=by kernel_rfl
theorem Mo (l:List (Int×Int)) (fs:List Bd.aa) (ps:List Bu.aq) (w:World) (B:Nat) (Al Af Ap:Option Addr) (cl cf cp:Nat) (hB:B≤w.heap.size) (hl:aE w B 2 Al l.length (bu l)) (hf:aE w B 4 Af fs.length (Ct fs)) (hp:af (Ll 0) 89 w B Ap ps) (f3:Bu.ez fs ps ps.length l) (i8:ps.length≤fs.length) (hn:l.length≤100000) (c2:fs.length≤1000000) (hm:fs.all Bd.dB=true) (hs:∀p∈ps,0≤p.size∧p.size≤20001) :
  Calls Tryz.prog 34 #[.slice Al l.length cl,.slice Af fs.length cf,.slice Ap ps.length cp] w fun e w'=>∃v,e=.returned (.agg #[v,Aj (Bu.a_ l fs ps).size])∧Below w.heap.size w w'∧w'.ownsRow w.heap.size 145 4 v (Bu.a_ l fs ps).steps.length (Dr (Bu.a_ l fs ps).steps):=by
 have HL:=Aq hl;have HF:=Aq hf;have V:=Aq hp;have v6:=Aq f3;have HM:=Aq hm;have HS:=Aq hs;have am:∀W:World,(Instr.makeSlice 22 (Aj ((l.length:Int)+1)) (Aj ((l.length:Int)+1))).run Tryz.prog W=.ok (.slice (some ⟨W.heap.size,0,none⟩) (l.length+1) (l.length+1)) (W.alloc (.cells (ae (List.replicate (l.length+1) 0)).toArray 3)):=fun W=>by
  have:=Kg (l.length+1) (by omega) W
  rwa [show ((l.length+1:Nat):Int)=(l.length:Int)+1 by omega]at this
 have j8:∀W:World,(Instr.makeSlice 142 (Aj ((l.length:Int)+1)) (Aj ((l.length:Int)+1))).run Tryz.prog W=.ok (.slice (some ⟨W.heap.size,0,none⟩) (l.length+1) (l.length+1)) (W.alloc (.cells (Ib (List.replicate (l.length+1) false)).toArray 4)):=fun W=>by
  have:=Xs (l.length+1) (by omega) W
  rwa [show ((l.length+1:Nat):Int)=(l.length:Int)+1 by omega]at this
 have i3:IntKind.i64.wrap ((l.length:Int)+1)=(l.length:Int)+1:=Do _ (by omega);obtain⟨i0,d5,c7,c4,d6⟩:=Fe Zce;clear hl hf hp f3 hm hs;go_enter Tryz.func34,Tryz.ntmps34;go_wp2_with fail
 go_loopw [34] (fun i W=>PlI l fs ps w i W) (fun i _=>l.length-(intOf i).toNat)
 case atStart=>exact⟨0,_,By _,rfl,eL.start w l.length (by omega)⟩
 case round =>
  obtain⟨j,vs,hj,rfl,F⟩:=hrel;by_cases g0:j<l.length
  ·obtain⟨x,hx⟩:∃x,l[j]?=some x:=⟨_,Bf g0⟩;have e9:=Bu.gU fs ps l hx (Bu.start l.length);have y9:=Bu.gM fs ps l ps.length v6.o j hj;generalize Bu.bL fs ps (l.take j) 0 (Bu.start l.length)=s at *;obtain⟨b,off,rfl,hb,c8⟩:=HL.o.2 (by omega);obtain⟨y0,y1⟩:=Gf hx;have d0:=(F.below.cell (p:=⟨b,off+2*j,none⟩) (by show b<w.heap.size;omega)).trans (c8 _ _ y0);have d1:=(F.below.cell (p:=⟨b,off+(2*j+1),none⟩) (by show b<w.heap.size;omega)).trans (c8 _ _ y1);rw[oN 2 j]at d0 d1;rw[←mt]at d1;have j1:(j:Int)<l.length:=by omega
   have i7:(j:Int)<(l.length:Int)+1:=by omega
   have k0:=F.aR;obtain⟨r,c,z,_,_,x4,O⟩:=Cf k0 (by omega);obtain⟨rfl,rfl⟩:w.heap.size+1+1=r∧l.length+1=c:=by simpa using z
   have e0:=O j _ (Fu (by rw[y9.aR];omega));have g7:b<wr.heap.size:=by have:=F.below.size;omega
   have HW:=Aq F;have f:=Aq y9;have b0:=Aq e9;clear F y9 e9 O z c8 y0 y1 k0;cases v9:s.aR.getD j false
   ·rw[v9]at e0;go_wp2_with fail
    go_roundw
    case rel =>
     refine⟨j+1,vs,by omega,by simp,?_⟩;rw[b0.o,show Bu.bz fs ps j x s=s by unfold Bu.bz;rw[if_pos v9]];exact HW.o.alloc _
    case measure=>simp[intOf];omega
   ·rw[v9]at e0;obtain⟨op,a⟩:=x;simp only at d0 d1;obtain⟨N,cv,c5,g4,_⟩:=Bc HW.o.steps;subst c5;have i6:=f.o.steps;have cg:=HW.o.box.lt;have c0:=HW.o.box.cell 0;have c1:=HW.o.box.cell 1;simp only[Az,Ay,Ba]at c0 c1;obtain⟨_,b4,ci,v0⟩:=Bg HW.o.index (g:=w.heap.size+1+1+1+1) rfl;have b1:=v0.frozen j;obtain⟨r,c,z,_,_,_,v4⟩:=Cf HW.o.index (by omega);obtain⟨rfl,rfl⟩:w.heap.size+1+1+1+1=r∧l.length+1=c:=by simpa using z
    have i0:=v4 j _ (Bf (by rw[Pp,f.o.index];omega));clear v4 z;have a7:=Bz hx;have z6:=Aq ((HW.o.jG (i:=j) (by rw[f.o.index];omega) s.steps.length).alloc (.cells #[Aj op,Aj a] 96));have z3:=Aq (Xe op a ps _ B Ap cp (Ex hB z6.o.below.size) (V.o.below z6.o.below hB) (by omega) (fun h=>v6.o.ao _ a7 h) HS.o);have d9:=v6.o.az j _ hx;have b7:=v6.o.ahead _ a7;simp only at b7;have a9:=v6.o.kj _ a7;have lZ:=v6.o.fe _ a7;have n0:=fun (W:World) (h:aH W wr.heap.size 96 #[Aj op,Aj a])=>(h.cell 0:W.cell? ⟨wr.heap.size,0,none⟩=_)
    have n1:=fun (W:World) (h:aH W wr.heap.size 96 #[Aj op,Aj a])=>(h.cell 1:W.cell? ⟨wr.heap.size,1,none⟩=_)
    have z9:=Aq (qH (wr.setCell ⟨w.heap.size+1+1+1+1,j,none⟩ (Aj (s.steps.length:Int))) 96 #[Aj op,Aj a] (g:=wr.heap.size) (by simp[World.setCell]));have x6:=Aq n0;have a2:=Aq n1;clear n0 n1;obtain⟨t,ht⟩:∃t,t=j+1+Bu.jump (op,a):=⟨_,rfl⟩;have HT:=Aq ht;have j6:t≤l.length:=by rw[ht];exact d9
    have b6:=Aq (v6.o.ao _ a7);obtain⟨G,hG⟩:∃G,G=Bu.bc (op,a) fs:=⟨_,rfl⟩;rw[←hG]at a9;have v5:=Aq hG;have b5:=Aq a9;obtain⟨Z,hZ⟩:∃Z,Z=Bu.sizeOf (op,a) ps:=⟨_,rfl⟩;rw[←hZ]at z3 lZ;have y5:=Aq hZ;have e3:=Aq lZ;clear d9 a9 lZ hx a7 ht hZ hG;obtain⟨L,f2⟩:∃L,L=j+1:=⟨_,rfl⟩;have j7:(j:Int)+1=(L:Int):=by omega
    have R:=Aq f2;clear f2;by_cases a8:op=35∨op=36
    ·have hz:0<Z:=by
      rw[y5.o];unfold Bu.sizeOf;rw[if_neg (by simp only;omega),if_neg (by simp only;omega),if_neg (by simp only;omega)]
      decide
     have j9:IntKind.i64.wrap ((L:Int)+a)=(t:Int):=by
      have h1:=HT.o;have h2:=R.o;have h3:=b7 a8;unfold Bu.jump at h1;rw[if_pos a8]at h1;simp only at h1;exact(Do _ (by omega)).trans (by omega)
     obtain⟨zz,z8⟩:∃x,x=min (s.size+Z) 20001:=⟨_,rfl⟩;have b9:=Aq z8;have g9:(if (20001:Int)<s.size+Z then(20001:Int) else s.size+Z)=zz:=by rw[z8];omega
     have g6:(if s.size+Z<(20001:Int) then s.size+Z else(20001:Int))=zz:=by rw[z8];omega
     have g2:IntKind.i64.wrap (s.size+Z)=s.size+Z:=Do _ (by have:=e3.o;have:=f.o.size;omega);clear z8;by_cases z7:op=35
     ·have d8:(op==35)=true:=by simp only[beq_iff_eq];exact z7
      have e8:=Aq z7;clear z7 a8 b7;go_wp2_with (refine z3.o.mono ?_;rintro e P⟨rfl,x9⟩)
      have z4:wr.heap.size<((wr.setCell ⟨w.heap.size+1+1+1+1,j,none⟩ (Aj (s.steps.length:Int))).alloc (.cells #[Aj op,Aj a] 96)).heap.size:=by simp[World.setCell]
      have c':=Aq (z6.o.iE x9);have x3:Hid (aH P wr.heap.size 96 #[Aj op,Aj a]):=Aq ((x9.block _ z4).trans z9.o);have Q:=x6.o _ x3.o;have C:=a2.o _ x3.o;have y3:=c'.o.box.cell 0;simp only[Az,Ay,Ba]at Q C y3;obtain⟨_,E,ch,n⟩:=Bg c'.o.aC (g:=w.heap.size+1+1+1) rfl;obtain⟨r,c,z,_,_,_,m⟩:=Cf c'.o.aC (by omega);obtain⟨rfl,rfl⟩:w.heap.size+1+1+1=r∧l.length+1=c:=by simpa using z
      have I:=m j _ (Cn (l:=s.aC) (i:=j) (v:=s.aC.getD j 0) (by rw[Bo,Bf (by rw[f.o.aC];omega)];rfl));obtain⟨y,y4⟩:∃x,x=s.aC.getD j 0:=⟨_,rfl⟩;rw[←y4]at I;have x5:=Aq y4;clear y4;have D:wr.heap.size<P.heap.size:=x3.o.lt;have v2:=c'.o.box.lt;clear m z n x9 z9 z6 z3 e0 d0 d1 c0 c1 i0 b1 v0 z4 b4 x4;have HA:=Aq (c'.o.drew.alloc (.cells #[Aj op,Aj a,Aj y,Aj (t:Int)] 145));have v7:Hid (Dr (s.steps++[⟨op,a,y,t⟩])=Dr s.steps++[Aj op,Aj a,Aj y,Aj (t:Int)]):=Aq (Jo s.steps [⟨op,a,y,t⟩]);have e4:=Aq ((Cc P.drew (.cells #[Aj op,Aj a,Aj y,Aj (t:Int)] 145) ⟨wr.heap.size,0,none⟩ D).trans Q);have v8:(P.drew.alloc (.cells #[Aj op,Aj a,Aj y,Aj (t:Int)] 145)).cell? ⟨w.heap.size+1,0,none⟩=some (.slice N s.steps.length cv)∧(P.drew.alloc (.cells #[Aj op,Aj a,Aj y,Aj (t:Int)] 145)).cell? ⟨wr.heap.size,0,none⟩=some (Aj op)∧(P.drew.alloc (.cells #[Aj op,Aj a,Aj y,Aj (t:Int)] 145)).cell? ⟨wr.heap.size,1,none⟩=some (Aj a)∧(P.drew.alloc (.cells #[Aj op,Aj a,Aj y,Aj (t:Int)] 145)).cell? ⟨w.heap.size+1+1+1,j,none⟩=some (Aj y) :=
       ⟨(Cc _ _ _ v2).trans y3,(Cc _ _ _ D).trans Q,(Cc _ _ _ D).trans C,(Cc _ _ _ E).trans I⟩
      have J:P.drew.cell? ⟨w.heap.size+1,0,none⟩=some (.slice N s.steps.length cv)∧P.drew.cell? ⟨wr.heap.size,0,none⟩=some (Aj op)∧P.drew.cell? ⟨wr.heap.size,1,none⟩=some (Aj a)∧P.drew.cell? ⟨w.heap.size+1+1+1,j,none⟩=some (Aj y):=⟨y3,Q,C,I⟩;refine Cv [9,10,12] [1,2,6] [9] 13 (fun wq:World=>wq.cell? ⟨w.heap.size+1,0,none⟩=some (.slice N s.steps.length cv)∧wq.cell? ⟨wr.heap.size,0,none⟩=some (Aj op)∧wq.cell? ⟨wr.heap.size,1,none⟩=some (Aj a)∧wq.cell? ⟨w.heap.size+1+1+1,j,none⟩=some (Aj y)) ?_
      iterate 9 (first|refine Be ?_|refine Bj J ?_)
      refine Bi fun K H=>?_;go_simp
      refine H _ _ (fun _=>v8) ?_;clear H K;refine Bi fun K H=>?_
      refine Hl _ rfl (.tmp 70) (.tmp 78) _ rfl 145 i0 _ 4 32 Tryz.underlying87 d5 c7 c4 d6 rfl (by decide) w.heap.size (.slice N s.steps.length cv) s.steps.length (Dr s.steps) rfl HA.o.steps HA.o.below.size _ _ 1 1 [Aj op,Aj a,Aj y,Aj (t:Int)] rfl (qM (cs:=[Aj op,Aj a,Aj y,Aj (t:Int)]) (qG _ _ _) 4 1 rfl) (by simp[Value.oneCell']) (by unfold maxLen;omega) (by omega) ?_;intro v' w6 y2 hg b3;rw[←v7.o,show s.steps.length+1=(s.steps++[⟨op,a,y,t⟩]:List Bu.PS).length by simp]at y2;have hW:=Aq (HA.o.fY y2 hg);have Av:=HA.o.gP hg;have z1:=Aq (HA.o.gD ((aH.drew x3.o).alloc _) (by decide) hg);obtain⟨y6,z2,v1,_⟩:=Bc y2;rw[Ca,om]at v1;have x0:=Av.cell 0;have xf:=Av.frozen 0;have xl:=Av.lt;simp only[Az,Ay]at x0;have z0:=Aq (z1.o.cZ (p:=⟨w.heap.size+1,0,none⟩) (z1.o.dF Av (by decide)) v');subst v1;clear z1 Av y2 hg b3;refine Bh H ?_;clear H K
      iterate 1 (first|refine Be ?_|refine Bj J ?_)
      refine Bi fun K H=>?_;go_simp
      refine Bh H ?_;clear H K;refine Bb ?_;clear J v8 HA v7 c' x3 Q C y3 I v2 D E x0 xf xl;generalize w6.setCell ⟨w.heap.size+1,0,none⟩ (.slice y6 (s.steps.length+1) z2)=W at *;have y1:=hW.o.box.cell 1;have yf:=hW.o.box.frozen 1;have yl:=hW.o.box.lt;simp only[Az,Ay,Ba]at y1;go_wp2_with fail
      have V:=Aq (hW.o.ie zz);have HI:=Aq (z0.o.cZ (p:=⟨w.heap.size+1,1,none⟩) (z0.o.dF hW.o.box (by decide)) (Aj zz));clear hW z0 y1 yf yl;generalize W.setCell ⟨w.heap.size+1,1,none⟩ (Aj zz)=U at *;obtain⟨S,T⟩:∃S:Bu.gj,S = { s with index:=s.index.set j s.steps.length,steps:=s.steps++[⟨op,a,y,t⟩],size:=zz } := ⟨_,rfl⟩
      replace V:Hid (eL w l.length S (.slice y6 (s.steps.length+1) z2) U):=Aq (by rw[T];exact V.o)
      have w5:Hid (S.aC=s.aC):=Aq (by rw[T]);have t1:Hid (S.aR=s.aR):=Aq (by rw[T]);have a5:=Aq T;clear T;obtain⟨_,E,ch,n⟩:=Bg V.o.aC (g:=w.heap.size+1+1+1) rfl;obtain⟨_,a0,ck,A⟩:=Bg V.o.aR (g:=w.heap.size+1+1) rfl;obtain⟨r,c,z,_,_,_,m⟩:=Cf V.o.aC (by omega);obtain⟨rfl,rfl⟩:w.heap.size+1+1+1=r∧l.length+1=c:=by simpa using z
      have I:=m j (Aj y) (by rw[w5.o,x5.o];exact Cn (l:=s.aC) (i:=j) (v:=s.aC.getD j 0) (by rw[Bo,Bf (by rw[f.o.aC];omega)];rfl));have Q:=x6.o _ HI.o;have C:=a2.o _ HI.o;simp only[Az,Ay,Ba]at Q C;have D:wr.heap.size<U.heap.size:=HI.o.lt;have x7:=Aq (Ja op a fs U.drew B Af cf (Ex hB V.o.below.size) (HF.o.aQ fun q hq=>V.o.drew.below.cell (Dq hq hB)) c2 (fun h=>by have:=b6.o h;omega) HM.o);rw[←v5.o]at x7;clear m z n A;have J:U.drew.cell? ⟨wr.heap.size,0,none⟩=some (Aj op)∧U.drew.cell? ⟨wr.heap.size,1,none⟩=some (Aj a)∧U.drew.cell? ⟨w.heap.size+1+1+1,j,none⟩=some (Aj y):=⟨Q,C,I⟩;refine Cv [6] [3,4] [6] 9 (fun wq:World=>wq.cell? ⟨wr.heap.size,0,none⟩=some (Aj op)∧wq.cell? ⟨wr.heap.size,1,none⟩=some (Aj a)∧wq.cell? ⟨w.heap.size+1+1+1,j,none⟩=some (Aj y)) ?_
      iterate 6 (first|refine Be ?_|refine Bj J ?_)
      refine Bi fun K H=>?_;go_simp
      refine x7.o.mono ?_;rintro e w9⟨rfl,M⟩;have hS:=Aq (V.o.drew.iE M);have hK:Hid (aH w9 wr.heap.size 96 #[Aj op,Aj a]):=Aq ((M.block _ D).trans HI.o.drew);have y7:w9.cell? ⟨wr.heap.size,0,none⟩=some (Aj op)∧w9.cell? ⟨wr.heap.size,1,none⟩=some (Aj a)∧w9.cell? ⟨w.heap.size+1+1+1,j,none⟩=some (Aj y):=⟨(M.cell (p:=⟨wr.heap.size,0,none⟩) D).trans Q,(M.cell (p:=⟨wr.heap.size,1,none⟩) D).trans C,(M.cell (p:=⟨w.heap.size+1+1+1,j,none⟩) E).trans I⟩;refine H _ _ (fun _=>y7) ?_;clear H K
      iterate 2 (first|refine Be ?_|refine Bj J ?_)
      refine Bb ?_;clear J y7 V HI x7 Q C I E a0 D M;have hk:=hS.o.aR;obtain⟨_,x4,ck,A⟩:=Bg hk (g:=w.heap.size+1+1) rfl;have fk:=A.frozen t;obtain⟨r,c,z,_,_,_,O⟩:=Cf hk (by omega);obtain⟨rfl,rfl⟩:w.heap.size+1+1=r∧l.length+1=c:=by simpa using z
      have xk:=O t _ (Fu (by rw[t1.o,f.o.aR];omega));clear O z;have x8:=hS.o.aC;obtain⟨_,E,ch,n⟩:=Bg x8 (g:=w.heap.size+1+1+1) rfl;have fh:=n.frozen t;obtain⟨r,c,z,_,_,_,m⟩:=Cf x8 (by omega);obtain⟨rfl,rfl⟩:w.heap.size+1+1+1=r∧l.length+1=c:=by simpa using z
      have xh:=m t _ (Cn (l:=S.aC) (i:=t) (v:=S.aC.getD t 0) (by rw[Bo,Bf (by rw[w5.o,f.o.aC];omega)];rfl));obtain⟨uh,hh⟩:∃u,u=S.aC.getD t 0:=⟨_,rfl⟩;rw[←hh]at xh;obtain⟨uk,g'⟩:∃u,u=S.aR.getD t false:=⟨_,rfl⟩;rw[←g']at xk;clear m z hh g' hk x8;have d4:IntKind.i64.wrap (y+G)=y+G:=Do _ (by have h1:=b5.o;have h2:=f.o.nQ j;have h3:=x5.o;omega);have c9:(t:Int)<(l.length:Int)+1:=by omega
      have y8:=x6.o _ hK.o;simp only[Az,Ay]at y8;have HP:=Aq ((hS.o.dx (i:=t) (by rw[t1.o,f.o.aR];omega) true).eZ (i:=t) (by rw[w5.o,f.o.aC];omega) (y+G));have a3:=Aq (((hK.o.cZ (p:=⟨w.heap.size+1+1,t,none⟩) (hK.o.dF A (by decide)) (.bool true))).cZ (p:=⟨w.heap.size+1+1+1,t,none⟩) (by show wr.heap.size≠w.heap.size+1+1+1;exact hK.o.dF n (by decide)) (Aj (y+G)));clear A n;go_upto_region 20 with fail
      clear fk xk fh xh y8 hK hS x4 E;generalize (w9.setCell ⟨w.heap.size+1+1,t,none⟩ (.bool true)).setCell ⟨w.heap.size+1+1+1,t,none⟩ (Aj (y+G))=X at *;have a4:=x6.o _ a3.o;simp only[Az,Ay]at a4;obtain⟨_,x4,ck,A⟩:=Bg HP.o.aR (g:=w.heap.size+1+1) rfl;have fk:=A.frozen L;obtain⟨r,c,z,_,_,_,O⟩:=Cf HP.o.aR (by omega);obtain⟨rfl,rfl⟩:w.heap.size+1+1=r∧l.length+1=c:=by simpa using z
      have xk:=O L _ (Fu (by simp only[Dh];rw[t1.o,f.o.aR];have:=R.o;omega));obtain⟨_,E,ch,n⟩:=Bg HP.o.aC (g:=w.heap.size+1+1+1) rfl;have fh:=n.frozen L;have z5:L<(S.aC.set t (y+G)).length:=by simp only[Dh];rw[w5.o,f.o.aC];have:=R.o;omega
      obtain⟨r,c,z,_,_,_,m⟩:=Cf HP.o.aC (by omega);obtain⟨rfl,rfl⟩:w.heap.size+1+1+1=r∧l.length+1=c:=by simpa using z
      have xh:=m L _ (Cn (Bf z5));obtain⟨c3,hh⟩:∃u,u=(S.aC.set t (y+G))[L]:=⟨_,rfl⟩;rw[←hh]at xh;obtain⟨a6,g'⟩:∃u,u=(S.aR.set t true).getD L false:=⟨_,rfl⟩;have c6:X.cell? ⟨w.heap.size+1+1,L,none⟩=some (.bool a6):=by rw[g'];exact xk
      have d2:(L:Int)<(l.length:Int)+1:=by have:=R.o;omega
      clear O m hh g' A n z5 xk z;go_wp2_with fail
      go_roundw
      case rel =>
       have HF:=HP.o;rw[a5.o]at HF;refine⟨L,(.slice y6 (s.steps.length+1) z2),by have:=R.o;omega,rfl,?_⟩;rw[show L=j+1 from R.o,b0.o];unfold Bu.bz;rw[if_neg (by rw[v9];simp)];dsimp only;rw[←HT.o,if_pos e8.o,if_pos e8.o,if_pos (by have:=y5.o;omega),if_pos (by have:=y5.o;omega),←v5.o,←y5.o,←x5.o,←b9.o];exact HF
      case measure=>simp[intOf];have:=R.o;omega
     ·have d8:(op==35)=false:=by simp only[beq_eq_false_iff_ne,ne_eq];omega
      have g5:(op==36)=true:=by simp only[beq_iff_eq];omega
      clear a8 b7;go_wp2_with (refine z3.o.mono ?_;rintro e P⟨rfl,x9⟩)
      have z4:wr.heap.size<((wr.setCell ⟨w.heap.size+1+1+1+1,j,none⟩ (Aj (s.steps.length:Int))).alloc (.cells #[Aj op,Aj a] 96)).heap.size:=by simp[World.setCell]
      have c':=Aq (z6.o.iE x9);have x3:Hid (aH P wr.heap.size 96 #[Aj op,Aj a]):=Aq ((x9.block _ z4).trans z9.o);have Q:=x6.o _ x3.o;have C:=a2.o _ x3.o;have y3:=c'.o.box.cell 0;simp only[Az,Ay,Ba]at Q C y3;obtain⟨_,E,ch,n⟩:=Bg c'.o.aC (g:=w.heap.size+1+1+1) rfl;obtain⟨r,c,z,_,_,_,m⟩:=Cf c'.o.aC (by omega);obtain⟨rfl,rfl⟩:w.heap.size+1+1+1=r∧l.length+1=c:=by simpa using z
      have I:=m j _ (Cn (l:=s.aC) (i:=j) (v:=s.aC.getD j 0) (by rw[Bo,Bf (by rw[f.o.aC];omega)];rfl));obtain⟨y,y4⟩:∃x,x=s.aC.getD j 0:=⟨_,rfl⟩;rw[←y4]at I;have x5:=Aq y4;clear y4;have D:wr.heap.size<P.heap.size:=x3.o.lt;have v2:=c'.o.box.lt;clear m z n x9 z9 z6 z3 e0 d0 d1 c0 c1 i0 b1 v0 z4 b4 x4;have HA:=Aq (c'.o.drew.alloc (.cells #[Aj op,Aj a,Aj y,Aj (t:Int)] 145));have v7:Hid (Dr (s.steps++[⟨op,a,y,t⟩])=Dr s.steps++[Aj op,Aj a,Aj y,Aj (t:Int)]):=Aq (Jo s.steps [⟨op,a,y,t⟩]);have e4:=Aq ((Cc P.drew (.cells #[Aj op,Aj a,Aj y,Aj (t:Int)] 145) ⟨wr.heap.size,0,none⟩ D).trans Q);have v8:(P.drew.alloc (.cells #[Aj op,Aj a,Aj y,Aj (t:Int)] 145)).cell? ⟨w.heap.size+1,0,none⟩=some (.slice N s.steps.length cv)∧(P.drew.alloc (.cells #[Aj op,Aj a,Aj y,Aj (t:Int)] 145)).cell? ⟨wr.heap.size,0,none⟩=some (Aj op)∧(P.drew.alloc (.cells #[Aj op,Aj a,Aj y,Aj (t:Int)] 145)).cell? ⟨wr.heap.size,1,none⟩=some (Aj a)∧(P.drew.alloc (.cells #[Aj op,Aj a,Aj y,Aj (t:Int)] 145)).cell? ⟨w.heap.size+1+1+1,j,none⟩=some (Aj y) :=
       ⟨(Cc _ _ _ v2).trans y3,(Cc _ _ _ D).trans Q,(Cc _ _ _ D).trans C,(Cc _ _ _ E).trans I⟩
      have J:P.drew.cell? ⟨w.heap.size+1,0,none⟩=some (.slice N s.steps.length cv)∧P.drew.cell? ⟨wr.heap.size,0,none⟩=some (Aj op)∧P.drew.cell? ⟨wr.heap.size,1,none⟩=some (Aj a)∧P.drew.cell? ⟨w.heap.size+1+1+1,j,none⟩=some (Aj y):=⟨y3,Q,C,I⟩;refine Cv [9,10,12] [1,2,6] [9] 13 (fun wq:World=>wq.cell? ⟨w.heap.size+1,0,none⟩=some (.slice N s.steps.length cv)∧wq.cell? ⟨wr.heap.size,0,none⟩=some (Aj op)∧wq.cell? ⟨wr.heap.size,1,none⟩=some (Aj a)∧wq.cell? ⟨w.heap.size+1+1+1,j,none⟩=some (Aj y)) ?_
      iterate 9 (first|refine Be ?_|refine Bj J ?_)
      refine Bi fun K H=>?_;go_simp
      refine H _ _ (fun _=>v8) ?_;clear H K;refine Bi fun K H=>?_
      refine Hl _ rfl (.tmp 70) (.tmp 78) _ rfl 145 i0 _ 4 32 Tryz.underlying87 d5 c7 c4 d6 rfl (by decide) w.heap.size (.slice N s.steps.length cv) s.steps.length (Dr s.steps) rfl HA.o.steps HA.o.below.size _ _ 1 1 [Aj op,Aj a,Aj y,Aj (t:Int)] rfl (qM (cs:=[Aj op,Aj a,Aj y,Aj (t:Int)]) (qG _ _ _) 4 1 rfl) (by simp[Value.oneCell']) (by unfold maxLen;omega) (by omega) ?_;intro v' w6 y2 hg b3;rw[←v7.o,show s.steps.length+1=(s.steps++[⟨op,a,y,t⟩]:List Bu.PS).length by simp]at y2;have hW:=Aq (HA.o.fY y2 hg);have Av:=HA.o.gP hg;have z1:=Aq (HA.o.gD ((aH.drew x3.o).alloc _) (by decide) hg);obtain⟨y6,z2,v1,_⟩:=Bc y2;rw[Ca,om]at v1;have x0:=Av.cell 0;have xf:=Av.frozen 0;have xl:=Av.lt;simp only[Az,Ay]at x0;have z0:=Aq (z1.o.cZ (p:=⟨w.heap.size+1,0,none⟩) (z1.o.dF Av (by decide)) v');subst v1;clear z1 Av y2 hg b3;refine Bh H ?_;clear H K
      iterate 1 (first|refine Be ?_|refine Bj J ?_)
      refine Bi fun K H=>?_;go_simp
      refine Bh H ?_;clear H K;refine Bb ?_;clear J v8 HA v7 c' x3 Q C y3 I v2 D E x0 xf xl;generalize w6.setCell ⟨w.heap.size+1,0,none⟩ (.slice y6 (s.steps.length+1) z2)=W at *;have y1:=hW.o.box.cell 1;have yf:=hW.o.box.frozen 1;have yl:=hW.o.box.lt;simp only[Az,Ay,Ba]at y1;go_wp2_with fail
      have V:=Aq (hW.o.ie zz);have HI:=Aq (z0.o.cZ (p:=⟨w.heap.size+1,1,none⟩) (z0.o.dF hW.o.box (by decide)) (Aj zz));clear hW z0 y1 yf yl;generalize W.setCell ⟨w.heap.size+1,1,none⟩ (Aj zz)=U at *;obtain⟨S,T⟩:∃S:Bu.gj,S = { s with index:=s.index.set j s.steps.length,steps:=s.steps++[⟨op,a,y,t⟩],size:=zz } := ⟨_,rfl⟩
      replace V:Hid (eL w l.length S (.slice y6 (s.steps.length+1) z2) U):=Aq (by rw[T];exact V.o)
      have w5:Hid (S.aC=s.aC):=Aq (by rw[T]);have t1:Hid (S.aR=s.aR):=Aq (by rw[T]);have a5:=Aq T;clear T;obtain⟨_,E,ch,n⟩:=Bg V.o.aC (g:=w.heap.size+1+1+1) rfl;obtain⟨_,a0,ck,A⟩:=Bg V.o.aR (g:=w.heap.size+1+1) rfl;obtain⟨r,c,z,_,_,_,m⟩:=Cf V.o.aC (by omega);obtain⟨rfl,rfl⟩:w.heap.size+1+1+1=r∧l.length+1=c:=by simpa using z
      have I:=m j (Aj y) (by rw[w5.o,x5.o];exact Cn (l:=s.aC) (i:=j) (v:=s.aC.getD j 0) (by rw[Bo,Bf (by rw[f.o.aC];omega)];rfl));have Q:=x6.o _ HI.o;have C:=a2.o _ HI.o;simp only[Az,Ay,Ba]at Q C;have D:wr.heap.size<U.heap.size:=HI.o.lt;have x7:=Aq (Ja op a fs U.drew B Af cf (Ex hB V.o.below.size) (HF.o.aQ fun q hq=>V.o.drew.below.cell (Dq hq hB)) c2 (fun h=>by have:=b6.o h;omega) HM.o);rw[←v5.o]at x7;clear m z n A;have J:U.drew.cell? ⟨wr.heap.size,0,none⟩=some (Aj op)∧U.drew.cell? ⟨wr.heap.size,1,none⟩=some (Aj a)∧U.drew.cell? ⟨w.heap.size+1+1+1,j,none⟩=some (Aj y):=⟨Q,C,I⟩;refine Cv [6] [3,4] [6] 9 (fun wq:World=>wq.cell? ⟨wr.heap.size,0,none⟩=some (Aj op)∧wq.cell? ⟨wr.heap.size,1,none⟩=some (Aj a)∧wq.cell? ⟨w.heap.size+1+1+1,j,none⟩=some (Aj y)) ?_
      iterate 6 (first|refine Be ?_|refine Bj J ?_)
      refine Bi fun K H=>?_;go_simp
      refine x7.o.mono ?_;rintro e w9⟨rfl,M⟩;have hS:=Aq (V.o.drew.iE M);have hK:Hid (aH w9 wr.heap.size 96 #[Aj op,Aj a]):=Aq ((M.block _ D).trans HI.o.drew);have y7:w9.cell? ⟨wr.heap.size,0,none⟩=some (Aj op)∧w9.cell? ⟨wr.heap.size,1,none⟩=some (Aj a)∧w9.cell? ⟨w.heap.size+1+1+1,j,none⟩=some (Aj y):=⟨(M.cell (p:=⟨wr.heap.size,0,none⟩) D).trans Q,(M.cell (p:=⟨wr.heap.size,1,none⟩) D).trans C,(M.cell (p:=⟨w.heap.size+1+1+1,j,none⟩) E).trans I⟩;refine H _ _ (fun _=>y7) ?_;clear H K
      iterate 2 (first|refine Be ?_|refine Bj J ?_)
      refine Bb ?_;clear J y7 V HI x7 Q C I E a0 D M;have hk:=hS.o.aR;obtain⟨_,x4,ck,A⟩:=Bg hk (g:=w.heap.size+1+1) rfl;have fk:=A.frozen t;obtain⟨r,c,z,_,_,_,O⟩:=Cf hk (by omega);obtain⟨rfl,rfl⟩:w.heap.size+1+1=r∧l.length+1=c:=by simpa using z
      have xk:=O t _ (Fu (by rw[t1.o,f.o.aR];omega));clear O z;have x8:=hS.o.aC;obtain⟨_,E,ch,n⟩:=Bg x8 (g:=w.heap.size+1+1+1) rfl;have fh:=n.frozen t;obtain⟨r,c,z,_,_,_,m⟩:=Cf x8 (by omega);obtain⟨rfl,rfl⟩:w.heap.size+1+1+1=r∧l.length+1=c:=by simpa using z
      have xh:=m t _ (Cn (l:=S.aC) (i:=t) (v:=S.aC.getD t 0) (by rw[Bo,Bf (by rw[w5.o,f.o.aC];omega)];rfl));obtain⟨uh,hh⟩:∃u,u=S.aC.getD t 0:=⟨_,rfl⟩;rw[←hh]at xh;obtain⟨uk,g'⟩:∃u,u=S.aR.getD t false:=⟨_,rfl⟩;rw[←g']at xk;clear m z hh g' hk x8;have d4:IntKind.i64.wrap (y+G)=y+G:=Do _ (by have h1:=b5.o;have h2:=f.o.nQ j;have h3:=x5.o;omega);have c9:(t:Int)<(l.length:Int)+1:=by omega
      have y8:=x6.o _ hK.o;simp only[Az,Ay]at y8;have HP:=Aq ((hS.o.dx (i:=t) (by rw[t1.o,f.o.aR];omega) true).eZ (i:=t) (by rw[w5.o,f.o.aC];omega) (y+G));have a3:=Aq (((hK.o.cZ (p:=⟨w.heap.size+1+1,t,none⟩) (hK.o.dF A (by decide)) (.bool true))).cZ (p:=⟨w.heap.size+1+1+1,t,none⟩) (by show wr.heap.size≠w.heap.size+1+1+1;exact hK.o.dF n (by decide)) (Aj (y+G)));clear A n;go_upto_region 20 with fail
      clear fk xk fh xh y8 hK hS x4 E;generalize (w9.setCell ⟨w.heap.size+1+1,t,none⟩ (.bool true)).setCell ⟨w.heap.size+1+1+1,t,none⟩ (Aj (y+G))=X at *;have a4:=x6.o _ a3.o;simp only[Az,Ay]at a4;obtain⟨_,x4,ck,A⟩:=Bg HP.o.aR (g:=w.heap.size+1+1) rfl;have fk:=A.frozen L;obtain⟨r,c,z,_,_,_,O⟩:=Cf HP.o.aR (by omega);obtain⟨rfl,rfl⟩:w.heap.size+1+1=r∧l.length+1=c:=by simpa using z
      have xk:=O L _ (Fu (by simp only[Dh];rw[t1.o,f.o.aR];have:=R.o;omega));obtain⟨_,E,ch,n⟩:=Bg HP.o.aC (g:=w.heap.size+1+1+1) rfl;have fh:=n.frozen L;have z5:L<(S.aC.set t (y+G)).length:=by simp only[Dh];rw[w5.o,f.o.aC];have:=R.o;omega
      obtain⟨r,c,z,_,_,_,m⟩:=Cf HP.o.aC (by omega);obtain⟨rfl,rfl⟩:w.heap.size+1+1+1=r∧l.length+1=c:=by simpa using z
      have xh:=m L _ (Cn (Bf z5));obtain⟨c3,hh⟩:∃u,u=(S.aC.set t (y+G))[L]:=⟨_,rfl⟩;rw[←hh]at xh;obtain⟨a6,g'⟩:∃u,u=(S.aR.set t true).getD L false:=⟨_,rfl⟩;have c6:X.cell? ⟨w.heap.size+1+1,L,none⟩=some (.bool a6):=by rw[g'];exact xk
      have d2:(L:Int)<(l.length:Int)+1:=by have:=R.o;omega
      clear O m hh g' A n z5 xk z;go_wp2_with fail
      have b2:=Aq ((HP.o.dx (i:=L) (by simp only[Dh];rw[t1.o,f.o.aR];have:=R.o;omega) true).eZ (i:=L) (by simp only[Dh];rw[w5.o,f.o.aC];have:=R.o;omega) (y+G));go_roundw
      case rel =>
       have HF:=b2.o;rw[a5.o]at HF;refine⟨L,(.slice y6 (s.steps.length+1) z2),by have:=R.o;omega,rfl,?_⟩;rw[show L=j+1 from R.o,b0.o];unfold Bu.bz;rw[if_neg (by rw[v9];simp)];dsimp only;rw[←HT.o,←R.o,if_neg z7,if_neg z7,if_pos (by have:=y5.o;omega),if_pos (by have:=y5.o;omega),←v5.o,←y5.o,←x5.o,←b9.o];exact HF
      case measure=>simp[intOf];have:=R.o;omega
    ·have f8:t=L:=by
      have h1:=HT.o;have h2:=R.o;unfold Bu.jump at h1;rw[if_neg a8]at h1;omega
     have z7:¬ op=35:=fun e=>a8 (.inl e)
     subst f8;have d8:(op==35)=false:=by simp only[beq_eq_false_iff_ne,ne_eq];omega
     have g5:(op==36)=false:=by simp only[beq_eq_false_iff_ne,ne_eq];omega
     by_cases hz:0<Z
     ·obtain⟨zz,z8⟩:∃x,x=min (s.size+Z) 20001:=⟨_,rfl⟩;have b9:=Aq z8;have g9:(if (20001:Int)<s.size+Z then(20001:Int) else s.size+Z)=zz:=by rw[z8];omega
      have g6:(if s.size+Z<(20001:Int) then s.size+Z else(20001:Int))=zz:=by rw[z8];omega
      have g2:IntKind.i64.wrap (s.size+Z)=s.size+Z:=Do _ (by have:=e3.o;have:=f.o.size;omega);clear z8;go_wp2_with (refine z3.o.mono ?_;rintro e P⟨rfl,x9⟩)
      have z4:wr.heap.size<((wr.setCell ⟨w.heap.size+1+1+1+1,j,none⟩ (Aj (s.steps.length:Int))).alloc (.cells #[Aj op,Aj a] 96)).heap.size:=by simp[World.setCell]
      have c':=Aq (z6.o.iE x9);have x3:Hid (aH P wr.heap.size 96 #[Aj op,Aj a]):=Aq ((x9.block _ z4).trans z9.o);have Q:=x6.o _ x3.o;have C:=a2.o _ x3.o;have y3:=c'.o.box.cell 0;simp only[Az,Ay,Ba]at Q C y3;obtain⟨_,E,ch,n⟩:=Bg c'.o.aC (g:=w.heap.size+1+1+1) rfl;obtain⟨r,c,z,_,_,_,m⟩:=Cf c'.o.aC (by omega);obtain⟨rfl,rfl⟩:w.heap.size+1+1+1=r∧l.length+1=c:=by simpa using z
      have I:=m j _ (Cn (l:=s.aC) (i:=j) (v:=s.aC.getD j 0) (by rw[Bo,Bf (by rw[f.o.aC];omega)];rfl));obtain⟨y,y4⟩:∃x,x=s.aC.getD j 0:=⟨_,rfl⟩;rw[←y4]at I;have x5:=Aq y4;clear y4;have D:wr.heap.size<P.heap.size:=x3.o.lt;have v2:=c'.o.box.lt;clear m z n x9 z9 z6 z3 e0 d0 d1 c0 c1 i0 b1 v0 z4 b4 x4;have HA:=Aq (c'.o.drew.alloc (.cells #[Aj op,Aj a,Aj y,Aj (t:Int)] 145));have v7:Hid (Dr (s.steps++[⟨op,a,y,t⟩])=Dr s.steps++[Aj op,Aj a,Aj y,Aj (t:Int)]):=Aq (Jo s.steps [⟨op,a,y,t⟩]);have e4:=Aq ((Cc P.drew (.cells #[Aj op,Aj a,Aj y,Aj (t:Int)] 145) ⟨wr.heap.size,0,none⟩ D).trans Q);have v8:(P.drew.alloc (.cells #[Aj op,Aj a,Aj y,Aj (t:Int)] 145)).cell? ⟨w.heap.size+1,0,none⟩=some (.slice N s.steps.length cv)∧(P.drew.alloc (.cells #[Aj op,Aj a,Aj y,Aj (t:Int)] 145)).cell? ⟨wr.heap.size,0,none⟩=some (Aj op)∧(P.drew.alloc (.cells #[Aj op,Aj a,Aj y,Aj (t:Int)] 145)).cell? ⟨wr.heap.size,1,none⟩=some (Aj a)∧(P.drew.alloc (.cells #[Aj op,Aj a,Aj y,Aj (t:Int)] 145)).cell? ⟨w.heap.size+1+1+1,j,none⟩=some (Aj y) :=
       ⟨(Cc _ _ _ v2).trans y3,(Cc _ _ _ D).trans Q,(Cc _ _ _ D).trans C,(Cc _ _ _ E).trans I⟩
      have J:P.drew.cell? ⟨w.heap.size+1,0,none⟩=some (.slice N s.steps.length cv)∧P.drew.cell? ⟨wr.heap.size,0,none⟩=some (Aj op)∧P.drew.cell? ⟨wr.heap.size,1,none⟩=some (Aj a)∧P.drew.cell? ⟨w.heap.size+1+1+1,j,none⟩=some (Aj y):=⟨y3,Q,C,I⟩;refine Cv [9,10,12] [1,2,6] [9] 13 (fun wq:World=>wq.cell? ⟨w.heap.size+1,0,none⟩=some (.slice N s.steps.length cv)∧wq.cell? ⟨wr.heap.size,0,none⟩=some (Aj op)∧wq.cell? ⟨wr.heap.size,1,none⟩=some (Aj a)∧wq.cell? ⟨w.heap.size+1+1+1,j,none⟩=some (Aj y)) ?_
      iterate 9 (first|refine Be ?_|refine Bj J ?_)
      refine Bi fun K H=>?_;go_simp
      refine H _ _ (fun _=>v8) ?_;clear H K;refine Bi fun K H=>?_
      refine Hl _ rfl (.tmp 70) (.tmp 78) _ rfl 145 i0 _ 4 32 Tryz.underlying87 d5 c7 c4 d6 rfl (by decide) w.heap.size (.slice N s.steps.length cv) s.steps.length (Dr s.steps) rfl HA.o.steps HA.o.below.size _ _ 1 1 [Aj op,Aj a,Aj y,Aj (t:Int)] rfl (qM (cs:=[Aj op,Aj a,Aj y,Aj (t:Int)]) (qG _ _ _) 4 1 rfl) (by simp[Value.oneCell']) (by unfold maxLen;omega) (by omega) ?_;intro v' w6 y2 hg b3;rw[←v7.o,show s.steps.length+1=(s.steps++[⟨op,a,y,t⟩]:List Bu.PS).length by simp]at y2;have hW:=Aq (HA.o.fY y2 hg);have Av:=HA.o.gP hg;have z1:=Aq (HA.o.gD ((aH.drew x3.o).alloc _) (by decide) hg);obtain⟨y6,z2,v1,_⟩:=Bc y2;rw[Ca,om]at v1;have x0:=Av.cell 0;have xf:=Av.frozen 0;have xl:=Av.lt;simp only[Az,Ay]at x0;have z0:=Aq (z1.o.cZ (p:=⟨w.heap.size+1,0,none⟩) (z1.o.dF Av (by decide)) v');subst v1;clear z1 Av y2 hg b3;refine Bh H ?_;clear H K
      iterate 1 (first|refine Be ?_|refine Bj J ?_)
      refine Bi fun K H=>?_;go_simp
      refine Bh H ?_;clear H K;refine Bb ?_;clear J v8 HA v7 c' x3 Q C y3 I v2 D E x0 xf xl;generalize w6.setCell ⟨w.heap.size+1,0,none⟩ (.slice y6 (s.steps.length+1) z2)=W at *;have y1:=hW.o.box.cell 1;have yf:=hW.o.box.frozen 1;have yl:=hW.o.box.lt;simp only[Az,Ay,Ba]at y1;go_wp2_with fail
      have V:=Aq (hW.o.ie zz);have HI:=Aq (z0.o.cZ (p:=⟨w.heap.size+1,1,none⟩) (z0.o.dF hW.o.box (by decide)) (Aj zz));clear hW z0 y1 yf yl;generalize W.setCell ⟨w.heap.size+1,1,none⟩ (Aj zz)=U at *;obtain⟨S,T⟩:∃S:Bu.gj,S = { s with index:=s.index.set j s.steps.length,steps:=s.steps++[⟨op,a,y,t⟩],size:=zz } := ⟨_,rfl⟩
      replace V:Hid (eL w l.length S (.slice y6 (s.steps.length+1) z2) U):=Aq (by rw[T];exact V.o)
      have w5:Hid (S.aC=s.aC):=Aq (by rw[T]);have t1:Hid (S.aR=s.aR):=Aq (by rw[T]);have a5:=Aq T;clear T;obtain⟨_,E,ch,n⟩:=Bg V.o.aC (g:=w.heap.size+1+1+1) rfl;obtain⟨_,a0,ck,A⟩:=Bg V.o.aR (g:=w.heap.size+1+1) rfl;obtain⟨r,c,z,_,_,_,m⟩:=Cf V.o.aC (by omega);obtain⟨rfl,rfl⟩:w.heap.size+1+1+1=r∧l.length+1=c:=by simpa using z
      have I:=m j (Aj y) (by rw[w5.o,x5.o];exact Cn (l:=s.aC) (i:=j) (v:=s.aC.getD j 0) (by rw[Bo,Bf (by rw[f.o.aC];omega)];rfl));have Q:=x6.o _ HI.o;have C:=a2.o _ HI.o;simp only[Az,Ay,Ba]at Q C;have D:wr.heap.size<U.heap.size:=HI.o.lt;have x7:=Aq (Ja op a fs U.drew B Af cf (Ex hB V.o.below.size) (HF.o.aQ fun q hq=>V.o.drew.below.cell (Dq hq hB)) c2 (fun h=>by have:=b6.o h;omega) HM.o);rw[←v5.o]at x7;clear m z n A;have J:U.drew.cell? ⟨wr.heap.size,0,none⟩=some (Aj op)∧U.drew.cell? ⟨wr.heap.size,1,none⟩=some (Aj a)∧U.drew.cell? ⟨w.heap.size+1+1+1,j,none⟩=some (Aj y):=⟨Q,C,I⟩;refine Cv [6] [3,4] [6] 9 (fun wq:World=>wq.cell? ⟨wr.heap.size,0,none⟩=some (Aj op)∧wq.cell? ⟨wr.heap.size,1,none⟩=some (Aj a)∧wq.cell? ⟨w.heap.size+1+1+1,j,none⟩=some (Aj y)) ?_
      iterate 6 (first|refine Be ?_|refine Bj J ?_)
      refine Bi fun K H=>?_;go_simp
      refine x7.o.mono ?_;rintro e w9⟨rfl,M⟩;have hS:=Aq (V.o.drew.iE M);have hK:Hid (aH w9 wr.heap.size 96 #[Aj op,Aj a]):=Aq ((M.block _ D).trans HI.o.drew);have y7:w9.cell? ⟨wr.heap.size,0,none⟩=some (Aj op)∧w9.cell? ⟨wr.heap.size,1,none⟩=some (Aj a)∧w9.cell? ⟨w.heap.size+1+1+1,j,none⟩=some (Aj y):=⟨(M.cell (p:=⟨wr.heap.size,0,none⟩) D).trans Q,(M.cell (p:=⟨wr.heap.size,1,none⟩) D).trans C,(M.cell (p:=⟨w.heap.size+1+1+1,j,none⟩) E).trans I⟩;refine H _ _ (fun _=>y7) ?_;clear H K
      iterate 2 (first|refine Be ?_|refine Bj J ?_)
      refine Bb ?_;clear J y7 V HI x7 Q C I E a0 D M;have hk:=hS.o.aR;obtain⟨_,x4,ck,A⟩:=Bg hk (g:=w.heap.size+1+1) rfl;have fk:=A.frozen t;obtain⟨r,c,z,_,_,_,O⟩:=Cf hk (by omega);obtain⟨rfl,rfl⟩:w.heap.size+1+1=r∧l.length+1=c:=by simpa using z
      have xk:=O t _ (Fu (by rw[t1.o,f.o.aR];omega));clear O z;have x8:=hS.o.aC;obtain⟨_,E,ch,n⟩:=Bg x8 (g:=w.heap.size+1+1+1) rfl;have fh:=n.frozen t;obtain⟨r,c,z,_,_,_,m⟩:=Cf x8 (by omega);obtain⟨rfl,rfl⟩:w.heap.size+1+1+1=r∧l.length+1=c:=by simpa using z
      have xh:=m t _ (Cn (l:=S.aC) (i:=t) (v:=S.aC.getD t 0) (by rw[Bo,Bf (by rw[w5.o,f.o.aC];omega)];rfl));obtain⟨uh,hh⟩:∃u,u=S.aC.getD t 0:=⟨_,rfl⟩;rw[←hh]at xh;obtain⟨uk,g'⟩:∃u,u=S.aR.getD t false:=⟨_,rfl⟩;rw[←g']at xk;clear m z hh g' hk x8;have d4:IntKind.i64.wrap (y+G)=y+G:=Do _ (by have h1:=b5.o;have h2:=f.o.nQ j;have h3:=x5.o;omega);have c9:(t:Int)<(l.length:Int)+1:=by omega
      have y8:=x6.o _ hK.o;simp only[Az,Ay]at y8;have HP:=Aq ((hS.o.dx (i:=t) (by rw[t1.o,f.o.aR];omega) true).eZ (i:=t) (by rw[w5.o,f.o.aC];omega) (y+G));have a3:=Aq (((hK.o.cZ (p:=⟨w.heap.size+1+1,t,none⟩) (hK.o.dF A (by decide)) (.bool true))).cZ (p:=⟨w.heap.size+1+1+1,t,none⟩) (by show wr.heap.size≠w.heap.size+1+1+1;exact hK.o.dF n (by decide)) (Aj (y+G)));clear A n;go_upto_region 20 with fail
      clear fk xk fh xh y8 hK hS x4 E;generalize (w9.setCell ⟨w.heap.size+1+1,t,none⟩ (.bool true)).setCell ⟨w.heap.size+1+1+1,t,none⟩ (Aj (y+G))=X at *;have a4:=x6.o _ a3.o;simp only[Az,Ay]at a4;obtain⟨_,x4,ck,A⟩:=Bg HP.o.aR (g:=w.heap.size+1+1) rfl;have fk:=A.frozen t;obtain⟨r,c,z,_,_,_,O⟩:=Cf HP.o.aR (by omega);obtain⟨rfl,rfl⟩:w.heap.size+1+1=r∧l.length+1=c:=by simpa using z
      have xk:=O t _ (Fu (by simp only[Dh];rw[t1.o,f.o.aR];have:=R.o;omega));obtain⟨_,E,ch,n⟩:=Bg HP.o.aC (g:=w.heap.size+1+1+1) rfl;have fh:=n.frozen t;have z5:t<(S.aC.set t (y+G)).length:=by simp only[Dh];rw[w5.o,f.o.aC];have:=R.o;omega
      obtain⟨r,c,z,_,_,_,m⟩:=Cf HP.o.aC (by omega);obtain⟨rfl,rfl⟩:w.heap.size+1+1+1=r∧l.length+1=c:=by simpa using z
      have xh:=m t _ (Cn (Bf z5));obtain⟨c3,hh⟩:∃u,u=(S.aC.set t (y+G))[t]:=⟨_,rfl⟩;rw[←hh]at xh;obtain⟨a6,g'⟩:∃u,u=(S.aR.set t true).getD t false:=⟨_,rfl⟩;have c6:X.cell? ⟨w.heap.size+1+1,t,none⟩=some (.bool a6):=by rw[g'];exact xk
      have d2:(t:Int)<(l.length:Int)+1:=by have:=R.o;omega
      clear O m hh g' A n z5 xk z;go_wp2_with fail
      have b2:=Aq ((HP.o.dx (i:=t) (by simp only[Dh];rw[t1.o,f.o.aR];have:=R.o;omega) true).eZ (i:=t) (by simp only[Dh];rw[w5.o,f.o.aC];have:=R.o;omega) (y+G));go_roundw
      case rel =>
       have HF:=b2.o;rw[a5.o]at HF;refine⟨t,(.slice y6 (s.steps.length+1) z2),by have:=R.o;omega,rfl,?_⟩;rw[show t=j+1 from R.o,b0.o];unfold Bu.bz;rw[if_neg (by rw[v9];simp)];dsimp only;rw[←HT.o,←R.o,if_neg z7,if_neg z7,if_pos (by have:=y5.o;omega),if_pos (by have:=y5.o;omega),←v5.o,←y5.o,←x5.o,←b9.o];exact HF
      case measure=>simp[intOf];have:=R.o;omega
     ·have i9:Z≤0:=by omega
      go_wp2_with (refine z3.o.mono ?_;rintro e P⟨rfl,x9⟩)
      have z4:wr.heap.size<((wr.setCell ⟨w.heap.size+1+1+1+1,j,none⟩ (Aj (s.steps.length:Int))).alloc (.cells #[Aj op,Aj a] 96)).heap.size:=by simp[World.setCell]
      have c':=Aq (z6.o.iE x9);have HI:Hid (aH P wr.heap.size 96 #[Aj op,Aj a]):=Aq ((x9.block _ z4).trans z9.o);clear x9 z9 z6 z3 e0 d0 d1 c0 c1 i0 b1 v0 z4 b4 x4;generalize P=U at *;obtain⟨S,T⟩:∃S:Bu.gj,S = { s with index:=s.index.set j s.steps.length } := ⟨_,rfl⟩;have V:Hid (eL w l.length S (.slice N s.steps.length cv) U):=Aq (by rw[T];exact c'.o);obtain⟨y,y4⟩:∃x,x=s.aC.getD j 0:=⟨_,rfl⟩;have x5:=Aq y4;have w5:Hid (S.aC=s.aC):=Aq (by rw[T]);have t1:Hid (S.aR=s.aR):=Aq (by rw[T]);have a5:=Aq T;clear T c' y4;obtain⟨_,E,ch,n⟩:=Bg V.o.aC (g:=w.heap.size+1+1+1) rfl;obtain⟨_,a0,ck,A⟩:=Bg V.o.aR (g:=w.heap.size+1+1) rfl;obtain⟨r,c,z,_,_,_,m⟩:=Cf V.o.aC (by omega);obtain⟨rfl,rfl⟩:w.heap.size+1+1+1=r∧l.length+1=c:=by simpa using z
      have I:=m j (Aj y) (by rw[w5.o,x5.o];exact Cn (l:=s.aC) (i:=j) (v:=s.aC.getD j 0) (by rw[Bo,Bf (by rw[f.o.aC];omega)];rfl));have Q:=x6.o _ HI.o;have C:=a2.o _ HI.o;simp only[Az,Ay,Ba]at Q C;have D:wr.heap.size<U.heap.size:=HI.o.lt;have x7:=Aq (Ja op a fs U.drew B Af cf (Ex hB V.o.below.size) (HF.o.aQ fun q hq=>V.o.drew.below.cell (Dq hq hB)) c2 (fun h=>by have:=b6.o h;omega) HM.o);rw[←v5.o]at x7;clear m z n A;have J:U.drew.cell? ⟨wr.heap.size,0,none⟩=some (Aj op)∧U.drew.cell? ⟨wr.heap.size,1,none⟩=some (Aj a)∧U.drew.cell? ⟨w.heap.size+1+1+1,j,none⟩=some (Aj y):=⟨Q,C,I⟩;refine Cv [6] [3,4] [6] 9 (fun wq:World=>wq.cell? ⟨wr.heap.size,0,none⟩=some (Aj op)∧wq.cell? ⟨wr.heap.size,1,none⟩=some (Aj a)∧wq.cell? ⟨w.heap.size+1+1+1,j,none⟩=some (Aj y)) ?_
      iterate 6 (first|refine Be ?_|refine Bj J ?_)
      refine Bi fun K H=>?_;go_simp
      refine x7.o.mono ?_;rintro e w9⟨rfl,M⟩;have hS:=Aq (V.o.drew.iE M);have hK:Hid (aH w9 wr.heap.size 96 #[Aj op,Aj a]):=Aq ((M.block _ D).trans HI.o.drew);have y7:w9.cell? ⟨wr.heap.size,0,none⟩=some (Aj op)∧w9.cell? ⟨wr.heap.size,1,none⟩=some (Aj a)∧w9.cell? ⟨w.heap.size+1+1+1,j,none⟩=some (Aj y):=⟨(M.cell (p:=⟨wr.heap.size,0,none⟩) D).trans Q,(M.cell (p:=⟨wr.heap.size,1,none⟩) D).trans C,(M.cell (p:=⟨w.heap.size+1+1+1,j,none⟩) E).trans I⟩;refine H _ _ (fun _=>y7) ?_;clear H K
      iterate 2 (first|refine Be ?_|refine Bj J ?_)
      refine Bb ?_;clear J y7 V HI x7 Q C I E a0 D M;have hk:=hS.o.aR;obtain⟨_,x4,ck,A⟩:=Bg hk (g:=w.heap.size+1+1) rfl;have fk:=A.frozen t;obtain⟨r,c,z,_,_,_,O⟩:=Cf hk (by omega);obtain⟨rfl,rfl⟩:w.heap.size+1+1=r∧l.length+1=c:=by simpa using z
      have xk:=O t _ (Fu (by rw[t1.o,f.o.aR];omega));clear O z;have x8:=hS.o.aC;obtain⟨_,E,ch,n⟩:=Bg x8 (g:=w.heap.size+1+1+1) rfl;have fh:=n.frozen t;obtain⟨r,c,z,_,_,_,m⟩:=Cf x8 (by omega);obtain⟨rfl,rfl⟩:w.heap.size+1+1+1=r∧l.length+1=c:=by simpa using z
      have xh:=m t _ (Cn (l:=S.aC) (i:=t) (v:=S.aC.getD t 0) (by rw[Bo,Bf (by rw[w5.o,f.o.aC];omega)];rfl));obtain⟨uh,hh⟩:∃u,u=S.aC.getD t 0:=⟨_,rfl⟩;rw[←hh]at xh;obtain⟨uk,g'⟩:∃u,u=S.aR.getD t false:=⟨_,rfl⟩;rw[←g']at xk;clear m z hh g' hk x8;have d4:IntKind.i64.wrap (y+G)=y+G:=Do _ (by have h1:=b5.o;have h2:=f.o.nQ j;have h3:=x5.o;omega);have c9:(t:Int)<(l.length:Int)+1:=by omega
      have y8:=x6.o _ hK.o;simp only[Az,Ay]at y8;have HP:=Aq ((hS.o.dx (i:=t) (by rw[t1.o,f.o.aR];omega) true).eZ (i:=t) (by rw[w5.o,f.o.aC];omega) (y+G));have a3:=Aq (((hK.o.cZ (p:=⟨w.heap.size+1+1,t,none⟩) (hK.o.dF A (by decide)) (.bool true))).cZ (p:=⟨w.heap.size+1+1+1,t,none⟩) (by show wr.heap.size≠w.heap.size+1+1+1;exact hK.o.dF n (by decide)) (Aj (y+G)));clear A n;go_upto_region 20 with fail
      clear fk xk fh xh y8 hK hS x4 E;generalize (w9.setCell ⟨w.heap.size+1+1,t,none⟩ (.bool true)).setCell ⟨w.heap.size+1+1+1,t,none⟩ (Aj (y+G))=X at *;have a4:=x6.o _ a3.o;simp only[Az,Ay]at a4;obtain⟨_,x4,ck,A⟩:=Bg HP.o.aR (g:=w.heap.size+1+1) rfl;have fk:=A.frozen t;obtain⟨r,c,z,_,_,_,O⟩:=Cf HP.o.aR (by omega);obtain⟨rfl,rfl⟩:w.heap.size+1+1=r∧l.length+1=c:=by simpa using z
      have xk:=O t _ (Fu (by simp only[Dh];rw[t1.o,f.o.aR];have:=R.o;omega));obtain⟨_,E,ch,n⟩:=Bg HP.o.aC (g:=w.heap.size+1+1+1) rfl;have fh:=n.frozen t;have z5:t<(S.aC.set t (y+G)).length:=by simp only[Dh];rw[w5.o,f.o.aC];have:=R.o;omega
      obtain⟨r,c,z,_,_,_,m⟩:=Cf HP.o.aC (by omega);obtain⟨rfl,rfl⟩:w.heap.size+1+1+1=r∧l.length+1=c:=by simpa using z
      have xh:=m t _ (Cn (Bf z5));obtain⟨c3,hh⟩:∃u,u=(S.aC.set t (y+G))[t]:=⟨_,rfl⟩;rw[←hh]at xh;obtain⟨a6,g'⟩:∃u,u=(S.aR.set t true).getD t false:=⟨_,rfl⟩;have c6:X.cell? ⟨w.heap.size+1+1,t,none⟩=some (.bool a6):=by rw[g'];exact xk
      have d2:(t:Int)<(l.length:Int)+1:=by have:=R.o;omega
      clear O m hh g' A n z5 xk z;go_wp2_with fail
      have b2:=Aq ((HP.o.dx (i:=t) (by simp only[Dh];rw[t1.o,f.o.aR];have:=R.o;omega) true).eZ (i:=t) (by simp only[Dh];rw[w5.o,f.o.aC];have:=R.o;omega) (y+G));go_roundw
      case rel =>
       have HF:=b2.o;rw[a5.o]at HF;refine⟨t,(.slice N s.steps.length cv),by have:=R.o;omega,rfl,?_⟩;rw[show t=j+1 from R.o,b0.o];unfold Bu.bz;rw[if_neg (by rw[v9];simp)];dsimp only;rw[←HT.o,←R.o,if_neg z7,if_neg z7,if_neg (by have:=y5.o;omega),if_neg (by have:=y5.o;omega),←v5.o,←x5.o];exact HF
      case measure=>simp[intOf];have:=R.o;omega
  ·obtain rfl:j=l.length:=by omega
   have y9:=Bu.gM fs ps l ps.length v6.o l.length Aw;have e6:Bu.a_ l fs ps=⟨(Bu.bL fs ps l 0 (Bu.start l.length)).steps.map fun p => { p with go:=((Bu.bL fs ps l 0 (Bu.start l.length)).index.set l.length (Bu.bL fs ps l 0 (Bu.start l.length)).steps.length).getD p.go 0 },(Bu.bL fs ps l 0 (Bu.start l.length)).size⟩:=rfl;rw[pB]at F y9;generalize Bu.bL fs ps l 0 (Bu.start l.length)=s at *;obtain⟨N,cv,c5,g4,_⟩:=Bc F.steps;subst c5;have c0:=F.box.cell 0;simp only[Az,Ay,Ba]at c0;obtain⟨_,b4,ci,v0⟩:=Bg F.index (g:=w.heap.size+1+1+1+1) rfl;have b1:=v0.frozen l.length;obtain⟨r,c,z,_,_,_,v4⟩:=Cf F.index (by omega);obtain⟨rfl,rfl⟩:w.heap.size+1+1+1+1=r∧l.length+1=c:=by simpa using z
   have f4:l.length<(kX s.index).length:=by rw[Pp,y9.index];omega
   have x0:=v4 l.length _ (Bf f4);obtain⟨ux,e7⟩:∃u,u=(kX s.index)[l.length]:=⟨_,rfl⟩;rw[←e7]at x0;have cg:=F.box.lt;have j0:(l.length:Int)<(l.length:Int)+1:=by omega
   have b8:=Aq (F.jG (i:=l.length) (by rw[y9.index];omega) s.steps.length);obtain⟨S,a1⟩:∃S:Bu.gj,S = { s with index:=s.index.set l.length s.steps.length } := ⟨_,rfl⟩;have f5:S.steps.length=s.steps.length:=by rw[a1]
   have d7:S.index.length=l.length+1:=by rw[a1];simp only[Dh];exact y9.index
   have f6:∀p∈S.steps,p.go≤l.length:=by rw[a1];exact y9.gos
   have v3:=Aq f5;have f9:=Aq d7;have g1:=Aq f6;have j4:=y9.steps;have f7:Hid (s.steps.map (fun p:Bu.PS => { p with go:=(s.index.set l.length s.steps.length).getD p.go 0 })=bn S.index S.steps S.steps.length):=Aq (by rw[Zgk,a1]);have z3:Hid (s.size=S.size):=Aq (by rw[a1])
   replace b8:Hid (eL w l.length { S with steps:=bn S.index S.steps 0 } (.slice N s.steps.length cv) (wr.setCell ⟨w.heap.size+1+1+1+1,l.length,none⟩ (Aj (s.steps.length:Int)))):=Aq (by rw[Zck,a1];exact b8.o)
   have g3:=Aq e6;clear F y9 e7 v4 z v0 f4 a1 f5 d7 f6 e6;go_wp2_with fail
   generalize wr.setCell ⟨w.heap.size+1+1+1+1,l.length,none⟩ (Aj (s.steps.length:Int))=Y at *;go_loopw [125] (fun i W=>PlJ w l.length S (.slice N s.steps.length cv) i W) (fun i _=>s.steps.length-(intOf i).toNat)
   case atStart=>exact⟨0,By _,rfl,b8.o⟩
   case round =>
    clear b8;obtain⟨k,hk,rfl,F⟩:=hrel;rw[v3.o]at hk;by_cases k1:k<s.steps.length
    ·obtain⟨p,hp⟩:∃p,S.steps[k]?=some p:=⟨_,Bf (by rw[v3.o];omega)⟩;have i2:=g1.o p (Bz hp);have d3:=(Zkt S.index S.steps k).trans hp;have e5:=Zcl S.index S.steps k hp;obtain⟨g,cY,he,_,i4,_,e1⟩:=Cf F.steps (by simp only;rw[Ls,v3.o];omega);simp only at he;rw[Ls,v3.o]at he;simp only[Value.slice.injEq,true_and]at he;obtain⟨rfl,rfl⟩:=he;have x1:=e1 _ _ (Od _ k p d3);obtain⟨_,_,j3,a9⟩:=Bg F.steps (g:=g) rfl;have fg:=a9.frozen (k*4+3);obtain⟨r,c,z,_,_,_,v4⟩:=Cf F.index (by omega);obtain⟨rfl,rfl⟩:w.heap.size+1+1+1+1=r∧l.length+1=c:=by simpa using z
     have e2:p.go<S.index.length:=by rw[f9.o];omega
     have x2:=v4 p.go (Aj ((S.index.getD p.go 0:Nat):Int)) (by
      unfold kX;refine Cn ?_;rw[Cd,Bo,Bf e2];rfl)
     have c0:=F.box.cell 0;simp only[Az,Ay,Ba]at c0;have HR:=Aq (F.setGo (g:=g) rfl d3 (S.index.getD p.go 0));simp only at HR;rw[e5]at HR;obtain⟨q,hq⟩:∃q,q=S.index.getD p.go 0:=⟨_,rfl⟩;rw[←hq]at x2 HR;obtain⟨d,hd⟩:∃d,d=p.go:=⟨_,rfl⟩;rw[←hd]at x1 x2 i2;have j2:(k:Int)<s.steps.length:=by omega
     have j5:(d:Int)<(l.length:Int)+1:=by omega
     clear F hp d3 e5 e1 v4 z a9 hq hd e2;go_wp2_with fail
     have J:wr.drew.cell? ⟨w.heap.size+1,0,none⟩=some (.slice (some ⟨g,0,none⟩) s.steps.length cv)∧wr.drew.cell? ⟨g,k*4+3,none⟩=some (Aj (d:Int))∧wr.drew.cell? ⟨w.heap.size+1+1+1+1,d,none⟩=some (Aj (q:Int)):=⟨c0,x1,x2⟩;refine Cv [14] [1,5,9,11] [] 15 (fun wq:World=>wq.cell? ⟨w.heap.size+1,0,none⟩=some (.slice (some ⟨g,0,none⟩) s.steps.length cv)∧wq.cell? ⟨g,k*4+3,none⟩=some (Aj (d:Int))∧wq.cell? ⟨w.heap.size+1+1+1+1,d,none⟩=some (Aj (q:Int))) ?_
     iterate 14 (first|refine Be ?_|refine Bj J ?_)
     refine Bi fun K H=>?_;go_simp
     refine Bh H ?_;clear H K;refine Bb ?_;clear J;go_wp2_with fail
     go_roundw
     case rel=>exact⟨k+1,by rw[v3.o];omega,by simp,HR.o.drew⟩
     case measure=>simp[intOf];omega
    ·obtain rfl:k=s.steps.length:=by omega
     have c0:=F.box.cell 0;have c1:=F.box.cell 1;have o0:=F.o.cell 0;have o1:=F.o.cell 1;simp only[Az,Ay,Ba]at c0 c1 o0 o1;have f0:=F.o.frozen 0;have f1:=F.o.frozen 1;have i5:=F.o.lt;have g7:=F.box.lt;have HQ:=Aq F;clear F;go_wp2_with fail
     have i1:Bu.a_ l fs ps=⟨bn S.index S.steps s.steps.length,S.size⟩:=by rw[g3.o,f7.o,v3.o,z3.o]
     have hb:aH ((wr.setCell ⟨w.heap.size,0,none⟩ (.slice N s.steps.length cv)).setCell ⟨w.heap.size,1,none⟩ (Aj S.size)) w.heap.size 89 #[.slice N s.steps.length cv,Aj S.size]:=(HQ.o.o.aX 0 (.slice N s.steps.length cv)).aX 1 (Aj S.size);have r0:=hb.cell 0;have r1:=hb.cell 1;simp only[Az,Ay,Ba]at r0 r1;have ho:=Ck (Ck HQ.o.steps HQ.o.o (by decide) 0 (.slice N s.steps.length cv)) (HQ.o.o.aX 0 (.slice N s.steps.length cv)) (by decide) 1 (Aj S.size);have g8:=(HQ.o.below.setCell (p:=⟨w.heap.size,0,none⟩) Aw (.slice N s.steps.length cv)).setCell (p:=⟨w.heap.size,1,none⟩) Aw (Aj S.size);simp only at ho;rw[Ls,v3.o]at ho;generalize (wr.setCell ⟨w.heap.size,0,none⟩ (.slice N s.steps.length cv)).setCell ⟨w.heap.size,1,none⟩ (Aj S.size)=Z at *;clear c0 c1 o0 o1 f0 f1 HQ hb;rw[i1];refine bodyPost_ret (v:=.agg #[.slice N s.steps.length cv,Aj S.size]) (by simp[results,Tryz.results34,go_sem,r0,r1]) rfl ⟨.slice N s.steps.length cv,rfl,g8,?_⟩;simp only;rw[Ls,v3.o];exact ho
end
end Go.Proofs.YtnhebmgibiomnaaGreat

import Derived.BigQuiet
import Derived.BigRegion
import Derived.Deep.Light
import Derived.Deep.QuietTactic
import Derived.Deep.RegionHeld3
import Derived.Deep.RegionWith
import Derived.Laws.EntriesVeiled
import Derived.LoopIn
import Derived.LoopNIn
import Derived.OwnWalkIn
import Derived.RangeFuncBound
import Derived.RangeFuncCalls
import Derived.RangeFuncLeaves
import Derived.RangeFuncNested
import Derived.Shelf.Abstract
import Derived.Shelf.RegionOpen
import Derived.StillTailTactics
import Derived.TacticsInMore
import Derived.Test.YtnhebmgibiomnaaGreatProg
import Derived.Test.YtnhebmgibiomnaaGreatRows
import Derived.Test.YtnhebmgibiomnaaGreatPi0
import Derived.Test.YtnhebmgibiomnaaGreatPi3
set_option linter.unusedVariables false
set_option linter.unusedSimpArgs false
set_option maxRecDepth 100000
set_option maxHeartbeats 8000000
namespace Go.Proofs.YtnhebmgibiomnaaGreat
section
open Go.RowKit
def Cu:List (Int×Int)→List Value
 | []=>[]
 |x::r=>Aj x.1::Aj x.2::Cu r
theorem Fr.grown {S:Nat→Prop}{w W W':World}{row:Option Nat}(h:Fr S w W)(x:W.grownBy W' row)(z:∀r,row=some r→w.heap.size≤r):Fr S w W' :=
 ⟨x.os.trans h.os,x.tape.trans h.tape,x.output.trans h.output,Ex h.size x.size,fun k y u=>(x.block k (Dq y h.size) (fun e=>by have:=z k e.symm;omega)).trans (h.block k y u)⟩
theorem aH.f_ {W W':World}{g:Nat}{t:TypeId}{cs:Array Value}{row:Option Nat}(h:aH W g t cs)(u:W.grownBy W' row) (y:∀r,row=some r→∃o:Obj,W.heap[r]?=some o∧o.isCells=false):aH W' g t cs :=
 h.grown u (fun e=>by
  obtain⟨o,x,z⟩:=y g e.symm;unfold aH at h;rw[h]at x
  injection x with x
  subst x;simp[Obj.isCells]at z)
def gV (w:World)(B:Nat)(v:Value) (l:List (Int×Int)):Prop:=∃A c,v=.slice A l.length c∧aE w B 2 A l.length (Cu l)
def cN (w:World)(B:Nat)(A:Option Addr) (ll:List (List (Int×Int))):Prop :=
 ∃vs:List Value,aE w B 1 A ll.length vs∧∀(i:Nat) (l:List (Int×Int)),ll[i]?=some l→∃v,vs[i]?=some v∧gV w B v l
theorem gV.below {w w':World}{B C:Nat}{v:Value} {l:List (Int×Int)} (h:gV w B v l) (z:Below C w w') (x:B≤C):gV w' B v l:=by
 obtain⟨A,c,e,y⟩:=h;exact⟨A,c,e,y.below z x⟩
theorem gV.aY {w:World}{B B':Nat}{v:Value} {l:List (Int×Int)} (h:gV w B v l) (y:B≤B'):gV w B' v l:=by
 obtain⟨A,c,e,x⟩:=h;exact⟨A,c,e,x.aY y⟩
theorem cN.below {w w':World}{B C:Nat}{A:Option Addr} {ll:List (List (Int×Int))} (h:cN w B A ll) (y:Below C w w') (x:B≤C):cN w' B A ll:=by
 obtain⟨vs,k,hi⟩:=h;exact⟨vs,k.below y x,fun i l z=>by obtain⟨v,p,u⟩:=hi i l z;exact⟨v,p,u.below y x⟩⟩
theorem cN.aY {w:World}{B B':Nat}{A:Option Addr} {ll:List (List (Int×Int))} (h:cN w B A ll) (x:B≤B'):cN w B' A ll:=by
 obtain⟨vs,u,hi⟩:=h;exact⟨vs,u.aY x,fun i l y=>by obtain⟨v,k,z⟩:=hi i l y;exact⟨v,k,z.aY x⟩⟩
theorem Zkd {k y:IntKind}{a b a' x:Int}(h:a=b)(z:a'=x):Ending.returned (.tuple #[.int k a,.int y a'])=.returned (.tuple #[.int k b,.int y x]):=by rw[h,z]
theorem Nv (op:Int)(w:World) :
  Calls Tryz.prog 243 #[Aj op] w fun e w'=>e=.returned (.tuple #[Aj (Bd.aO op),Aj (Bd.aV op)])∧w=w':=by
 go_enter Tryz.func243,Tryz.ntmps243;go_wp2
 all_goals (go_ret2;go_light;refine⟨Zkd ?_ ?_,rfl⟩ <;> simp_all [Bd.aO,Bd.aV])
theorem Im (op a:Int)(w:World) :
  Calls Tryz.prog 240 #[.agg #[Aj op,Aj a]] w fun e w'=>e=.returned (.bool (Bd.az op))∧w.alloc (.cells #[Aj op,Aj a] 96)=w':=by
 by_cases h:op=35
 ·subst h;go_enter Tryz.func240,Tryz.ntmps240;go_wp2;go_ret;exact⟨rfl,rfl⟩
 ·have x:(op==35)=false:=by simpa using h
  have e:Bd.az op=(op==36):=by unfold Bd.az;rw[x];rfl
  rw[e];go_enter Tryz.func240,Tryz.ntmps240;go_wp2;go_ret;exact⟨rfl,rfl⟩
theorem It (op a:Int)(w:World) :
  Calls Tryz.prog 242 #[.agg #[Aj op,Aj a]] w fun e w'=>e=.returned (.bool (Bd.ao op))∧w.alloc (.cells #[Aj op,Aj a] 96)=w':=by
 by_cases h:op=37
 ·subst h;go_enter Tryz.func242,Tryz.ntmps242;go_wp2;go_ret;exact⟨rfl,rfl⟩
 ·have x:(op==37)=false:=by simpa using h
  have e:Bd.ao op=(op==38):=by unfold Bd.ao;rw[x];rfl
  rw[e];go_enter Tryz.func242,Tryz.ntmps242;go_wp2;go_ret;exact⟨rfl,rfl⟩
theorem Zbq (c:Bd.aa)(w:World) :
  Calls Tryz.prog 86 #[.agg #[Aj c.aU,Aj c.delta,Aj c.aM,Aj c.steps]] w fun e w'=>e=.returned (.bool (Bd.dB c))∧Below w.heap.size w w':=by
 obtain⟨n,d,p,s⟩:=c;simp only;go_enter Tryz.func86,Tryz.ntmps86;go_wp2
 all_goals (go_ret;go_light;refine⟨Cw ?_,?_⟩;(simp_all [Bd.dB] <;> omega);exact aI.alloc Aw _)
def Ct:List Bd.aa→List Value
 | []=>[]
 |c::r=>Aj c.aU::Aj c.delta::Aj c.aM::Aj c.steps::Ct r
def Df:List Bd.Place→List Value
 | []=>[]
 |p::r=>.bool p.aR::Aj p.aC::Aj p.steps::Df r
theorem Hb (l:List Bd.aa):∀(i:Nat) (c:Bd.aa),l[i]?=some c→(Ct l)[i*4]?=some (Aj c.aU)∧(Ct l)[i*4+1]?=some (Aj c.delta)∧(Ct l)[i*4+2]?=some (Aj c.aM)∧(Ct l)[i*4+3]?=some (Aj c.steps):=by
 induction l with
 |nil=>intro i c h;simp at h
 |cons d r ih =>
  intro i c h;cases i with
  |zero=>simp at h;subst h;simp[Ct]
  |succ i =>
   have:=ih i c (by simpa using h);rw[show (i+1)*4=i*4+4 by omega]
   simpa [Ct]using this
theorem Tv (l:List (Int×Int)):∀(i:Nat) (c:Int×Int),l[i]?=some c→(Cu l)[i*2]?=some (Aj c.1)∧(Cu l)[i*2+1]?=some (Aj c.2):=by
 induction l with
 |nil=>intro i c h;simp at h
 |cons d r ih =>
  intro i c h;cases i with
  |zero=>simp at h;subst h;simp[Cu]
  |succ i =>
   have:=ih i c (by simpa using h);rw[show (i+1)*2=i*2+2 by omega]
   simpa [Cu]using this
theorem Hp (l:List Bd.Place):∀(i:Nat) (c:Bd.Place),l[i]?=some c→(Df l)[i*3]?=some (.bool c.aR)∧(Df l)[i*3+1]?=some (Aj c.aC)∧(Df l)[i*3+2]?=some (Aj c.steps):=by
 induction l with
 |nil=>intro i c h;simp at h
 |cons d r ih =>
  intro i c h;cases i with
  |zero=>simp at h;subst h;simp[Df]
  |succ i =>
   have:=ih i c (by simpa using h);rw[show (i+1)*3=i*3+3 by omega]
   simpa [Df]using this
theorem bR (p:Value)(k:Bool)(h s op a:Int)(w:World)(f : -64≤h)(c:h≤32)(b:0≤s)(g:s≤4096)(z:Bd.ao op=false) :
  Calls Tryz.prog 163 #[p,.agg #[.bool k,Aj h,Aj s],.agg #[Aj op,Aj a]] w fun e w'=>e=.returned (.agg #[Aj (Bd.aO op-h),Aj (h-Bd.aO op+Bd.aV op),Aj (h-Bd.aO op+Bd.aV op),Aj (s+1)])∧Below w.heap.size w w':=by
 have d:=Bd.ff op;have i:=Bd.fI op;have u:=Aq z;clear z;go_enter Tryz.func163,Tryz.ntmps163;go_wp2_with fail
 refine(Nv op _).mono ?_;rintro e w'⟨rfl,rfl⟩;generalize x:Bd.aO op=t at *;generalize y:Bd.aV op=l at *;have r:=Aq x;have q:=Aq y;clear x y;go_wp2_with fail
 refine(It op a _).mono ?_;rintro e w'⟨rfl,rfl⟩;rw[u.o];go_wp2_with fail
 refine bodyPost_ret (v:=.agg #[Aj (t-h),Aj (h-t+l),Aj (h-t+l),Aj (s+1)]) (by simp[results,Tryz.results163,go_sem]) rfl ⟨by rw[r.o,q.o],?_⟩;exact(by repeat (first|exact aI|assumption|(refine ot ?_ (by first|omega|(simp;done)|(simp;omega)) _)|(refine ou ?_)|(refine below_drewN ?_ _)|(refine ov ?_ (by first|omega|(simp;done)|(simp;omega)) _)))
theorem bT (P B d:Nat)(c0 c2 c3 c4:Value)(K:Option Addr)(m n:Nat)(fs:List Bd.aa)(k:Bool)(hi s op a:Int)(w:World)(HE : -64≤hi)(I:hi≤32)(hc:0≤s)(hP:s≤4096)(p:Bd.ao op=true)
  (r:aH w P 200 #[c0,.slice K m n,c2,c3,c4]) (j:aE w B 4 K m (Ct fs)) (hB:B≤w.heap.size) (A:m=fs.length) (F:0≤a) (G:a<m) (i:fs.all Bd.dB=true) (S:d=0) :
  Calls Tryz.prog 163 #[.pointer (some ⟨P,d,none⟩),.agg #[.bool k,Aj hi,Aj s],.agg #[Aj op,Aj a]] w fun e w'=>e=.returned (.agg #[Aj (Bd.ay fs ⟨k,hi,s⟩ (op,a)).aU,Aj (Bd.ay fs ⟨k,hi,s⟩ (op,a)).aM,Aj (Bd.ay fs ⟨k,hi,s⟩ (op,a)).aC,Aj (Bd.ay fs ⟨k,hi,s⟩ (op,a)).steps])∧Below w.heap.size w w':=by
 subst S;have tb:=Bd.ff op;have lb:=Bd.fI op;obtain⟨x,rfl⟩:=Dm F;obtain⟨cc,z⟩:∃cc,fs[x]?=some cc:=⟨_,Bf (by omega)⟩;have C:=Bd.gm (List.all_eq_true.1 i cc (Bz z));have X:Bd.fn fs (x:Int)=cc:=by unfold Bd.fn;rw[Bo];simp[z]
 have q:=Aq (show Bd.ay fs ⟨k,hi,s⟩ (op,(x:Int))=⟨max (Bd.aO op-hi) (cc.aU-(hi-Bd.aO op+Bd.aV op)),max (max (hi-Bd.aO op+Bd.aV op) ((hi-Bd.aO op+Bd.aV op)+cc.aM)) ((hi-Bd.aO op+Bd.aV op)+cc.delta),(hi-Bd.aO op+Bd.aV op)+cc.delta,s+1+(if op=38 then 16 else 1)*cc.steps⟩ by
  unfold Bd.ay;simp only;rw[if_pos p,X])
 obtain⟨b,off,rfl,N,y⟩:=j.2 (by omega);obtain⟨g0,U,Z,V⟩:=Hb fs x cc z;have R:=y _ _ g0;have g:=y _ _ U;have c:=y _ _ Z;have f:=y _ _ V;rw[←mt]at g c f;clear y g0 U Z V z X j i;obtain⟨H,cd,Y,cs⟩:=cc;simp only at C R g c f q;have D:=Aq p;clear p;have p1:w.cell? ⟨P,1,none⟩=some (.slice (some ⟨b,off,none⟩) m n):=by rw[r.cell];rfl
 have Q:=r.lt;have an:x<m:=by omega
 go_enter Tryz.func163,Tryz.ntmps163;go_wp2_with fail
 refine(Nv op _).mono ?_;rintro e w'⟨rfl,rfl⟩;generalize Bd.aO op=t at *;generalize Bd.aV op=l at *;go_wp2_with fail
 refine(It op x _).mono ?_;rintro e w'⟨rfl,rfl⟩;rw[D.o];have E:b<w.heap.size:=by omega
 obtain⟨L,u2,u3,u4,u5,M,W,u8,u9,T⟩:=lts Q;obtain⟨v1,v2,v3,v4,v5,v6,J,O,v9,v10⟩:=lts E;clear A r;go_wp2_with fail
 go_region;by_cases u:op=38
 ·subst u;go_wp2_with fail
  all_goals (refine bodyPost_ret (v:=.agg #[Aj (max (t-hi) (H-(hi-t+l))),Aj (max (max (hi-t+l) (hi-t+l+Y)) (hi-t+l+cd)),Aj (hi-t+l+cd),Aj (s+1+16*cs)]) (by simp[results,Tryz.results163,go_sem] <;> omega) rfl ⟨by rw[q.o];simp,(by repeat (first|exact aI|assumption|(refine ot ?_ (by first|omega|(simp;done)|(simp;omega)) _)|(refine ou ?_)|(refine below_drewN ?_ _)|(refine ov ?_ (by first|omega|(simp;done)|(simp;omega)) _)))⟩)
 ·have d2:(op==38)=false:=by simpa using u
  go_wp2_with fail
  all_goals (refine bodyPost_ret (v:=.agg #[Aj (max (t-hi) (H-(hi-t+l))),Aj (max (max (hi-t+l) (hi-t+l+Y)) (hi-t+l+cd)),Aj (hi-t+l+cd),Aj (s+1+cs)]) (by simp[results,Tryz.results163,go_sem] <;> omega) rfl ⟨by rw[q.o];simp[u],(by repeat (first|exact aI|assumption|(refine ot ?_ (by first|omega|(simp;done)|(simp;omega)) _)|(refine ou ?_)|(refine below_drewN ?_ _)|(refine ov ?_ (by first|omega|(simp;done)|(simp;omega)) _)))⟩)
theorem al1 (X:Nat)(op a:Int)(w:World) (x:aH w X 96 #[Aj op,Aj a]) :
  Calls Tryz.prog 238 #[.pointer (some ⟨X,0,none⟩)] w fun e w'=>e=.returned (.bool (decide (1≤op∧op≤39)))∧Below w.heap.size w w':=by
 have y:w.cell? ⟨X,0,none⟩=some (Aj op):=by rw[x.cell];rfl
 clear x;go_enter Tryz.func238,Tryz.ntmps238;go_wp2
 all_goals (go_ret;go_light;exact⟨Cw (by simp <;> omega),aI⟩)
theorem al2 (X u p P:Nat)(op a aL:Int)(A:Option Addr)(n c:Nat)(d c2 c3 c4:Value)(w:World) (z:aH w X 96 #[Aj op,Aj a]) (q:aH w u 193 #[.pointer (some ⟨P,0,none⟩)]) (s:aH w p 3 #[Aj aL])
  (r:aH w P 200 #[.slice A n c,d,c2,c3,c4]) (Y:0≤aL) (j:aL≤n) (Z:n≤1000000000000000) :
  Calls Tryz.prog 239 #[.pointer (some ⟨X,0,none⟩),.pointer (some ⟨u,0,none⟩),.pointer (some ⟨p,0,none⟩)] w fun e w'=>e=.returned (.bool (!(Bd.az op && !(decide (0≤a) && decide (a≤n-1-aL)))))∧Below w.heap.size w w':=by
 have g:w.cell? ⟨X,0,none⟩=some (Aj op):=by rw[z.cell];rfl
 have Q:w.cell? ⟨X,1,none⟩=some (Aj a):=by rw[z.cell];rfl
 have q0:w.cell? ⟨u,0,none⟩=some (.pointer (some ⟨P,0,none⟩)):=by rw[q.cell];rfl
 have l:w.cell? ⟨p,0,none⟩=some (Aj aL):=by rw[s.cell];rfl
 have p0:w.cell? ⟨P,0,none⟩=some (.slice A n c):=by rw[r.cell];rfl
 have U:=z.lt;have V:=q.lt;have m:=s.lt;have H:=r.lt;clear z q s r;cases k:Bd.az op with
 |false =>
  have y:=Aq k;clear k;go_enter Tryz.func239,Tryz.ntmps239;go_wp2_with fail
  refine wp_region_any (by kernel_rfl) ?_;change wpAny _ _ _ _ _ _ _ (World.drew _);refine wpAny_ready (rs:=[0]) (by kernel_rfl) (by simp) ?_;refine AllReady.cons rfl (fun K x=>?_) AllReady.nil;go_simp;refine x _ _ ?_;clear x K;refine wpAny_ready (rs:=[1]) (by kernel_rfl) (by simp) ?_;refine AllReady.cons rfl (fun K x=>?_) AllReady.nil;go_simp;refine(Im op a _).mono ?_;rintro e w'⟨rfl,rfl⟩;rw[y.o];dsimp only;refine x _ _ ?_;clear x K;refine Dt (i:=2) (v:=.bool true) ?_;refine Dt (i:=3) (v:=.bool true) ?_;refine Cj (i:=4) ?_;refine Cj (i:=5) ?_;refine Cj (i:=6) ?_;refine Cj (i:=7) ?_;refine Cj (i:=8) ?_;refine Cj (i:=9) ?_;refine Cj (i:=10) ?_;refine Cj (i:=11) ?_;refine Cj (i:=12) ?_;refine Cj (i:=13) ?_;refine Cj (i:=14) ?_;refine Cj (i:=15) ?_;refine Cj (i:=16) ?_;refine Cj (i:=17) ?_;refine Cj (i:=18) ?_;refine Cj (i:=19) ?_;refine Dt (i:=20) (v:=.bool true) ?_;refine Dt (i:=21) (v:=.bool true) ?_;refine wpAny_done (by kernel_rfl) ?_ _;go_wp2;go_ret;refine⟨?_,(aI.alloc Aw _).drew⟩
  kernel_rfl
 |true =>
  have y:=Aq k;clear k;by_cases b:0≤a
  ·go_enter Tryz.func239,Tryz.ntmps239;go_wp2_with fail
   go_region_held3 (fun w'=>w'.cell? ⟨X,0,none⟩=some (Aj op)∧w'.cell? ⟨X,1,none⟩=some (Aj a)∧w'.cell? ⟨u,0,none⟩=some (.pointer (some ⟨P,0,none⟩))∧w'.cell? ⟨p,0,none⟩=some (Aj aL)∧w'.cell? ⟨P,0,none⟩=some (.slice A n c)) (go_keep)
    (first|(go_at_call 240;refine(Im op a _).mono ?_;rintro e w'⟨rfl,rfl⟩;rw[y.o]))
   go_wp2;go_ret;exact⟨Cw (by rw[Do ((n:Int)-1) (by omega),Do _ (by omega)];simp[b]),(aI.alloc Aw _).drew⟩
  ·have f:decide (0≤a)=false:=by simpa using b
   go_enter Tryz.func239,Tryz.ntmps239;go_wp2_with fail
   refine wp_region_any (by kernel_rfl) ?_;change wpAny _ _ _ _ _ _ _ (World.drew _);refine wpAny_ready (rs:=[0]) (by kernel_rfl) (by simp) ?_;refine AllReady.cons rfl (fun K x=>?_) AllReady.nil;go_simp;refine x _ _ ?_;clear x K;refine wpAny_ready (rs:=[1]) (by kernel_rfl) (by simp) ?_;refine AllReady.cons rfl (fun K x=>?_) AllReady.nil;go_simp;refine(Im op a _).mono ?_;rintro e w'⟨rfl,rfl⟩;rw[y.o];dsimp only;refine x _ _ ?_;clear x K;refine Dt (i:=2) (v:=.bool false) ?_;refine Dt (i:=3) (v:=.bool false) ?_;refine Dt (i:=4) (v:=.pointer (some ⟨X,1,none⟩)) ?_;refine wpAny_ready (rs:=[5]) (by kernel_rfl) (by simp) ?_;refine AllReady.cons rfl (fun K x=>?_) AllReady.nil;go_simp;refine x _ _ ?_;clear x K;refine Dt (i:=6) (v:=.bool false) ?_;refine Dt (i:=7) (v:=.bool false) ?_;refine Cj (i:=8) ?_;refine Cj (i:=9) ?_;refine Cj (i:=10) ?_;refine Cj (i:=11) ?_;refine Cj (i:=12) ?_;refine Cj (i:=13) ?_;refine Cj (i:=14) ?_;refine Cj (i:=15) ?_;refine Cj (i:=16) ?_;refine Cj (i:=17) ?_;refine Cj (i:=18) ?_;refine Dt (i:=19) (v:=.bool false) ?_;refine Dt (i:=20) (v:=.bool false) ?_;refine Dt (i:=21) (v:=.bool false) ?_;refine wpAny_done (by kernel_rfl) ?_ _;go_wp2;go_ret;refine⟨?_,(aI.alloc Aw _).drew⟩;rw[f]
   kernel_rfl
theorem al3 (X u P:Nat)(op a:Int)(A:Option Addr)(n c:Nat)(c0 c2 c3 c4:Value)(w:World) (z:aH w X 96 #[Aj op,Aj a]) (p:aH w u 193 #[.pointer (some ⟨P,0,none⟩)])
  (q:aH w P 200 #[c0,.slice A n c,c2,c3,c4]) :
  Calls Tryz.prog 241 #[.pointer (some ⟨X,0,none⟩),.pointer (some ⟨u,0,none⟩)] w fun e w'=>e=.returned (.bool (!(Bd.ao op && !(decide (0≤a) && decide (a<n)))))∧Below w.heap.size w w':=by
 have b:w.cell? ⟨X,0,none⟩=some (Aj op):=by rw[z.cell];rfl
 have j:w.cell? ⟨X,1,none⟩=some (Aj a):=by rw[z.cell];rfl
 have q0:w.cell? ⟨u,0,none⟩=some (.pointer (some ⟨P,0,none⟩)):=by rw[p.cell];rfl
 have p0:w.cell? ⟨P,1,none⟩=some (.slice A n c):=by rw[q.cell];rfl
 have f:=z.lt;have g:=p.lt;have d:=q.lt;clear z p q;cases k:Bd.ao op with
 |false =>
  have y:=Aq k;clear k;go_enter Tryz.func241,Tryz.ntmps241;go_wp2_with fail
  refine wp_region_any (by kernel_rfl) ?_;change wpAny _ _ _ _ _ _ _ (World.drew _);refine wpAny_ready (rs:=[0]) (by kernel_rfl) (by simp) ?_;refine AllReady.cons rfl (fun K x=>?_) AllReady.nil;go_simp;refine x _ _ ?_;clear x K;refine wpAny_ready (rs:=[1]) (by kernel_rfl) (by simp) ?_;refine AllReady.cons rfl (fun K x=>?_) AllReady.nil;go_simp;refine(It op a _).mono ?_;rintro e w'⟨rfl,rfl⟩;rw[y.o];dsimp only;refine x _ _ ?_;clear x K;refine Dt (i:=2) (v:=.bool true) ?_;refine Dt (i:=3) (v:=.bool true) ?_;refine Cj (i:=4) ?_;refine Cj (i:=5) ?_;refine Cj (i:=6) ?_;refine Cj (i:=7) ?_;refine Cj (i:=8) ?_;refine Cj (i:=9) ?_;refine Cj (i:=10) ?_;refine Cj (i:=11) ?_;refine Cj (i:=12) ?_;refine Cj (i:=13) ?_;refine Cj (i:=14) ?_;refine Cj (i:=15) ?_;refine Cj (i:=16) ?_;refine Dt (i:=17) (v:=.bool true) ?_;refine Dt (i:=18) (v:=.bool true) ?_;refine wpAny_done (by kernel_rfl) ?_ _;go_wp2;go_ret;refine⟨?_,(aI.alloc Aw _).drew⟩
  kernel_rfl
 |true =>
  have y:=Aq k;clear k;by_cases r:0≤a
  ·go_enter Tryz.func241,Tryz.ntmps241;go_wp2_with fail
   go_region_held3 (fun w'=>w'.cell? ⟨X,0,none⟩=some (Aj op)∧w'.cell? ⟨X,1,none⟩=some (Aj a)∧w'.cell? ⟨u,0,none⟩=some (.pointer (some ⟨P,0,none⟩))∧w'.cell? ⟨P,1,none⟩=some (.slice A n c)) (go_keep)
    (first|(go_at_call 242;refine(It op a _).mono ?_;rintro e w'⟨rfl,rfl⟩;rw[y.o]))
   go_wp2;go_ret;exact⟨Cw (by simp[r]),(aI.alloc Aw _).drew⟩
  ·have s:decide (0≤a)=false:=by simpa using r
   go_enter Tryz.func241,Tryz.ntmps241;go_wp2_with fail
   refine wp_region_any (by kernel_rfl) ?_;change wpAny _ _ _ _ _ _ _ (World.drew _);refine wpAny_ready (rs:=[0]) (by kernel_rfl) (by simp) ?_;refine AllReady.cons rfl (fun K x=>?_) AllReady.nil;go_simp;refine x _ _ ?_;clear x K;refine wpAny_ready (rs:=[1]) (by kernel_rfl) (by simp) ?_;refine AllReady.cons rfl (fun K x=>?_) AllReady.nil;go_simp;refine(It op a _).mono ?_;rintro e w'⟨rfl,rfl⟩;rw[y.o];dsimp only;refine x _ _ ?_;clear x K;refine Dt (i:=2) (v:=.bool false) ?_;refine Dt (i:=3) (v:=.bool false) ?_;refine Dt (i:=4) (v:=.pointer (some ⟨X,1,none⟩)) ?_;refine wpAny_ready (rs:=[5]) (by kernel_rfl) (by simp) ?_;refine AllReady.cons rfl (fun K x=>?_) AllReady.nil;go_simp;refine x _ _ ?_;clear x K;refine Dt (i:=6) (v:=.bool false) ?_;refine Dt (i:=7) (v:=.bool false) ?_;refine Cj (i:=8) ?_;refine Cj (i:=9) ?_;refine Cj (i:=10) ?_;refine Cj (i:=11) ?_;refine Cj (i:=12) ?_;refine Cj (i:=13) ?_;refine Cj (i:=14) ?_;refine Cj (i:=15) ?_;refine Dt (i:=16) (v:=.bool false) ?_;refine Dt (i:=17) (v:=.bool false) ?_;refine Dt (i:=18) (v:=.bool false) ?_;refine wpAny_done (by kernel_rfl) ?_ _;go_wp2;go_ret;refine⟨?_,(aI.alloc Aw _).drew⟩;rw[s]
   kernel_rfl
theorem re1 (X p P B:Nat)(op a:Int)(k:Option Addr)(m c:Nat)(fs:List Bd.aa)(c0 c2 c3 c4:Value)(w:World) (z:aH w X 96 #[Aj op,Aj a]) (r:aH w p 193 #[.pointer (some ⟨P,0,none⟩)])
  (g:aH w P 200 #[c0,.slice k m c,c2,c3,c4]) (v:aE w B 4 k m (Ct fs)) (f:m=fs.length) (q:op=38→0≤a∧a<m) :
  Calls Tryz.prog 244 #[.pointer (some ⟨X,0,none⟩),.pointer (some ⟨p,0,none⟩)] w fun e w'=>e=.returned (.bool (!(decide (op=38) && !((Bd.fn fs a).delta==0))))∧Below w.heap.size w w':=by
 have H:w.cell? ⟨X,0,none⟩=some (Aj op):=by rw[z.cell];rfl
 have V:w.cell? ⟨X,1,none⟩=some (Aj a):=by rw[z.cell];rfl
 have q0:w.cell? ⟨p,0,none⟩=some (.pointer (some ⟨P,0,none⟩)):=by rw[r.cell];rfl
 have p0:w.cell? ⟨P,1,none⟩=some (.slice k m c):=by rw[g.cell];rfl
 clear z r g;by_cases x:op=38
 ·subst x;obtain⟨l,n⟩:=q rfl;obtain⟨y,rfl⟩:=Dm l;obtain⟨cc,u⟩:∃cc,fs[y]?=some cc:=⟨_,Bf (by omega)⟩;have i:=Aq (show Bd.fn fs (y:Int)=cc by unfold Bd.fn;rw[Bo];simp[u]);obtain⟨b,off,rfl,U,d⟩:=v.2 (by omega);obtain⟨_,s,_,_⟩:=Hb fs y cc u;have j:=d _ _ s;rw[←mt]at j;have K:y<m:=by omega
  clear d s u v f q;go_enter Tryz.func244,Tryz.ntmps244;go_wp2_with fail
  go_quiet (fail);go_wp2;go_ret;exact⟨Cw (by rw[i.o];simp),below_drewN aI _⟩
 ·have Y:(op != 38)=true:=by simpa using x
  have Z:(op==38)=false:=by simpa using x
  clear q f v;go_enter Tryz.func244,Tryz.ntmps244;go_wp2_with fail
  go_quiet (fail);go_wp2;go_ret;exact⟨Cw (by simp[x]),below_drewN aI _⟩
theorem re2 (y P:Nat)(c0 u c2:Value)(aU aM:Int)(w:World) (z:aH w y 193 #[.pointer (some ⟨P,0,none⟩)])
  (x:aH w P 200 #[c0,u,c2,Aj aU,Aj aM]) :
  Calls Tryz.prog 245 #[.pointer (some ⟨y,0,none⟩)] w fun e w'=>e=.returned (.bool (decide (aU≤32) && decide (aM≤32)))∧Below w.heap.size w w':=by
 have q0:w.cell? ⟨y,0,none⟩=some (.pointer (some ⟨P,0,none⟩)):=by rw[z.cell];rfl
 have v:w.cell? ⟨P,3,none⟩=some (Aj aU):=by rw[x.cell];rfl
 have k:w.cell? ⟨P,4,none⟩=some (Aj aM):=by rw[x.cell];rfl
 clear z x;go_enter Tryz.func245,Tryz.ntmps245;go_wp2
 all_goals (go_ret;go_light;refine⟨Cw ?_,aI⟩;(simp_all <;> omega))
theorem re4 (E:Nat)(c0 y c2:Value)(steps:Int)(w:World) (x:aH w E 238 #[c0,y,c2,Aj steps]) :
  Calls Tryz.prog 248 #[.pointer (some ⟨E,0,none⟩)] w fun e w'=>e=.returned (.bool (decide (steps≤4096)))∧Below w.heap.size w w':=by
 have z:w.cell? ⟨E,3,none⟩=some (Aj steps):=by rw[x.cell];rfl
 clear x;go_enter Tryz.func248,Tryz.ntmps248;go_wp2;go_ret;exact⟨rfl,aI⟩
theorem Up (aL op a:Int)(w:World) :
  Calls Tryz.prog 165 #[Aj aL,.agg #[Aj op,Aj a]] w fun e w'=>e=.returned (.func (.func 249) #[] #[.pointer (some ⟨w.heap.size+1,0,none⟩),.pointer (some ⟨w.heap.size,0,none⟩)])∧(w.alloc (.cells #[Aj aL] 3)).alloc (.cells #[Aj op,Aj a] 96)=w':=by
 go_enter Tryz.func165,Tryz.ntmps165;go_wp2;go_ret;exact⟨rfl,rfl⟩
theorem Kw (q:Option Addr)(aL op a:Int)(w:World) :
  Calls Tryz.prog 162 #[.pointer q,Aj aL,.agg #[Aj op,Aj a]] w fun e w'=>e=.returned (.slice (some ⟨w.heap.size+1+1+1,0,none⟩) 3 3) ∧
   (((w.alloc (.cells #[.pointer q] 193)).alloc (.cells #[Aj aL] 3)).alloc (.cells #[Aj op,Aj a] 96)).alloc (.cells #[.func (.func 238) #[] #[.pointer (some ⟨w.heap.size+1+1,0,none⟩)],Aj 50,.func (.func 239) #[] #[.pointer (some ⟨w.heap.size+1+1,0,none⟩),.pointer (some ⟨w.heap.size,0,none⟩),.pointer (some ⟨w.heap.size+1,0,none⟩)],Aj 52,.func (.func 241) #[] #[.pointer (some ⟨w.heap.size+1+1,0,none⟩),.pointer (some ⟨w.heap.size,0,none⟩)],Aj 54] 263)=w':=by
 go_enter Tryz.func162,Tryz.ntmps162;go_wp2;go_ret;exact⟨rfl,rfl⟩
theorem Sw (q:Option Addr)(aL op a x y u z:Int)(w:World) :
  Calls Tryz.prog 164 #[.pointer q,Aj aL,.agg #[Aj op,Aj a],.agg #[Aj x,Aj y,Aj u,Aj z]] w fun e w'=>e=.returned (.slice (some ⟨w.heap.size+1+1+1+1,0,none⟩) 4 4) ∧
   ((((w.alloc (.cells #[.pointer q] 193)).alloc (.cells #[Aj aL] 3)).alloc (.cells #[Aj op,Aj a] 96)).alloc (.cells #[Aj x,Aj y,Aj u,Aj z] 238)).alloc (.cells #[.func (.func 244) #[] #[.pointer (some ⟨w.heap.size+1+1,0,none⟩),.pointer (some ⟨w.heap.size,0,none⟩)],Aj 51,.func (.func 245) #[] #[.pointer (some ⟨w.heap.size,0,none⟩)],Aj 51,
    .func (.func 246) #[] #[.pointer (some ⟨w.heap.size,0,none⟩),.pointer (some ⟨w.heap.size+1,0,none⟩),.pointer (some ⟨w.heap.size+1+1,0,none⟩),.pointer (some ⟨w.heap.size+1+1+1,0,none⟩)],Aj 51,.func (.func 248) #[] #[.pointer (some ⟨w.heap.size+1+1+1,0,none⟩)],Aj 53] 263)=w':=by
 go_enter Tryz.func164,Tryz.ntmps164;go_wp2;go_ret;exact⟨rfl,rfl⟩
end
section
open Go.RowKit Go.Shelf
attribute [local go_sem] Oper.semAt_some
abbrev Way (aL:Int)(x:Int×Int) := { t:Int // t∈Bd.ways aL x }
def lJ (X x:Nat)(W W':World):Prop:=∀(b o:Nat) (v:Value),b=X∨b=x→W.cell? ⟨b,o,none⟩=some v→W'.cell? ⟨b,o,none⟩=some v
def Zgy (n l X u:Nat)(aL:Int)(x:Int×Int) (J z:List (Way aL x)→World→Prop):Prop :=
 ∀(pre:List (Way aL x)) (t:Way aL x) (y:World),J pre y→pre.length<2→YieldAt Fence.wide n Tryz.prog l #[Aj t.1] y fun e W' =>
  (e=.returned (.bool true)∧J (pre++[t]) W'∧lJ X u y W')∨(e=.returned (.bool false)∧z (pre++[t]) W')
theorem Abides.cW {β:Type}{B:Nat}{J:β→World→Prop}(h:AbidesFrom B J){x:β}{W:World}(y:J x W)(o:Obj):J x (W.alloc o) :=
 h x W _ none y (World.grownBy_alloc _ _ _) (fun r e=>by cases e)
theorem Zie (n l X f:Nat)(aL op a:Int) (J K:List (Way aL (op,a))→World→Prop) (hn:1≤n) {B:Nat} (k:AbidesFrom B J) (m:AbidesFrom B K)
  (u:Zgy (n-1) l X f aL (op,a) J K) (W:World) (g:W.cell? ⟨X,0,none⟩=some (Aj op)) (Q:W.cell? ⟨X,1,none⟩=some (Aj a)) (b:W.cell? ⟨f,0,none⟩=some (Aj aL)) (C:J [] W)
  (b0:0≤aL) (b1:aL≤1000000000000000) (H:Bd.az op=true→0≤a∧a≤1000000000000000) :
  CallsIn Fence.wide n Tryz.prog 249 #[.func (.yield l) #[] #[],.pointer (some ⟨X,0,none⟩),.pointer (some ⟨f,0,none⟩)] W fun e W'=>(∃v,e=.returned v) ∧
   ((∃E:List (Way aL (op,a)),E.map (·.1)=Bd.ways aL (op,a)∧J E W')∨(∃pre:List (Way aL (op,a)),True∧K pre W')):=by
 by_cases i:op=35
 ·subst i;obtain⟨F,b4⟩:=H (by decide);have z:Bd.ways aL (35,a)=[aL+1+a]:=rfl;have y:aL+1+a∈Bd.ways aL (35,a):=by rw[z];simp
  obtain⟨fn,O,assign,body,c,r⟩:=u [] ⟨aL+1+a,y⟩ (W.alloc (.cells #[Aj 35,Aj a] 96)) (Abides.cW k C _) (by simp);have P:=o_ W _ g;have Z:=o_ W _ b;simp only at P Z c;have j:=Aq r;have V:=Aq k;have T:=Aq m;have S:=Aq u;have d:=Aq z;clear r k m u z H;refine callsIn_of_wp Tryz.func249 rfl trivial ?_ rfl;simp only[Tryz.ntmps249,qd,Bp,Bx,Nat.reduceAdd,Nat.reduceSub,qf,qg,qj,qm,le,oy]
  gi_wp2_with fail
  refine⟨fun _ h=>(by cases h),?_⟩
  gi_wp2_with fail
  refine⟨trivial,?_⟩;refine(callsIn_wide.2 (Im 35 a _)).mono ?_;rintro e w'⟨rfl,rfl⟩;rw[show Bd.az 35=true from rfl]
  gi_wp2
  refine j.o.mono ?_;rintro e s (⟨rfl,w,q⟩|⟨rfl,U⟩)
  ·gi_wp2
   go_end0;exact⟨⟨_,rfl⟩,.inl ⟨[⟨aL+1+a,y⟩],d.o.symm,w⟩⟩
  ·gi_wp2
   go_end0;exact⟨⟨_,rfl⟩,.inr ⟨_,trivial,U⟩⟩
 ·have ht:(op != 35)=true:=by simpa using i
  have hj:(op==35)=false:=by simpa using i
  have z:Bd.ways aL (op,a)=[aL+1]++(if Bd.az op=true then[aL+1+a] else[]):=by
   unfold Bd.ways;simp only;rw[if_neg i]
  have y:aL+1∈Bd.ways aL (op,a):=by rw[z];simp
  obtain⟨fn,O,assign,body,c,r⟩:=u [] ⟨aL+1,y⟩ W C (by simp);have P:=o_ W _ g;have Z:=o_ W _ b;simp only at P Z c;have j:=Aq r;have V:=Aq k;have T:=Aq m;have S:=Aq u;have d:=Aq z;have HB:=Aq H;clear r k m u z H;refine callsIn_of_wp Tryz.func249 rfl trivial ?_ rfl;simp only[Tryz.ntmps249,qd,Bp,Bx,Nat.reduceAdd,Nat.reduceSub,qf,qg,qj,qm,le,oy]
  gi_wp2_with fail
  refine j.o.mono ?_;clear c;rintro e s (⟨rfl,w,q⟩|⟨rfl,U⟩)
  ·have y0:=q X 0 _ (.inl rfl) g;have y1:=q X 1 _ (.inl rfl) Q;have M:=q f 0 _ (.inr rfl) b;have m1:=o_ s _ y0;have m2:=o_ s _ M;simp only at m1 m2;have D:=Aq w;clear g Q b q w j
   gi_wp2_with fail
   refine⟨trivial,?_⟩;refine(callsIn_wide.2 (Im op a _)).mono ?_;rintro e w'⟨rfl,rfl⟩;cases p:Bd.az op with
   |false =>
    have x:=d.o;rw[p]at x;have Y:=Aq x;clear p x
    gi_wp2
    go_end0;exact⟨⟨_,rfl⟩,.inl ⟨[⟨aL+1,y⟩],by have h:=Y.o.symm;simpa using h,Abides.cW V.o D.o _⟩⟩
   |true =>
    obtain⟨F,b4⟩:=HB.o p;have x:=d.o;rw[p]at x;have A:aL+1+a∈Bd.ways aL (op,a):=by rw[x];simp
    obtain⟨W3,hR,hY,hw,G,R⟩:=S.o ([]++[⟨aL+1,y⟩]) ⟨aL+1+a,A⟩ (s.alloc (.cells #[Aj op,Aj a] 96)) (Abides.cW V.o D.o _) (by simp);simp only at G;have I:=Aq R;have Y:=Aq x;clear p x R
    gi_wp2
    refine I.o.mono ?_;rintro e W4 (⟨rfl,N,hJ⟩|⟨rfl,L⟩)
    ·gi_wp2
     go_end0;exact⟨⟨_,rfl⟩,.inl ⟨[⟨aL+1,y⟩,⟨aL+1+a,A⟩],by have h:=Y.o.symm;simpa using h,N⟩⟩
    ·gi_wp2
     go_end0;exact⟨⟨_,rfl⟩,.inr ⟨_,trivial,L⟩⟩
  ·gi_wp2
   refine bodyPost_ret (results_none rfl _ _ _) rfl ?_;exact⟨⟨_,rfl⟩,.inr ⟨_,trivial,U⟩⟩
end
section
open Go.RowKit Go.Shelf
attribute [local go_sem] Oper.semAt_some
theorem Zgf {X x:Nat}:∀{A B C:World},lJ X x A B→lJ X x B C→lJ X x A C:=fun h k b o v y z=>k b o v y (h b o v y z)
theorem Zbz {X z:Nat}(W:World)(l:Nat)(o x:Obj) (y:W.heap[l]?=some o) (u:o.isCells=false):lJ X z W (W.putObj l x):=by
 intro b f v _ h;exact cell_kept h (grownBy_putObj' W l x) (fun r e=>by cases e;exact⟨o,y,u⟩)
theorem Rj {X x B:Nat}{W W':World}(h:Below B W W')(u:X<B)(k:x<B):lJ X x W W':=by
 intro b f v y z;rw[h.cell (p:=⟨b,f,none⟩) (by rcases y with rfl|rfl <;> assumption)];exact z
theorem Nu (n X x:Nat)(aL op a:Int)(g:1≤n)(w:World) (z:w.cell? ⟨X,0,none⟩=some (Aj op)) (q:w.cell? ⟨X,1,none⟩=some (Aj a)) (u:w.cell? ⟨x,0,none⟩=some (Aj aL))
  (b:0≤aL) (k:aL≤1000000000000000) (f:Bd.az op=true→0≤a∧a≤1000000000000000) :
  SeqStopsK Fence.wide n Tryz.prog 249 #[.pointer (some ⟨X,0,none⟩),.pointer (some ⟨x,0,none⟩)] (fun t:Way aL (op,a)=>#[Aj t.1]) (lJ X x) (fun i=>i.map (·.1)=Bd.ways aL (op,a)) (fun _=>True) 2 w:=by
 intro l J s W y e c d r;have v:=o_ w _ z;have j:=o_ w _ u;exact Zie n l X x aL op a J s g e c d W ((y.cell (p:=⟨X,0,none⟩) v).trans z) ((y.cell (p:=⟨X,1,none⟩) v).trans q) ((y.cell (p:=⟨x,0,none⟩) j).trans u) r b k f
theorem Yr (P G:Nat)(c0 c1 c3 c4:Value)(m mc:Nat)(pl:List Bd.Place)(aL op a aC:Int)(w:World) (Z:aH w P 200 #[c0,c1,.slice (some ⟨G,0,none⟩) m mc,c3,c4]) (g:aH w G 197 (Df pl).toArray)
  (L:pl.length=m) (b0:0≤aL) (b1:aL≤1000000000000000) (F:Bd.az op=true→0≤a∧a≤1000000000000000) (E:∀t∈Bd.ways aL (op,a),0≤t∧t<m) :
  Calls Tryz.prog 247 #[.pointer (some ⟨P,0,none⟩),Aj aL,.agg #[Aj op,Aj a],Aj aC] w fun e w'=>e=.returned (.bool (Bd.ea pl aL (op,a) aC))∧Below w.heap.size w w':=by
 refine(callsIn_wide (n:=8)).1 ?_;refine callsIn_of_wp_marks Tryz.func247 rfl trivial ?_ rfl;simp only[Tryz.ntmps247,qd,Bp,Bx,Nat.reduceAdd,Nat.reduceSub,qf,qg,qj,qm,le,oy]
 gi_wp2_with fail
 refine⟨trivial,?_⟩;refine(callsIn_wide.2 (Up aL op a _)).mono ?_;rintro e w'⟨rfl,rfl⟩
 gi_wp2_with fail
 have tn:=Z.lt;have fG:=g.lt;obtain⟨N,b⟩:∃N,N=w.heap.size:=⟨_,rfl⟩;rw[←b];obtain⟨z,v⟩:∃z,(((((w.alloc (.cells #[.pointer (some ⟨P,0,none⟩)] 193)).alloc (.cells #[Aj op,Aj a] 96)).alloc (.cells #[Aj aC] 3)).alloc (.cells #[.bool false] 4)).alloc (.cells #[Aj aL] 3)).alloc (.cells #[Aj op,Aj a] 96)=z:=⟨_,rfl⟩;have hK:z.heap.size=N+6:=by rw[←v,b];simp
 have X:Below w.heap.size w z:=by rw[←v];exact(by repeat (first|exact aI|assumption|(refine ot ?_ (by first|omega|(simp;done)|(simp;omega)) _)|(refine ou ?_)|(refine below_drewN ?_ _)|(refine ov ?_ (by first|omega|(simp;done)|(simp;omega)) _)))
 have U:aH z N 193 #[.pointer (some ⟨P,0,none⟩)]:=by rw[←v,b];exact(((((qG _ _ _).alloc _).alloc _).alloc _).alloc _).alloc _
 have i:aH z (N+1+1) 3 #[Aj aC]:=by rw[←v,b];exact(((qH _ _ _ (by simp)).alloc _).alloc _).alloc _
 have u:aH z (N+1+1+1) 4 #[.bool false]:=by rw[←v,b];exact((qH _ _ _ (by simp)).alloc _).alloc _
 have C:aH z (N+1+1+1+1) 3 #[Aj aL]:=by rw[←v,b];exact(qH _ _ _ (by simp)).alloc _
 have Y:aH z (N+1+1+1+1+1) 96 #[Aj op,Aj a]:=by rw[←v,b];exact qH _ _ _ (by simp)
 have R:=Z.below X tn;have k:=g.below X fG;rw[v];have hP:=Aq v;have HN:=Aq b;have f3:w.heap.size≤z.heap.size:=X.size;have hs:N≤w.heap.size∧w.heap.size≤N:=by omega
 have f0:z.heap.size≤N+6∧N+6≤z.heap.size:=by omega
 clear v b hK;refine wpIn_rangeFunc_ownG (α:=Way aL (op,a)) rfl (by omega) (gf:=249) (lb:=#[.pointer (some ⟨N+1+1+1+1+1,0,none⟩),.pointer (some ⟨N+1+1+1+1,0,none⟩)]) rfl trivial (enters_of Tryz.func249 (by kernel_rfl) rfl)
  (Nu 7 (N+1+1+1+1+1) (N+1+1+1+1) aL op a (by omega) z (by rw[Y.cell];rfl) (by rw[Y.cell];rfl) (by rw[C.cell];rfl) b0 b1 F) Zgf (fun W l o o' _ V h2 _=>Zbz W l o o' V h2) aI (fun _=>rfl)
  (fun pre W=>(∀t∈pre,Bd.gL pl aC t.1=true)∧Below z.heap.size z W)
  (fun c _ W=>(c=.ret∧Bd.ea pl aL (op,a) aC=false∧W.cell? ⟨N+1+1+1,0,none⟩=some (.bool false))∧Below w.heap.size w W)
  (OwnFrom.and (fun s A B row j hg hr=>j) (ownFrom_below Aw Aw))
  (fun c=>OwnFrom.and (fun s A B row j hg hr=>⟨j.1,j.2.1,cell_kept j.2.2 hg (fun r e=>(hr r e).2)⟩) (ownFrom_below Aw (by omega)))
  ⟨by simp,aI⟩
  (fun x => { tmps:=#[.pointer (some ⟨P,0,none⟩),Aj aL,.agg #[Aj op,Aj a],Aj aC,.pointer (some ⟨N,0,none⟩),undef,.pointer (some ⟨N+1,0,none⟩),.pointer (some ⟨N+1+1,0,none⟩),.pointer (some ⟨N+1+1+1,0,none⟩),Aj x.1,undef,Aj aL,.agg #[Aj op,Aj a],.func (.func 249) #[] #[.pointer (some ⟨N+1+1+1+1+1,0,none⟩),.pointer (some ⟨N+1+1+1+1,0,none⟩)],Aj x.1,undef,undef,undef,undef,undef,undef,undef,undef,undef,undef,undef,undef,undef,undef,undef],defers:=[] }) ?assign ?body ?done ?stop
 case assign =>
  intro l x W K d
  gi_wp2
  exact d
 case body =>
  rintro l pre⟨t,S⟩ W ⟨Q,y⟩ _;obtain⟨t0,t1⟩:=E t S;obtain⟨p,rfl⟩:=Dm t0;obtain⟨q,T⟩:∃q,pl[p]?=some q:=⟨_,Bf (by omega)⟩;have hB:Bd.bk pl (p:Int)=q:=by unfold Bd.bk;rw[Bo];simp[T]
  have H:Bd.gL pl aC (p:Int) = !(q.aR && (q.aC != aC)):=by unfold Bd.gL;rw[hB]
  obtain⟨g0,g1,g2⟩:=Hp pl p q T;have e0:W.cell? ⟨N,0,none⟩=some (.pointer (some ⟨P,0,none⟩)):=by rw[(U.below y U.lt).cell];rfl
  have eP:W.cell? ⟨P,2,none⟩=some (.slice (some ⟨G,0,none⟩) m mc):=by rw[(R.below y R.lt).cell];rfl
  have eh:W.cell? ⟨N+1+1,0,none⟩=some (Aj aC):=by rw[(i.below y i.lt).cell];rfl
  have er:W.cell? ⟨N+1+1+1,0,none⟩=some (.bool false):=by rw[(u.below y u.lt).cell];rfl
  have fr:W.frozen? ⟨N+1+1+1,0,none⟩=false:=(u.below y u.lt).frozen 0;have d0:W.cell? ⟨G,p*3,none⟩=some (.bool q.aR):=by rw[(k.below y k.lt).cell];simpa using g0
  have d1:W.cell? ⟨G,p*3+1,none⟩=some (Aj q.aC):=by rw[(k.below y k.lt).cell];simpa using g1
  have d2:W.cell? ⟨G,p*3+2,none⟩=some (Aj q.steps):=by rw[(k.below y k.lt).cell];simpa using g2
  have f5:p<m:=by omega
  have z1:N<W.heap.size:=by have:=y.size;omega
  have z2:N+1+1<W.heap.size:=by have:=y.size;omega
  have z3:N+1+1+1<W.heap.size:=by have:=y.size;omega
  have z4:P<W.heap.size:=by have:=y.size;omega
  have z5:G<W.heap.size:=by have:=y.size;omega
  have f:=Aq H;have HP:=Aq Q;clear H hB g0 g1 g2 T E Q U i u C Y R k Z g L F;obtain⟨qk,qh,qs⟩:=q;simp only at d0 d1 d2 f;cases qk with
  |false =>
   gi_wp2
   exact⟨(KeepsOthers.alloc _ _).from _,Rj (aI.alloc Aw _) (by have:=y.size;omega) (by have:=y.size;omega),by
    intro t' I;rcases List.mem_append.1 I with h|h
    ·exact HP.o t' h
    ·simp at h;subst h;exact f.o,y.alloc y.size _⟩
  |true =>
   by_cases J:qh=aC
   ·subst J
    gi_wp2
    exact⟨(KeepsOthers.alloc _ _).from _,Rj (aI.alloc Aw _) (by have:=y.size;omega) (by have:=y.size;omega),by
     intro t' I;rcases List.mem_append.1 I with h|h
     ·exact HP.o t' h
     ·simp at h;subst h;rw[f.o];simp,y.alloc y.size _⟩
   ·have f2:(qh != aC)=true:=by simpa using J
    gi_wp2
    refine⟨(KeepsOthers.trans (KeepsOthers.setCell _ _ _) (KeepsOthers.alloc _ _)).from _,⟨rfl,?_,?_⟩,?_⟩
    ·have V:Bd.gL pl aC (p:Int)=false:=by rw[f.o];simp[J]
     unfold Bd.ea;rw[List.all_eq_false];exact⟨_,S,by rw[V];simp⟩
    ·rw[Cc _ _ _ (by simpa [World.setCell]using z3)];exact World.cell?_setCell_same' _ _ _ (by rw[er];rfl)
    ·exact((X.trans (y.mono f3)).setCell (by simp only;omega) _).alloc (by have:=y.size;simp[World.setCell];omega) _
 case done =>
  rintro D ys W hD hS⟨Q,y⟩ d;have W0:Bd.ea pl aL (op,a) aC=true:=by
   unfold Bd.ea;rw[←hS,List.all_eq_true];intro t S;obtain⟨t',V,rfl⟩:=List.mem_map.1 S;exact Q t' V
  have er:W.cell? ⟨N+1+1+1,0,none⟩=some (.bool false):=by rw[(u.below y u.lt).cell];rfl
  have fr:W.frozen? ⟨N+1+1+1,0,none⟩=false:=(u.below y u.lt).frozen 0;have hN:=Aq W0;clear W0 Q hS U i u C Y R k Z g L F E
  gi_wp2
  have M:=(KeepsOthers.setCell W ⟨N+1+1+1,0,none⟩ (.bool true)).same D _ d rfl;refine⟨by simp,.inl ⟨_,_,rfl,run_takeDeferred M,?_⟩⟩;have O:=cell_kept (World.cell?_setCell_same' W ⟨N+1+1+1,0,none⟩ (.bool true) (by rw[er];rfl)) (grownBy_putObj' _ D (.deferred none)) (fun r e=>by cases e;exact⟨_,M,rfl⟩);refine⟨.bool true,?_,by rw[hN.o],?_⟩
  ·simp[results,Tryz.results247,go_sem,O]
  ·exact((X.trans (y.mono f3)).setCell (by simp only;omega) _).trans (belowK_b (w:=w) Aw _ D _ _ (by omega) M rfl rfl)
 case stop =>
  rintro D c pre W hD _⟨⟨rfl,H,hG⟩,y⟩ d;have f:=Aq H;clear H U i u C Y R k Z g L F E
  gi_wp2
  refine⟨by simp,.inl ⟨_,_,rfl,run_takeDeferred d,?_⟩⟩;have O:=cell_kept hG (grownBy_putObj' _ D (.deferred none)) (fun r e=>by cases e;exact⟨_,d,rfl⟩);refine⟨.bool false,?_,by rw[f.o],?_⟩
  ·simp[results,Tryz.results247,go_sem,O]
  ·exact y.trans (belowK_b (w:=w) Aw _ D _ _ (by omega) d rfl rfl)
end
section
open Go.RowKit
theorem re3 (y z X E P G:Nat)(c0 v c3 c4 d l n:Value)(m mc:Nat)(pl:List Bd.Place)(aL op a aC:Int)(w:World) (u:aH w y 193 #[.pointer (some ⟨P,0,none⟩)]) (c:aH w z 3 #[Aj aL]) (x:aH w X 96 #[Aj op,Aj a]) (k:aH w E 238 #[d,l,Aj aC,n])
  (b:aH w P 200 #[c0,v,.slice (some ⟨G,0,none⟩) m mc,c3,c4]) (r:aH w G 197 (Df pl).toArray)
  (s:pl.length=m) (i:0≤aL) (f:aL≤1000000000000000) (q:Bd.az op=true→0≤a∧a≤1000000000000000) (p:∀t∈Bd.ways aL (op,a),0≤t∧t<m) :
  Calls Tryz.prog 246 #[.pointer (some ⟨y,0,none⟩),.pointer (some ⟨z,0,none⟩),.pointer (some ⟨X,0,none⟩),.pointer (some ⟨E,0,none⟩)] w fun e w'=>e=.returned (.bool (Bd.ea pl aL (op,a) aC))∧Below w.heap.size w w':=by
 have q0:w.cell? ⟨y,0,none⟩=some (.pointer (some ⟨P,0,none⟩)):=by rw[u.cell];rfl
 have K:w.cell? ⟨z,0,none⟩=some (Aj aL):=by rw[c.cell];rfl
 have H:w.cell? ⟨X,0,none⟩=some (Aj op):=by rw[x.cell];rfl
 have Z:w.cell? ⟨X,1,none⟩=some (Aj a):=by rw[x.cell];rfl
 have Y:w.cell? ⟨E,2,none⟩=some (Aj aC):=by rw[k.cell];rfl
 have j:=Aq (Yr P G c0 v c3 c4 m mc pl aL op a aC w b r s i f q p);clear u c x k b r s q p;go_enter Tryz.func246,Tryz.ntmps246;go_wp2_with fail
 refine j.o.mono ?_;rintro e w'⟨rfl,g⟩;go_wp2;go_ret;exact⟨rfl,g⟩
theorem Iq (R X b Y P:Nat)(op a aL:Int)(A F:Option Addr)(n c m D:Nat)(c2 c3 c4:Value)(w:World)
  (S:aH w R 263 #[.func (.func 238) #[] #[.pointer (some ⟨X,0,none⟩)],Aj 50,.func (.func 239) #[] #[.pointer (some ⟨X,0,none⟩),.pointer (some ⟨b,0,none⟩),.pointer (some ⟨Y,0,none⟩)],Aj 52,.func (.func 241) #[] #[.pointer (some ⟨X,0,none⟩),.pointer (some ⟨b,0,none⟩)],Aj 54])
  (r:aH w X 96 #[Aj op,Aj a]) (j:aH w b 193 #[.pointer (some ⟨P,0,none⟩)]) (B:aH w Y 3 #[Aj aL])
  (H:aH w P 200 #[.slice A n c,.slice F m D,c2,c3,c4]) (G:0≤aL) (C:aL≤n) (L:n≤1000000000000000) :
  Calls Tryz.prog 161 #[.slice (some ⟨R,0,none⟩) 3 3] w fun e w'=>e=.returned (Aj (Bd.bp n m aL (op,a)))∧Below w.heap.size w w':=by
 obtain⟨s,U⟩:∃s,s=decide (1≤op∧op≤39):=⟨_,rfl⟩;obtain⟨v,V⟩:∃v,v = !(Bd.az op && !(decide (0≤a) && decide (a≤n-1-aL))):=⟨_,rfl⟩;obtain⟨q,Q⟩:∃q,q = !(Bd.ao op && !(decide (0≤a) && decide (a<m))):=⟨_,rfl⟩;have I:Bd.bp n m aL (op,a)=if s=false then 50 else if v=false then 52 else if q=false then 54 else 0:=by
  unfold Bd.bp;simp only;rw[U,V,Q];simp
 rw[I];obtain⟨lT,Z⟩:∃lT:Int,lT=if s=false then 50 else if v=false then 52 else if q=false then 54 else 0:=⟨_,rfl⟩
 rw[←Z];have K:=Aq Z;clear Z;have J:∀W,Below w.heap.size w W→Calls Tryz.prog 238 #[.pointer (some ⟨X,0,none⟩)] W fun e w'=>e=.returned (.bool s)∧Below W.heap.size W w':=fun W h=>by rw[U];exact al1 X op a W (r.below h r.lt)
 have E:∀W,Below w.heap.size w W→Calls Tryz.prog 239 #[.pointer (some ⟨X,0,none⟩),.pointer (some ⟨b,0,none⟩),.pointer (some ⟨Y,0,none⟩)] W fun e w'=>e=.returned (.bool v)∧Below W.heap.size W w':=fun W h=>by rw[V];exact al2 X b Y P op a aL A n c _ _ _ _ W (r.below h r.lt) (j.below h j.lt) (B.below h B.lt) (H.below h H.lt) G C L
 have M:∀W,Below w.heap.size w W→Calls Tryz.prog 241 #[.pointer (some ⟨X,0,none⟩),.pointer (some ⟨b,0,none⟩)] W fun e w'=>e=.returned (.bool q)∧Below W.heap.size W w':=fun W h=>by rw[Q];exact al3 X b P op a F m D _ _ _ _ W (r.below h r.lt) (j.below h j.lt) (H.below h H.lt)
 have O:=Aq J;have t2:=Aq E;have hB:=Aq M;have HR:=Aq S;have N:=S.lt;clear J E M U V Q I r j B H G C L S;go_enter Tryz.func161,Tryz.ntmps161;go_wp2_with fail
 go_loopw [7] (fun i wr=>∃k:Nat,k≤3∧i=Aj k∧(0<k→s=true)∧(1<k→v=true)∧(2<k→q=true)∧Below w.heap.size w wr) (fun i _=>3-(intOf i).toNat)
 case atStart=>exact⟨0,by omega,rfl,by simp,by simp,by simp,aI⟩
 case round =>
  obtain⟨k,T,rfl,k1,k2,k3,z⟩:=hrel;have x:=HR.o.below z N;have fr:=x.frozen;have d:=z.size
  match k,T with
  |0,_ =>
   have g:wr.cell? ⟨R,0,none⟩=_:=x.cell 0;have f:wr.cell? ⟨R,1,none⟩=_:=x.cell 1;simp at g f;clear x fr;go_wp2_with fail
   refine(O.o _ (z.alloc d _)).mono ?_;rintro e w1⟨rfl,y⟩;have u:Below w.heap.size w w1:=(z.alloc d _).trans (y.mono (by simp;omega));have l:w1.cell? ⟨wr.heap.size,1,none⟩=_:=y.cell (p:=⟨wr.heap.size,1,none⟩) (by simp);simp[go_sem]at l;clear y;cases s with
   |false =>
    go_wp2;go_ret;exact⟨Fz (by have h:=K.o;simp_all),u⟩
   |true =>
    go_wp2;go_roundw
    case rel=>exact⟨1,by omega,by go_num,by simp_all,by simp_all,by simp_all,u⟩
    case measure=>simp[intOf]
  |1,_ =>
   have g:wr.cell? ⟨R,2,none⟩=_:=x.cell 2;have f:wr.cell? ⟨R,3,none⟩=_:=x.cell 3;simp at g f;clear x fr;go_wp2_with fail
   refine(t2.o _ (z.alloc d _)).mono ?_;rintro e w1⟨rfl,y⟩;have u:Below w.heap.size w w1:=(z.alloc d _).trans (y.mono (by simp;omega));have l:w1.cell? ⟨wr.heap.size,1,none⟩=_:=y.cell (p:=⟨wr.heap.size,1,none⟩) (by simp);simp[go_sem]at l;clear y;cases v with
   |false =>
    go_wp2;go_ret;exact⟨Fz (by have h:=K.o;simp_all),u⟩
   |true =>
    go_wp2;go_roundw
    case rel=>exact⟨2,by omega,by go_num,by simp_all,by simp_all,by simp_all,u⟩
    case measure=>simp[intOf]
  |2,_ =>
   have g:wr.cell? ⟨R,4,none⟩=_:=x.cell 4;have f:wr.cell? ⟨R,5,none⟩=_:=x.cell 5;simp at g f;clear x fr;go_wp2_with fail
   refine(hB.o _ (z.alloc d _)).mono ?_;rintro e w1⟨rfl,y⟩;have u:Below w.heap.size w w1:=(z.alloc d _).trans (y.mono (by simp;omega));have l:w1.cell? ⟨wr.heap.size,1,none⟩=_:=y.cell (p:=⟨wr.heap.size,1,none⟩) (by simp);simp[go_sem]at l;clear y;cases q with
   |false =>
    go_wp2;go_ret;exact⟨Fz (by have h:=K.o;simp_all),u⟩
   |true =>
    go_wp2;go_roundw
    case rel=>exact⟨3,by omega,by go_num,by simp_all,by simp_all,by simp_all,u⟩
    case measure=>simp[intOf]
  |3,_ =>
   clear x fr;go_wp2;go_ret;exact⟨Fz (by have h:=K.o;simp_all),z⟩
theorem Py (R X v Z E P G B:Nat)(op a aL aU aM:Int)(c0 e0 e1:Value)(S:Option Addr)(m cf mp mc:Nat)(fs:List Bd.aa)(pl:List Bd.Place)(aC steps:Int)(w:World)
  (I:aH w R 263 #[.func (.func 244) #[] #[.pointer (some ⟨X,0,none⟩),.pointer (some ⟨v,0,none⟩)],Aj 51,.func (.func 245) #[] #[.pointer (some ⟨v,0,none⟩)],Aj 51,.func (.func 246) #[] #[.pointer (some ⟨v,0,none⟩),.pointer (some ⟨Z,0,none⟩),.pointer (some ⟨X,0,none⟩),.pointer (some ⟨E,0,none⟩)],Aj 51,.func (.func 248) #[] #[.pointer (some ⟨E,0,none⟩)],Aj 53])
  (n:aH w X 96 #[Aj op,Aj a]) (s:aH w v 193 #[.pointer (some ⟨P,0,none⟩)]) (D:aH w Z 3 #[Aj aL]) (K:aH w E 238 #[e0,e1,Aj aC,Aj steps])
  (f:aH w P 200 #[c0,.slice S m cf,.slice (some ⟨G,0,none⟩) mp mc,Aj aU,Aj aM]) (T:aE w B 4 S m (Ct fs)) (t2:B≤w.heap.size) (hm:m=fs.length) (U:aH w G 197 (Df pl).toArray)
  (PB:pl.length=mp) (ha:op=38→0≤a∧a<m) (J:0≤aL) (N:aL≤1000000000000000) (b2:Bd.az op=true→0≤a∧a≤1000000000000000) (hw:∀t∈Bd.ways aL (op,a),0≤t∧t<mp) (Y:Bd.mL) (M:Y.aC=aC) (hl:Y.steps=steps) :
  Calls Tryz.prog 161 #[.slice (some ⟨R,0,none⟩) 4 4] w fun e w'=>e=.returned (Aj (Bd.dR fs pl aU aM aL (op,a) Y))∧Below w.heap.size w w':=by
 obtain⟨d,Q⟩:∃d,d = !(decide (op=38) && !((Bd.fn fs a).delta==0)):=⟨_,rfl⟩;obtain⟨g,A⟩:∃g,g=(decide (aU≤32) && decide (aM≤32)):=⟨_,rfl⟩;obtain⟨j,C⟩:∃j,j=Bd.ea pl aL (op,a) aC:=⟨_,rfl⟩;obtain⟨c,F⟩:∃c,c=decide (steps≤4096):=⟨_,rfl⟩;have hB:Bd.dR fs pl aU aM aL (op,a) Y=if d=false then 51 else if g=false then 51 else if j=false then 51 else if c=false then 53 else 0:=by
  unfold Bd.dR;simp only;rw[Q,A,C,F,M,hl];simp
 rw[hB];obtain⟨lT,V⟩:∃lT:Int,lT=if d=false then 51 else if g=false then 51 else if j=false then 51 else if c=false then 53 else 0:=⟨_,rfl⟩
 rw[←V];have H:=Aq V;clear V;have C1:∀W,Below w.heap.size w W→Calls Tryz.prog 244 #[.pointer (some ⟨X,0,none⟩),.pointer (some ⟨v,0,none⟩)] W fun e w'=>e=.returned (.bool d)∧Below W.heap.size W w':=fun W h=>by rw[Q];exact re1 X v P B op a S m cf fs _ _ _ _ W (n.below h n.lt) (s.below h s.lt) (f.below h f.lt) (T.below h t2) hm ha
 have O:∀W,Below w.heap.size w W→Calls Tryz.prog 245 #[.pointer (some ⟨v,0,none⟩)] W fun e w'=>e=.returned (.bool g)∧Below W.heap.size W w':=fun W h=>by rw[A];exact re2 v P _ _ _ aU aM W (s.below h s.lt) (f.below h f.lt)
 have C3:∀W,Below w.heap.size w W→Calls Tryz.prog 246 #[.pointer (some ⟨v,0,none⟩),.pointer (some ⟨Z,0,none⟩),.pointer (some ⟨X,0,none⟩),.pointer (some ⟨E,0,none⟩)] W fun e w'=>e=.returned (.bool j)∧Below W.heap.size W w':=fun W h=>by rw[C];exact re3 v Z X E P G _ _ _ _ _ _ _ mp mc pl aL op a aC W (s.below h s.lt) (D.below h D.lt) (n.below h n.lt) (K.below h K.lt) (f.below h f.lt) (U.below h U.lt) PB J N b2 hw
 have L:∀W,Below w.heap.size w W→Calls Tryz.prog 248 #[.pointer (some ⟨E,0,none⟩)] W fun e w'=>e=.returned (.bool c)∧Below W.heap.size W w':=fun W h=>by rw[F];exact re4 E _ _ _ steps W (K.below h K.lt)
 have z0:=Aq C1;have t1:=Aq O;have t4:=Aq C3;have r0:=Aq L;have HR:=Aq I;have hP:=I.lt;clear C1 O C3 L Q A C F hB n s D f K T U hm PB ha J N b2 hw M hl I;go_enter Tryz.func161,Tryz.ntmps161;go_wp2_with fail
 go_loopw [7] (fun i wr=>∃k:Nat,k≤4∧i=Aj k∧(0<k→d=true)∧(1<k→g=true)∧(2<k→j=true)∧(3<k→c=true)∧Below w.heap.size w wr) (fun i _=>4-(intOf i).toNat)
 case atStart=>exact⟨0,by omega,rfl,by simp,by simp,by simp,by simp,aI⟩
 case round =>
  obtain⟨k,hk,rfl,k1,k2,k3,k4,z⟩:=hrel;have y:=HR.o.below z hP;have fr:=y.frozen;have q:=z.size
  match k,hk with
  |0,_ =>
   have r:wr.cell? ⟨R,0,none⟩=_:=y.cell 0;have l:wr.cell? ⟨R,1,none⟩=_:=y.cell 1;simp at r l;clear y fr;go_wp2_with fail
   refine(z0.o _ (z.alloc q _)).mono ?_;rintro e w1⟨rfl,x⟩;have u:Below w.heap.size w w1:=(z.alloc q _).trans (x.mono (by simp;omega));have b:w1.cell? ⟨wr.heap.size,1,none⟩=_:=x.cell (p:=⟨wr.heap.size,1,none⟩) (by simp);simp[go_sem]at b;clear x;cases d with
   |false =>
    go_wp2;go_ret;exact⟨Fz (by have h:=H.o;simp_all),u⟩
   |true =>
    go_wp2;go_roundw
    case rel=>exact⟨1,by omega,by go_num,by simp_all,by simp_all,by simp_all,by simp_all,u⟩
    case measure=>simp[intOf]
  |1,_ =>
   have r:wr.cell? ⟨R,2,none⟩=_:=y.cell 2;have l:wr.cell? ⟨R,3,none⟩=_:=y.cell 3;simp at r l;clear y fr;go_wp2_with fail
   refine(t1.o _ (z.alloc q _)).mono ?_;rintro e w1⟨rfl,x⟩;have u:Below w.heap.size w w1:=(z.alloc q _).trans (x.mono (by simp;omega));have b:w1.cell? ⟨wr.heap.size,1,none⟩=_:=x.cell (p:=⟨wr.heap.size,1,none⟩) (by simp);simp[go_sem]at b;clear x;cases g with
   |false =>
    go_wp2;go_ret;exact⟨Fz (by have h:=H.o;simp_all),u⟩
   |true =>
    go_wp2;go_roundw
    case rel=>exact⟨2,by omega,by go_num,by simp_all,by simp_all,by simp_all,by simp_all,u⟩
    case measure=>simp[intOf]
  |2,_ =>
   have r:wr.cell? ⟨R,4,none⟩=_:=y.cell 4;have l:wr.cell? ⟨R,5,none⟩=_:=y.cell 5;simp at r l;clear y fr;go_wp2_with fail
   refine(t4.o _ (z.alloc q _)).mono ?_;rintro e w1⟨rfl,x⟩;have u:Below w.heap.size w w1:=(z.alloc q _).trans (x.mono (by simp;omega));have b:w1.cell? ⟨wr.heap.size,1,none⟩=_:=x.cell (p:=⟨wr.heap.size,1,none⟩) (by simp);simp[go_sem]at b;clear x;cases j with
   |false =>
    go_wp2;go_ret;exact⟨Fz (by have h:=H.o;simp_all),u⟩
   |true =>
    go_wp2;go_roundw
    case rel=>exact⟨3,by omega,by go_num,by simp_all,by simp_all,by simp_all,by simp_all,u⟩
    case measure=>simp[intOf]
  |3,_ =>
   have r:wr.cell? ⟨R,6,none⟩=_:=y.cell 6;have l:wr.cell? ⟨R,7,none⟩=_:=y.cell 7;simp at r l;clear y fr;go_wp2_with fail
   refine(r0.o _ (z.alloc q _)).mono ?_;rintro e w1⟨rfl,x⟩;have u:Below w.heap.size w w1:=(z.alloc q _).trans (x.mono (by simp;omega));have b:w1.cell? ⟨wr.heap.size,1,none⟩=_:=x.cell (p:=⟨wr.heap.size,1,none⟩) (by simp);simp[go_sem]at b;clear x;cases c with
   |false =>
    go_wp2;go_ret;exact⟨Fz (by have h:=H.o;simp_all),u⟩
   |true =>
    go_wp2;go_roundw
    case rel=>exact⟨4,by omega,by go_num,by simp_all,by simp_all,by simp_all,by simp_all,u⟩
    case measure=>simp[intOf]
  |4,_ =>
   clear y fr;go_wp2;go_ret;exact⟨Fz (by have h:=H.o;simp_all),z⟩
structure hH (w:World) (P G B:Nat) (Ac Af:Option Addr) (n cc m cf:Nat) (fs:List Bd.aa) (s:Bd.St):Prop where
 hP:aH w P 200 #[.slice Ac n cc,.slice Af m cf,.slice (some ⟨G,0,none⟩) (n+1) (n+1),Aj s.aU,Aj s.aM]
 hG:aH w G 197 (Df s.pl).toArray
 hF:aE w B 4 Af m (Ct fs)
 hB:B≤w.heap.size
 hBP:B≤P
 hBG:B≤G
 hm:m=fs.length
 hl:s.pl.length=n+1
structure fi (w:World) (P G B:Nat) (Ac Af:Option Addr) (n cc m cf:Nat) (fs:List Bd.aa) (r:Int×Bd.St) (e:Ending) (w':World):Prop where
 ret:e=.returned (Aj r.1)
 pf:hH w' P G B Ac Af n cc m cf fs r.2
 fr:Fr (fun k=>k=P∨k=G) w w'
theorem hH.below {w w':World}{P G B:Nat}{z u:Option Addr}{n cc m y:Nat}{fs:List Bd.aa}{s:Bd.St}(h:hH w P G B z u n cc m y fs s)(x:Below w.heap.size w w'):hH w' P G B z u n cc m y fs s :=
 ⟨h.hP.below x h.hP.lt,h.hG.below x h.hG.lt,h.hF.below x h.hB,Ex h.hB x.size,h.hBP,h.hBG,h.hm,h.hl⟩
theorem mV (P G B:Nat)(u y:Option Addr)(n cc m x:Nat)(fs:List Bd.aa)(s:Bd.St)(aL op a:Int)(w:World)(h:hH w P G B u y n cc m x fs s)(c:0≤aL)(g:aL<n)(d:n≤1000000000000000)
  (z:Bd.bp n fs.length aL (op,a)≠0) :
  Calls Tryz.prog 88 #[.pointer (some ⟨P,0,none⟩),Aj aL,.agg #[Aj op,Aj a]] w (fi w P G B u y n cc m x fs (Bd.look n fs s aL (op,a))):=by
 have q:Bd.look n fs s aL (op,a)=(Bd.bp n m aL (op,a),s):=by unfold Bd.look;rw[if_pos z,h.hm]
 have j:(Bd.bp n m aL (op,a) != 0)=true:=by rw[h.hm];simpa using z
 rw[q];have i:=h.hP.lt;have H:=Aq h;have f:=Aq h.hP;clear q z h;go_enter Tryz.func88,Tryz.ntmps88;go_wp2_with fail
 refine(Kw _ aL op a _).mono ?_;rintro e w'⟨rfl,rfl⟩;go_wp2_with fail
 refine(Iq (w.heap.size+1+1+1+1+1) (w.heap.size+1+1+1+1) (w.heap.size+1+1) (w.heap.size+1+1+1) P op a aL u y n cc m x _ _ _ _ (qH _ _ _ (by simp)) ((qH _ _ _ (by simp)).alloc _) ((((qH _ _ _ (by simp)).alloc _).alloc _).alloc _) (((qH _ _ _ (by simp)).alloc _).alloc _) (by exact(((((f.o.alloc _).alloc _).alloc _).alloc _).alloc _).alloc _) c (by omega) d).mono ?_;rintro e w'⟨rfl,v⟩;have p:Below w.heap.size w w':=qn (by repeat (first|exact aI|assumption|(refine ot ?_ (by first|omega|(simp;done)|(simp;omega)) _)|(refine ou ?_)|(refine below_drewN ?_ _)|(refine ov ?_ (by first|omega|(simp;done)|(simp;omega)) _))) (v.mono (by first|omega|(simp;done)|(simp;omega)|(simp only[World.size_alloc,pa];omega)));clear v;generalize Bd.bp n m aL (op,a)=r at *;go_wp2;go_ret;exact⟨rfl,H.o.below p,qN p (fun k b _=>b)⟩
theorem ms (P G B:Nat)(g d:Option Addr)(n cc m c:Nat)(fs:List Bd.aa)(s:Bd.St)(aL op a:Int)(w:World)(h:hH w P G B g d n cc m c fs s)(K:0≤aL)(R:aL<n)(V:n≤1000000000000000)
  (f:Bd.bp n fs.length aL (op,a)=0) (y:(Bd.bk s.pl aL).aR=false) :
  Calls Tryz.prog 88 #[.pointer (some ⟨P,0,none⟩),Aj aL,.agg #[Aj op,Aj a]] w (fi w P G B g d n cc m c fs (Bd.look n fs s aL (op,a))):=by
 have Y:Bd.look n fs s aL (op,a)=(0,s):=by unfold Bd.look;rw[if_neg (by rw[f];simp),if_pos y]
 have Q:=Aq (show Bd.bp n m aL (op,a)=0 by rw[h.hm];exact f);rw[Y];have U:=h.hP.lt;have v:=h.hG.lt;have H:=Aq h;have Z:=Aq h.hP;obtain⟨x,rfl⟩:=Dm K;obtain⟨q,r⟩:∃q,s.pl[x]?=some q:=⟨_,Bf (by have:=h.hl;omega)⟩;have X:Bd.bk s.pl (x:Int)=q:=by unfold Bd.bk;rw[Bo];simp[r]
 rw[X]at y;obtain⟨g0,b,p⟩:=Hp s.pl x q r;clear Y f h r X;obtain⟨C,j,l⟩:=q;simp only at y g0 b p;subst y;go_enter Tryz.func88,Tryz.ntmps88;go_wp2_with fail
 refine(Kw _ x op a _).mono ?_;rintro e w'⟨rfl,rfl⟩;go_wp2_with fail
 refine(Iq (w.heap.size+1+1+1+1+1) (w.heap.size+1+1+1+1) (w.heap.size+1+1) (w.heap.size+1+1+1) P op a x g d n cc m c _ _ _ _ (qH _ _ _ (by simp)) ((qH _ _ _ (by simp)).alloc _) ((((qH _ _ _ (by simp)).alloc _).alloc _).alloc _) (((qH _ _ _ (by simp)).alloc _).alloc _) (by exact(((((Z.o.alloc _).alloc _).alloc _).alloc _).alloc _).alloc _) K (by omega) V).mono ?_;rintro e w1⟨rfl,z⟩;have u:Below w.heap.size w w1:=qn (by repeat (first|exact aI|assumption|(refine ot ?_ (by first|omega|(simp;done)|(simp;omega)) _)|(refine ou ?_)|(refine below_drewN ?_ _)|(refine ov ?_ (by first|omega|(simp;done)|(simp;omega)) _))) (z.mono (by first|omega|(simp;done)|(simp;omega)|(simp only[World.size_alloc,pa];omega)));have v0:aH w1 w.heap.size 193 #[.pointer (some ⟨P,0,none⟩)]:=aH.below ((((((qH _ _ _ (by simp)).alloc _).alloc _).alloc _).alloc _).alloc _) z (by first|omega|(simp;done)|(simp;omega)|(simp only[World.size_alloc,pa];omega));have v1:aH w1 (w.heap.size+1) 96 #[Aj op,Aj a]:=aH.below (((((qH _ _ _ (by simp)).alloc _).alloc _).alloc _).alloc _) z (by first|omega|(simp;done)|(simp;omega)|(simp only[World.size_alloc,pa];omega));have F:w.heap.size+6≤w1.heap.size:=by have:=z.size;simp at this;omega
 rw[Q.o];clear z;have E:w1.cell? ⟨w.heap.size,0,none⟩=some (.pointer (some ⟨P,0,none⟩)):=by rw[v0.cell];rfl
 have I:w1.cell? ⟨P,2,none⟩=some (.slice (some ⟨G,0,none⟩) (n+1) (n+1)):=by rw[(Z.o.below u U).cell];rfl
 have J:w1.cell? ⟨G,x*3,none⟩=some (.bool false):=by rw[(H.o.hG.below u v).cell];simpa using g0
 have D:w1.cell? ⟨G,x*3+1,none⟩=some (Aj j):=by rw[(H.o.hG.below u v).cell];simpa using b
 have S:w1.cell? ⟨G,x*3+2,none⟩=some (Aj l):=by rw[(H.o.hG.below u v).cell];simpa using p
 have A:x<n+1:=by omega
 clear g0 b p v0 v1;go_wp2;go_ret;have i:=u.alloc (by omega) (.cells #[.bool false,Aj j,Aj l] 197);exact⟨rfl,H.o.below i,qN i (fun k y _=>y)⟩
theorem Yj (P G B:Nat)(c k:Option Addr)(n cc m v:Nat)(fs:List Bd.aa)(s:Bd.St)(aL op a:Int)(w:World)(h:hH w P G B c k n cc m v fs s)(q:Bd.Place)(r:Bd.kN q)(b:fs.all Bd.dB=true) (x:Bd.bp n fs.length aL (op,a)=0) :
  Calls Tryz.prog 163 #[.pointer (some ⟨P,0,none⟩),.agg #[.bool q.aR,Aj q.aC,Aj q.steps],.agg #[Aj op,Aj a]] w fun e w'=>e=.returned (.agg #[Aj (Bd.ay fs q (op,a)).aU,Aj (Bd.ay fs q (op,a)).aM,Aj (Bd.ay fs q (op,a)).aC,Aj (Bd.ay fs q (op,a)).steps])∧Below w.heap.size w w':=by
 obtain⟨q1,q2,q3,u⟩:=r;cases y:Bd.ao op with
 |false =>
  have e:Bd.ay fs q (op,a)=⟨Bd.aO op-q.aC,q.aC-Bd.aO op+Bd.aV op,q.aC-Bd.aO op+Bd.aV op,q.steps+1⟩:=by
   unfold Bd.ay;simp only;rw[if_neg (by rw[y];simp)]
  rw[e];exact bR _ _ _ _ _ _ _ q1 q2 q3 u y
 |true =>
  have z:0≤a∧a<fs.length:=by
   unfold Bd.bp at x;simp only at x;split at x
   ·simp at x
   ·split at x
    ·simp at x
    ·split at x
     ·simp at x
     ·rename_i p;simp[y]at p;exact p
  exact bT P B 0 _ _ _ _ k m v fs q.aR q.aC q.steps op a w q1 q2 q3 u y h.hP h.hF h.hB h.hm z.1 (by rw[h.hm];exact z.2) b rfl
end
end Go.Proofs.YtnhebmgibiomnaaGreat

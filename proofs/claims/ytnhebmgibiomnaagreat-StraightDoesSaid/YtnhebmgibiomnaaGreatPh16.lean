import Derived.BigQuiet
import Derived.BigRegion
import Derived.Deep.Light
import Derived.Deep.QuietTactic
import Derived.Deep.RegionHeld3
import Derived.Deep.RegionWith
import Derived.Laws.EntriesVeiled
import Derived.LoopIn
import Derived.LoopNIn
import Derived.OwnWalkIn
import Derived.RangeFuncBound
import Derived.RangeFuncCalls
import Derived.RangeFuncLeaves
import Derived.RangeFuncNested
import Derived.Shelf.Abstract
import Derived.Shelf.RegionOpen
import Derived.StillTailTactics
import Derived.TacticsInMore
import Derived.Test.YtnhebmgibiomnaaGreatProg
import Derived.Test.YtnhebmgibiomnaaGreatRows
import Derived.Test.YtnhebmgibiomnaaGreatPh0
import Derived.Test.YtnhebmgibiomnaaGreatPh3
set_option linter.unusedVariables false
set_option linter.unusedSimpArgs false
set_option maxRecDepth 100000
set_option maxHeartbeats 8000000
namespace Go.Proofs.YtnhebmgibiomnaaGreat
section
open Go.RowKit
def Cq:List (Int×Int)→List Value
 | []=>[]
 |x::r=>Aj x.1::Aj x.2::Cq r
theorem Fr.grown {S:Nat→Prop}{w W W':World}{row:Option Nat}(h:Fr S w W)(x:W.grownBy W' row)(u:∀r,row=some r→w.heap.size≤r):Fr S w W' :=
 ⟨x.os.trans h.os,x.tape.trans h.tape,x.output.trans h.output,Ex h.size x.size,fun k y z=>(x.block k (Dm y h.size) (fun e=>by have:=u k e.symm;omega)).trans (h.block k y z)⟩
theorem aH.fd {W W':World}{g:Nat}{t:TypeId}{cs:Array Value}{row:Option Nat}(h:aH W g t cs)(z:W.grownBy W' row) (u:∀r,row=some r→∃o:Obj,W.heap[r]?=some o∧o.isCells=false):aH W' g t cs :=
 h.grown z (fun e=>by
  obtain⟨o,x,y⟩:=u g e.symm;unfold aH at h;rw[h]at x
  injection x with x
  subst x;simp[Obj.isCells]at y)
def gR (w:World)(B:Nat)(v:Value) (l:List (Int×Int)):Prop:=∃A c,v=.slice A l.length c∧aE w B 2 A l.length (Cq l)
def cK (w:World)(B:Nat)(A:Option Addr) (ll:List (List (Int×Int))):Prop :=
 ∃vs:List Value,aE w B 1 A ll.length vs∧∀(i:Nat) (l:List (Int×Int)),ll[i]?=some l→∃v,vs[i]?=some v∧gR w B v l
theorem gR.below {w w':World}{B C:Nat}{v:Value} {l:List (Int×Int)} (h:gR w B v l) (y:Below C w w') (x:B≤C):gR w' B v l:=by
 obtain⟨A,c,e,z⟩:=h;exact⟨A,c,e,z.below y x⟩
theorem gR.a_ {w:World}{B B':Nat}{v:Value} {l:List (Int×Int)} (h:gR w B v l) (x:B≤B'):gR w B' v l:=by
 obtain⟨A,c,e,y⟩:=h;exact⟨A,c,e,y.a_ x⟩
theorem cK.below {w w':World}{B C:Nat}{A:Option Addr} {ll:List (List (Int×Int))} (h:cK w B A ll) (y:Below C w w') (x:B≤C):cK w' B A ll:=by
 obtain⟨vs,k,hi⟩:=h;exact⟨vs,k.below y x,fun i l z=>by obtain⟨v,p,u⟩:=hi i l z;exact⟨v,p,u.below y x⟩⟩
theorem cK.a_ {w:World}{B B':Nat}{A:Option Addr} {ll:List (List (Int×Int))} (h:cK w B A ll) (x:B≤B'):cK w B' A ll:=by
 obtain⟨vs,u,hi⟩:=h;exact⟨vs,u.a_ x,fun i l y=>by obtain⟨v,k,z⟩:=hi i l y;exact⟨v,k,z.a_ x⟩⟩
theorem Zjq {k y:IntKind}{a b x z:Int}(h:a=b)(u:x=z):Ending.returned (.tuple #[.int k a,.int y x])=.returned (.tuple #[.int k b,.int y z]):=by rw[h,u]
theorem Nk (op:Int)(w:World) :
  Calls Tryz.prog 243 #[Aj op] w fun e w'=>e=.returned (.tuple #[Aj (Bd.aO op),Aj (Bd.aV op)])∧w=w':=by
 go_enter Tryz.func243,Tryz.ntmps243;go_wp2
 all_goals (go_ret2;go_light;refine⟨Zjq ?_ ?_,rfl⟩ <;> simp_all [Bd.aO,Bd.aV])
theorem Ie (op a:Int)(w:World) :
  Calls Tryz.prog 240 #[.agg #[Aj op,Aj a]] w fun e w'=>e=.returned (.bool (Bd.az op))∧w.alloc (.cells #[Aj op,Aj a] 96)=w':=by
 by_cases h:op=35
 ·subst h;go_enter Tryz.func240,Tryz.ntmps240;go_wp2;go_ret;exact⟨rfl,rfl⟩
 ·have x:(op==35)=false:=by simpa using h
  have e:Bd.az op=(op==36):=by unfold Bd.az;rw[x];rfl
  rw[e];go_enter Tryz.func240,Tryz.ntmps240;go_wp2;go_ret;exact⟨rfl,rfl⟩
theorem Ik (op a:Int)(w:World) :
  Calls Tryz.prog 242 #[.agg #[Aj op,Aj a]] w fun e w'=>e=.returned (.bool (Bd.ao op))∧w.alloc (.cells #[Aj op,Aj a] 96)=w':=by
 by_cases h:op=37
 ·subst h;go_enter Tryz.func242,Tryz.ntmps242;go_wp2;go_ret;exact⟨rfl,rfl⟩
 ·have x:(op==37)=false:=by simpa using h
  have e:Bd.ao op=(op==38):=by unfold Bd.ao;rw[x];rfl
  rw[e];go_enter Tryz.func242,Tryz.ntmps242;go_wp2;go_ret;exact⟨rfl,rfl⟩
theorem Zbd (c:Bd.aa)(w:World) :
  Calls Tryz.prog 86 #[.agg #[Aj c.aU,Aj c.delta,Aj c.aL,Aj c.steps]] w fun e w'=>e=.returned (.bool (Bd.cw c))∧Below w.heap.size w w':=by
 obtain⟨n,d,p,s⟩:=c;simp only;go_enter Tryz.func86,Tryz.ntmps86;go_wp2
 all_goals (go_ret;go_light;refine⟨Cs ?_,?_⟩;(simp_all [Bd.cw] <;> omega);exact aI.alloc Aw _)
def Cp:List Bd.aa→List Value
 | []=>[]
 |c::r=>Aj c.aU::Aj c.delta::Aj c.aL::Aj c.steps::Cp r
def Db:List Bd.Place→List Value
 | []=>[]
 |p::r=>.bool p.aR::Aj p.aC::Aj p.steps::Db r
theorem Gv (l:List Bd.aa):∀(i:Nat) (c:Bd.aa),l[i]?=some c→(Cp l)[i*4]?=some (Aj c.aU)∧(Cp l)[i*4+1]?=some (Aj c.delta)∧(Cp l)[i*4+2]?=some (Aj c.aL)∧(Cp l)[i*4+3]?=some (Aj c.steps):=by
 induction l with
 |nil=>intro i c h;simp at h
 |cons d r ih =>
  intro i c h;cases i with
  |zero=>simp at h;subst h;simp[Cp]
  |succ i =>
   have:=ih i c (by simpa using h);rw[show (i+1)*4=i*4+4 by omega]
   simpa [Cp]using this
theorem Tj (l:List (Int×Int)):∀(i:Nat) (c:Int×Int),l[i]?=some c→(Cq l)[i*2]?=some (Aj c.1)∧(Cq l)[i*2+1]?=some (Aj c.2):=by
 induction l with
 |nil=>intro i c h;simp at h
 |cons d r ih =>
  intro i c h;cases i with
  |zero=>simp at h;subst h;simp[Cq]
  |succ i =>
   have:=ih i c (by simpa using h);rw[show (i+1)*2=i*2+2 by omega]
   simpa [Cq]using this
theorem Hj (l:List Bd.Place):∀(i:Nat) (c:Bd.Place),l[i]?=some c→(Db l)[i*3]?=some (.bool c.aR)∧(Db l)[i*3+1]?=some (Aj c.aC)∧(Db l)[i*3+2]?=some (Aj c.steps):=by
 induction l with
 |nil=>intro i c h;simp at h
 |cons d r ih =>
  intro i c h;cases i with
  |zero=>simp at h;subst h;simp[Db]
  |succ i =>
   have:=ih i c (by simpa using h);rw[show (i+1)*3=i*3+3 by omega]
   simpa [Db]using this
theorem bO (p:Value)(k:Bool)(h s op a:Int)(w:World)(d : -64≤h)(c:h≤32)(i:0≤s)(f:s≤4096)(x:Bd.ao op=false) :
  Calls Tryz.prog 163 #[p,.agg #[.bool k,Aj h,Aj s],.agg #[Aj op,Aj a]] w fun e w'=>e=.returned (.agg #[Aj (Bd.aO op-h),Aj (h-Bd.aO op+Bd.aV op),Aj (h-Bd.aO op+Bd.aV op),Aj (s+1)])∧Below w.heap.size w w':=by
 have b:=Bd.fe op;have g:=Bd.fJ op;have r:=Aq x;clear x;go_enter Tryz.func163,Tryz.ntmps163;go_wp2_with fail
 refine(Nk op _).mono ?_;rintro e w'⟨rfl,rfl⟩;generalize z:Bd.aO op=t at *;generalize y:Bd.aV op=l at *;have q:=Aq z;have u:=Aq y;clear z y;go_wp2_with fail
 refine(Ik op a _).mono ?_;rintro e w'⟨rfl,rfl⟩;rw[r.o];go_wp2_with fail
 refine bodyPost_ret (v:=.agg #[Aj (t-h),Aj (h-t+l),Aj (h-t+l),Aj (s+1)]) (by simp[results,Tryz.results163,go_sem]) rfl ⟨by rw[q.o,u.o],?_⟩;exact(by repeat (first|exact aI|assumption|(refine nu ?_ (by first|omega|(simp;done)|(simp;omega)) _)|(refine nw ?_)|(refine below_drewN ?_ _)|(refine ny ?_ (by first|omega|(simp;done)|(simp;omega)) _)))
theorem bR (P B K:Nat)(c0 c2 c3 c4:Value)(X:Option Addr)(m i:Nat)(fs:List Bd.aa)(k:Bool)(hi s op a:Int)(w:World)(hc : -64≤hi)(G:hi≤32)(d1:0≤s)(an:s≤4096)(p:Bd.ao op=true)
  (r:aH w P 200 #[c0,.slice X m i,c2,c3,c4]) (H:aE w B 4 X m (Cp fs)) (hB:B≤w.heap.size) (Q:m=fs.length) (R:0≤a) (hP:a<m) (f:fs.all Bd.cw=true) (D:K=0) :
  Calls Tryz.prog 163 #[.pointer (some ⟨P,K,none⟩),.agg #[.bool k,Aj hi,Aj s],.agg #[Aj op,Aj a]] w fun e w'=>e=.returned (.agg #[Aj (Bd.ay fs ⟨k,hi,s⟩ (op,a)).aU,Aj (Bd.ay fs ⟨k,hi,s⟩ (op,a)).aL,Aj (Bd.ay fs ⟨k,hi,s⟩ (op,a)).aC,Aj (Bd.ay fs ⟨k,hi,s⟩ (op,a)).steps])∧Below w.heap.size w w':=by
 subst D;have tb:=Bd.fe op;have lb:=Bd.fJ op;obtain⟨x,rfl⟩:=Ds R;obtain⟨cc,z⟩:∃cc,fs[x]?=some cc:=⟨_,Bg (by omega)⟩;have E:=Bd.gp (List.all_eq_true.1 f cc (Bx z));have n:Bd.fn fs (x:Int)=cc:=by unfold Bd.fn;rw[Bn];simp[z]
 have u:=Aq (show Bd.ay fs ⟨k,hi,s⟩ (op,(x:Int))=⟨max (Bd.aO op-hi) (cc.aU-(hi-Bd.aO op+Bd.aV op)),max (max (hi-Bd.aO op+Bd.aV op) ((hi-Bd.aO op+Bd.aV op)+cc.aL)) ((hi-Bd.aO op+Bd.aV op)+cc.delta),(hi-Bd.aO op+Bd.aV op)+cc.delta,s+1+(if op=38 then 16 else 1)*cc.steps⟩ by
  unfold Bd.ay;simp only;rw[if_pos p,n])
 obtain⟨b,off,rfl,HE,y⟩:=H.2 (by omega);obtain⟨g0,U,V,g⟩:=Gv fs x cc z;have C:=y _ _ g0;have d:=y _ _ U;have Y:=y _ _ V;have c:=y _ _ g;rw[←Lb]at d Y c;clear y g0 U V g z n H f;obtain⟨j,cd,Z,cs⟩:=cc;simp only at E C d Y c u;have S:=Aq p;clear p;have O:w.cell? ⟨P,1,none⟩=some (.slice (some ⟨b,off,none⟩) m i):=by rw[r.cell];rfl
 have F:=r.lt;have I:x<m:=by omega
 go_enter Tryz.func163,Tryz.ntmps163;go_wp2_with fail
 refine(Nk op _).mono ?_;rintro e w'⟨rfl,rfl⟩;generalize Bd.aO op=t at *;generalize Bd.aV op=l at *;go_wp2_with fail
 refine(Ik op x _).mono ?_;rintro e w'⟨rfl,rfl⟩;rw[S.o];have A:b<w.heap.size:=by omega
 obtain⟨u1,M,u3,J,N,u6,W,u8,u9,d3⟩:=lts F;obtain⟨v1,v2,v3,v4,v5,v6,T,v8,v9,v10⟩:=lts A;clear Q r;go_wp2_with fail
 go_region;by_cases q:op=38
 ·subst q;go_wp2_with fail
  all_goals (refine bodyPost_ret (v:=.agg #[Aj (max (t-hi) (j-(hi-t+l))),Aj (max (max (hi-t+l) (hi-t+l+Z)) (hi-t+l+cd)),Aj (hi-t+l+cd),Aj (s+1+16*cs)]) (by simp[results,Tryz.results163,go_sem] <;> omega) rfl ⟨by rw[u.o];simp,(by repeat (first|exact aI|assumption|(refine nu ?_ (by first|omega|(simp;done)|(simp;omega)) _)|(refine nw ?_)|(refine below_drewN ?_ _)|(refine ny ?_ (by first|omega|(simp;done)|(simp;omega)) _)))⟩)
 ·have L:(op==38)=false:=by simpa using q
  go_wp2_with fail
  all_goals (refine bodyPost_ret (v:=.agg #[Aj (max (t-hi) (j-(hi-t+l))),Aj (max (max (hi-t+l) (hi-t+l+Z)) (hi-t+l+cd)),Aj (hi-t+l+cd),Aj (s+1+cs)]) (by simp[results,Tryz.results163,go_sem] <;> omega) rfl ⟨by rw[u.o];simp[q],(by repeat (first|exact aI|assumption|(refine nu ?_ (by first|omega|(simp;done)|(simp;omega)) _)|(refine nw ?_)|(refine below_drewN ?_ _)|(refine ny ?_ (by first|omega|(simp;done)|(simp;omega)) _)))⟩)
theorem al1 (X:Nat)(op a:Int)(w:World) (x:aH w X 96 #[Aj op,Aj a]) :
  Calls Tryz.prog 238 #[.pointer (some ⟨X,0,none⟩)] w fun e w'=>e=.returned (.bool (decide (1≤op∧op≤39)))∧Below w.heap.size w w':=by
 have y:w.cell? ⟨X,0,none⟩=some (Aj op):=by rw[x.cell];rfl
 clear x;go_enter Tryz.func238,Tryz.ntmps238;go_wp2
 all_goals (go_ret;go_light;exact⟨Cs (by simp <;> omega),aI⟩)
theorem al2 (X p z P:Nat)(op a aK:Int)(A:Option Addr)(n c:Nat)(f c2 c3 c4:Value)(w:World) (y:aH w X 96 #[Aj op,Aj a]) (q:aH w p 193 #[.pointer (some ⟨P,0,none⟩)]) (s:aH w z 3 #[Aj aK])
  (r:aH w P 200 #[.slice A n c,f,c2,c3,c4]) (m:0≤aK) (Z:aK≤n) (Y:n≤1000000000000000) :
  Calls Tryz.prog 239 #[.pointer (some ⟨X,0,none⟩),.pointer (some ⟨p,0,none⟩),.pointer (some ⟨z,0,none⟩)] w fun e w'=>e=.returned (.bool (!(Bd.az op && !(decide (0≤a) && decide (a≤n-1-aK)))))∧Below w.heap.size w w':=by
 have U:w.cell? ⟨X,0,none⟩=some (Aj op):=by rw[y.cell];rfl
 have V:w.cell? ⟨X,1,none⟩=some (Aj a):=by rw[y.cell];rfl
 have q0:w.cell? ⟨p,0,none⟩=some (.pointer (some ⟨P,0,none⟩)):=by rw[q.cell];rfl
 have j:w.cell? ⟨z,0,none⟩=some (Aj aK):=by rw[s.cell];rfl
 have p0:w.cell? ⟨P,0,none⟩=some (.slice A n c):=by rw[r.cell];rfl
 have g:=y.lt;have l:=q.lt;have H:=s.lt;have Q:=r.lt;clear y q s r;cases u:Bd.az op with
 |false =>
  have k:=Aq u;clear u;go_enter Tryz.func239,Tryz.ntmps239;go_wp2_with fail
  refine wp_region_any (by kernel_rfl) ?_;change wpAny _ _ _ _ _ _ _ (World.drew _);refine wpAny_ready (rs:=[0]) (by kernel_rfl) (by simp) ?_;refine AllReady.cons rfl (fun K x=>?_) AllReady.nil;go_simp;refine x _ _ ?_;clear x K;refine wpAny_ready (rs:=[1]) (by kernel_rfl) (by simp) ?_;refine AllReady.cons rfl (fun K x=>?_) AllReady.nil;go_simp;refine(Ie op a _).mono ?_;rintro e w'⟨rfl,rfl⟩;rw[k.o];dsimp only;refine x _ _ ?_;clear x K;refine wpAny_take (i:=2) (v:=.bool true) rfl (by kernel_rfl) (by kernel_rfl) (by kernel_rfl) (fun _ _ _ h=>h) (Or.inl ⟨by kernel_rfl,fun w=>by first|(go_simp;done)|rfl⟩) ?_;refine wpAny_take (i:=3) (v:=.bool true) rfl (by kernel_rfl) (by kernel_rfl) (by kernel_rfl) (fun _ _ _ h=>h) (Or.inl ⟨by kernel_rfl,fun w=>by first|(go_simp;done)|rfl⟩) ?_;refine wpAny_take (i:=4) (v:=undef) rfl (by kernel_rfl) (by kernel_rfl) (by kernel_rfl) (fun _ _ _ h=>h) (Or.inr ⟨by kernel_rfl,rfl⟩) ?_;refine wpAny_take (i:=5) (v:=undef) rfl (by kernel_rfl) (by kernel_rfl) (by kernel_rfl) (fun _ _ _ h=>h) (Or.inr ⟨by kernel_rfl,rfl⟩) ?_;refine wpAny_take (i:=6) (v:=undef) rfl (by kernel_rfl) (by kernel_rfl) (by kernel_rfl) (fun _ _ _ h=>h) (Or.inr ⟨by kernel_rfl,rfl⟩) ?_;refine wpAny_take (i:=7) (v:=undef) rfl (by kernel_rfl) (by kernel_rfl) (by kernel_rfl) (fun _ _ _ h=>h) (Or.inr ⟨by kernel_rfl,rfl⟩) ?_;refine wpAny_take (i:=8) (v:=undef) rfl (by kernel_rfl) (by kernel_rfl) (by kernel_rfl) (fun _ _ _ h=>h) (Or.inr ⟨by kernel_rfl,rfl⟩) ?_
  refine wpAny_take (i:=9) (v:=undef) rfl (by kernel_rfl) (by kernel_rfl) (by kernel_rfl) (fun _ _ _ h=>h) (Or.inr ⟨by kernel_rfl,rfl⟩) ?_;refine wpAny_take (i:=10) (v:=undef) rfl (by kernel_rfl) (by kernel_rfl) (by kernel_rfl) (fun _ _ _ h=>h) (Or.inr ⟨by kernel_rfl,rfl⟩) ?_;refine wpAny_take (i:=11) (v:=undef) rfl (by kernel_rfl) (by kernel_rfl) (by kernel_rfl) (fun _ _ _ h=>h) (Or.inr ⟨by kernel_rfl,rfl⟩) ?_;refine wpAny_take (i:=12) (v:=undef) rfl (by kernel_rfl) (by kernel_rfl) (by kernel_rfl) (fun _ _ _ h=>h) (Or.inr ⟨by kernel_rfl,rfl⟩) ?_;refine wpAny_take (i:=13) (v:=undef) rfl (by kernel_rfl) (by kernel_rfl) (by kernel_rfl) (fun _ _ _ h=>h) (Or.inr ⟨by kernel_rfl,rfl⟩) ?_;refine wpAny_take (i:=14) (v:=undef) rfl (by kernel_rfl) (by kernel_rfl) (by kernel_rfl) (fun _ _ _ h=>h) (Or.inr ⟨by kernel_rfl,rfl⟩) ?_;refine wpAny_take (i:=15) (v:=undef) rfl (by kernel_rfl) (by kernel_rfl) (by kernel_rfl) (fun _ _ _ h=>h) (Or.inr ⟨by kernel_rfl,rfl⟩) ?_;refine wpAny_take (i:=16) (v:=undef) rfl (by kernel_rfl) (by kernel_rfl) (by kernel_rfl) (fun _ _ _ h=>h) (Or.inr ⟨by kernel_rfl,rfl⟩) ?_;refine wpAny_take (i:=17) (v:=undef) rfl (by kernel_rfl) (by kernel_rfl) (by kernel_rfl) (fun _ _ _ h=>h) (Or.inr ⟨by kernel_rfl,rfl⟩) ?_;refine wpAny_take (i:=18) (v:=undef) rfl (by kernel_rfl) (by kernel_rfl) (by kernel_rfl) (fun _ _ _ h=>h) (Or.inr ⟨by kernel_rfl,rfl⟩) ?_
  refine wpAny_take (i:=19) (v:=undef) rfl (by kernel_rfl) (by kernel_rfl) (by kernel_rfl) (fun _ _ _ h=>h) (Or.inr ⟨by kernel_rfl,rfl⟩) ?_;refine wpAny_take (i:=20) (v:=.bool true) rfl (by kernel_rfl) (by kernel_rfl) (by kernel_rfl) (fun _ _ _ h=>h) (Or.inl ⟨by kernel_rfl,fun w=>by first|(go_simp;done)|rfl⟩) ?_;refine wpAny_take (i:=21) (v:=.bool true) rfl (by kernel_rfl) (by kernel_rfl) (by kernel_rfl) (fun _ _ _ h=>h) (Or.inl ⟨by kernel_rfl,fun w=>by first|(go_simp;done)|rfl⟩) ?_;refine wpAny_done (by kernel_rfl) ?_ _;go_wp2;go_ret;refine⟨?_,(aI.alloc Aw _).drew⟩
  kernel_rfl
 |true =>
  have k:=Aq u;clear u;by_cases b:0≤a
  ·go_enter Tryz.func239,Tryz.ntmps239;go_wp2_with fail
   go_region_held3 (fun w'=>w'.cell? ⟨X,0,none⟩=some (Aj op)∧w'.cell? ⟨X,1,none⟩=some (Aj a)∧w'.cell? ⟨p,0,none⟩=some (.pointer (some ⟨P,0,none⟩))∧w'.cell? ⟨z,0,none⟩=some (Aj aK)∧w'.cell? ⟨P,0,none⟩=some (.slice A n c)) (go_keep)
    (first|(go_at_call 240;refine(Ie op a _).mono ?_;rintro e w'⟨rfl,rfl⟩;rw[k.o]))
   go_wp2;go_ret;exact⟨Cs (by rw[Do ((n:Int)-1) (by omega),Do _ (by omega)];simp[b]),(aI.alloc Aw _).drew⟩
  ·have d:decide (0≤a)=false:=by simpa using b
   go_enter Tryz.func239,Tryz.ntmps239;go_wp2_with fail
   refine wp_region_any (by kernel_rfl) ?_;change wpAny _ _ _ _ _ _ _ (World.drew _);refine wpAny_ready (rs:=[0]) (by kernel_rfl) (by simp) ?_;refine AllReady.cons rfl (fun K x=>?_) AllReady.nil;go_simp;refine x _ _ ?_;clear x K;refine wpAny_ready (rs:=[1]) (by kernel_rfl) (by simp) ?_;refine AllReady.cons rfl (fun K x=>?_) AllReady.nil;go_simp;refine(Ie op a _).mono ?_;rintro e w'⟨rfl,rfl⟩;rw[k.o];dsimp only;refine x _ _ ?_;clear x K;refine wpAny_take (i:=2) (v:=.bool false) rfl (by kernel_rfl) (by kernel_rfl) (by kernel_rfl) (fun _ _ _ h=>h) (Or.inl ⟨by kernel_rfl,fun w=>by first|(go_simp;done)|rfl⟩) ?_;refine wpAny_take (i:=3) (v:=.bool false) rfl (by kernel_rfl) (by kernel_rfl) (by kernel_rfl) (fun _ _ _ h=>h) (Or.inl ⟨by kernel_rfl,fun w=>by first|(go_simp;done)|rfl⟩) ?_;refine wpAny_take (i:=4) (v:=.pointer (some ⟨X,1,none⟩)) rfl (by kernel_rfl) (by kernel_rfl) (by kernel_rfl) (fun _ _ _ h=>h) (Or.inl ⟨by kernel_rfl,fun w=>by first|(go_simp;done)|rfl⟩) ?_;refine wpAny_ready (rs:=[5]) (by kernel_rfl) (by simp) ?_;refine AllReady.cons rfl (fun K x=>?_) AllReady.nil;go_simp;refine x _ _ ?_;clear x K;refine wpAny_take (i:=6) (v:=.bool false) rfl (by kernel_rfl) (by kernel_rfl) (by kernel_rfl) (fun _ _ _ h=>h) (Or.inl ⟨by kernel_rfl,fun w=>by first|(go_simp;done)|rfl⟩) ?_;refine wpAny_take (i:=7) (v:=.bool false) rfl (by kernel_rfl) (by kernel_rfl) (by kernel_rfl) (fun _ _ _ h=>h) (Or.inl ⟨by kernel_rfl,fun w=>by first|(go_simp;done)|rfl⟩) ?_
   refine wpAny_take (i:=8) (v:=undef) rfl (by kernel_rfl) (by kernel_rfl) (by kernel_rfl) (fun _ _ _ h=>h) (Or.inr ⟨by kernel_rfl,rfl⟩) ?_;refine wpAny_take (i:=9) (v:=undef) rfl (by kernel_rfl) (by kernel_rfl) (by kernel_rfl) (fun _ _ _ h=>h) (Or.inr ⟨by kernel_rfl,rfl⟩) ?_;refine wpAny_take (i:=10) (v:=undef) rfl (by kernel_rfl) (by kernel_rfl) (by kernel_rfl) (fun _ _ _ h=>h) (Or.inr ⟨by kernel_rfl,rfl⟩) ?_;refine wpAny_take (i:=11) (v:=undef) rfl (by kernel_rfl) (by kernel_rfl) (by kernel_rfl) (fun _ _ _ h=>h) (Or.inr ⟨by kernel_rfl,rfl⟩) ?_;refine wpAny_take (i:=12) (v:=undef) rfl (by kernel_rfl) (by kernel_rfl) (by kernel_rfl) (fun _ _ _ h=>h) (Or.inr ⟨by kernel_rfl,rfl⟩) ?_;refine wpAny_take (i:=13) (v:=undef) rfl (by kernel_rfl) (by kernel_rfl) (by kernel_rfl) (fun _ _ _ h=>h) (Or.inr ⟨by kernel_rfl,rfl⟩) ?_;refine wpAny_take (i:=14) (v:=undef) rfl (by kernel_rfl) (by kernel_rfl) (by kernel_rfl) (fun _ _ _ h=>h) (Or.inr ⟨by kernel_rfl,rfl⟩) ?_;refine wpAny_take (i:=15) (v:=undef) rfl (by kernel_rfl) (by kernel_rfl) (by kernel_rfl) (fun _ _ _ h=>h) (Or.inr ⟨by kernel_rfl,rfl⟩) ?_;refine wpAny_take (i:=16) (v:=undef) rfl (by kernel_rfl) (by kernel_rfl) (by kernel_rfl) (fun _ _ _ h=>h) (Or.inr ⟨by kernel_rfl,rfl⟩) ?_;refine wpAny_take (i:=17) (v:=undef) rfl (by kernel_rfl) (by kernel_rfl) (by kernel_rfl) (fun _ _ _ h=>h) (Or.inr ⟨by kernel_rfl,rfl⟩) ?_
   refine wpAny_take (i:=18) (v:=undef) rfl (by kernel_rfl) (by kernel_rfl) (by kernel_rfl) (fun _ _ _ h=>h) (Or.inr ⟨by kernel_rfl,rfl⟩) ?_;refine wpAny_take (i:=19) (v:=.bool false) rfl (by kernel_rfl) (by kernel_rfl) (by kernel_rfl) (fun _ _ _ h=>h) (Or.inl ⟨by kernel_rfl,fun w=>by first|(go_simp;done)|rfl⟩) ?_;refine wpAny_take (i:=20) (v:=.bool false) rfl (by kernel_rfl) (by kernel_rfl) (by kernel_rfl) (fun _ _ _ h=>h) (Or.inl ⟨by kernel_rfl,fun w=>by first|(go_simp;done)|rfl⟩) ?_;refine wpAny_take (i:=21) (v:=.bool false) rfl (by kernel_rfl) (by kernel_rfl) (by kernel_rfl) (fun _ _ _ h=>h) (Or.inl ⟨by kernel_rfl,fun w=>by first|(go_simp;done)|rfl⟩) ?_;refine wpAny_done (by kernel_rfl) ?_ _;go_wp2;go_ret;refine⟨?_,(aI.alloc Aw _).drew⟩;rw[d]
   kernel_rfl
theorem al3 (X k P:Nat)(op a:Int)(A:Option Addr)(n c:Nat)(c0 c2 c3 c4:Value)(w:World) (y:aH w X 96 #[Aj op,Aj a]) (p:aH w k 193 #[.pointer (some ⟨P,0,none⟩)])
  (q:aH w P 200 #[c0,.slice A n c,c2,c3,c4]) :
  Calls Tryz.prog 241 #[.pointer (some ⟨X,0,none⟩),.pointer (some ⟨k,0,none⟩)] w fun e w'=>e=.returned (.bool (!(Bd.ao op && !(decide (0≤a) && decide (a<n)))))∧Below w.heap.size w w':=by
 have f:w.cell? ⟨X,0,none⟩=some (Aj op):=by rw[y.cell];rfl
 have g:w.cell? ⟨X,1,none⟩=some (Aj a):=by rw[y.cell];rfl
 have q0:w.cell? ⟨k,0,none⟩=some (.pointer (some ⟨P,0,none⟩)):=by rw[p.cell];rfl
 have p0:w.cell? ⟨P,1,none⟩=some (.slice A n c):=by rw[q.cell];rfl
 have b:=y.lt;have d:=p.lt;have j:=q.lt;clear y p q;cases z:Bd.ao op with
 |false =>
  have u:=Aq z;clear z;go_enter Tryz.func241,Tryz.ntmps241;go_wp2_with fail
  refine wp_region_any (by kernel_rfl) ?_;change wpAny _ _ _ _ _ _ _ (World.drew _);refine wpAny_ready (rs:=[0]) (by kernel_rfl) (by simp) ?_;refine AllReady.cons rfl (fun K x=>?_) AllReady.nil;go_simp;refine x _ _ ?_;clear x K;refine wpAny_ready (rs:=[1]) (by kernel_rfl) (by simp) ?_;refine AllReady.cons rfl (fun K x=>?_) AllReady.nil;go_simp;refine(Ik op a _).mono ?_;rintro e w'⟨rfl,rfl⟩;rw[u.o];dsimp only;refine x _ _ ?_;clear x K;refine wpAny_take (i:=2) (v:=.bool true) rfl (by kernel_rfl) (by kernel_rfl) (by kernel_rfl) (fun _ _ _ h=>h) (Or.inl ⟨by kernel_rfl,fun w=>by first|(go_simp;done)|rfl⟩) ?_;refine wpAny_take (i:=3) (v:=.bool true) rfl (by kernel_rfl) (by kernel_rfl) (by kernel_rfl) (fun _ _ _ h=>h) (Or.inl ⟨by kernel_rfl,fun w=>by first|(go_simp;done)|rfl⟩) ?_;refine wpAny_take (i:=4) (v:=undef) rfl (by kernel_rfl) (by kernel_rfl) (by kernel_rfl) (fun _ _ _ h=>h) (Or.inr ⟨by kernel_rfl,rfl⟩) ?_;refine wpAny_take (i:=5) (v:=undef) rfl (by kernel_rfl) (by kernel_rfl) (by kernel_rfl) (fun _ _ _ h=>h) (Or.inr ⟨by kernel_rfl,rfl⟩) ?_;refine wpAny_take (i:=6) (v:=undef) rfl (by kernel_rfl) (by kernel_rfl) (by kernel_rfl) (fun _ _ _ h=>h) (Or.inr ⟨by kernel_rfl,rfl⟩) ?_;refine wpAny_take (i:=7) (v:=undef) rfl (by kernel_rfl) (by kernel_rfl) (by kernel_rfl) (fun _ _ _ h=>h) (Or.inr ⟨by kernel_rfl,rfl⟩) ?_;refine wpAny_take (i:=8) (v:=undef) rfl (by kernel_rfl) (by kernel_rfl) (by kernel_rfl) (fun _ _ _ h=>h) (Or.inr ⟨by kernel_rfl,rfl⟩) ?_
  refine wpAny_take (i:=9) (v:=undef) rfl (by kernel_rfl) (by kernel_rfl) (by kernel_rfl) (fun _ _ _ h=>h) (Or.inr ⟨by kernel_rfl,rfl⟩) ?_;refine wpAny_take (i:=10) (v:=undef) rfl (by kernel_rfl) (by kernel_rfl) (by kernel_rfl) (fun _ _ _ h=>h) (Or.inr ⟨by kernel_rfl,rfl⟩) ?_;refine wpAny_take (i:=11) (v:=undef) rfl (by kernel_rfl) (by kernel_rfl) (by kernel_rfl) (fun _ _ _ h=>h) (Or.inr ⟨by kernel_rfl,rfl⟩) ?_;refine wpAny_take (i:=12) (v:=undef) rfl (by kernel_rfl) (by kernel_rfl) (by kernel_rfl) (fun _ _ _ h=>h) (Or.inr ⟨by kernel_rfl,rfl⟩) ?_;refine wpAny_take (i:=13) (v:=undef) rfl (by kernel_rfl) (by kernel_rfl) (by kernel_rfl) (fun _ _ _ h=>h) (Or.inr ⟨by kernel_rfl,rfl⟩) ?_;refine wpAny_take (i:=14) (v:=undef) rfl (by kernel_rfl) (by kernel_rfl) (by kernel_rfl) (fun _ _ _ h=>h) (Or.inr ⟨by kernel_rfl,rfl⟩) ?_;refine wpAny_take (i:=15) (v:=undef) rfl (by kernel_rfl) (by kernel_rfl) (by kernel_rfl) (fun _ _ _ h=>h) (Or.inr ⟨by kernel_rfl,rfl⟩) ?_;refine wpAny_take (i:=16) (v:=undef) rfl (by kernel_rfl) (by kernel_rfl) (by kernel_rfl) (fun _ _ _ h=>h) (Or.inr ⟨by kernel_rfl,rfl⟩) ?_;refine wpAny_take (i:=17) (v:=.bool true) rfl (by kernel_rfl) (by kernel_rfl) (by kernel_rfl) (fun _ _ _ h=>h) (Or.inl ⟨by kernel_rfl,fun w=>by first|(go_simp;done)|rfl⟩) ?_;refine wpAny_take (i:=18) (v:=.bool true) rfl (by kernel_rfl) (by kernel_rfl) (by kernel_rfl) (fun _ _ _ h=>h) (Or.inl ⟨by kernel_rfl,fun w=>by first|(go_simp;done)|rfl⟩) ?_;refine wpAny_done (by kernel_rfl) ?_ _;go_wp2
  go_ret;refine⟨?_,(aI.alloc Aw _).drew⟩
  kernel_rfl
 |true =>
  have u:=Aq z;clear z;by_cases r:0≤a
  ·go_enter Tryz.func241,Tryz.ntmps241;go_wp2_with fail
   go_region_held3 (fun w'=>w'.cell? ⟨X,0,none⟩=some (Aj op)∧w'.cell? ⟨X,1,none⟩=some (Aj a)∧w'.cell? ⟨k,0,none⟩=some (.pointer (some ⟨P,0,none⟩))∧w'.cell? ⟨P,1,none⟩=some (.slice A n c)) (go_keep)
    (first|(go_at_call 242;refine(Ik op a _).mono ?_;rintro e w'⟨rfl,rfl⟩;rw[u.o]))
   go_wp2;go_ret;exact⟨Cs (by simp[r]),(aI.alloc Aw _).drew⟩
  ·have s:decide (0≤a)=false:=by simpa using r
   go_enter Tryz.func241,Tryz.ntmps241;go_wp2_with fail
   refine wp_region_any (by kernel_rfl) ?_;change wpAny _ _ _ _ _ _ _ (World.drew _);refine wpAny_ready (rs:=[0]) (by kernel_rfl) (by simp) ?_;refine AllReady.cons rfl (fun K x=>?_) AllReady.nil;go_simp;refine x _ _ ?_;clear x K;refine wpAny_ready (rs:=[1]) (by kernel_rfl) (by simp) ?_;refine AllReady.cons rfl (fun K x=>?_) AllReady.nil;go_simp;refine(Ik op a _).mono ?_;rintro e w'⟨rfl,rfl⟩;rw[u.o];dsimp only;refine x _ _ ?_;clear x K;refine wpAny_take (i:=2) (v:=.bool false) rfl (by kernel_rfl) (by kernel_rfl) (by kernel_rfl) (fun _ _ _ h=>h) (Or.inl ⟨by kernel_rfl,fun w=>by first|(go_simp;done)|rfl⟩) ?_;refine wpAny_take (i:=3) (v:=.bool false) rfl (by kernel_rfl) (by kernel_rfl) (by kernel_rfl) (fun _ _ _ h=>h) (Or.inl ⟨by kernel_rfl,fun w=>by first|(go_simp;done)|rfl⟩) ?_;refine wpAny_take (i:=4) (v:=.pointer (some ⟨X,1,none⟩)) rfl (by kernel_rfl) (by kernel_rfl) (by kernel_rfl) (fun _ _ _ h=>h) (Or.inl ⟨by kernel_rfl,fun w=>by first|(go_simp;done)|rfl⟩) ?_;refine wpAny_ready (rs:=[5]) (by kernel_rfl) (by simp) ?_;refine AllReady.cons rfl (fun K x=>?_) AllReady.nil;go_simp;refine x _ _ ?_;clear x K;refine wpAny_take (i:=6) (v:=.bool false) rfl (by kernel_rfl) (by kernel_rfl) (by kernel_rfl) (fun _ _ _ h=>h) (Or.inl ⟨by kernel_rfl,fun w=>by first|(go_simp;done)|rfl⟩) ?_;refine wpAny_take (i:=7) (v:=.bool false) rfl (by kernel_rfl) (by kernel_rfl) (by kernel_rfl) (fun _ _ _ h=>h) (Or.inl ⟨by kernel_rfl,fun w=>by first|(go_simp;done)|rfl⟩) ?_
   refine wpAny_take (i:=8) (v:=undef) rfl (by kernel_rfl) (by kernel_rfl) (by kernel_rfl) (fun _ _ _ h=>h) (Or.inr ⟨by kernel_rfl,rfl⟩) ?_;refine wpAny_take (i:=9) (v:=undef) rfl (by kernel_rfl) (by kernel_rfl) (by kernel_rfl) (fun _ _ _ h=>h) (Or.inr ⟨by kernel_rfl,rfl⟩) ?_;refine wpAny_take (i:=10) (v:=undef) rfl (by kernel_rfl) (by kernel_rfl) (by kernel_rfl) (fun _ _ _ h=>h) (Or.inr ⟨by kernel_rfl,rfl⟩) ?_;refine wpAny_take (i:=11) (v:=undef) rfl (by kernel_rfl) (by kernel_rfl) (by kernel_rfl) (fun _ _ _ h=>h) (Or.inr ⟨by kernel_rfl,rfl⟩) ?_;refine wpAny_take (i:=12) (v:=undef) rfl (by kernel_rfl) (by kernel_rfl) (by kernel_rfl) (fun _ _ _ h=>h) (Or.inr ⟨by kernel_rfl,rfl⟩) ?_;refine wpAny_take (i:=13) (v:=undef) rfl (by kernel_rfl) (by kernel_rfl) (by kernel_rfl) (fun _ _ _ h=>h) (Or.inr ⟨by kernel_rfl,rfl⟩) ?_;refine wpAny_take (i:=14) (v:=undef) rfl (by kernel_rfl) (by kernel_rfl) (by kernel_rfl) (fun _ _ _ h=>h) (Or.inr ⟨by kernel_rfl,rfl⟩) ?_;refine wpAny_take (i:=15) (v:=undef) rfl (by kernel_rfl) (by kernel_rfl) (by kernel_rfl) (fun _ _ _ h=>h) (Or.inr ⟨by kernel_rfl,rfl⟩) ?_;refine wpAny_take (i:=16) (v:=.bool false) rfl (by kernel_rfl) (by kernel_rfl) (by kernel_rfl) (fun _ _ _ h=>h) (Or.inl ⟨by kernel_rfl,fun w=>by first|(go_simp;done)|rfl⟩) ?_;refine wpAny_take (i:=17) (v:=.bool false) rfl (by kernel_rfl) (by kernel_rfl) (by kernel_rfl) (fun _ _ _ h=>h) (Or.inl ⟨by kernel_rfl,fun w=>by first|(go_simp;done)|rfl⟩) ?_
   refine wpAny_take (i:=18) (v:=.bool false) rfl (by kernel_rfl) (by kernel_rfl) (by kernel_rfl) (fun _ _ _ h=>h) (Or.inl ⟨by kernel_rfl,fun w=>by first|(go_simp;done)|rfl⟩) ?_;refine wpAny_done (by kernel_rfl) ?_ _;go_wp2;go_ret;refine⟨?_,(aI.alloc Aw _).drew⟩;rw[s]
   kernel_rfl
theorem re1 (X q P B:Nat)(op a:Int)(p:Option Addr)(m g:Nat)(fs:List Bd.aa)(c0 c2 c3 c4:Value)(w:World) (u:aH w X 96 #[Aj op,Aj a]) (c:aH w q 193 #[.pointer (some ⟨P,0,none⟩)])
  (d:aH w P 200 #[c0,.slice p m g,c2,c3,c4]) (v:aE w B 4 p m (Cp fs)) (s:m=fs.length) (k:op=38→0≤a∧a<m) :
  Calls Tryz.prog 244 #[.pointer (some ⟨X,0,none⟩),.pointer (some ⟨q,0,none⟩)] w fun e w'=>e=.returned (.bool (!(decide (op=38) && !((Bd.fn fs a).delta==0))))∧Below w.heap.size w w':=by
 have Y:w.cell? ⟨X,0,none⟩=some (Aj op):=by rw[u.cell];rfl
 have U:w.cell? ⟨X,1,none⟩=some (Aj a):=by rw[u.cell];rfl
 have q0:w.cell? ⟨q,0,none⟩=some (.pointer (some ⟨P,0,none⟩)):=by rw[c.cell];rfl
 have p0:w.cell? ⟨P,1,none⟩=some (.slice p m g):=by rw[d.cell];rfl
 clear u c d;by_cases x:op=38
 ·subst x;obtain⟨i,H⟩:=k rfl;obtain⟨y,rfl⟩:=Ds i;obtain⟨cc,z⟩:∃cc,fs[y]?=some cc:=⟨_,Bg (by omega)⟩;have j:=Aq (show Bd.fn fs (y:Int)=cc by unfold Bd.fn;rw[Bn];simp[z]);obtain⟨b,off,rfl,Z,r⟩:=v.2 (by omega);obtain⟨_,f,_,_⟩:=Gv fs y cc z;have l:=r _ _ f;rw[←Lb]at l;have n:y<m:=by omega
  clear r f z v s k;go_enter Tryz.func244,Tryz.ntmps244;go_wp2_with fail
  go_quiet (fail);go_wp2;go_ret;exact⟨Cs (by rw[j.o];simp),below_drewN aI _⟩
 ·have V:(op != 38)=true:=by simpa using x
  have K:(op==38)=false:=by simpa using x
  clear k s v;go_enter Tryz.func244,Tryz.ntmps244;go_wp2_with fail
  go_quiet (fail);go_wp2;go_ret;exact⟨Cs (by simp[x]),below_drewN aI _⟩
theorem re2 (y P:Nat)(c0 u c2:Value)(aU aL:Int)(w:World) (z:aH w y 193 #[.pointer (some ⟨P,0,none⟩)])
  (x:aH w P 200 #[c0,u,c2,Aj aU,Aj aL]) :
  Calls Tryz.prog 245 #[.pointer (some ⟨y,0,none⟩)] w fun e w'=>e=.returned (.bool (decide (aU≤32) && decide (aL≤32)))∧Below w.heap.size w w':=by
 have q0:w.cell? ⟨y,0,none⟩=some (.pointer (some ⟨P,0,none⟩)):=by rw[z.cell];rfl
 have k:w.cell? ⟨P,3,none⟩=some (Aj aU):=by rw[x.cell];rfl
 have v:w.cell? ⟨P,4,none⟩=some (Aj aL):=by rw[x.cell];rfl
 clear z x;go_enter Tryz.func245,Tryz.ntmps245;go_wp2
 all_goals (go_ret;go_light;refine⟨Cs ?_,aI⟩;(simp_all <;> omega))
theorem re4 (E:Nat)(c0 y c2:Value)(steps:Int)(w:World) (x:aH w E 238 #[c0,y,c2,Aj steps]) :
  Calls Tryz.prog 248 #[.pointer (some ⟨E,0,none⟩)] w fun e w'=>e=.returned (.bool (decide (steps≤4096)))∧Below w.heap.size w w':=by
 have z:w.cell? ⟨E,3,none⟩=some (Aj steps):=by rw[x.cell];rfl
 clear x;go_enter Tryz.func248,Tryz.ntmps248;go_wp2;go_ret;exact⟨rfl,aI⟩
theorem Ue (aK op a:Int)(w:World) :
  Calls Tryz.prog 165 #[Aj aK,.agg #[Aj op,Aj a]] w fun e w'=>e=.returned (.func (.func 249) #[] #[.pointer (some ⟨w.heap.size+1,0,none⟩),.pointer (some ⟨w.heap.size,0,none⟩)])∧(w.alloc (.cells #[Aj aK] 3)).alloc (.cells #[Aj op,Aj a] 96)=w':=by
 go_enter Tryz.func165,Tryz.ntmps165;go_wp2;go_ret;exact⟨rfl,rfl⟩
theorem Kk (q:Option Addr)(aK op a:Int)(w:World) :
  Calls Tryz.prog 162 #[.pointer q,Aj aK,.agg #[Aj op,Aj a]] w fun e w'=>e=.returned (.slice (some ⟨w.heap.size+1+1+1,0,none⟩) 3 3) ∧
   (((w.alloc (.cells #[.pointer q] 193)).alloc (.cells #[Aj aK] 3)).alloc (.cells #[Aj op,Aj a] 96)).alloc (.cells #[.func (.func 238) #[] #[.pointer (some ⟨w.heap.size+1+1,0,none⟩)],Aj 50,.func (.func 239) #[] #[.pointer (some ⟨w.heap.size+1+1,0,none⟩),.pointer (some ⟨w.heap.size,0,none⟩),.pointer (some ⟨w.heap.size+1,0,none⟩)],Aj 52,.func (.func 241) #[] #[.pointer (some ⟨w.heap.size+1+1,0,none⟩),.pointer (some ⟨w.heap.size,0,none⟩)],Aj 54] 263)=w':=by
 go_enter Tryz.func162,Tryz.ntmps162;go_wp2;go_ret;exact⟨rfl,rfl⟩
theorem Sj (q:Option Addr)(aK op a y z x u:Int)(w:World) :
  Calls Tryz.prog 164 #[.pointer q,Aj aK,.agg #[Aj op,Aj a],.agg #[Aj y,Aj z,Aj x,Aj u]] w fun e w'=>e=.returned (.slice (some ⟨w.heap.size+1+1+1+1,0,none⟩) 4 4) ∧
   ((((w.alloc (.cells #[.pointer q] 193)).alloc (.cells #[Aj aK] 3)).alloc (.cells #[Aj op,Aj a] 96)).alloc (.cells #[Aj y,Aj z,Aj x,Aj u] 238)).alloc (.cells #[.func (.func 244) #[] #[.pointer (some ⟨w.heap.size+1+1,0,none⟩),.pointer (some ⟨w.heap.size,0,none⟩)],Aj 51,.func (.func 245) #[] #[.pointer (some ⟨w.heap.size,0,none⟩)],Aj 51,
    .func (.func 246) #[] #[.pointer (some ⟨w.heap.size,0,none⟩),.pointer (some ⟨w.heap.size+1,0,none⟩),.pointer (some ⟨w.heap.size+1+1,0,none⟩),.pointer (some ⟨w.heap.size+1+1+1,0,none⟩)],Aj 51,.func (.func 248) #[] #[.pointer (some ⟨w.heap.size+1+1+1,0,none⟩)],Aj 53] 263)=w':=by
 go_enter Tryz.func164,Tryz.ntmps164;go_wp2;go_ret;exact⟨rfl,rfl⟩
end
section
open Go.RowKit Go.Shelf
attribute [local go_sem] Oper.semAt_some
abbrev Way (aK:Int)(x:Int×Int) := { t:Int // t∈Bd.ways aK x }
def lF (X x:Nat)(W W':World):Prop:=∀(b o:Nat) (v:Value),b=X∨b=x→W.cell? ⟨b,o,none⟩=some v→W'.cell? ⟨b,o,none⟩=some v
def Zgl (n l X z:Nat)(aK:Int)(x:Int×Int) (J u:List (Way aK x)→World→Prop):Prop :=
 ∀(pre:List (Way aK x)) (t:Way aK x) (y:World),J pre y→pre.length<2→YieldAt Fence.wide n Tryz.prog l #[Aj t.1] y fun e W' =>
  (e=.returned (.bool true)∧J (pre++[t]) W'∧lF X z y W')∨(e=.returned (.bool false)∧u (pre++[t]) W')
theorem Abides.cr {β:Type}{B:Nat}{J:β→World→Prop}(h:AbidesFrom B J){x:β}{W:World}(y:J x W)(o:Obj):J x (W.alloc o) :=
 h x W _ none y (World.grownBy_alloc _ _ _) (fun r e=>by cases e)
theorem Zhr (n l X b:Nat)(aK op a:Int) (J Z:List (Way aK (op,a))→World→Prop) (hn:1≤n) {B:Nat} (p:AbidesFrom B J) (w:AbidesFrom B Z)
  (u:Zgl (n-1) l X b aK (op,a) J Z) (W:World) (d:W.cell? ⟨X,0,none⟩=some (Aj op)) (D:W.cell? ⟨X,1,none⟩=some (Aj a)) (H:W.cell? ⟨b,0,none⟩=some (Aj aK)) (Q:J [] W)
  (b0:0≤aK) (b1:aK≤1000000000000000) (s:Bd.az op=true→0≤a∧a≤1000000000000000) :
  CallsIn Fence.wide n Tryz.prog 249 #[.func (.yield l) #[] #[],.pointer (some ⟨X,0,none⟩),.pointer (some ⟨b,0,none⟩)] W fun e W'=>(∃v,e=.returned v) ∧
   ((∃S:List (Way aK (op,a)),S.map (·.1)=Bd.ways aK (op,a)∧J S W')∨(∃pre:List (Way aK (op,a)),True∧Z pre W')):=by
 by_cases g:op=35
 ·subst g;obtain⟨M,N⟩:=s (by decide);have y:Bd.ways aK (35,a)=[aK+1+a]:=rfl;have z:aK+1+a∈Bd.ways aK (35,a):=by rw[y];simp
  obtain⟨fn,I,assign,body,c,k⟩:=u [] ⟨aK+1+a,z⟩ (W.alloc (.cells #[Aj 35,Aj a] 96)) (Abides.cr p Q _) (by simp);have K:=oQ W _ d;have U:=oQ W _ H;simp only at K U c;have i:=Aq k;have P:=Aq p;have T:=Aq w;have A:=Aq u;have m:=Aq y;clear k p w u y s;refine callsIn_of_wp Tryz.func249 rfl trivial ?_ rfl;simp only[Tryz.ntmps249,pT,Bo,Bw,Nat.reduceAdd,Nat.reduceSub,pU,pV,pW,pX,gs,oa]
  gi_wp2_with fail
  refine⟨fun _ h=>(by cases h),?_⟩
  gi_wp2_with fail
  refine⟨trivial,?_⟩;refine(callsIn_wide.2 (Ie 35 a _)).mono ?_;rintro e w'⟨rfl,rfl⟩;rw[show Bd.az 35=true from rfl]
  gi_wp2
  refine i.o.mono ?_;rintro e f (⟨rfl,j,r⟩|⟨rfl,Y⟩)
  ·gi_wp2
   go_end0;exact⟨⟨_,rfl⟩,.inl ⟨[⟨aK+1+a,z⟩],m.o.symm,j⟩⟩
  ·gi_wp2
   go_end0;exact⟨⟨_,rfl⟩,.inr ⟨_,trivial,Y⟩⟩
 ·have hj:(op != 35)=true:=by simpa using g
  have hJ:(op==35)=false:=by simpa using g
  have y:Bd.ways aK (op,a)=[aK+1]++(if Bd.az op=true then[aK+1+a] else[]):=by
   unfold Bd.ways;simp only;rw[if_neg g]
  have z:aK+1∈Bd.ways aK (op,a):=by rw[y];simp
  obtain⟨fn,I,assign,body,c,k⟩:=u [] ⟨aK+1,z⟩ W Q (by simp);have K:=oQ W _ d;have U:=oQ W _ H;simp only at K U c;have i:=Aq k;have P:=Aq p;have T:=Aq w;have A:=Aq u;have m:=Aq y;have HB:=Aq s;clear k p w u y s;refine callsIn_of_wp Tryz.func249 rfl trivial ?_ rfl;simp only[Tryz.ntmps249,pT,Bo,Bw,Nat.reduceAdd,Nat.reduceSub,pU,pV,pW,pX,gs,oa]
  gi_wp2_with fail
  refine i.o.mono ?_;clear c;rintro e f (⟨rfl,j,r⟩|⟨rfl,Y⟩)
  ·have G:=r X 0 _ (.inl rfl) d;have y1:=r X 1 _ (.inl rfl) D;have ya:=r b 0 _ (.inr rfl) H;have m1:=oQ f _ G;have F:=oQ f _ ya;simp only at m1 F;have R:=Aq j;clear d D H r j i
   gi_wp2_with fail
   refine⟨trivial,?_⟩;refine(callsIn_wide.2 (Ie op a _)).mono ?_;rintro e w'⟨rfl,rfl⟩;cases q:Bd.az op with
   |false =>
    have x:=m.o;rw[q]at x;have V:=Aq x;clear q x
    gi_wp2
    go_end0;exact⟨⟨_,rfl⟩,.inl ⟨[⟨aK+1,z⟩],by have h:=V.o.symm;simpa using h,Abides.cr P.o R.o _⟩⟩
   |true =>
    obtain⟨M,N⟩:=HB.o q;have x:=m.o;rw[q]at x;have E:aK+1+a∈Bd.ways aK (op,a):=by rw[x];simp
    obtain⟨b2,hR,hY,hy,ht,C⟩:=A.o ([]++[⟨aK+1,z⟩]) ⟨aK+1+a,E⟩ (f.alloc (.cells #[Aj op,Aj a] 96)) (Abides.cr P.o R.o _) (by simp);simp only at ht;have L:=Aq C;have V:=Aq x;clear q x C
    gi_wp2
    refine L.o.mono ?_;rintro e W4 (⟨rfl,hw,AT⟩|⟨rfl,O⟩)
    ·gi_wp2
     go_end0;exact⟨⟨_,rfl⟩,.inl ⟨[⟨aK+1,z⟩,⟨aK+1+a,E⟩],by have h:=V.o.symm;simpa using h,hw⟩⟩
    ·gi_wp2
     go_end0;exact⟨⟨_,rfl⟩,.inr ⟨_,trivial,O⟩⟩
  ·gi_wp2
   refine bodyPost_ret (results_none rfl _ _ _) rfl ?_;exact⟨⟨_,rfl⟩,.inr ⟨_,trivial,Y⟩⟩
end
section
open Go.RowKit Go.Shelf
attribute [local go_sem] Oper.semAt_some
theorem Zfs {X x:Nat}:∀{A B C:World},lF X x A B→lF X x B C→lF X x A C:=fun h k b o v y z=>k b o v y (h b o v y z)
theorem Zbm {X u:Nat}(W:World)(l:Nat)(o x:Obj) (z:W.heap[l]?=some o) (y:o.isCells=false):lF X u W (W.putObj l x):=by
 intro b f v _ h;exact cell_kept h (grownBy_putObj' W l x) (fun r e=>by cases e;exact⟨o,z,y⟩)
theorem Qw {X x B:Nat}{W W':World}(h:Below B W W')(u:X<B)(k:x<B):lF X x W W':=by
 intro b f v z y;rw[h.cell (p:=⟨b,f,none⟩) (by rcases z with rfl|rfl <;> assumption)];exact y
theorem Nj (n X x:Nat)(aK op a:Int)(d:1≤n)(w:World) (v:w.cell? ⟨X,0,none⟩=some (Aj op)) (i:w.cell? ⟨X,1,none⟩=some (Aj a)) (u:w.cell? ⟨x,0,none⟩=some (Aj aK))
  (q:0≤aK) (j:aK≤1000000000000000) (k:Bd.az op=true→0≤a∧a≤1000000000000000) :
  SeqStopsK Fence.wide n Tryz.prog 249 #[.pointer (some ⟨X,0,none⟩),.pointer (some ⟨x,0,none⟩)] (fun t:Way aK (op,a)=>#[Aj t.1]) (lF X x) (fun b=>b.map (·.1)=Bd.ways aK (op,a)) (fun _=>True) 2 w:=by
 intro l J f W y c e g r;have z:=oQ w _ v;have s:=oQ w _ u;exact Zhr n l X x aK op a J f d c e g W ((y.cell (p:=⟨X,0,none⟩) z).trans v) ((y.cell (p:=⟨X,1,none⟩) z).trans i) ((y.cell (p:=⟨x,0,none⟩) s).trans u) r q j k
theorem Yg (P G:Nat)(c0 c1 c3 c4:Value)(m mc:Nat)(pl:List Bd.Place)(aK op a aC:Int)(w:World) (Q:aH w P 200 #[c0,c1,.slice (some ⟨G,0,none⟩) m mc,c3,c4]) (Y:aH w G 197 (Db pl).toArray)
  (J:pl.length=m) (b0:0≤aK) (b1:aK≤1000000000000000) (S:Bd.az op=true→0≤a∧a≤1000000000000000) (E:∀t∈Bd.ways aK (op,a),0≤t∧t<m) :
  Calls Tryz.prog 247 #[.pointer (some ⟨P,0,none⟩),Aj aK,.agg #[Aj op,Aj a],Aj aC] w fun e w'=>e=.returned (.bool (Bd.ef pl aK (op,a) aC))∧Below w.heap.size w w':=by
 refine(callsIn_wide (n:=8)).1 ?_;refine callsIn_of_wp_marks Tryz.func247 rfl trivial ?_ rfl;simp only[Tryz.ntmps247,pT,Bo,Bw,Nat.reduceAdd,Nat.reduceSub,pU,pV,pW,pX,gs,oa]
 gi_wp2_with fail
 refine⟨trivial,?_⟩;refine(callsIn_wide.2 (Ue aK op a _)).mono ?_;rintro e w'⟨rfl,rfl⟩
 gi_wp2_with fail
 have hK:=Q.lt;have tn:=Y.lt;obtain⟨N,b⟩:∃N,N=w.heap.size:=⟨_,rfl⟩;rw[←b];obtain⟨z,v⟩:∃z,(((((w.alloc (.cells #[.pointer (some ⟨P,0,none⟩)] 193)).alloc (.cells #[Aj op,Aj a] 96)).alloc (.cells #[Aj aC] 3)).alloc (.cells #[.bool false] 4)).alloc (.cells #[Aj aK] 3)).alloc (.cells #[Aj op,Aj a] 96)=z:=⟨_,rfl⟩;have f2:z.heap.size=N+6:=by rw[←v,b];simp
 have g:Below w.heap.size w z:=by rw[←v];exact(by repeat (first|exact aI|assumption|(refine nu ?_ (by first|omega|(simp;done)|(simp;omega)) _)|(refine nw ?_)|(refine below_drewN ?_ _)|(refine ny ?_ (by first|omega|(simp;done)|(simp;omega)) _)))
 have H:aH z N 193 #[.pointer (some ⟨P,0,none⟩)]:=by rw[←v,b];exact(((((qv _ _ _).alloc _).alloc _).alloc _).alloc _).alloc _
 have i:aH z (N+1+1) 3 #[Aj aC]:=by rw[←v,b];exact(((qw _ _ _ (by simp)).alloc _).alloc _).alloc _
 have u:aH z (N+1+1+1) 4 #[.bool false]:=by rw[←v,b];exact((qw _ _ _ (by simp)).alloc _).alloc _
 have C:aH z (N+1+1+1+1) 3 #[Aj aK]:=by rw[←v,b];exact(qw _ _ _ (by simp)).alloc _
 have U:aH z (N+1+1+1+1+1) 96 #[Aj op,Aj a]:=by rw[←v,b];exact qw _ _ _ (by simp)
 have j:=Q.below g hK;have k:=Y.below g tn;rw[v];have hG:=Aq v;have HN:=Aq b;have f3:w.heap.size≤z.heap.size:=g.size;have fP:N≤w.heap.size∧w.heap.size≤N:=by omega
 have hs:z.heap.size≤N+6∧N+6≤z.heap.size:=by omega
 clear v b f2;refine wpIn_rangeFunc_ownG (α:=Way aK (op,a)) rfl (by omega) (gf:=249) (lb:=#[.pointer (some ⟨N+1+1+1+1+1,0,none⟩),.pointer (some ⟨N+1+1+1+1,0,none⟩)]) rfl trivial (enters_of Tryz.func249 (by kernel_rfl) rfl)
  (Nj 7 (N+1+1+1+1+1) (N+1+1+1+1) aK op a (by omega) z (by rw[U.cell];rfl) (by rw[U.cell];rfl) (by rw[C.cell];rfl) b0 b1 S) Zfs (fun W l o o' _ R h2 _=>Zbm W l o o' R h2) aI (fun _=>rfl)
  (fun pre W=>(∀t∈pre,Bd.gM pl aC t.1=true)∧Below z.heap.size z W)
  (fun c _ W=>(c=.ret∧Bd.ef pl aK (op,a) aC=false∧W.cell? ⟨N+1+1+1,0,none⟩=some (.bool false))∧Below w.heap.size w W)
  (OwnFrom.and (fun s A B row Z hg hr=>Z) (ownFrom_below Aw Aw))
  (fun c=>OwnFrom.and (fun s A B row Z hg hr=>⟨Z.1,Z.2.1,cell_kept Z.2.2 hg (fun r e=>(hr r e).2)⟩) (ownFrom_below Aw (by omega)))
  ⟨by simp,aI⟩
  (fun x => { tmps:=#[.pointer (some ⟨P,0,none⟩),Aj aK,.agg #[Aj op,Aj a],Aj aC,.pointer (some ⟨N,0,none⟩),undef,.pointer (some ⟨N+1,0,none⟩),.pointer (some ⟨N+1+1,0,none⟩),.pointer (some ⟨N+1+1+1,0,none⟩),Aj x.1,undef,Aj aK,.agg #[Aj op,Aj a],.func (.func 249) #[] #[.pointer (some ⟨N+1+1+1+1+1,0,none⟩),.pointer (some ⟨N+1+1+1+1,0,none⟩)],Aj x.1,undef,undef,undef,undef,undef,undef,undef,undef,undef,undef,undef,undef,undef,undef,undef],defers:=[] }) ?assign ?body ?done ?stop
 case assign =>
  intro l x W K d
  gi_wp2
  exact d
 case body =>
  rintro l pre⟨t,F⟩ W ⟨X,y⟩ _;obtain⟨t0,t1⟩:=E t F;obtain⟨p,rfl⟩:=Ds t0;obtain⟨q,I⟩:∃q,pl[p]?=some q:=⟨_,Bg (by omega)⟩;have hB:Bd.bj pl (p:Int)=q:=by unfold Bd.bj;rw[Bn];simp[I]
  have V:Bd.gM pl aC (p:Int) = !(q.aR && (q.aC != aC)):=by unfold Bd.gM;rw[hB]
  obtain⟨g0,g1,g2⟩:=Hj pl p q I;have e0:W.cell? ⟨N,0,none⟩=some (.pointer (some ⟨P,0,none⟩)):=by rw[(H.below y H.lt).cell];rfl
  have eP:W.cell? ⟨P,2,none⟩=some (.slice (some ⟨G,0,none⟩) m mc):=by rw[(j.below y j.lt).cell];rfl
  have eh:W.cell? ⟨N+1+1,0,none⟩=some (Aj aC):=by rw[(i.below y i.lt).cell];rfl
  have er:W.cell? ⟨N+1+1+1,0,none⟩=some (.bool false):=by rw[(u.below y u.lt).cell];rfl
  have fr:W.frozen? ⟨N+1+1+1,0,none⟩=false:=(u.below y u.lt).frozen 0;have d0:W.cell? ⟨G,p*3,none⟩=some (.bool q.aR):=by rw[(k.below y k.lt).cell];simpa using g0
  have d1:W.cell? ⟨G,p*3+1,none⟩=some (Aj q.aC):=by rw[(k.below y k.lt).cell];simpa using g1
  have d2:W.cell? ⟨G,p*3+2,none⟩=some (Aj q.steps):=by rw[(k.below y k.lt).cell];simpa using g2
  have f5:p<m:=by omega
  have z1:N<W.heap.size:=by have:=y.size;omega
  have z2:N+1+1<W.heap.size:=by have:=y.size;omega
  have z3:N+1+1+1<W.heap.size:=by have:=y.size;omega
  have z4:P<W.heap.size:=by have:=y.size;omega
  have z5:G<W.heap.size:=by have:=y.size;omega
  have f:=Aq V;have HP:=Aq X;clear V hB g0 g1 g2 I E X H i u C U j k Q Y J S;obtain⟨qk,qh,qs⟩:=q;simp only at d0 d1 d2 f;cases qk with
  |false =>
   gi_wp2
   exact⟨(KeepsOthers.alloc _ _).from _,Qw (aI.alloc Aw _) (by have:=y.size;omega) (by have:=y.size;omega),by
    intro t' O;rcases List.mem_append.1 O with h|h
    ·exact HP.o t' h
    ·simp at h;subst h;exact f.o,y.alloc y.size _⟩
  |true =>
   by_cases T:qh=aC
   ·subst T
    gi_wp2
    exact⟨(KeepsOthers.alloc _ _).from _,Qw (aI.alloc Aw _) (by have:=y.size;omega) (by have:=y.size;omega),by
     intro t' O;rcases List.mem_append.1 O with h|h
     ·exact HP.o t' h
     ·simp at h;subst h;rw[f.o];simp,y.alloc y.size _⟩
   ·have f0:(qh != aC)=true:=by simpa using T
    gi_wp2
    refine⟨(KeepsOthers.trans (KeepsOthers.setCell _ _ _) (KeepsOthers.alloc _ _)).from _,⟨rfl,?_,?_⟩,?_⟩
    ·have R:Bd.gM pl aC (p:Int)=false:=by rw[f.o];simp[T]
     unfold Bd.ef;rw[List.all_eq_false];exact⟨_,F,by rw[R];simp⟩
    ·rw[Cb _ _ _ (by simpa [World.setCell]using z3)];exact World.cell?_setCell_same' _ _ _ (by rw[er];rfl)
    ·exact((g.trans (y.mono f3)).setCell (by simp only;omega) _).alloc (by have:=y.size;simp[World.setCell];omega) _
 case done =>
  rintro D ys W hD hS⟨X,y⟩ d;have W0:Bd.ef pl aK (op,a) aC=true:=by
   unfold Bd.ef;rw[←hS,List.all_eq_true];intro t F;obtain⟨t',R,rfl⟩:=List.mem_map.1 F;exact X t' R
  have er:W.cell? ⟨N+1+1+1,0,none⟩=some (.bool false):=by rw[(u.below y u.lt).cell];rfl
  have fr:W.frozen? ⟨N+1+1+1,0,none⟩=false:=(u.below y u.lt).frozen 0;have fG:=Aq W0;clear W0 X hS H i u C U j k Q Y J S E
  gi_wp2
  have L:=(KeepsOthers.setCell W ⟨N+1+1+1,0,none⟩ (.bool true)).same D _ d rfl;refine⟨by simp,.inl ⟨_,_,rfl,run_takeDeferred L,?_⟩⟩;have M:=cell_kept (World.cell?_setCell_same' W ⟨N+1+1+1,0,none⟩ (.bool true) (by rw[er];rfl)) (grownBy_putObj' _ D (.deferred none)) (fun r e=>by cases e;exact⟨_,L,rfl⟩);refine⟨.bool true,?_,by rw[fG.o],?_⟩
  ·simp[results,Tryz.results247,go_sem,M]
  ·exact((g.trans (y.mono f3)).setCell (by simp only;omega) _).trans (belowK_b (w:=w) Aw _ D _ _ (by omega) L rfl rfl)
 case stop =>
  rintro D c pre W hD _⟨⟨rfl,V,hN⟩,y⟩ d;have f:=Aq V;clear V H i u C U j k Q Y J S E
  gi_wp2
  refine⟨by simp,.inl ⟨_,_,rfl,run_takeDeferred d,?_⟩⟩;have M:=cell_kept hN (grownBy_putObj' _ D (.deferred none)) (fun r e=>by cases e;exact⟨_,d,rfl⟩);refine⟨.bool false,?_,by rw[f.o],?_⟩
  ·simp[results,Tryz.results247,go_sem,M]
  ·exact y.trans (belowK_b (w:=w) Aw _ D _ _ (by omega) d rfl rfl)
end
section
open Go.RowKit
theorem re3 (z y X E P G:Nat)(c0 q c3 c4 f l i:Value)(m mc:Nat)(pl:List Bd.Place)(aK op a aC:Int)(w:World) (k:aH w z 193 #[.pointer (some ⟨P,0,none⟩)]) (s:aH w y 3 #[Aj aK]) (x:aH w X 96 #[Aj op,Aj a]) (p:aH w E 238 #[f,l,Aj aC,i])
  (r:aH w P 200 #[c0,q,.slice (some ⟨G,0,none⟩) m mc,c3,c4]) (c:aH w G 197 (Db pl).toArray)
  (v:pl.length=m) (d:0≤aK) (n:aK≤1000000000000000) (u:Bd.az op=true→0≤a∧a≤1000000000000000) (b:∀t∈Bd.ways aK (op,a),0≤t∧t<m) :
  Calls Tryz.prog 246 #[.pointer (some ⟨z,0,none⟩),.pointer (some ⟨y,0,none⟩),.pointer (some ⟨X,0,none⟩),.pointer (some ⟨E,0,none⟩)] w fun e w'=>e=.returned (.bool (Bd.ef pl aK (op,a) aC))∧Below w.heap.size w w':=by
 have q0:w.cell? ⟨z,0,none⟩=some (.pointer (some ⟨P,0,none⟩)):=by rw[k.cell];rfl
 have H:w.cell? ⟨y,0,none⟩=some (Aj aK):=by rw[s.cell];rfl
 have Y:w.cell? ⟨X,0,none⟩=some (Aj op):=by rw[x.cell];rfl
 have Z:w.cell? ⟨X,1,none⟩=some (Aj a):=by rw[x.cell];rfl
 have K:w.cell? ⟨E,2,none⟩=some (Aj aC):=by rw[p.cell];rfl
 have g:=Aq (Yg P G c0 q c3 c4 m mc pl aK op a aC w r c v d n u b);clear k s x p r c v u b;go_enter Tryz.func246,Tryz.ntmps246;go_wp2_with fail
 refine g.o.mono ?_;rintro e w'⟨rfl,j⟩;go_wp2;go_ret;exact⟨rfl,j⟩
theorem Ii (R X b K P:Nat)(op a aK:Int)(A M:Option Addr)(n c m L:Nat)(c2 c3 c4:Value)(w:World)
  (V:aH w R 263 #[.func (.func 238) #[] #[.pointer (some ⟨X,0,none⟩)],Aj 50,.func (.func 239) #[] #[.pointer (some ⟨X,0,none⟩),.pointer (some ⟨b,0,none⟩),.pointer (some ⟨K,0,none⟩)],Aj 52,.func (.func 241) #[] #[.pointer (some ⟨X,0,none⟩),.pointer (some ⟨b,0,none⟩)],Aj 54])
  (v:aH w X 96 #[Aj op,Aj a]) (f:aH w b 193 #[.pointer (some ⟨P,0,none⟩)]) (Q:aH w K 3 #[Aj aK])
  (l:aH w P 200 #[.slice A n c,.slice M m L,c2,c3,c4]) (E:0≤aK) (I:aK≤n) (G:n≤1000000000000000) :
  Calls Tryz.prog 161 #[.slice (some ⟨R,0,none⟩) 3 3] w fun e w'=>e=.returned (Aj (Bd.bn n m aK (op,a)))∧Below w.heap.size w w':=by
 obtain⟨r,Z⟩:∃r,r=decide (1≤op∧op≤39):=⟨_,rfl⟩;obtain⟨q,U⟩:∃q,q = !(Bd.az op && !(decide (0≤a) && decide (a≤n-1-aK))):=⟨_,rfl⟩;obtain⟨s,B⟩:∃s,s = !(Bd.ao op && !(decide (0≤a) && decide (a<m))):=⟨_,rfl⟩;have J:Bd.bn n m aK (op,a)=if r=false then 50 else if q=false then 52 else if s=false then 54 else 0:=by
  unfold Bd.bn;simp only;rw[Z,U,B];simp
 rw[J];obtain⟨lK,S⟩:∃lK:Int,lK=if r=false then 50 else if q=false then 52 else if s=false then 54 else 0:=⟨_,rfl⟩
 rw[←S];have Y:=Aq S;clear S;have D:∀W,Below w.heap.size w W→Calls Tryz.prog 238 #[.pointer (some ⟨X,0,none⟩)] W fun e w'=>e=.returned (.bool r)∧Below W.heap.size W w':=fun W h=>by rw[Z];exact al1 X op a W (v.below h v.lt)
 have F:∀W,Below w.heap.size w W→Calls Tryz.prog 239 #[.pointer (some ⟨X,0,none⟩),.pointer (some ⟨b,0,none⟩),.pointer (some ⟨K,0,none⟩)] W fun e w'=>e=.returned (.bool q)∧Below W.heap.size W w':=fun W h=>by rw[U];exact al2 X b K P op a aK A n c _ _ _ _ W (v.below h v.lt) (f.below h f.lt) (Q.below h Q.lt) (l.below h l.lt) E I G
 have C:∀W,Below w.heap.size w W→Calls Tryz.prog 241 #[.pointer (some ⟨X,0,none⟩),.pointer (some ⟨b,0,none⟩)] W fun e w'=>e=.returned (.bool s)∧Below W.heap.size W w':=fun W h=>by rw[B];exact al3 X b P op a M m L _ _ _ _ W (v.below h v.lt) (f.below h f.lt) (l.below h l.lt)
 have O:=Aq D;have hX:=Aq F;have N:=Aq C;have T:=Aq V;have hB:=V.lt;clear D F C Z U B J v f Q l E I G V;go_enter Tryz.func161,Tryz.ntmps161;go_wp2_with fail
 go_loopw [7] (fun i wr=>∃k:Nat,k≤3∧i=Aj k∧(0<k→r=true)∧(1<k→q=true)∧(2<k→s=true)∧Below w.heap.size w wr) (fun i _=>3-(intOf i).toNat)
 case atStart=>exact⟨0,by omega,rfl,by simp,by simp,by simp,aI⟩
 case round =>
  obtain⟨k,hk,rfl,k1,k2,k3,z⟩:=hrel;have x:=T.o.below z hB;have fr:=x.frozen;have d:=z.size
  match k,hk with
  |0,_ =>
   have j:wr.cell? ⟨R,0,none⟩=_:=x.cell 0;have H:wr.cell? ⟨R,1,none⟩=_:=x.cell 1;simp at j H;clear x fr;go_wp2_with fail
   refine(O.o _ (z.alloc d _)).mono ?_;rintro e w1⟨rfl,y⟩;have u:Below w.heap.size w w1:=(z.alloc d _).trans (y.mono (by simp;omega));have g:w1.cell? ⟨wr.heap.size,1,none⟩=_:=y.cell (p:=⟨wr.heap.size,1,none⟩) (by simp);simp[go_sem]at g;clear y;cases r with
   |false =>
    go_wp2;go_ret;exact⟨Fp (by have h:=Y.o;simp_all),u⟩
   |true =>
    go_wp2;go_roundw
    case rel=>exact⟨1,by omega,by go_num,by simp_all,by simp_all,by simp_all,u⟩
    case measure=>simp[intOf]
  |1,_ =>
   have j:wr.cell? ⟨R,2,none⟩=_:=x.cell 2;have H:wr.cell? ⟨R,3,none⟩=_:=x.cell 3;simp at j H;clear x fr;go_wp2_with fail
   refine(hX.o _ (z.alloc d _)).mono ?_;rintro e w1⟨rfl,y⟩;have u:Below w.heap.size w w1:=(z.alloc d _).trans (y.mono (by simp;omega));have g:w1.cell? ⟨wr.heap.size,1,none⟩=_:=y.cell (p:=⟨wr.heap.size,1,none⟩) (by simp);simp[go_sem]at g;clear y;cases q with
   |false =>
    go_wp2;go_ret;exact⟨Fp (by have h:=Y.o;simp_all),u⟩
   |true =>
    go_wp2;go_roundw
    case rel=>exact⟨2,by omega,by go_num,by simp_all,by simp_all,by simp_all,u⟩
    case measure=>simp[intOf]
  |2,_ =>
   have j:wr.cell? ⟨R,4,none⟩=_:=x.cell 4;have H:wr.cell? ⟨R,5,none⟩=_:=x.cell 5;simp at j H;clear x fr;go_wp2_with fail
   refine(N.o _ (z.alloc d _)).mono ?_;rintro e w1⟨rfl,y⟩;have u:Below w.heap.size w w1:=(z.alloc d _).trans (y.mono (by simp;omega));have g:w1.cell? ⟨wr.heap.size,1,none⟩=_:=y.cell (p:=⟨wr.heap.size,1,none⟩) (by simp);simp[go_sem]at g;clear y;cases s with
   |false =>
    go_wp2;go_ret;exact⟨Fp (by have h:=Y.o;simp_all),u⟩
   |true =>
    go_wp2;go_roundw
    case rel=>exact⟨3,by omega,by go_num,by simp_all,by simp_all,by simp_all,u⟩
    case measure=>simp[intOf]
  |3,_ =>
   clear x fr;go_wp2;go_ret;exact⟨Fp (by have h:=Y.o;simp_all),z⟩
theorem Pm (R X v Y E P G B:Nat)(op a aK aU aL:Int)(c0 e0 e1:Value)(F:Option Addr)(m cf mp mc:Nat)(fs:List Bd.aa)(pl:List Bd.Place)(aC steps:Int)(w:World)
  (S:aH w R 263 #[.func (.func 244) #[] #[.pointer (some ⟨X,0,none⟩),.pointer (some ⟨v,0,none⟩)],Aj 51,.func (.func 245) #[] #[.pointer (some ⟨v,0,none⟩)],Aj 51,.func (.func 246) #[] #[.pointer (some ⟨v,0,none⟩),.pointer (some ⟨Y,0,none⟩),.pointer (some ⟨X,0,none⟩),.pointer (some ⟨E,0,none⟩)],Aj 51,.func (.func 248) #[] #[.pointer (some ⟨E,0,none⟩)],Aj 53])
  (K:aH w X 96 #[Aj op,Aj a]) (s:aH w v 193 #[.pointer (some ⟨P,0,none⟩)]) (D:aH w Y 3 #[Aj aK]) (H:aH w E 238 #[e0,e1,Aj aC,Aj steps])
  (j:aH w P 200 #[c0,.slice F m cf,.slice (some ⟨G,0,none⟩) mp mc,Aj aU,Aj aL]) (hF:aE w B 4 F m (Cp fs)) (r0:B≤w.heap.size) (N:m=fs.length) (A:aH w G 197 (Db pl).toArray)
  (hl:pl.length=mp) (ha:op=38→0≤a∧a<m) (b0:0≤aK) (b1:aK≤1000000000000000) (M:Bd.az op=true→0≤a∧a≤1000000000000000) (hw:∀t∈Bd.ways aK (op,a),0≤t∧t<mp) (Z:Bd.lr) (hB:Z.aC=aC) (T:Z.steps=steps) :
  Calls Tryz.prog 161 #[.slice (some ⟨R,0,none⟩) 4 4] w fun e w'=>e=.returned (Aj (Bd.dS fs pl aU aL aK (op,a) Z))∧Below w.heap.size w w':=by
 obtain⟨l,U⟩:∃l,l = !(decide (op=38) && !((Bd.fn fs a).delta==0)):=⟨_,rfl⟩;obtain⟨f,I⟩:∃f,f=(decide (aU≤32) && decide (aL≤32)):=⟨_,rfl⟩;obtain⟨d,Q⟩:∃d,d=Bd.ef pl aK (op,a) aC:=⟨_,rfl⟩;obtain⟨c,C⟩:∃c,c=decide (steps≤4096):=⟨_,rfl⟩;have PB:Bd.dS fs pl aU aL aK (op,a) Z=if l=false then 51 else if f=false then 51 else if d=false then 51 else if c=false then 53 else 0:=by
  unfold Bd.dS;simp only;rw[U,I,Q,C,hB,T];simp
 rw[PB];obtain⟨lK,V⟩:∃lK:Int,lK=if l=false then 51 else if f=false then 51 else if d=false then 51 else if c=false then 53 else 0:=⟨_,rfl⟩
 rw[←V];have n:=Aq V;clear V;have L:∀W,Below w.heap.size w W→Calls Tryz.prog 244 #[.pointer (some ⟨X,0,none⟩),.pointer (some ⟨v,0,none⟩)] W fun e w'=>e=.returned (.bool l)∧Below W.heap.size W w':=fun W h=>by rw[U];exact re1 X v P B op a F m cf fs _ _ _ _ W (K.below h K.lt) (s.below h s.lt) (j.below h j.lt) (hF.below h r0) N ha
 have O:∀W,Below w.heap.size w W→Calls Tryz.prog 245 #[.pointer (some ⟨v,0,none⟩)] W fun e w'=>e=.returned (.bool f)∧Below W.heap.size W w':=fun W h=>by rw[I];exact re2 v P _ _ _ aU aL W (s.below h s.lt) (j.below h j.lt)
 have J:∀W,Below w.heap.size w W→Calls Tryz.prog 246 #[.pointer (some ⟨v,0,none⟩),.pointer (some ⟨Y,0,none⟩),.pointer (some ⟨X,0,none⟩),.pointer (some ⟨E,0,none⟩)] W fun e w'=>e=.returned (.bool d)∧Below W.heap.size W w':=fun W h=>by rw[Q];exact re3 v Y X E P G _ _ _ _ _ _ _ mp mc pl aK op a aC W (s.below h s.lt) (D.below h D.lt) (K.below h K.lt) (H.below h H.lt) (j.below h j.lt) (A.below h A.lt) hl b0 b1 M hw
 have C4:∀W,Below w.heap.size w W→Calls Tryz.prog 248 #[.pointer (some ⟨E,0,none⟩)] W fun e w'=>e=.returned (.bool c)∧Below W.heap.size W w':=fun W h=>by rw[C];exact re4 E _ _ _ steps W (H.below h H.lt)
 have z0:=Aq L;have t3:=Aq O;have r1:=Aq J;have t4:=Aq C4;have HR:=Aq S;have t2:=S.lt;clear L O J C4 U I Q C PB K s D j H hF A N hl ha b0 b1 M hw hB T S;go_enter Tryz.func161,Tryz.ntmps161;go_wp2_with fail
 go_loopw [7] (fun i wr=>∃k:Nat,k≤4∧i=Aj k∧(0<k→l=true)∧(1<k→f=true)∧(2<k→d=true)∧(3<k→c=true)∧Below w.heap.size w wr) (fun i _=>4-(intOf i).toNat)
 case atStart=>exact⟨0,by omega,rfl,by simp,by simp,by simp,by simp,aI⟩
 case round =>
  obtain⟨k,hk,rfl,k1,k2,k3,k4,u⟩:=hrel;have y:=HR.o.below u t2;have fr:=y.frozen;have q:=u.size
  match k,hk with
  |0,_ =>
   have g:wr.cell? ⟨R,0,none⟩=_:=y.cell 0;have r:wr.cell? ⟨R,1,none⟩=_:=y.cell 1;simp at g r;clear y fr;go_wp2_with fail
   refine(z0.o _ (u.alloc q _)).mono ?_;rintro e w1⟨rfl,x⟩;have z:Below w.heap.size w w1:=(u.alloc q _).trans (x.mono (by simp;omega));have b:w1.cell? ⟨wr.heap.size,1,none⟩=_:=x.cell (p:=⟨wr.heap.size,1,none⟩) (by simp);simp[go_sem]at b;clear x;cases l with
   |false =>
    go_wp2;go_ret;exact⟨Fp (by have h:=n.o;simp_all),z⟩
   |true =>
    go_wp2;go_roundw
    case rel=>exact⟨1,by omega,by go_num,by simp_all,by simp_all,by simp_all,by simp_all,z⟩
    case measure=>simp[intOf]
  |1,_ =>
   have g:wr.cell? ⟨R,2,none⟩=_:=y.cell 2;have r:wr.cell? ⟨R,3,none⟩=_:=y.cell 3;simp at g r;clear y fr;go_wp2_with fail
   refine(t3.o _ (u.alloc q _)).mono ?_;rintro e w1⟨rfl,x⟩;have z:Below w.heap.size w w1:=(u.alloc q _).trans (x.mono (by simp;omega));have b:w1.cell? ⟨wr.heap.size,1,none⟩=_:=x.cell (p:=⟨wr.heap.size,1,none⟩) (by simp);simp[go_sem]at b;clear x;cases f with
   |false =>
    go_wp2;go_ret;exact⟨Fp (by have h:=n.o;simp_all),z⟩
   |true =>
    go_wp2;go_roundw
    case rel=>exact⟨2,by omega,by go_num,by simp_all,by simp_all,by simp_all,by simp_all,z⟩
    case measure=>simp[intOf]
  |2,_ =>
   have g:wr.cell? ⟨R,4,none⟩=_:=y.cell 4;have r:wr.cell? ⟨R,5,none⟩=_:=y.cell 5;simp at g r;clear y fr;go_wp2_with fail
   refine(r1.o _ (u.alloc q _)).mono ?_;rintro e w1⟨rfl,x⟩;have z:Below w.heap.size w w1:=(u.alloc q _).trans (x.mono (by simp;omega));have b:w1.cell? ⟨wr.heap.size,1,none⟩=_:=x.cell (p:=⟨wr.heap.size,1,none⟩) (by simp);simp[go_sem]at b;clear x;cases d with
   |false =>
    go_wp2;go_ret;exact⟨Fp (by have h:=n.o;simp_all),z⟩
   |true =>
    go_wp2;go_roundw
    case rel=>exact⟨3,by omega,by go_num,by simp_all,by simp_all,by simp_all,by simp_all,z⟩
    case measure=>simp[intOf]
  |3,_ =>
   have g:wr.cell? ⟨R,6,none⟩=_:=y.cell 6;have r:wr.cell? ⟨R,7,none⟩=_:=y.cell 7;simp at g r;clear y fr;go_wp2_with fail
   refine(t4.o _ (u.alloc q _)).mono ?_;rintro e w1⟨rfl,x⟩;have z:Below w.heap.size w w1:=(u.alloc q _).trans (x.mono (by simp;omega));have b:w1.cell? ⟨wr.heap.size,1,none⟩=_:=x.cell (p:=⟨wr.heap.size,1,none⟩) (by simp);simp[go_sem]at b;clear x;cases c with
   |false =>
    go_wp2;go_ret;exact⟨Fp (by have h:=n.o;simp_all),z⟩
   |true =>
    go_wp2;go_roundw
    case rel=>exact⟨4,by omega,by go_num,by simp_all,by simp_all,by simp_all,by simp_all,z⟩
    case measure=>simp[intOf]
  |4,_ =>
   clear y fr;go_wp2;go_ret;exact⟨Fp (by have h:=n.o;simp_all),u⟩
structure iB (w:World) (P G B:Nat) (Ac Af:Option Addr) (n cc m cf:Nat) (fs:List Bd.aa) (s:Bd.St):Prop where
 hP:aH w P 200 #[.slice Ac n cc,.slice Af m cf,.slice (some ⟨G,0,none⟩) (n+1) (n+1),Aj s.aU,Aj s.aL]
 hG:aH w G 197 (Db s.pl).toArray
 hF:aE w B 4 Af m (Cp fs)
 hB:B≤w.heap.size
 hBP:B≤P
 hBG:B≤G
 hm:m=fs.length
 hl:s.pl.length=n+1
structure fq (w:World) (P G B:Nat) (Ac Af:Option Addr) (n cc m cf:Nat) (fs:List Bd.aa) (r:Int×Bd.St) (e:Ending) (w':World):Prop where
 ret:e=.returned (Aj r.1)
 pf:iB w' P G B Ac Af n cc m cf fs r.2
 fr:Fr (fun k=>k=P∨k=G) w w'
theorem iB.below {w w':World}{P G B:Nat}{y z:Option Addr}{n cc m u:Nat}{fs:List Bd.aa}{s:Bd.St}(h:iB w P G B y z n cc m u fs s)(x:Below w.heap.size w w'):iB w' P G B y z n cc m u fs s :=
 ⟨h.hP.below x h.hP.lt,h.hG.below x h.hG.lt,h.hF.below x h.hB,Ex h.hB x.size,h.hBP,h.hBG,h.hm,h.hl⟩
theorem nF (P G B:Nat)(y z:Option Addr)(n cc m u:Nat)(fs:List Bd.aa)(s:Bd.St)(aK op a:Int)(w:World)(h:iB w P G B y z n cc m u fs s)(b:0≤aK)(g:aK<n)(d:n≤1000000000000000)
  (x:Bd.bn n fs.length aK (op,a)≠0) :
  Calls Tryz.prog 88 #[.pointer (some ⟨P,0,none⟩),Aj aK,.agg #[Aj op,Aj a]] w (fq w P G B y z n cc m u fs (Bd.look n fs s aK (op,a))):=by
 have v:Bd.look n fs s aK (op,a)=(Bd.bn n m aK (op,a),s):=by unfold Bd.look;rw[if_pos x,h.hm]
 have j:(Bd.bn n m aK (op,a) != 0)=true:=by rw[h.hm];simpa using x
 rw[v];have i:=h.hP.lt;have H:=Aq h;have c:=Aq h.hP;clear v x h;go_enter Tryz.func88,Tryz.ntmps88;go_wp2_with fail
 refine(Kk _ aK op a _).mono ?_;rintro e w'⟨rfl,rfl⟩;go_wp2_with fail
 refine(Ii (w.heap.size+1+1+1+1+1) (w.heap.size+1+1+1+1) (w.heap.size+1+1) (w.heap.size+1+1+1) P op a aK y z n cc m u _ _ _ _ (qw _ _ _ (by simp)) ((qw _ _ _ (by simp)).alloc _) ((((qw _ _ _ (by simp)).alloc _).alloc _).alloc _) (((qw _ _ _ (by simp)).alloc _).alloc _) (by exact(((((c.o.alloc _).alloc _).alloc _).alloc _).alloc _).alloc _) b (by omega) d).mono ?_;rintro e w'⟨rfl,q⟩;have p:Below w.heap.size w w':=pY (by repeat (first|exact aI|assumption|(refine nu ?_ (by first|omega|(simp;done)|(simp;omega)) _)|(refine nw ?_)|(refine below_drewN ?_ _)|(refine ny ?_ (by first|omega|(simp;done)|(simp;omega)) _))) (q.mono (by first|omega|(simp;done)|(simp;omega)|(simp only[World.size_alloc,oR];omega)));clear q;generalize Bd.bn n m aK (op,a)=r at *;go_wp2;go_ret;exact⟨rfl,H.o.below p,qC p (fun k f _=>f)⟩
theorem nB (P G B:Nat)(b d:Option Addr)(n cc m g:Nat)(fs:List Bd.aa)(s:Bd.St)(aK op a:Int)(w:World)(h:iB w P G B b d n cc m g fs s)(K:0≤aK)(S:aK<n)(U:n≤1000000000000000)
  (p:Bd.bn n fs.length aK (op,a)=0) (y:(Bd.bj s.pl aK).aR=false) :
  Calls Tryz.prog 88 #[.pointer (some ⟨P,0,none⟩),Aj aK,.agg #[Aj op,Aj a]] w (fq w P G B b d n cc m g fs (Bd.look n fs s aK (op,a))):=by
 have j:Bd.look n fs s aK (op,a)=(0,s):=by unfold Bd.look;rw[if_neg (by rw[p];simp),if_pos y]
 have V:=Aq (show Bd.bn n m aK (op,a)=0 by rw[h.hm];exact p);rw[j];have Q:=h.hP.lt;have r:=h.hG.lt;have H:=Aq h;have X:=Aq h.hP;obtain⟨x,rfl⟩:=Ds K;obtain⟨q,v⟩:∃q,s.pl[x]?=some q:=⟨_,Bg (by have:=h.hl;omega)⟩;have l:Bd.bj s.pl (x:Int)=q:=by unfold Bd.bj;rw[Bn];simp[v]
 rw[l]at y;obtain⟨g0,c,f⟩:=Hj s.pl x q v;clear j p h v l;obtain⟨J,Z,Y⟩:=q;simp only at y g0 c f;subst y;go_enter Tryz.func88,Tryz.ntmps88;go_wp2_with fail
 refine(Kk _ x op a _).mono ?_;rintro e w'⟨rfl,rfl⟩;go_wp2_with fail
 refine(Ii (w.heap.size+1+1+1+1+1) (w.heap.size+1+1+1+1) (w.heap.size+1+1) (w.heap.size+1+1+1) P op a x b d n cc m g _ _ _ _ (qw _ _ _ (by simp)) ((qw _ _ _ (by simp)).alloc _) ((((qw _ _ _ (by simp)).alloc _).alloc _).alloc _) (((qw _ _ _ (by simp)).alloc _).alloc _) (by exact(((((X.o.alloc _).alloc _).alloc _).alloc _).alloc _).alloc _) K (by omega) U).mono ?_;rintro e w1⟨rfl,u⟩;have z:Below w.heap.size w w1:=pY (by repeat (first|exact aI|assumption|(refine nu ?_ (by first|omega|(simp;done)|(simp;omega)) _)|(refine nw ?_)|(refine below_drewN ?_ _)|(refine ny ?_ (by first|omega|(simp;done)|(simp;omega)) _))) (u.mono (by first|omega|(simp;done)|(simp;omega)|(simp only[World.size_alloc,oR];omega)));have v0:aH w1 w.heap.size 193 #[.pointer (some ⟨P,0,none⟩)]:=aH.below ((((((qw _ _ _ (by simp)).alloc _).alloc _).alloc _).alloc _).alloc _) u (by first|omega|(simp;done)|(simp;omega)|(simp only[World.size_alloc,oR];omega));have v1:aH w1 (w.heap.size+1) 96 #[Aj op,Aj a]:=aH.below (((((qw _ _ _ (by simp)).alloc _).alloc _).alloc _).alloc _) u (by first|omega|(simp;done)|(simp;omega)|(simp only[World.size_alloc,oR];omega));have F:w.heap.size+6≤w1.heap.size:=by have:=u.size;simp at this;omega
 rw[V.o];clear u;have R:w1.cell? ⟨w.heap.size,0,none⟩=some (.pointer (some ⟨P,0,none⟩)):=by rw[v0.cell];rfl
 have A:w1.cell? ⟨P,2,none⟩=some (.slice (some ⟨G,0,none⟩) (n+1) (n+1)):=by rw[(X.o.below z Q).cell];rfl
 have D:w1.cell? ⟨G,x*3,none⟩=some (.bool false):=by rw[(H.o.hG.below z r).cell];simpa using g0
 have E:w1.cell? ⟨G,x*3+1,none⟩=some (Aj Z):=by rw[(H.o.hG.below z r).cell];simpa using c
 have C:w1.cell? ⟨G,x*3+2,none⟩=some (Aj Y):=by rw[(H.o.hG.below z r).cell];simpa using f
 have I:x<n+1:=by omega
 clear g0 c f v0 v1;go_wp2;go_ret;have i:=z.alloc (by omega) (.cells #[.bool false,Aj Z,Aj Y] 197);exact⟨rfl,H.o.below i,qC i (fun k y _=>y)⟩
theorem Xy (P G B:Nat)(b k:Option Addr)(n cc m p:Nat)(fs:List Bd.aa)(s:Bd.St)(aK op a:Int)(w:World)(h:iB w P G B b k n cc m p fs s)(q:Bd.Place)(r:Bd.kL q)(c:fs.all Bd.cw=true) (x:Bd.bn n fs.length aK (op,a)=0) :
  Calls Tryz.prog 163 #[.pointer (some ⟨P,0,none⟩),.agg #[.bool q.aR,Aj q.aC,Aj q.steps],.agg #[Aj op,Aj a]] w fun e w'=>e=.returned (.agg #[Aj (Bd.ay fs q (op,a)).aU,Aj (Bd.ay fs q (op,a)).aL,Aj (Bd.ay fs q (op,a)).aC,Aj (Bd.ay fs q (op,a)).steps])∧Below w.heap.size w w':=by
 obtain⟨q1,q2,q3,z⟩:=r;cases y:Bd.ao op with
 |false =>
  have e:Bd.ay fs q (op,a)=⟨Bd.aO op-q.aC,q.aC-Bd.aO op+Bd.aV op,q.aC-Bd.aO op+Bd.aV op,q.steps+1⟩:=by
   unfold Bd.ay;simp only;rw[if_neg (by rw[y];simp)]
  rw[e];exact bO _ _ _ _ _ _ _ q1 q2 q3 z y
 |true =>
  have u:0≤a∧a<fs.length:=by
   unfold Bd.bn at x;simp only at x;split at x
   ·simp at x
   ·split at x
    ·simp at x
    ·split at x
     ·simp at x
     ·rename_i v;simp[y]at v;exact v
  exact bR P B 0 _ _ _ _ k m p fs q.aR q.aC q.steps op a w q1 q2 q3 z y h.hP h.hF h.hB h.hm u.1 (by rw[h.hm];exact u.2) c rfl
end
end Go.Proofs.YtnhebmgibiomnaaGreat

import Derived.Deep.DeepCutAuto
import Derived.Deep.RegionHeld
import Derived.Laws.MakeOwn
import Derived.Test.YtnhebmgibiomnaaGreatPi16
set_option linter.unusedVariables false
set_option linter.unusedSimpArgs false
set_option maxRecDepth 100000
set_option maxHeartbeats 8000000
namespace Go.Proofs.YtnhebmgibiomnaaGreat
theorem Nm {l n:Nat}{P:Program}{o:Oper}{a:Act}{next next':Act→World→Prop}{Q:Exit→Act→World→Prop}(x:∀a w,next a w→next' a w) :
  ∀r:Result Next,o.upon P a next Q r→o.uponIn (Fence.wide.inRound l) n P a next' Q r:=by
 intro r h;unfold Oper.upon at h;split at h
 ·exact x _ _ h
 ·exact x _ _ h
 ·exact x _ _ h
 ·refine⟨fun h=>by simp[Fence.wide]at h,CallsIn.inRound l (callsIn_wide.2 (Calls.mono h ?_))⟩;intro e w' h;split at h
  ·exact x _ _ h
  ·exact h
  ·exact h
 ·refine⟨fun h=>by simp[Fence.wide]at h,fun c cs _=>?_⟩;obtain⟨v,w',r,s⟩:=h c cs;exact⟨v,w',x _ _ r,stepsIn_wide.2 s⟩
 ·exact h
 ·exact h.elim
theorem Rb {l n:Nat}{P:Program}{ops:Array Oper}{Q:Exit→Act→World→Prop} (u:∀(i:Nat) (o:Oper) c,ops[i]?=some o→o.op≠.defer c) (v:¬ LetsOut Q) :
  ∀(x:List Nat) (a:Act) (w:World),wpOps P ops Q x a w→wpOpsIn (Fence.wide.inRound l) n P ops Q x a w:=by
 intro x
 induction x with
 |nil=>intro a w h;exact h
 |cons i rest ih =>
  intro a w h;unfold wpOps at h;unfold wpOpsIn;cases z:ops[i]? with
  |none=>rw[z]at h;exact ih a w h
  |some o =>
   rw[z]at h;simp only at h ⊢;split at h
   ·rename_i y;rw[if_pos y];rcases h with h|h
    ·refine⟨fun _ _=>trivial,?_⟩
     show o.uponIn _ n P a _ Q ((o.semAt (some l) a.eval).run P w)
     rw[Oper.semAt_some l a.eval o (fun c=>u i o c z)];exact Nm (fun a w=>ih a w) _ h
    ·exact absurd h.2 v
   ·rename_i y;rw[if_neg y];exact⟨fun _ _=>trivial,ih _ _ h⟩
def Tk (ops:Array Oper):Bool:=ops.toList.all fun o=>match o.op with|.defer _=>false|_=>true
theorem Rd {ops:Array Oper}(h:Tk ops=true)(i:Nat)(o:Oper)(c) (y:ops[i]?=some o):o.op≠.defer c:=by
 intro z;have x:o∈ops.toList:=by
  have:=Bz (by simpa using y:ops.toList[i]?=some o);exact this
 have:=List.all_eq_true.1 h o x;rw[z]at this;simp at this
theorem Mm {l n id:Nat}{P:Program}{ops:Array Oper}{Q:Exit→Act→World→Prop}{a:Act}{w:World}(y:P.follows .mixedOrders=true)(x:Tk ops=true)(z:¬ LetsOut Q)
  (h:wpAny P .any ops Q ops.size (Array.replicate ops.size false) a w.drew):(Code.region id ops true).wpIn (Fence.wide.inRound l) n P Q a w :=
 wpIn_region_draw fun t=>by
  simp only[Region.schedule,y,Bool.true_or,if_true];exact Rb (Rd x) z _ _ _ (wpAny_sound ops.size t _ a _ h)
theorem Gg {l n id:Nat}{P:Program}{ops:Array Oper}{Q:Exit→Act→World→Prop}{a:Act}{w:World}(S:World→Prop)(y:P.follows .mixedOrders=true)(x:Tk ops=true)(u:¬ LetsOut Q)
  (z:S w.drew) (h:S w.drew→wpAnyH P .any ops Q S ops.size (Array.replicate ops.size false) a w.drew):(Code.region id ops true).wpIn (Fence.wide.inRound l) n P Q a w :=
 Mm y x u (wpAny_of_held _ _ _ _ (h z))
section
open Go.RowKit Go.Shelf
attribute [local go_sem] Oper.semAt_some
theorem Ns {P:Program}{f:FuncId}{fn:Func}{c:Code}{args:Array Value}{w:World}{R:Ending→World→Prop} (x:P.funcs[f]?=some fn) (y:fn.body=some c)
  (h:c.wp P (bodyPostM Fence.wide 8 P fn R) { tmps:=args++Array.replicate (fn.ntmps-args.size) undef,defers:=[] } w):Calls P f args w R :=
 (callsIn_wide (n:=8)).1 (callsIn_of_wp_marks x y trivial (wpIn_wide.2 h) rfl)
theorem Sb {n m aL op a:Int} (x:Bd.bp n m aL (op,a)=0):(Bd.az op=true→0≤a∧a≤n-1-aL)∧(Bd.ao op=true→0≤a∧a<m):=by
 unfold Bd.bp at x;simp only at x;split at x
 ·simp at x
 ·split at x
  ·simp at x
  ·rename_i y;split at x
   ·simp at x
   ·rename_i z;refine⟨fun h=>?_,fun h=>?_⟩
    ·simp[h]at y;exact y
    ·simp[h]at z;exact z
theorem Wr {n aL op a:Int}(u:0≤aL)(z:aL<n)(y:Bd.az op=true→0≤a∧a≤n-1-aL):∀t∈Bd.ways aL (op,a),0≤t∧t<n+1:=by
 intro t x;unfold Bd.ways at x;simp only[List.mem_append]at x;rcases x with x|x
 ·split at x
  ·simp at x
  ·simp at x;omega
 ·split at x
  ·rename_i h;have:=y h;simp at x;omega
  ·simp at x
theorem Te (pl:List Bd.Place):∀(i:Nat) (q:Bd.Place),i<pl.length→Df (pl.set i q)=(((Df pl).set (i*3) (.bool q.aR)).set (i*3+1) (Aj q.aC)).set (i*3+2) (Aj q.steps):=by
 induction pl with
 |nil=>intro i q h;simp at h
 |cons p r ih =>
  intro i q h;cases i with
  |zero=>simp[Df]
  |succ i =>
   have:=ih i q (by simpa using h);rw[show (i+1)*3=i*3+3 by omega];simp[Df,this]
theorem Tr {X x:Nat}(W:World)(p:Addr)(u:Value)(q:X≠p.block)(r:x≠p.block):lJ X x W (W.setCell p u):=by
 intro b o v z k;rw[ol _ _ _ _ (fun e=>by have y:=congrArg Addr.block e;simp only at y;rcases z with rfl|rfl <;> omega)];exact k
theorem Vq {X x:Nat}{W W':World}(h:lJ X x W W'):lJ X x W W'.drew:=h
theorem Jj (e:Bd.mL):∀(l:List Int) (pl:List Bd.Place),(l.foldl (Bd.mark e) pl).length=pl.length:=by
 intro l
 induction l with
 |nil=>intro pl;rfl
 |cons t r ih=>intro pl;rw[pY,ih];simp[Bd.mark]
theorem Xq (pl:List Bd.Place)(x:Nat)(h:x<pl.length)(e:Bd.mL)(q:Bd.Place) (y:Bd.bk pl (x:Int)=q) :
  ((((Df pl).toArray.setIfInBounds (x*3+2) (Aj (max q.steps e.steps))).setIfInBounds (x*3) (.bool true)).setIfInBounds (x*3+1) (Aj e.aC))=(Df (Bd.mark e pl x)).toArray:=by
 unfold Bd.mark;rw[y,show ((x:Int)).toNat=x by omega,Te pl x _ h];simp only[oM]
 congr 1
 rw[List.set_comm _ _ (show x*3+2≠x*3 by omega),List.set_comm _ _ (show x*3+2≠x*3+1 by omega)]
theorem Zbr (x y:Int):(if x<y then y else x)=max x y:=by omega
theorem n_ (P G B:Nat)(Ac R:Option Addr)(n cc m L:Nat)(fs:List Bd.aa)(s:Bd.St)(aL op a:Int)(w:World)(h:hH w P G B Ac R n cc m L fs s)(y0:Bd.Ok n s)(hb:fs.all Bd.dB=true)(tn:0≤aL)(z9:aL<n)(hn:n≤1000000000000000)
  (Af:Bd.bp n fs.length aL (op,a)=0) (Y:(Bd.bk s.pl aL).aR=true) :
  Calls Tryz.prog 88 #[.pointer (some ⟨P,0,none⟩),Aj aL,.agg #[Aj op,Aj a]] w (fi w P G B Ac R n cc m L fs (Bd.look n fs s aL (op,a))):=by
 have x3:=Bd.jb y0 aL;have z8:=Aq Af;have x2:=Aq (show Bd.bp n m aL (op,a)=0 by rw[h.hm];exact Af);have x7:=h.hP.lt;have an:=h.hG.lt;have H:=Aq h;have HP:=Aq h.hP;obtain⟨f,rfl⟩:=Dm tn;obtain⟨q,hq⟩:∃q,s.pl[f]?=some q:=⟨_,Bf (by have:=h.hl;omega)⟩;have hK:Bd.bk s.pl (f:Int)=q:=by unfold Bd.bk;rw[Bo];simp[hq]
 rw[hK]at Y x3;obtain⟨g0,g1,g2⟩:=Hp s.pl f q hq;have x8:=Aq (fun W E=>Yj P G B Ac R n cc m L fs s f op a W (h.below (w':=W) E) q x3 hb Af);have y9:=Bd.iT hb x3 (op,a);have hk:=Aq hK;have x4:P≠G:=h.hP.dF h.hG (by decide);clear Af h hq hK x3;obtain⟨qk,qh,qs⟩:=q;simp only at Y g0 g1 g2 x8;subst Y;refine Ns Tryz.func88 rfl ?_;simp only[Tryz.ntmps88,qd,Bp,Bx,Nat.reduceAdd,Nat.reduceSub,qf,qg,qj,qm,le,oy];go_wp2_with fail
 refine(Kw _ f op a _).mono ?_;rintro e w'⟨rfl,rfl⟩;go_wp2_with fail
 refine(Iq (w.heap.size+1+1+1+1+1) (w.heap.size+1+1+1+1) (w.heap.size+1+1) (w.heap.size+1+1+1) P op a f Ac R n cc m L _ _ _ _ (qH _ _ _ (by simp)) ((qH _ _ _ (by simp)).alloc _) ((((qH _ _ _ (by simp)).alloc _).alloc _).alloc _) (((qH _ _ _ (by simp)).alloc _).alloc _) (by exact(((((HP.o.alloc _).alloc _).alloc _).alloc _).alloc _).alloc _) tn (by omega) hn).mono ?_;rintro e w1⟨rfl,E⟩;have N:Below w.heap.size w w1:=qn (by repeat (first|exact aI|assumption|(refine ot ?_ (by first|omega|(simp;done)|(simp;omega)) _)|(refine ou ?_)|(refine below_drewN ?_ _)|(refine ov ?_ (by first|omega|(simp;done)|(simp;omega)) _))) (E.mono (by first|omega|(simp;done)|(simp;omega)|(simp only[World.size_alloc,pa];omega)));have v0:aH w1 w.heap.size 193 #[.pointer (some ⟨P,0,none⟩)]:=aH.below ((((((qH _ _ _ (by simp)).alloc _).alloc _).alloc _).alloc _).alloc _) E (by first|omega|(simp;done)|(simp;omega)|(simp only[World.size_alloc,pa];omega));have v1:aH w1 (w.heap.size+1) 96 #[Aj op,Aj a]:=aH.below (((((qH _ _ _ (by simp)).alloc _).alloc _).alloc _).alloc _) E (by first|omega|(simp;done)|(simp;omega)|(simp only[World.size_alloc,pa];omega));have c5:w.heap.size+6≤w1.heap.size:=by have:=E.size;simp at this;omega
 rw[x2.o];clear E;have C:w1.cell? ⟨w.heap.size,0,none⟩=some (.pointer (some ⟨P,0,none⟩)):=by rw[v0.cell];rfl
 have I:w1.cell? ⟨w.heap.size+1,0,none⟩=some (Aj op):=by rw[v1.cell];rfl
 have T:w1.cell? ⟨w.heap.size+1,1,none⟩=some (Aj a):=by rw[v1.cell];rfl
 have u1:w1.cell? ⟨P,2,none⟩=some (.slice (some ⟨G,0,none⟩) (n+1) (n+1)):=by rw[(HP.o.below N x7).cell];rfl
 have d0:w1.cell? ⟨G,f*3,none⟩=some (.bool true):=by rw[(H.o.hG.below N an).cell];simpa using g0
 have d1:w1.cell? ⟨G,f*3+1,none⟩=some (Aj qh):=by rw[(H.o.hG.below N an).cell];simpa using g1
 have d2:w1.cell? ⟨G,f*3+2,none⟩=some (Aj qs):=by rw[(H.o.hG.below N an).cell];simpa using g2
 have b6:f<n+1:=by omega
 have y1:w.heap.size<w1.heap.size:=by omega
 have y2:w.heap.size+1<w1.heap.size:=by omega
 have j:=Aq v0;have Z:=Aq v1;clear g0 g1 g2 v0 v1;go_wp2_with fail
 refine(x8.o _ (by exact N.alloc (by omega) _)).mono ?_;rintro e w2⟨rfl,iG⟩;have eh:Below w.heap.size w w2:=(N.alloc (by omega) _).trans (iG.mono (by simp;omega));have v0:aH w2 w.heap.size 193 #[.pointer (some ⟨P,0,none⟩)]:=(j.o.alloc _).below iG (by simp;omega);have v1:aH w2 (w.heap.size+1) 96 #[Aj op,Aj a]:=(Z.o.alloc _).below iG (by simp;omega);have c3:w.heap.size+7≤w2.heap.size:=by have:=iG.size;simp at this;omega
 clear iG C I T u1 d0 d1 d2 N c5 y1 y2 j Z x8;have C:w2.cell? ⟨w.heap.size,0,none⟩=some (.pointer (some ⟨P,0,none⟩)):=by rw[v0.cell];rfl
 have I:w2.cell? ⟨w.heap.size+1,0,none⟩=some (Aj op):=by rw[v1.cell];rfl
 have T:w2.cell? ⟨w.heap.size+1,1,none⟩=some (Aj a):=by rw[v1.cell];rfl
 have O:=HP.o.below eh x7;have p2:w2.cell? ⟨P,2,none⟩=some (.slice (some ⟨G,0,none⟩) (n+1) (n+1)):=by rw[O.cell];rfl
 have p3:w2.cell? ⟨P,3,none⟩=some (Aj s.aU):=by rw[O.cell];rfl
 have p4:w2.cell? ⟨P,4,none⟩=some (Aj s.aM):=by rw[O.cell];rfl
 have b3:w2.frozen? ⟨P,3,none⟩=false:=O.frozen 3;have v4:w2.frozen? ⟨P,4,none⟩=false:=O.frozen 4;have y1:w.heap.size<w2.heap.size:=by omega
 have y2:w.heap.size+1<w2.heap.size:=by omega
 have y3:P<w2.heap.size:=by omega
 have y4:P<w.heap.size:=x7;have y5:G<w2.heap.size:=by omega
 have j:=Aq v0;have Z:=Aq v1;have z4:=Aq O;clear v0 v1 O;have a7:=Zbr;generalize v8:Bd.ay fs ⟨true,qh,qs⟩ (op,a)=ee at *;have z5:=Aq v8;clear v8;obtain⟨en,u,b,es⟩:=ee;simp only at y9;go_upto_region 8 with fail
 go_cut [] from 35 to 54 (fun wx=>aH wx P 200 #[.slice Ac n cc,.slice R m L,.slice (some ⟨G,0,none⟩) (n+1) (n+1),Aj (max s.aU en),Aj (max s.aM u)]∧Fr (fun k=>k=P) (w2.alloc (.cells #[Aj en,Aj u,Aj b,Aj es] 238)) wx)
 case first =>
  rename_i J1 K1 b1 v6;have hS:=z4.o.alloc (.cells #[Aj en,Aj u,Aj b,Aj es] 238);have U:=Aq hS;clear hS z4 j Z H HP x2 z8 z5 hk y0 hb hn tn z9 y9 b6 eh c3 an I T p2 y2 y4 y5;have k1:P≠w.heap.size:=by omega
  have k2:P≠w2.heap.size:=by omega
  have k3:w.heap.size≠P:=by omega
  have k4:w2.heap.size≠P:=by omega
  have k5:w.heap.size≠w2.heap.size:=by omega
  have a0:(w2.alloc (.cells #[Aj en,Aj u,Aj b,Aj es] 238)).cell? ⟨w.heap.size,0,none⟩=some (.pointer (some ⟨P,0,none⟩)):=by rw[Cc _ _ _ (by simp only;omega)];exact C
  have a1:(w2.alloc (.cells #[Aj en,Aj u,Aj b,Aj es] 238)).cell? ⟨w2.heap.size,0,none⟩=some (Aj en):=by rw[World.cell?_alloc_new];rfl
  have a2:(w2.alloc (.cells #[Aj en,Aj u,Aj b,Aj es] 238)).cell? ⟨w2.heap.size,1,none⟩=some (Aj u):=by rw[World.cell?_alloc_new];rfl
  have a3:(w2.alloc (.cells #[Aj en,Aj u,Aj b,Aj es] 238)).cell? ⟨P,3,none⟩=some (Aj s.aU):=by rw[U.o.cell];rfl
  have a4:(w2.alloc (.cells #[Aj en,Aj u,Aj b,Aj es] 238)).cell? ⟨P,4,none⟩=some (Aj s.aM):=by rw[U.o.cell];rfl
  have a5:(w2.alloc (.cells #[Aj en,Aj u,Aj b,Aj es] 238)).frozen? ⟨P,3,none⟩=false:=U.o.frozen 3;have a6:(w2.alloc (.cells #[Aj en,Aj u,Aj b,Aj es] 238)).frozen? ⟨P,4,none⟩=false:=U.o.frozen 4;clear C p3 p4 b3 v4;have hS:=U.o;clear U;obtain⟨WW,x6⟩:∃WW,w2.alloc (.cells #[Aj en,Aj u,Aj b,Aj es] 238)=WW:=⟨_,rfl⟩;rw[x6]at a0 a1 a2 a3 a4 a5 a6 hS ⊢;have U:=Aq hS;have v5:=Aq x6;clear hS x6;refine wp_region_noPanic ?_;refine wp_region_held_drew (S:=fun w'=>w'.cell? ⟨w.heap.size,0,none⟩=some (.pointer (some ⟨P,0,none⟩))∧w'.cell? ⟨w2.heap.size,0,none⟩=some (Aj en)∧w'.cell? ⟨w2.heap.size,1,none⟩=some (Aj u)) (by kernel_rfl) ⟨a0,a1,a2⟩ ?_;intro y;have b2:=Aq b1;have v2:=Aq v6;clear b1 v6;refine Cq (i:=0) (v:=.pointer (some ⟨P,0,none⟩)) y ?_;refine Cq (i:=1) (v:=.pointer (some ⟨P,0,none⟩)) y ?_;refine Cq (i:=2) (v:=.pointer (some ⟨P,0,none⟩)) y ?_;refine Cq (i:=3) (v:=.pointer (some ⟨P,0,none⟩)) y ?_;refine Cq (i:=4) (v:=.pointer (some ⟨P,3,none⟩)) y ?_;refine Cq (i:=6) (v:=.pointer (some ⟨w2.heap.size,0,none⟩)) y ?_;refine Cq (i:=7) (v:=Aj en) y ?_;refine Cq (i:=9) (v:=.pointer (some ⟨P,0,none⟩)) y ?_;refine Cq (i:=10) (v:=.pointer (some ⟨P,0,none⟩)) y ?_;refine Cq (i:=11) (v:=.pointer (some ⟨P,4,none⟩)) y ?_;refine Cq (i:=13) (v:=.pointer (some ⟨w2.heap.size,1,none⟩)) y ?_;refine Cq (i:=14) (v:=Aj u) y ?_;refine wpAnyH_ready (rs:=[5,12]) (by kernel_rfl) (by simp) ?_
  refine AllReadyH.cons rfl (fun K z=>?_) (AllReadyH.cons rfl (fun K z=>?_) AllReadyH.nil)
  ·go_simp;refine z.out _ _ y (fun y=>?_);clear z K;refine Cq (i:=8) (v:=Aj (max s.aU en)) y ?_;refine wpAnyH_ready (rs:=[12]) (by kernel_rfl) (by simp) ?_;refine AllReadyH.cons rfl (fun K z=>?_) AllReadyH.nil;go_simp;refine z.out _ _ (by exact y) (fun y=>?_);clear z K;refine Cq (i:=15) (v:=Aj (max s.aM u)) y ?_;refine Cq (i:=16) (v:=.pointer (some ⟨P,0,none⟩)) y ?_;refine Cq (i:=17) (v:=.pointer (some ⟨P,3,none⟩)) y ?_;refine wpAnyH_ready (rs:=[18]) (by kernel_rfl) (by simp) ?_;refine AllReadyH.cons rfl (fun K z=>?_) AllReadyH.nil;go_simp;refine z.out _ _ (by exact⟨(World.cell?_setCell_far _ _ _ _ k1).trans y.1,(World.cell?_setCell_far _ _ _ _ k2).trans y.2.1,(World.cell?_setCell_far _ _ _ _ k2).trans y.2.2⟩) (fun y=>?_);clear z K;refine Cq (i:=19) (v:=.pointer (some ⟨P,0,none⟩)) y ?_;refine Cq (i:=20) (v:=.pointer (some ⟨P,4,none⟩)) y ?_;refine wpAnyH_ready (rs:=[21]) (by kernel_rfl) (by simp) ?_;refine AllReadyH.cons rfl (fun K z=>?_) AllReadyH.nil;go_simp;refine z.out _ _ (by exact⟨(World.cell?_setCell_far _ _ _ _ k1).trans y.1,(World.cell?_setCell_far _ _ _ _ k2).trans y.2.1,(World.cell?_setCell_far _ _ _ _ k2).trans y.2.2⟩) (fun y=>?_);clear z K;refine wpAnyH_done (by kernel_rfl) ?_ _;refine v2.o _ _ (Met.intro (b2.o _ _ ?_))
   (repeat apply Exists.intro)
   refine⟨?_,rfl⟩;rw[v5.o];exact⟨by simpa using (((U.o.aX 3 (Aj (max s.aU en))).aX 4 (Aj (max s.aM u))).drew),(((qF (fun k=>k=P) _).setCell (p:=⟨P,3,none⟩) (.inl rfl) _).setCell (p:=⟨P,4,none⟩) (.inl rfl) _).drew⟩
  ·go_simp;refine z.out _ _ y (fun y=>?_);clear z K;refine Cq (i:=15) (v:=Aj (max s.aM u)) y ?_;refine wpAnyH_ready (rs:=[5]) (by kernel_rfl) (by simp) ?_;refine AllReadyH.cons rfl (fun K z=>?_) AllReadyH.nil;go_simp;refine z.out _ _ (by exact y) (fun y=>?_);clear z K;refine Cq (i:=8) (v:=Aj (max s.aU en)) y ?_;refine Cq (i:=16) (v:=.pointer (some ⟨P,0,none⟩)) y ?_;refine Cq (i:=17) (v:=.pointer (some ⟨P,3,none⟩)) y ?_;refine wpAnyH_ready (rs:=[18]) (by kernel_rfl) (by simp) ?_;refine AllReadyH.cons rfl (fun K z=>?_) AllReadyH.nil;go_simp;refine z.out _ _ (by exact⟨(World.cell?_setCell_far _ _ _ _ k1).trans y.1,(World.cell?_setCell_far _ _ _ _ k2).trans y.2.1,(World.cell?_setCell_far _ _ _ _ k2).trans y.2.2⟩) (fun y=>?_);clear z K;refine Cq (i:=19) (v:=.pointer (some ⟨P,0,none⟩)) y ?_;refine Cq (i:=20) (v:=.pointer (some ⟨P,4,none⟩)) y ?_;refine wpAnyH_ready (rs:=[21]) (by kernel_rfl) (by simp) ?_;refine AllReadyH.cons rfl (fun K z=>?_) AllReadyH.nil;go_simp;refine z.out _ _ (by exact⟨(World.cell?_setCell_far _ _ _ _ k1).trans y.1,(World.cell?_setCell_far _ _ _ _ k2).trans y.2.1,(World.cell?_setCell_far _ _ _ _ k2).trans y.2.2⟩) (fun y=>?_);clear z K;refine wpAnyH_done (by kernel_rfl) ?_ _;refine v2.o _ _ (Met.intro (b2.o _ _ ?_))
   (repeat apply Exists.intro)
   refine⟨?_,rfl⟩;rw[v5.o];exact⟨by simpa using (((U.o.aX 3 (Aj (max s.aU en))).aX 4 (Aj (max s.aM u))).drew),(((qF (fun k=>k=P) _).setCell (p:=⟨P,3,none⟩) (.inl rfl) _).setCell (p:=⟨P,4,none⟩) (.inl rfl) _).drew⟩
 case rest =>
  obtain⟨v7,A⟩:=hcut;have c2:=A.size;simp only[World.size_alloc]at c2;have v0:aH wc w.heap.size 193 #[.pointer (some ⟨P,0,none⟩)]:=A.aG (j.o.alloc _) (by omega);have v1:aH wc (w.heap.size+1) 96 #[Aj op,Aj a]:=A.aG (Z.o.alloc _) (by omega);have v9:aH wc w2.heap.size 238 #[Aj en,Aj u,Aj b,Aj es]:=A.aG (qG _ _ _) (by omega);have vG:aH wc G 197 (Df s.pl).toArray:=A.aG ((H.o.hG.below eh an).alloc _) (fun e=>x4 e.symm);have vF:aE wc B 4 R m (Ct fs):=A.iO ((H.o.hF.below eh H.o.hB).alloc (by have:=H.o.hB;omega) _) (by have:=H.o.hB;simp;omega) (fun k Y=>by have:=H.o.hBP;omega);have v3:Fr (fun k=>k=P∨k=G) w wc:=((qN eh (fun k Y _=>Y)).alloc _).trans (A.mono (fun k _ e=>.inl e));have C:wc.cell? ⟨w.heap.size,0,none⟩=some (.pointer (some ⟨P,0,none⟩)):=by rw[v0.cell];rfl
  have I:wc.cell? ⟨w.heap.size+1,0,none⟩=some (Aj op):=by rw[v1.cell];rfl
  have T:wc.cell? ⟨w.heap.size+1,1,none⟩=some (Aj a):=by rw[v1.cell];rfl
  have t0:wc.cell? ⟨w2.heap.size,0,none⟩=some (Aj en):=by rw[v9.cell];rfl
  have t1:wc.cell? ⟨w2.heap.size,1,none⟩=some (Aj u):=by rw[v9.cell];rfl
  have t2:wc.cell? ⟨w2.heap.size,2,none⟩=some (Aj b):=by rw[v9.cell];rfl
  have t3:wc.cell? ⟨w2.heap.size,3,none⟩=some (Aj es):=by rw[v9.cell];rfl
  have u0:=Aq v7;have j:=Aq v0;have Z:=Aq v1;have M:=Aq v9;have x1:=Aq vG;have z7:=Aq vF;clear v7 v0 v1 v9 vG vF A z4 a7;go_wp2_with fail
  refine(Sw _ f op a en u b es _).mono ?_;rintro e w'⟨rfl,rfl⟩;obtain⟨hj,iF⟩:=Sb x2.o;have y8:=Wr tn z9 hj;go_wp2_with fail
  refine(Py (wc.heap.size+1+1+1+1) (wc.heap.size+1+1) wc.heap.size (wc.heap.size+1) (wc.heap.size+1+1+1) P G B op a f (max s.aU en) (max s.aM u) _ _ _ R m L (n+1) (n+1) fs s.pl b es _ (qH _ _ _ (by simp)) (((qH _ _ _ (by simp)).alloc _).alloc _) (((((qH _ _ _ (by simp)).alloc _).alloc _).alloc _).alloc _) ((((qH _ _ _ (by simp)).alloc _).alloc _).alloc _) ((qH _ _ _ (by simp)).alloc _) (by exact(((((u0.o.alloc _).alloc _).alloc _).alloc _).alloc _))
   (by exact(((((z7.o.alloc (by have:=H.o.hB;omega) _).alloc (by have:=H.o.hB;simp;omega) _).alloc (by have:=H.o.hB;simp;omega) _).alloc (by have:=H.o.hB;simp;omega) _).alloc (by have:=H.o.hB;simp;omega) _)) (by have:=H.o.hB;simp;omega) H.o.hm (by exact(((((x1.o.alloc _).alloc _).alloc _).alloc _).alloc _)) H.o.hl (fun e=>iF (by rw[e];rfl)) tn (by omega) (fun e=>by have:=hj e;omega) (fun t ht=>by have:=y8 t ht;omega) ⟨en,u,b,es⟩ rfl rfl).mono ?_
  rintro e g⟨rfl,b4⟩;have V:Below wc.heap.size wc g:=qn (by repeat (first|exact aI|assumption|(refine ot ?_ (by first|omega|(simp;done)|(simp;omega)) _)|(refine ou ?_)|(refine below_drewN ?_ _)|(refine ov ?_ (by first|omega|(simp;done)|(simp;omega)) _))) (b4.mono (by first|omega|(simp;done)|(simp;omega)|(simp only[World.size_alloc,pa];omega)));have b0:Bd.look n fs s f (op,a)=if Bd.dR fs s.pl (max s.aU en) (max s.aM u) f (op,a) ⟨en,u,b,es⟩≠0 then(Bd.dR fs s.pl (max s.aU en) (max s.aM u) f (op,a) ⟨en,u,b,es⟩,⟨s.pl,max s.aU en,max s.aM u⟩) else(0,⟨(Bd.ways f (op,a)).foldl (Bd.mark ⟨en,u,b,es⟩) s.pl,max s.aU en,max s.aM u⟩):=by
   unfold Bd.look;rw[if_neg (by rw[z8.o];simp),hk.o,if_neg (by simp)];simp only;rw[z5.o]
  have cf:=Aq b0;have y6:=u0.o.below V u0.o.lt;have z1:=x1.o.below V x1.o.lt;have x9:=z7.o.below V (by have:=H.o.hB;omega);have v0:=j.o.below V j.o.lt;have v1:=Z.o.below V Z.o.lt;have v9:=M.o.below V M.o.lt;have c8:=V.size;have z6:=v3.trans (qN (S:=fun k=>k=P∨k=G) V (fun k Y _=>Y));clear b0 b4 V u0 x1 z7 j Z M C I T t0 t1 t2 t3 v3 hk z8 z5;generalize Bd.dR fs s.pl (max s.aU en) (max s.aM u) f (op,a) ⟨en,u,b,es⟩=r at *;have x0:=Aq y6;have bP:=Aq z1;have z2:=Aq x9;have M:=Aq v9;by_cases hr:r=0
  ·subst hr;have F:=cf.o;rw[if_neg (by simp)]at F;have z3:=Aq F;clear F cf;have C:g.cell? ⟨w.heap.size,0,none⟩=some (.pointer (some ⟨P,0,none⟩)):=by rw[v0.cell];rfl
   have I:g.cell? ⟨w.heap.size+1,0,none⟩=some (Aj op):=by rw[v1.cell];rfl
   have T:g.cell? ⟨w.heap.size+1,1,none⟩=some (Aj a):=by rw[v1.cell];rfl
   have j:=Aq v0;clear y6 z1 x9 v0 v1 v9;go_upto_region 12 with fail
   go_cut [66] from 13 to 65 (fun c6 wx=>c6=.func (.func 249) #[] #[.pointer (some ⟨g.heap.size+1,0,none⟩),.pointer (some ⟨g.heap.size,0,none⟩)]∧wx=(g.alloc (.cells #[Aj f] 3)).alloc (.cells #[Aj op,Aj a] 96))
   case first =>
    go_wp2_with fail
    refine(Up f op a _).mono ?_;rintro e w'⟨rfl,rfl⟩;go_wp2_with fail
    go_meet;exact⟨rfl,rfl⟩
   case rest =>
    obtain⟨rfl,ep⟩:=hcut;have b8:g.heap.size+2≤wc.heap.size∧wc.heap.size≤g.heap.size+2:=by rw[ep];simp
    have J:Below g.heap.size g wc:=by rw[ep];exact(aI.alloc Aw _).alloc (by simp) _
    have f0:aH wc w.heap.size 193 #[.pointer (some ⟨P,0,none⟩)]:=j.o.below J j.o.lt;have f9:=M.o.below J M.o.lt;have fP:=x0.o.below J x0.o.lt;have fG:=bP.o.below J bP.o.lt;have fF:=z2.o.below J (by have:=H.o.hB;omega);have g4:aH wc g.heap.size 3 #[Aj f]:=by rw[ep];exact(qG _ _ _).alloc _
    have g5:aH wc (g.heap.size+1) 96 #[Aj op,Aj a]:=by rw[ep];exact qH _ _ _ (by simp)
    have a9:=z6.trans (qN (S:=fun k=>k=P∨k=G) J (fun k Y _=>Y));have c4:=Aq ep;clear ep J j M x0 bP z2 z6;go_wp2_with fail
    refine(wpIn_wide (n:=8)).1 ?_;refine wpIn_rangeFunc_ownG (α:=Way f (op,a)) rfl (by omega) (gf:=249) (lb:=#[.pointer (some ⟨g.heap.size+1,0,none⟩),.pointer (some ⟨g.heap.size,0,none⟩)]) rfl trivial (enters_of Tryz.func249 (by kernel_rfl) rfl)
     (Nu 7 (g.heap.size+1) g.heap.size f op a (by omega) wc (by rw[g5.cell];rfl) (by rw[g5.cell];rfl) (by rw[g4.cell];rfl) tn (by omega) (fun e=>by have:=hj e;omega)) Zgf (fun W l o o' _ h1 h2 _=>Zbz W l o o' h1 h2) aI (fun _=>rfl)
     (fun pre W=>aH W P 200 #[.slice Ac n cc,.slice R m L,.slice (some ⟨G,0,none⟩) (n+1) (n+1),Aj (max s.aU en),Aj (max s.aM u)]∧aH W G 197 (Df ((pre.map Subtype.val).foldl (Bd.mark ⟨en,u,b,es⟩) s.pl)).toArray∧Fr (fun k=>k=G) wc W)
     (fun _ _ _=>False)
     (fun pre W W' row hs hg hr=>⟨hs.1.f_ hg (fun r e=>(hr r e).2),hs.2.1.f_ hg (fun r e=>(hr r e).2),hs.2.2.grown hg (fun r e=>(hr r e).1)⟩)
     (fun _ _ _ _ _ hs _ _=>hs)
     ⟨fP,fG,qF _ _⟩
     (fun x => { tmps:=#[.pointer (some ⟨P,0,none⟩),Aj f,.agg #[Aj op,Aj a],.pointer (some ⟨w.heap.size,0,none⟩),undef,.pointer (some ⟨w.heap.size+1,0,none⟩),Aj 0,Aj 0,.pointer (some ⟨w1.heap.size,0,none⟩),.pointer (some ⟨w2.heap.size,0,none⟩),Aj 0,Aj x.1,undef,u13,u14,u15,u16,u17,u18,u19,u20,u21,u22,u23,u24,u25,u26,u27,u28,u29,u30,u31,u32,u33,u34,u35,u36,u37,u38,u39,u40,u41,u42,u43,u44,u45,u46,u47,u48,u49,u50,u51,u52,u53,u54,u55,u56,u57,u58,u59,u60,u61,u62,u63,u64,u65,.func (.func 249) #[] #[.pointer (some ⟨g.heap.size+1,0,none⟩),.pointer (some ⟨g.heap.size,0,none⟩)],Aj x.1,undef,undef,undef,undef,undef,undef,undef,undef,undef,undef,undef,undef,undef,undef,undef,undef,undef,undef,undef,undef,undef,undef,undef,undef],defers:=[] }) ?assign ?body ?done ?stop
    case assign =>
     intro l x W K z
     gi_wp2
     exact z
    case body =>
     rintro l pre⟨t,ht⟩ W ⟨iP,X,Q⟩ _;obtain⟨t0,t1⟩:=y8 t ht;obtain⟨d,rfl⟩:=Dm t0;generalize z0:(pre.map Subtype.val).foldl (Bd.mark ⟨en,u,b,es⟩) s.pl=w4 at X;have d6:w4.length=n+1:=by rw[←z0,Jj];exact H.o.hl
     obtain⟨q,hq⟩:∃q,w4[d]?=some q:=⟨_,Bf (by omega)⟩;have hK:Bd.bk w4 (d:Int)=q:=by unfold Bd.bk;rw[Bo];simp[hq]
     obtain⟨g0,g1,g2⟩:=Hp w4 d q hq;have e0:W.cell? ⟨w.heap.size,0,none⟩=some (.pointer (some ⟨P,0,none⟩)):=by rw[(Q.aG f0 (by omega)).cell];rfl
     have eP:W.cell? ⟨P,2,none⟩=some (.slice (some ⟨G,0,none⟩) (n+1) (n+1)):=by rw[iP.cell];rfl
     have b9:=Q.aG f9 (by omega);have e2:W.cell? ⟨w2.heap.size,2,none⟩=some (Aj b):=by rw[b9.cell];rfl
     have e3:W.cell? ⟨w2.heap.size,3,none⟩=some (Aj es):=by rw[b9.cell];rfl
     have d0:W.cell? ⟨G,d*3,none⟩=some (.bool q.aR):=by rw[X.cell];simpa using g0
     have d1:W.cell? ⟨G,d*3+1,none⟩=some (Aj q.aC):=by rw[X.cell];simpa using g1
     have d2:W.cell? ⟨G,d*3+2,none⟩=some (Aj q.steps):=by rw[X.cell];simpa using g2
     have d3:W.frozen? ⟨G,d*3,none⟩=false:=X.frozen _;have e4:W.frozen? ⟨G,d*3+1,none⟩=false:=X.frozen _;have e5:W.frozen? ⟨G,d*3+2,none⟩=false:=X.frozen _;have d4:d<n+1:=by omega
     have a7:=Zbr;have e1:G≠w2.heap.size:=by omega
     have d9:w2.heap.size≠G:=by omega
     have d7:Tryz.prog.follows .mixedOrders=true:=by kernel_rfl
     have d5:G<W.heap.size:=X.lt;have c9:=Q.size;obtain⟨qk,b7,y7⟩:=q;simp only at d0 d1 d2;have c0:=Aq z0;have hk:=Aq hK;have b5:=Aq X;have c7:=Aq iP;have c1:=Aq Q;clear p2 p3 p4 b3 v4 C I T hj iF y8 fP fG fF f0 f9 g4 g5 b9 z0 hK X iP Q j Z c4 HP x2 y0 hb a9 y9 eh g0 g1 g2 hq y1 y2 y3 y4 y5 b8
     gi_wp2_with fail
     refine Gg (fun w'=>w'.cell? ⟨w2.heap.size,3,none⟩=some (Aj es)) (by kernel_rfl) (by kernel_rfl) (by rintro⟨_,_,h⟩;exact h) (by simpa using e3) ?_;intro y;refine Cq (i:=0) (v:=.pointer (some ⟨G,d*3,none⟩)) y ?_;refine Cq (i:=1) (v:=.pointer (some ⟨G,d*3,none⟩)) y ?_;refine Cq (i:=2) (v:=.pointer (some ⟨G,d*3,none⟩)) y ?_;refine Cq (i:=3) (v:=.pointer (some ⟨G,d*3+2,none⟩)) y ?_;refine Cq (i:=5) (v:=.pointer (some ⟨w2.heap.size,3,none⟩)) y ?_;refine Cq (i:=6) (v:=Aj es) y ?_;refine wpAnyH_ready (rs:=[4]) (by kernel_rfl) (by simp) ?_;refine AllReadyH.cons rfl (fun K z=>?_) AllReadyH.nil;go_simp;refine z.out _ _ (by exact y) (fun y=>?_);clear z K;refine Cq (i:=7) (v:=Aj (max y7 es)) y ?_;refine Cq (i:=8) (v:=.pointer (some ⟨G,d*3,none⟩)) y ?_;refine Cq (i:=9) (v:=.pointer (some ⟨G,d*3+2,none⟩)) y ?_;refine wpAnyH_ready (rs:=[10]) (by kernel_rfl) (by simp) ?_;refine AllReadyH.cons rfl (fun K z=>?_) AllReadyH.nil;go_simp;refine z.out _ _ (by go_keep) (fun y=>?_);clear z K;refine wpAnyH_done (by kernel_rfl) ?_ _
     gi_wp2_with fail
     refine Gg (fun w'=>w'.cell? ⟨w2.heap.size,2,none⟩=some (Aj b)) (by kernel_rfl) (by kernel_rfl) (by rintro⟨_,_,h⟩;exact h) (by clear y;go_keep) ?_;clear y;intro y;refine Cq (i:=0) (v:=.pointer (some ⟨G,d*3,none⟩)) y ?_;refine Cq (i:=1) (v:=.pointer (some ⟨G,d*3,none⟩)) y ?_;refine Cq (i:=2) (v:=.pointer (some ⟨w2.heap.size,2,none⟩)) y ?_;refine Cq (i:=3) (v:=Aj b) y ?_;refine Cq (i:=4) (v:=.pointer (some ⟨G,d*3,none⟩)) y ?_;refine Cq (i:=5) (v:=.pointer (some ⟨G,d*3,none⟩)) y ?_;refine wpAnyH_ready (rs:=[6]) (by kernel_rfl) (by simp) ?_;refine AllReadyH.cons rfl (fun K z=>?_) AllReadyH.nil;go_simp;refine z.out _ _ (by go_keep) (fun y=>?_);clear z K;refine Cq (i:=7) (v:=.pointer (some ⟨G,d*3,none⟩)) y ?_;refine Cq (i:=8) (v:=.pointer (some ⟨G,d*3+1,none⟩)) y ?_;refine wpAnyH_ready (rs:=[9]) (by kernel_rfl) (by simp) ?_;refine AllReadyH.cons rfl (fun K z=>?_) AllReadyH.nil;go_simp;refine z.out _ _ (by go_keep) (fun y=>?_);clear z K;refine wpAnyH_done (by kernel_rfl) ?_ _
     gi_wp2_with fail
     refine⟨?_,?_,?_,?_,?_⟩
     ·exact(((((KeepsOthers.setCell _ _ _).trans (KeepsOthers.setCell _ _ _)).trans (KeepsOthers.setCell _ _ _)).trans (KeepsOthers.drew _)).trans (KeepsOthers.drew _)).from _
     ·exact Vq (Vq (Zgf (Zgf (Tr _ _ _ (by simp only;omega) (by simp only;omega)) (Tr _ _ _ (by simp only;omega) (by simp only;omega))) (Tr _ _ _ (by simp only;omega) (by simp only;omega))))
     ·exact((((c7.o.cZ (by exact x4) _).cZ (by exact x4) _).cZ (by exact x4) _).drew).drew
     ·have h1:=(((((b5.o.aX (d*3+2) (Aj (max y7 es))).aX (d*3) (.bool true)).aX (d*3+1) (Aj b)).drew).drew);rw[Xq w4 d (by omega) ⟨en,u,b,es⟩ ⟨qk,b7,y7⟩ hk.o]at h1;rw[oq,pX,c0.o];exact h1
     ·exact(((((c1.o.setCell (.inl rfl) _).setCell (.inl rfl) _).setCell (.inl rfl) _).drew).drew)
    case done =>
     rintro D ys W hD y⟨iP,X,Q⟩ z;have HS:=Aq y;clear y;go_wp2;refine⟨by simp,.inl ⟨_,_,rfl,run_takeDeferred z,?_⟩⟩;have x5:=grownBy_putObj' W D (.deferred none);have iF:∀r,some D=some r→∃o:Obj,W.heap[r]?=some o∧o.isCells=false:=fun r e=>by cases e;exact⟨_,z,rfl⟩
     have a8:=a9.trans ((Q.grown x5 (fun r e=>by cases e;exact hD)).mono (fun k _ e=>.inr e));rw[z3.o];refine⟨_,results_tmp rfl _ _ _,⟨rfl,⟨iP.f_ x5 iF,?_,?_,?_,H.o.hBP,H.o.hBG,H.o.hm,?_⟩,a8⟩⟩
     ·rw[←HS.o];exact X.f_ x5 iF
     ·exact(Q.grown x5 (fun r e=>by cases e;exact hD)).iO fF (by have:=H.o.hB;omega) (fun k Y e=>by have:=H.o.hBG;omega)
     ·have:=a8.size;have:=H.o.hB;omega
     ·rw[Jj];exact H.o.hl
    case stop =>
     rintro D c pre W _ _ h _;exact h.elim
  ·have F:=cf.o;rw[if_pos hr]at F;have z3:=Aq F;clear F cf;have d8:(r != 0)=true:=by simpa using hr
   clear y6 z1 x9 v0 v1 v9;go_wp2;rw[z3.o];refine⟨_,results_tmp rfl _ _ _,⟨rfl,⟨x0.o,bP.o,z2.o,by have:=H.o.hB;omega,H.o.hBP,H.o.hBG,H.o.hm,H.o.hl⟩,z6⟩⟩
end
section
open Go.RowKit
theorem Zgd (P G B:Nat)(z y:Option Addr)(n cc m x:Nat)(fs:List Bd.aa)(s:Bd.St)(aL op a:Int)(w:World)(h:hH w P G B z y n cc m x fs s)(b:Bd.Ok n s)(r:fs.all Bd.dB=true)(v:0≤aL)(u:aL<n)(k:n≤1000000000000000) :
  Calls Tryz.prog 88 #[.pointer (some ⟨P,0,none⟩),Aj aL,.agg #[Aj op,Aj a]] w (fi w P G B z y n cc m x fs (Bd.look n fs s aL (op,a))):=by
 by_cases p:Bd.bp n fs.length aL (op,a)=0
 ·cases q:(Bd.bk s.pl aL).aR with
  |false=>exact ms P G B z y n cc m x fs s aL op a w h v u k p q
  |true=>exact n_ P G B z y n cc m x fs s aL op a w h b r v u k p q
 ·exact mV P G B z y n cc m x fs s aL op a w h v u k p
theorem Zho {P:Program}(t e:TypeId)(i:TypeInfo)(z:Value) (v:P.underlying t=some (.slice e)) (hi:P.info? e=some i) (p:i.zero=some z)
  (u y:IntKind) (n c:Nat) (r:n≤c) (s:i.bytes*c≤281474976710656) (q:c≤9223372036854775807) (w:World) :
  (Instr.makeSlice t (.int u (n:Int)) (.int y (c:Int))).run P w=.ok (.slice (some ⟨w.heap.size,0,none⟩) n c) (w.alloc (.cells (madeCells z.cells (c*i.size)) e)):=by
 have k:(i.bytes:Int)*(c:Int)≤281474976710656:=by
  have h:((i.bytes*c:Nat):Int)≤281474976710656:=by omega
  rwa [Int.natCast_mul]at h
 have x:=run_make (P:=P) w t e i z v hi p u y n c (by omega) (by omega) k (by omega);simp only[Da]at x;exact x
theorem Xp:(Tryz.prog.info? 197).map (fun i=>(i.zero,i.size,i.bytes))=some (some (.agg #[.bool false,Aj 0,Aj 0]),3,24):=by kernel_rfl
theorem Tf (a b:List Bd.Place):Df (a++b)=Df a++Df b:=by
 induction a with
 |nil=>rfl
 |cons p r ih=>simp[Df,ih]
theorem Tm (n:Nat):madeCells #[Value.bool false,Aj 0,Aj 0] (n*3)=(Df (List.replicate n ⟨false,0,0⟩)).toArray:=by
 unfold madeCells;apply Array.toList_inj.1;simp only[pL,pM]
 induction n with
 |zero=>rfl
 |succ n ih =>
  rw[qv,Tf,←ih,show (n+1)*3=n*3+1+1+1 by omega,od,od,od];simp only[oq,oD,oR,ox,oy,le,Df];have y:n*3 % 3=0:=by omega
  have z:(n*3+1) % 3=1:=by omega
  have x:(n*3+1+1) % 3=2:=by omega
  simp[y,z,x]
theorem Uj (q p:Option Addr)(n cc m v:Nat)(w:World)(b:n≤1000000000000) :
  Calls Tryz.prog 87 #[.slice q n cc,.slice p m v] w fun e w'=>e=.returned (.pointer (some ⟨w.heap.size+1,0,none⟩)) ∧
   (w.alloc (.cells (Df (Bd.start n).pl).toArray 197)).alloc (.cells #[.slice q n cc,.slice p m v,.slice (some ⟨w.heap.size,0,none⟩) (n+1) (n+1),Aj 0,Aj 0] 200)=w':=by
 obtain⟨s,hi,y,z,u⟩:=info_parts Xp;have am:=fun W=>Zho (P:=Tryz.prog) 198 197 s _ Tryz.underlying198 hi y .i64 .i64 (n+1) (n+1) Aw (by rw[u];omega) (by omega) W
 have ec:((n+1:Nat):Int)=(n:Int)+1:=by omega
 rw[ec,z,show (Value.agg #[.bool false,Aj 0,Aj 0]).cells = #[Value.bool false,Aj 0,Aj 0] from rfl,Tm]at am;obtain⟨mc,x⟩:∃mc,mc=(Df (List.replicate (n+1) ⟨false,0,0⟩)).toArray:=⟨_,rfl⟩;rw[←x]at am;have a:mc[0]?=some (.bool false):=by rw[x];simp[qD,Df]
 have k:mc.setIfInBounds 0 (.bool true)=(Df (Bd.start n).pl).toArray:=by rw[x];simp[qD,Df,Bd.start]
 have r:=Aq k;clear hi y z u ec x k;go_enter Tryz.func87,Tryz.ntmps87;go_wp2_with fail
 go_ret;refine⟨rfl,?_⟩;rw[←r.o]
def Ug (c:Bd.aa):Value:=.agg #[Aj c.aU,Aj c.delta,Aj c.aM,Aj c.steps]
def Zhg (w:World)(r:Bd.aa×Int×Int)(e:Ending)(w':World):Prop:=e=.returned (.tuple #[Ug r.1,Aj r.2.1,Aj r.2.2])∧Below w.heap.size w w'
theorem Wf (Q Y:Option Addr)(n cc m C B:Nat) (l:List (Int×Int)) (fs:List Bd.aa) (w:World) (hl:aE w B 2 Q n (Cu l)) (hF:aE w B 4 Y m (Ct fs)) (hB:B≤w.heap.size) (x4:n=l.length) (hm:m=fs.length) (hn:n≤1000000000000) (z3:m≤1000000000000) :
  Calls Tryz.prog 63 #[.slice Q n cc,.slice Y m C] w (Zhg w (Bd.aA l fs)):=by
 have HL:=Aq hl;have hc:=Aq hF;have M:=Aq x4;have T:=Aq hm;clear hl hF x4 hm;go_enter Tryz.func63,Tryz.ntmps63;go_wp2_with fail
 go_loopw [16] (fun i wr=>∃k:Nat,k≤m∧i=Aj k∧(∀c∈fs.take k,Bd.dB c=true)∧Below (w.heap.size+1) (w.alloc (.cells #[Aj 0,Aj 0,Aj 0,Aj 0] 78)) wr) (fun i _=>m-(intOf i).toNat)
 case atStart=>exact⟨0,by omega,rfl,by simp,aI⟩
 case round =>
  obtain⟨k,hk,rfl,HM,f⟩:=hrel;have d0:=Aq HM;clear HM;have x8:=f.size;simp at x8;have W:wr.cell? ⟨w.heap.size,0,none⟩=some (Aj 0):=by rw[f.cell (by simp)];simp[go_sem]
  have r1:wr.cell? ⟨w.heap.size,1,none⟩=some (Aj 0):=by rw[f.cell (by simp)];simp[go_sem]
  have r2:wr.cell? ⟨w.heap.size,2,none⟩=some (Aj 0):=by rw[f.cell (by simp)];simp[go_sem]
  have r3:wr.cell? ⟨w.heap.size,3,none⟩=some (Aj 0):=by rw[f.cell (by simp)];simp[go_sem]
  by_cases z1:k<m
  ·have Af:aE wr B 4 Y m (Ct fs):=(hc.o.alloc hB _).below f (by omega);obtain⟨c,S⟩:∃c,fs[k]?=some c:=⟨_,Bf (by have:=T.o;omega)⟩;obtain⟨b,off,rfl,x9,s⟩:=Af.2 (by omega);obtain⟨g0,K,F,g3⟩:=Hb fs k c S;have g:=s _ _ g0;have r:=s _ _ K;have U:=s _ _ F;have I:=s _ _ g3;rw[←mt]at r U I;have HC:=Aq S;clear s g0 K F g3 S Af;obtain⟨cn,cd,cp,cs⟩:=c;simp only at g r U I;go_wp2_with fail
   refine(Zbq ⟨cn,cd,cp,cs⟩ _).mono ?_;rintro e w1⟨rfl,w3⟩;have u:Below (w.heap.size+1) (w.alloc (.cells #[Aj 0,Aj 0,Aj 0,Aj 0] 78)) w1:=(f.alloc (by omega) _).trans (w3.mono (by simp;omega));cases O:Bd.dB ⟨cn,cd,cp,cs⟩ with
   |true =>
    have x6:=Aq O;clear O;clear W r1 r2 r3 g r U I w3;go_wp2;go_roundw
    case rel=>exact⟨k+1,by omega,by go_num,by
     intro c' cf;rw[oC,HC.o]at cf;rcases List.mem_append.1 cf with h|h
     ·exact d0.o c' h
     ·simp at h;subst h;exact x6.o,u⟩
    case measure=>simp[intOf];omega
   |false =>
    have D:Bd.aA l fs=(⟨0,0,0,0⟩,0,1):=by
     unfold Bd.aA;rw[if_neg];intro hh;have:=List.all_eq_true.1 hh _ (Bz HC.o);rw[O]at this;cases this
    have N:=Aq D;have q0:w1.cell? ⟨w.heap.size,0,none⟩=some (Aj 0):=by rw[u.cell (by simp)];simp[go_sem]
    have q1:w1.cell? ⟨w.heap.size,1,none⟩=some (Aj 0):=by rw[u.cell (by simp)];simp[go_sem]
    have q2:w1.cell? ⟨w.heap.size,2,none⟩=some (Aj 0):=by rw[u.cell (by simp)];simp[go_sem]
    have q3:w1.cell? ⟨w.heap.size,3,none⟩=some (Aj 0):=by rw[u.cell (by simp)];simp[go_sem]
    have z:∀o,w1.frozen? ⟨w.heap.size,o,none⟩=false:=fun o=>by rw[u.frozen (by simp)];simp[go_sem]
    clear O D W r1 r2 r3 g r U I w3;go_wp2;refine bodyPost_ret (v:=.tuple #[.agg #[Aj 0,Aj 0,Aj 0,Aj 0],Aj 0,Aj 1]) (by simp[results,Tryz.results63,go_sem,q0,q1,q2,q3]) rfl ⟨by rw[N.o];rfl,?_⟩;have d:Below w.heap.size w w1:=(aI.alloc Aw _).trans (u.mono (by omega));exact((((d.setCell Aw _).setCell Aw _).setCell Aw _).setCell Aw _)
  ·obtain⟨y,rfl⟩:∃y:World,y=wr:=⟨_,rfl⟩;have wo:k=m:=by omega
   have d1:fs.all Bd.dB=true:=by
    rw[List.all_eq_true];intro c S;have:=d0.o c;rw[wo,T.o,pB]at this;exact this S
   have D:Bd.aA l fs=Bd.rest l.length fs l 0 (Bd.start l.length):=by unfold Bd.aA;rw[if_pos d1]
   have r0:=Aq d1;have N:=Aq D;have z0:=Aq wo;clear d1 D wo W r1 r2 r3;go_wp2_with fail
   refine(Uj Q Y n cc m C _ hn).mono ?_;rintro e w1⟨rfl,G⟩;have J:Below (w.heap.size+1) (w.alloc (.cells #[Aj 0,Aj 0,Aj 0,Aj 0] 78)) w1:=by rw[←G];exact(f.alloc (by omega) _).alloc (by simp;omega) _
   have A:hH w1 (y.heap.size+1) y.heap.size B Q Y n cc m C fs (Bd.start n):=by
    refine⟨?_,?_,(hc.o.alloc hB _).below J (by omega),by have:=J.size;simp at this;omega,by omega,by omega,T.o,by simp[Bd.start]⟩
    ·rw[←G];exact qH _ _ _ (by simp)
    ·rw[←G];exact(qG _ _ _).alloc _
   have p:=Aq A;have d2:=Aq (show Bd.aA l fs=Bd.rest n fs (l.drop 0) ((0:Nat):Int) (Bd.start n) by rw[N.o,M.o];rfl);clear G A N;go_wp2_with fail
   go_loopw [30] (fun i w2=>∃(k:Nat) (st:Bd.St),k≤n∧i=Aj k∧hH w2 (y.heap.size+1) y.heap.size B Q Y n cc m C fs st∧Bd.Ok n st∧Bd.aA l fs=Bd.rest n fs (l.drop k) k st∧Below (w.heap.size+1) (w.alloc (.cells #[Aj 0,Aj 0,Aj 0,Aj 0] 78)) w2) (fun i _=>n-(intOf i).toNat)
   case atStart=>exact⟨0,_,by omega,rfl,p.o,Bd.eX n,d2.o,J⟩
   case round =>
    clear p d2 J d0;obtain⟨j,st,hj,rfl,A,hx,Ac,u⟩:=hrel;have V:=Aq Ac;have E:=Aq hx;have p:=Aq A;have y0:=u.size;simp at y0;clear Ac hx A;by_cases y9:j<n
    ·have x3:aE wr B 2 Q n (Cu l):=(HL.o.alloc hB _).below u (by omega);obtain⟨x,P⟩:∃x,l[j]?=some x:=⟨_,Bf (by have:=M.o;omega)⟩;obtain⟨b,off,rfl,x9,s⟩:=x3.2 (by omega);obtain⟨g0,K⟩:=Tv l j x P;have g:=s _ _ g0;have r:=s _ _ K;rw[←mt]at r;have x2:l.drop j=x::l.drop (j+1):=by
      have hr:j<l.length:=by have:=M.o;omega
      rw[pI hr];rw[Bf hr]at P
      injection P with P
      rw[P]
     have L:=Aq x2;clear s g0 K P x3 x2;obtain⟨op,a⟩:=x;simp only at g r;go_wp2_with fail
     refine(Zgd (y.heap.size+1) y.heap.size B (some ⟨b,off,none⟩) Y n cc m C fs st j op a _ (by exact p.o.below (aI.alloc Aw _)) E.o r0.o (by omega) (by omega) (by omega)).mono ?_;rintro e X⟨rfl,x0,g2⟩;have d:Below (w.heap.size+1) (w.alloc (.cells #[Aj 0,Aj 0,Aj 0,Aj 0] 78)) X:=(u.alloc (by omega) _).trans (g2.below (by simp;omega) (fun k hk=>by omega));have x5:=Aq x0;clear g r x0 g2 p;by_cases Z:(Bd.look n fs st j (op,a)).1=0
     ·have x1:=Bd.jg r0.o E.o Z;have y8:=Aq x1;have H:Bd.aA l fs=Bd.rest n fs (l.drop (j+1)) ((j+1:Nat):Int) (Bd.look n fs st j (op,a)).2:=by
       rw[V.o,L.o,Bd.rest,if_neg (by rw[Z];simp)];rw[show ((j+1:Nat):Int)=(j:Int)+1 by omega]
      have R:=Aq H;rw[Z];generalize Bd.look n fs st j (op,a)=rr at *;clear Z x1 H V E L;go_wp2;go_roundw
      case rel=>exact⟨j+1,rr.2,by omega,by go_num,x5.o,y8.o,R.o,d⟩
      case measure=>simp[intOf];omega
     ·have H:Bd.aA l fs=(⟨0,0,0,0⟩,(j:Int),(Bd.look n fs st j (op,a)).1):=by
       rw[V.o,L.o,Bd.rest,if_pos Z]
      have R:=Aq H;have z2:((Bd.look n fs st j (op,a)).1 != 0)=true:=by simpa using Z
      generalize (Bd.look n fs st j (op,a)).1=rr at *;have q0:X.cell? ⟨w.heap.size,0,none⟩=some (Aj 0):=by rw[d.cell (by simp)];simp[go_sem]
      have q1:X.cell? ⟨w.heap.size,1,none⟩=some (Aj 0):=by rw[d.cell (by simp)];simp[go_sem]
      have q2:X.cell? ⟨w.heap.size,2,none⟩=some (Aj 0):=by rw[d.cell (by simp)];simp[go_sem]
      have q3:X.cell? ⟨w.heap.size,3,none⟩=some (Aj 0):=by rw[d.cell (by simp)];simp[go_sem]
      have z:∀o,X.frozen? ⟨w.heap.size,o,none⟩=false:=fun o=>by rw[d.frozen (by simp)];simp[go_sem]
      clear Z H V E L x5;go_wp2;refine bodyPost_ret (v:=.tuple #[.agg #[Aj 0,Aj 0,Aj 0,Aj 0],Aj j,Aj rr]) (by simp[results,Tryz.results63,go_sem,q0,q1,q2,q3]) rfl ⟨by rw[R.o];rfl,?_⟩;have g1:Below w.heap.size w X:=(aI.alloc Aw _).trans (d.mono (by omega));exact((((g1.setCell Aw _).setCell Aw _).setCell Aw _).setCell Aw _)
    ·have hb:j=n:=by omega
     have x7:=p.o.hl;obtain⟨q,hq⟩:∃q,st.pl[n]?=some q:=⟨_,Bf (by omega)⟩;have d3:Bd.bk st.pl (n:Int)=q:=by unfold Bd.bk;rw[Bo];simp[hq]
     have H:Bd.aA l fs=(⟨st.aU,q.aC,st.aM,q.steps⟩,0,0):=by
      have hd:l.drop j=[]:=List.drop_eq_nil_of_le (by have:=M.o;omega);rw[V.o,hd,Bd.rest,hb,d3]
     have R:=Aq H;obtain⟨g0,K,F⟩:=Hp st.pl n q hq;have u2:wr.cell? ⟨y.heap.size+1,2,none⟩=some (.slice (some ⟨y.heap.size,0,none⟩) (n+1) (n+1)):=by rw[p.o.hP.cell];rfl
     have u3:wr.cell? ⟨y.heap.size+1,3,none⟩=some (Aj st.aU):=by rw[p.o.hP.cell];rfl
     have u4:wr.cell? ⟨y.heap.size+1,4,none⟩=some (Aj st.aM):=by rw[p.o.hP.cell];rfl
     have g:wr.cell? ⟨y.heap.size,n*3,none⟩=some (.bool q.aR):=by rw[p.o.hG.cell];simpa using g0
     have r:wr.cell? ⟨y.heap.size,n*3+1,none⟩=some (Aj q.aC):=by rw[p.o.hG.cell];simpa using K
     have U:wr.cell? ⟨y.heap.size,n*3+2,none⟩=some (Aj q.steps):=by rw[p.o.hG.cell];simpa using F
     have q0:wr.cell? ⟨w.heap.size,0,none⟩=some (Aj 0):=by rw[u.cell (by simp)];simp[go_sem]
     have q1:wr.cell? ⟨w.heap.size,1,none⟩=some (Aj 0):=by rw[u.cell (by simp)];simp[go_sem]
     have q2:wr.cell? ⟨w.heap.size,2,none⟩=some (Aj 0):=by rw[u.cell (by simp)];simp[go_sem]
     have q3:wr.cell? ⟨w.heap.size,3,none⟩=some (Aj 0):=by rw[u.cell (by simp)];simp[go_sem]
     have z:∀o,wr.frozen? ⟨w.heap.size,o,none⟩=false:=fun o=>by rw[u.frozen (by simp)];simp[go_sem]
     have y1:y.heap.size+1<wr.heap.size:=p.o.hP.lt;have y2:y.heap.size<wr.heap.size:=by omega
     have y3:w.heap.size<wr.heap.size:=by omega
     have y4:y.heap.size+1≠w.heap.size:=by omega
     have y5:w.heap.size≠y.heap.size+1:=by omega
     have y6:wr.heap.size≠w.heap.size:=by omega
     have y7:w.heap.size≠wr.heap.size:=by omega
     obtain⟨qk,qh,qs⟩:=q;simp only at g r U R;have HJ:=Aq hb;clear H V E p hq d3 g0 K F x7 hb;go_wp2_with fail
     go_region_held3 (fun w'=>w'.cell? ⟨y.heap.size+1,3,none⟩=some (Aj st.aU)∧w'.cell? ⟨y.heap.size+1,4,none⟩=some (Aj st.aM)∧w'.cell? ⟨wr.heap.size,1,none⟩=some (Aj qh)∧w'.cell? ⟨wr.heap.size,2,none⟩=some (Aj qs)) (first|(go_keep;done)|(refine⟨?_,?_,?_,?_⟩ <;> first|(go_keep;done)|(simp[go_sem];done))) (first|fail);go_wp2;refine bodyPost_ret (v:=.tuple #[.agg #[Aj st.aU,Aj qh,Aj st.aM,Aj qs],Aj 0,Aj 0]) (by simp[results,Tryz.results63,go_sem,q0,q1,q2,q3,y3]) rfl ⟨by rw[R.o];rfl,?_⟩;have g1:Below w.heap.size w wr:=(aI.alloc Aw _).trans (u.mono (by omega));exact((((((g1.setCell Aw _).setCell Aw _).setCell Aw _).setCell Aw _).alloc (by simp[World.setCell];omega) _).drew)
def Sf (w:World)(r:List Bd.aa×Int×Int)(e:Ending)(w':World):Prop :=
 ∃A c,e=.returned (.tuple #[.slice A r.1.length c,Aj r.2.1,Aj r.2.2])∧aE w' w'.heap.size 4 A r.1.length (Ct r.1)∧Below w.heap.size w w'
theorem Zdd:(Tryz.prog.info? 78).map (fun i=>(i.zero,i.size,i.bytes))=some (some (.agg #[Aj 0,Aj 0,Aj 0,Aj 0]),4,32):=by kernel_rfl
theorem Qa (a b:List Bd.aa):Ct (a++b)=Ct a++Ct b:=by
 induction a with
 |nil=>rfl
 |cons p r ih=>simp[Ct,ih]
theorem Gi {w:World}{aN:Nat}{e:TypeId}{size n:Nat}{v:Value}{xs:List Value}(h:w.ownsRow aN e size v n xs):∃A c,v=.slice A n c∧aE w w.heap.size size A n xs:=by
 rcases h.2 with⟨rfl,rfl⟩|⟨g,cY,aF,rfl,_⟩
 ·exact⟨none,0,rfl,qI (c:=0) h⟩
 ·exact⟨_,cY,rfl,qI h⟩
theorem Yi (A:Option Addr)(n c:Nat)(w:World)(x:20<n) :
  Calls Tryz.prog 33 #[.slice A n c] w fun e w'=>e=.returned (.tuple #[.slice none 0 0,Aj 20,Aj 2])∧w=w':=by
 have h:(20:Int)<n:=by omega
 go_enter Tryz.func33,Tryz.ntmps33;go_wp2;go_ret3;exact⟨rfl,rfl⟩
theorem Zcr (A:Option Addr)(c B:Nat) (ll:List (List (Int×Int))) (w:World) (hR:cN w B A ll) (hB:B≤w.heap.size) (hn:ll.length≤20) (D:∀l∈ll,l.length≤1000000000000) :
  Calls Tryz.prog 33 #[.slice A ll.length c] w (Sf w (Bd.funcsGo ll 0 [])):=by
 obtain⟨L,hi,J,c3,T⟩:=info_parts Zdd;obtain⟨n,Q⟩:∃n,n=ll.length:=⟨_,rfl⟩;rw[←Q]at hn ⊢;have am:=fun W=>Zho (P:=Tryz.prog) 81 78 L _ Tryz.underlying81 hi J .i64 .i64 0 n (By _) (by rw[T];omega) (by omega) W
 rw[c3,show ((0:Nat):Int)=0 from rfl]at am;have m:=Aq Q;have HR:=Aq hR;have d0:=Aq D;have x5:¬ (20:Int)<n:=by omega
 clear Q hR D;go_enter Tryz.func33,Tryz.ntmps33;go_wp2_with fail
 go_loopw [5,19] (fun v i wr=>∃(k:Nat) (cs:List Bd.aa),k≤n∧i=Aj k∧cs.length=k∧wr.ownsRow w.heap.size 78 4 v cs.length (Ct cs)∧Bd.funcsGo (ll.drop k) k cs=Bd.funcsGo ll 0 []∧Below w.heap.size w wr) (fun _ i _=>n-(intOf i).toNat)
 case atStart =>
  refine⟨0,[],by omega,rfl,rfl,⟨rfl,.inr ⟨w.heap.size,n,_,rfl,Aw,heap_alloc_new w _,by simp,by unfold maxLen;omega,size_madeCells _ _,by simp[Ct]⟩⟩,by simp,aI.alloc Aw _⟩
 case round =>
  obtain⟨k,cs,hk,rfl,h0,U,hl,d⟩:=hrel;obtain⟨X,K,rfl,H⟩:=Gi U;have i0:=Aq U;have q:=Aq hl;have y0:=Aq h0;have hb:=d.size;have x3:cs.length≤k∧k≤cs.length:=by omega
  clear U hl h0;by_cases x4:k<n
  ·obtain⟨l,s⟩:∃l,ll[k]?=some l:=⟨_,Bf (by have:=m.o;omega)⟩;have x0:=HR.o.below d hB;obtain⟨vs,I,hr⟩:=x0;obtain⟨v,hv,Al,cl,rfl,G⟩:=hr k l s;obtain⟨b,off,rfl,x2,F⟩:=I.2 (by have:=m.o;omega);have E:=F _ _ hv;have c1:ll.drop k=l::ll.drop (k+1):=by
    have S:k<ll.length:=by have:=m.o;omega
    rw[pI S];rw[Bf S]at s;rw[oU s]
   have j:=Aq c1;have c2:=d0.o l (Bz s);have A':=Aq G;have Z:=Aq H;clear F hr I hv s c1 G H;go_wp2_with fail
   refine(Wf Al X l.length cl cs.length K wr.heap.size l cs _ (A'.o.aY (by omega)) Z.o Aw rfl rfl c2 (by omega)).mono ?_;rintro e w1⟨rfl,Y⟩;clear c2 am;simp only[Ug];have N:Below w.heap.size w w1:=d.trans (Y.mono hb);by_cases r:(Bd.aA l cs).2.2=0
   ·have x:Bd.funcsGo (ll.drop (k+1)) ((k+1:Nat):Int) (cs++[(Bd.aA l cs).1])=Bd.funcsGo ll 0 []:=by
     have a:=q.o;rw[j.o,Bd.funcsGo,if_neg (by rw[r];simp)]at a;rw[←a,show ((k+1:Nat):Int)=(k:Int)+1 by omega]
    have p:=Aq x;rw[r];have M:=Ht i0.o Y Aw;have O:=Aq M;generalize (Bd.aA l cs).1=cc at *;obtain⟨c0,z,y,u⟩:=cc;clear r x j q M E;have z1:=Y.size;have C:((w1.alloc (.cells #[Aj c0,Aj z,Aj y,Aj u] 78)).alloc (.cells #[Aj c0,Aj z,Aj y,Aj u] 78)).ownsRow w.heap.size 78 4 (.slice X cs.length K) cs.length (Ct cs):=Ht O.o ((aI.alloc Aw _).alloc (by simp) _) Aw;have x1:=Aq C;have V:=aE.lP (w1.alloc (.cells #[Aj c0,Aj z,Aj y,Aj u] 78)) 78 [Aj c0,Aj z,Aj y,Aj u];simp only[World.size_alloc]at V;have hg:=Aq V;clear C V;go_wp2_with (at_builtin;refine Cp _ rfl (.tmp 35) (.tmp 37) _ rfl w.heap.size 78 L _ 4 32 Tryz.underlying81 hi J c3 T rfl (by omega) (.slice X cs.length K) cs.length (Ct cs) rfl x1.o (w1.heap.size+1+1) (some ⟨w1.heap.size+1,0,none⟩) 1 1 [Aj c0,Aj z,Aj y,Aj u] rfl hg.o (by simp[Value.oneCell']) (by unfold maxLen;omega) (by omega) (by simp;omega) ?_;intro v' w2 HN c' x7)
    refine⟨⟨k+1,cs++[⟨c0,z,y,u⟩],by omega,by go_num,by simp;omega,?_,p.o,?_⟩,by simp[intOf];omega⟩
    ·rw[Ca,Qa];exact HN
    ·refine Below.grown (((N.alloc (by omega) _).alloc (by simp;omega) _)) c' (by simp;omega) ?_;intro g f;rcases O.o.2 with⟨h,_⟩|⟨g',_,_,h,x6,_⟩
     ·rw[h]at f;simp[Value.ownBlock]at f
     ·rw[h]at f;simp[Value.ownBlock]at f;omega
   ·have x:Bd.funcsGo ll 0 []=([],(k:Int),(Bd.aA l cs).2.2):=by
     rw[←q.o,j.o,Bd.funcsGo,if_pos r]
    have p:=Aq x;have x9:((Bd.aA l cs).2.2 != 0)=true:=by simpa using r
    generalize (Bd.aA l cs).2.2=rr at *;generalize (Bd.aA l cs).2.1=ra at *;generalize (Bd.aA l cs).1=cc at *;obtain⟨c0,z,y,u⟩:=cc;clear r x j q E;go_wp2;go_ret3;refine⟨none,0,by rw[p.o];rfl,?_,N.alloc (by have:=Y.size;omega) _⟩;rw[p.o];exact qK
  ·have R:k=n:=by omega
   have x:Bd.funcsGo ll 0 []=(cs,0,0):=by
    have a:=q.o;rw[List.drop_eq_nil_of_le (by have:=m.o;omega),Bd.funcsGo]at a;exact a.symm
   have p:=Aq x;have x8:=Aq R;have Z:=Aq H;clear R x q H am;go_wp2;go_ret3;refine⟨X,K,by rw[p.o];rfl,?_,d⟩;rw[p.o];exact Z.o
theorem Rm (A:Option Addr)(c B:Nat) (ll:List (List (Int×Int))) (w:World) (x:cN w B A ll) (y:B≤w.heap.size) (z:∀l∈ll,l.length≤1000000000000) :
  Calls Tryz.prog 33 #[.slice A ll.length c] w (Sf w (Bd.funcs ll)):=by
 by_cases h:ll.length>20
 ·have e:Bd.funcs ll=([],20,2):=by unfold Bd.funcs;rw[if_pos h]
  rw[e];refine(Yi A ll.length c w h).mono ?_;rintro e w'⟨rfl,rfl⟩;exact⟨none,0,rfl,qK,aI⟩
 ·have e:Bd.funcs ll=Bd.funcsGo ll 0 []:=by unfold Bd.funcs;rw[if_neg h]
  rw[e];exact Zcr A c B ll w x y (by omega) z
def Sc (w:World)(r:Bd.aa×Int)(e:Ending)(w':World):Prop:=e=.returned (.tuple #[Ug r.1,Aj r.2])∧Below w.heap.size w w'
theorem Za (d c:Option Addr)(cc X B:Nat) (l:List (Int×Int)) (fs:List Bd.aa) (w:World) (K:aE w B 2 d l.length (Cu l)) (H:aE w B 4 c fs.length (Ct fs)) (Y:B≤w.heap.size) (p:l.length≤1000000000000) (i:fs.length≤1000000000000) :
  Calls Tryz.prog 62 #[.slice d l.length cc,.slice c fs.length X] w (Sc w (Bd.fp l fs)):=by
 obtain⟨r,b⟩:∃r,r=Bd.aA l fs:=⟨_,rfl⟩;have x:Bd.fp l fs=if r.2.2≠0 then(⟨0,0,0,0⟩,r.2.2) else if r.1.aU>0 then(⟨0,0,0,0⟩,51) else(r.1,0):=by unfold Bd.fp;rw[b]
 have j:=Aq (fun W g f=>Wf d c l.length cc fs.length X B l fs W g f);rw[←b]at j;obtain⟨⟨c0,V,Q,R⟩,C,s⟩:=r;simp only at x;have u:=Aq x;have A:=Aq K;have U:=Aq H;have S:=Aq p;have Z:=Aq i;clear x b K H p i;generalize l.length=n at *;generalize fs.length=m at *;go_enter Tryz.func62,Tryz.ntmps62;go_wp2_with fail
 refine(j.o _ (by exact A.o.alloc Y _) (by exact U.o.alloc Y _) (by simp;omega) trivial trivial S.o Z.o).mono ?_;rintro e w1⟨rfl,y⟩;simp only[Ug];have D:Below w.heap.size w w1:=(aI.alloc Aw _).trans (y.mono (by simp));have P:=y.size;simp at P;have q0:w1.cell? ⟨w.heap.size,0,none⟩=some (Aj 0):=by rw[y.cell (by simp)];simp[go_sem]
 have q1:w1.cell? ⟨w.heap.size,1,none⟩=some (Aj 0):=by rw[y.cell (by simp)];simp[go_sem]
 have q2:w1.cell? ⟨w.heap.size,2,none⟩=some (Aj 0):=by rw[y.cell (by simp)];simp[go_sem]
 have q3:w1.cell? ⟨w.heap.size,3,none⟩=some (Aj 0):=by rw[y.cell (by simp)];simp[go_sem]
 have z:∀o,w1.frozen? ⟨w.heap.size,o,none⟩=false:=fun o=>by rw[y.frozen (by simp)];simp[go_sem]
 have a:w.heap.size<w1.heap.size:=by omega
 clear y;by_cases q:s=0
 ·subst q;by_cases p:0<c0
  ·have x:=u.o;rw[if_neg (by simp),if_pos p]at x;have k:=Aq x;clear x u;go_wp2;refine bodyPost_ret (v:=.tuple #[.agg #[Aj 0,Aj 0,Aj 0,Aj 0],Aj 51]) (by simp[results,Tryz.results62,go_sem,q0,q1,q2,q3,a]) rfl ⟨by rw[k.o];rfl,(by repeat (first|exact aI|assumption|(refine ot ?_ (by first|omega|(simp;done)|(simp;omega)) _)|(refine ou ?_)|(refine below_drewN ?_ _)|(refine ov ?_ (by first|omega|(simp;done)|(simp;omega)) _)))⟩
  ·have x:=u.o;rw[if_neg (by simp),if_neg p]at x;have k:=Aq x;clear x u;go_wp2;refine bodyPost_ret (v:=.tuple #[.agg #[Aj c0,Aj V,Aj Q,Aj R],Aj 0]) (by simp[results,Tryz.results62,go_sem,q0,q1,q2,q3,a]) rfl ⟨by rw[k.o];rfl,(by repeat (first|exact aI|assumption|(refine ot ?_ (by first|omega|(simp;done)|(simp;omega)) _)|(refine ou ?_)|(refine below_drewN ?_ _)|(refine ov ?_ (by first|omega|(simp;done)|(simp;omega)) _)))⟩
 ·have x:=u.o;rw[if_pos q]at x;have k:=Aq x;have g:(s==0)=false:=by simpa using q
  have f:(s != 0)=true:=by simpa using q
  clear x u q;go_wp2;refine bodyPost_ret (v:=.tuple #[.agg #[Aj 0,Aj 0,Aj 0,Aj 0],Aj s]) (by simp[results,Tryz.results62,go_sem,q0,q1,q2,q3,a]) rfl ⟨by rw[k.o];rfl,(by repeat (first|exact aI|assumption|(refine ot ?_ (by first|omega|(simp;done)|(simp;omega)) _)|(refine ou ?_)|(refine below_drewN ?_ _)|(refine ov ?_ (by first|omega|(simp;done)|(simp;omega)) _)))⟩
theorem Mn (A d:Option Addr)(c g B:Nat)(aP:Value)(size:Int) (ll:List (List (Int×Int))) (l:List (Int×Int)) (w:World) (M:∃a n k,aP=.slice a n k) (R:cN w B A ll) (U:aE w B 2 d l.length (Cu l)) (X:B≤w.heap.size) (j:∀l∈ll,l.length≤1000000000000) (Q:l.length≤1000000000000) :
  Calls Tryz.prog 32 #[.agg #[.slice A ll.length c,.slice d l.length g,aP,Aj size]] w (Sc w (Bd.program ll l)):=by
 obtain⟨ca,cn,ck,rfl⟩:=M;have K:=Bd.kH ll;obtain⟨r,f⟩:∃r,r=Bd.funcs ll:=⟨_,rfl⟩;have x:Bd.program ll l=if r.2.2≠0 then(⟨0,0,0,0⟩,r.2.2) else Bd.fp l r.1:=by unfold Bd.program;rw[f]
 rw[←f]at K;have S:=Aq (fun W h=>Rm A c B ll W h);rw[←f]at S;obtain⟨cs,ra,i⟩:=r;simp only at x K;have q:=Aq x;have HR:=Aq R;have HL:=Aq U;have T:=Aq j;have HN:=Aq Q;clear x f R U j Q;have he:=Aq (fun Af J B' W h1 Y F=>Za d Af g J B' l cs W h1 Y F);generalize H:l.length=n at *;generalize ll.length=m at *;have hr:=Aq H;clear H;go_enter Tryz.func32,Tryz.ntmps32;go_wp2_with fail
 refine(S.o _ (by exact(HR.o.below (aI.alloc Aw _) X).below (aI.alloc Aw _) (by simp;omega)) (by simp;omega) T.o).mono ?_;rintro e w1⟨A1,c1,rfl,V,y⟩;simp only;have Z:Below w.heap.size w w1:=((aI.alloc Aw _).alloc (by simp) _).trans (y.mono (by simp;omega));have D:=y.size;simp at D;have q0:w1.cell? ⟨w.heap.size+1,0,none⟩=some (Aj 0):=by rw[y.cell (by simp)];simp[go_sem]
 have q1:w1.cell? ⟨w.heap.size+1,1,none⟩=some (Aj 0):=by rw[y.cell (by simp)];simp[go_sem]
 have q2:w1.cell? ⟨w.heap.size+1,2,none⟩=some (Aj 0):=by rw[y.cell (by simp)];simp[go_sem]
 have q3:w1.cell? ⟨w.heap.size+1,3,none⟩=some (Aj 0):=by rw[y.cell (by simp)];simp[go_sem]
 have z:∀o,w1.frozen? ⟨w.heap.size+1,o,none⟩=false:=fun o=>by rw[y.frozen (by simp)];simp[go_sem]
 have p1:w1.cell? ⟨w.heap.size,1,none⟩=some (.slice d n g):=by rw[y.cell (by simp;omega)];simp[go_sem]
 have p:w.heap.size+1<w1.heap.size:=by omega
 have I:=Aq V;clear y V;by_cases b:i=0
 ·subst b;have x:=q.o;rw[if_neg (by simp)]at x;have s:=Aq x;have P:=HL.o.below Z X;have N:=Aq P;clear x q P;go_wp2_with fail
  refine(he.o _ _ w1.heap.size _ (by exact N.o.aY (by omega)) (by exact I.o) Aw HN.o (by omega)).mono ?_;rintro e w2⟨rfl,u⟩;rw[←s.o];generalize Bd.program ll l=pr at *;obtain⟨⟨c0,y3,E,L⟩,pe⟩:=pr;simp only[Ug];have O:w2.cell? ⟨w.heap.size+1,0,none⟩=some (Aj 0):=by rw[u.cell p];exact q0
  have G:w2.cell? ⟨w.heap.size+1,1,none⟩=some (Aj 0):=by rw[u.cell p];exact q1
  have Am:w2.cell? ⟨w.heap.size+1,2,none⟩=some (Aj 0):=by rw[u.cell p];exact q2
  have C:w2.cell? ⟨w.heap.size+1,3,none⟩=some (Aj 0):=by rw[u.cell p];exact q3
  have z':∀o,w2.frozen? ⟨w.heap.size+1,o,none⟩=false:=fun o=>by rw[u.frozen p];exact z o
  have cm:Below w.heap.size w w2:=Z.trans (u.mono (by omega));clear q0 q1 q2 q3 z p1 s;go_wp2;refine bodyPost_ret (v:=.tuple #[.agg #[Aj c0,Aj y3,Aj E,Aj L],Aj pe]) (by simp[results,Tryz.results32,go_sem,O,G,Am,C]) rfl ⟨rfl,(by repeat (first|exact aI|assumption|(refine ot ?_ (by first|omega|(simp;done)|(simp;omega)) _)|(refine ou ?_)|(refine below_drewN ?_ _)|(refine ov ?_ (by first|omega|(simp;done)|(simp;omega)) _)))⟩
 ·have x:=q.o;rw[if_pos b]at x;have s:=Aq x;have Y:(i != 0)=true:=by simpa using b
  clear x q b;go_wp2;refine bodyPost_ret (v:=.tuple #[.agg #[Aj 0,Aj 0,Aj 0,Aj 0],Aj i]) (by simp[results,Tryz.results32,go_sem,q0,q1,q2,q3]) rfl ⟨by rw[s.o];rfl,(by repeat (first|exact aI|assumption|(refine ot ?_ (by first|omega|(simp;done)|(simp;omega)) _)|(refine ou ?_)|(refine below_drewN ?_ _)|(refine ov ?_ (by first|omega|(simp;done)|(simp;omega)) _)))⟩
end
end Go.Proofs.YtnhebmgibiomnaaGreat

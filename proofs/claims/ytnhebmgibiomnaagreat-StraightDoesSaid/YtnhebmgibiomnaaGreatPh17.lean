import Derived.Deep.DeepCutAuto
import Derived.Deep.RegionHeld
import Derived.Laws.MakeOwn
import Derived.Test.YtnhebmgibiomnaaGreatPh15
import Derived.Test.YtnhebmgibiomnaaGreatPh16
set_option linter.unusedVariables false
set_option linter.unusedSimpArgs false
set_option maxRecDepth 100000
set_option maxHeartbeats 8000000
namespace Go.Proofs.YtnhebmgibiomnaaGreat
theorem Na {l n:Nat}{P:Program}{o:Oper}{a:Act}{next next':Act→World→Prop}{Q:Exit→Act→World→Prop}(x:∀a w,next a w→next' a w) :
  ∀r:Result Next,o.upon P a next Q r→o.uponIn (Fence.wide.inRound l) n P a next' Q r:=by
 intro r h;unfold Oper.upon at h;split at h
 ·exact x _ _ h
 ·exact x _ _ h
 ·exact x _ _ h
 ·refine⟨fun h=>by simp[Fence.wide]at h,CallsIn.inRound l (callsIn_wide.2 (Calls.mono h ?_))⟩;intro e w' h;split at h
  ·exact x _ _ h
  ·exact h
  ·exact h
 ·refine⟨fun h=>by simp[Fence.wide]at h,fun c cs _=>?_⟩;obtain⟨v,w',r,s⟩:=h c cs;exact⟨v,w',x _ _ r,stepsIn_wide.2 s⟩
 ·exact h
 ·exact h.elim
theorem Qp {l n:Nat}{P:Program}{ops:Array Oper}{Q:Exit→Act→World→Prop} (v:∀(i:Nat) (o:Oper) c,ops[i]?=some o→o.op≠.defer c) (u:¬ LetsOut Q) :
  ∀(x:List Nat) (a:Act) (w:World),wpOps P ops Q x a w→wpOpsIn (Fence.wide.inRound l) n P ops Q x a w:=by
 intro x
 induction x with
 |nil=>intro a w h;exact h
 |cons i rest ih =>
  intro a w h;unfold wpOps at h;unfold wpOpsIn;cases y:ops[i]? with
  |none=>rw[y]at h;exact ih a w h
  |some o =>
   rw[y]at h;simp only at h ⊢;split at h
   ·rename_i z;rw[if_pos z];rcases h with h|h
    ·refine⟨fun _ _=>trivial,?_⟩
     show o.uponIn _ n P a _ Q ((o.semAt (some l) a.eval).run P w)
     rw[Oper.semAt_some l a.eval o (fun c=>v i o c y)];exact Na (fun a w=>ih a w) _ h
    ·exact absurd h.2 u
   ·rename_i z;rw[if_neg z];exact⟨fun _ _=>trivial,ih _ _ h⟩
def Sy (ops:Array Oper):Bool:=ops.toList.all fun o=>match o.op with|.defer _=>false|_=>true
theorem Qq {ops:Array Oper}(h:Sy ops=true)(i:Nat)(o:Oper)(c) (x:ops[i]?=some o):o.op≠.defer c:=by
 intro y;have z:o∈ops.toList:=by
  have:=Bx (by simpa using x:ops.toList[i]?=some o);exact this
 have:=List.all_eq_true.1 h o z;rw[y]at this;simp at this
theorem Lx {l n id:Nat}{P:Program}{ops:Array Oper}{Q:Exit→Act→World→Prop}{a:Act}{w:World}(z:P.follows .mixedOrders=true)(y:Sy ops=true)(x:¬ LetsOut Q)
  (h:wpAny P .any ops Q ops.size (Array.replicate ops.size false) a w.drew):(Code.region id ops true).wpIn (Fence.wide.inRound l) n P Q a w :=
 wpIn_region_draw fun t=>by
  simp only[Region.schedule,z,Bool.true_or,if_true];exact Qp (Qq y) x _ _ _ (wpAny_sound ops.size t _ a _ h)
theorem Fz {l n id:Nat}{P:Program}{ops:Array Oper}{Q:Exit→Act→World→Prop}{a:Act}{w:World}(S:World→Prop)(z:P.follows .mixedOrders=true)(y:Sy ops=true)(x:¬ LetsOut Q)
  (u:S w.drew) (h:S w.drew→wpAnyH P .any ops Q S ops.size (Array.replicate ops.size false) a w.drew):(Code.region id ops true).wpIn (Fence.wide.inRound l) n P Q a w :=
 Lx z y x (wpAny_of_held _ _ _ _ (h u))
section
open Go.RowKit Go.Shelf
attribute [local go_sem] Oper.semAt_some
theorem Nh {P:Program}{f:FuncId}{fn:Func}{c:Code}{args:Array Value}{w:World}{R:Ending→World→Prop} (y:P.funcs[f]?=some fn) (x:fn.body=some c)
  (h:c.wp P (bodyPostM Fence.wide 8 P fn R) { tmps:=args++Array.replicate (fn.ntmps-args.size) undef,defers:=[] } w):Calls P f args w R :=
 (callsIn_wide (n:=8)).1 (callsIn_of_wp_marks y x trivial (wpIn_wide.2 h) rfl)
theorem Rr {n m aK op a:Int} (x:Bd.bn n m aK (op,a)=0):(Bd.az op=true→0≤a∧a≤n-1-aK)∧(Bd.ao op=true→0≤a∧a<m):=by
 unfold Bd.bn at x;simp only at x;split at x
 ·simp at x
 ·split at x
  ·simp at x
  ·rename_i z;split at x
   ·simp at x
   ·rename_i y;refine⟨fun h=>?_,fun h=>?_⟩
    ·simp[h]at z;exact z
    ·simp[h]at y;exact y
theorem Wh {n aK op a:Int}(z:0≤aK)(u:aK<n)(y:Bd.az op=true→0≤a∧a≤n-1-aK):∀t∈Bd.ways aK (op,a),0≤t∧t<n+1:=by
 intro t x;unfold Bd.ways at x;simp only[List.mem_append]at x;rcases x with x|x
 ·split at x
  ·simp at x
  ·simp at x;omega
 ·split at x
  ·rename_i h;have:=y h;simp at x;omega
  ·simp at x
theorem Ss (pl:List Bd.Place):∀(i:Nat) (q:Bd.Place),i<pl.length→Db (pl.set i q)=(((Db pl).set (i*3) (.bool q.aR)).set (i*3+1) (Aj q.aC)).set (i*3+2) (Aj q.steps):=by
 induction pl with
 |nil=>intro i q h;simp at h
 |cons p r ih =>
  intro i q h;cases i with
  |zero=>simp[Db]
  |succ i =>
   have:=ih i q (by simpa using h);rw[show (i+1)*3=i*3+3 by omega];simp[Db,this]
theorem Tf {X x:Nat}(W:World)(p:Addr)(u:Value)(q:X≠p.block)(r:x≠p.block):lF X x W (W.setCell p u):=by
 intro b o v z y;rw[mt _ _ _ _ (fun e=>by have k:=congrArg Addr.block e;simp only at k;rcases z with rfl|rfl <;> omega)];exact y
theorem Vg {X x:Nat}{W W':World}(h:lF X x W W'):lF X x W W'.drew:=h
theorem Jb (e:Bd.lr):∀(l:List Int) (pl:List Bd.Place),(l.foldl (Bd.mark e) pl).length=pl.length:=by
 intro l
 induction l with
 |nil=>intro pl;rfl
 |cons t r ih=>intro pl;rw[pN,ih];simp[Bd.mark]
theorem Xf (pl:List Bd.Place)(x:Nat)(h:x<pl.length)(e:Bd.lr)(q:Bd.Place) (y:Bd.bj pl (x:Int)=q) :
  ((((Db pl).toArray.setIfInBounds (x*3+2) (Aj (max q.steps e.steps))).setIfInBounds (x*3) (.bool true)).setIfInBounds (x*3+1) (Aj e.aC))=(Db (Bd.mark e pl x)).toArray:=by
 unfold Bd.mark;rw[y,show ((x:Int)).toNat=x by omega,Ss pl x _ h];simp only[oz]
 congr 1
 rw[List.set_comm _ _ (show x*3+2≠x*3 by omega),List.set_comm _ _ (show x*3+2≠x*3+1 by omega)]
theorem Zbe (x y:Int):(if x<y then y else x)=max x y:=by omega
theorem nR (P G B:Nat)(Ac E:Option Addr)(n cc m N:Nat)(fs:List Bd.aa)(s:Bd.St)(aK op a:Int)(w:World)(h:iB w P G B Ac E n cc m N fs s)(x8:Bd.Ok n s)(Af:fs.all Bd.cw=true)(hq:0≤aK)(u7:aK<n)(hn:n≤1000000000000000)
  (bP:Bd.bn n fs.length aK (op,a)=0) (Z:(Bd.bj s.pl aK).aR=true) :
  Calls Tryz.prog 88 #[.pointer (some ⟨P,0,none⟩),Aj aK,.agg #[Aj op,Aj a]] w (fq w P G B Ac E n cc m N fs (Bd.look n fs s aK (op,a))):=by
 have h0:=Bd.jM x8 aK;have x6:=Aq bP;have iF:=Aq (show Bd.bn n m aK (op,a)=0 by rw[h.hm];exact bP);have y9:=h.hP.lt;have iG:=h.hG.lt;have H:=Aq h;have HP:=Aq h.hP;obtain⟨g,rfl⟩:=Ds hq;obtain⟨q,z⟩:∃q,s.pl[g]?=some q:=⟨_,Bg (by have:=h.hl;omega)⟩;have hK:Bd.bj s.pl (g:Int)=q:=by unfold Bd.bj;rw[Bn];simp[z]
 rw[hK]at Z h0;obtain⟨g0,g1,g2⟩:=Hj s.pl g q z;have x4:=Aq (fun W T=>Xy P G B Ac E n cc m N fs s g op a W (h.below (w':=W) T) q h0 Af bP);have z0:=Bd.iR Af h0 (op,a);have w4:=Aq hK;have h5:P≠G:=h.hP.dF h.hG (by decide);clear bP h z hK h0;obtain⟨qk,qh,qs⟩:=q;simp only at Z g0 g1 g2 x4;subst Z;refine Nh Tryz.func88 rfl ?_;simp only[Tryz.ntmps88,pT,Bo,Bw,Nat.reduceAdd,Nat.reduceSub,pU,pV,pW,pX,gs,oa];go_wp2_with fail
 refine(Kk _ g op a _).mono ?_;rintro e w'⟨rfl,rfl⟩;go_wp2_with fail
 refine(Ii (w.heap.size+1+1+1+1+1) (w.heap.size+1+1+1+1) (w.heap.size+1+1) (w.heap.size+1+1+1) P op a g Ac E n cc m N _ _ _ _ (qw _ _ _ (by simp)) ((qw _ _ _ (by simp)).alloc _) ((((qw _ _ _ (by simp)).alloc _).alloc _).alloc _) (((qw _ _ _ (by simp)).alloc _).alloc _) (by exact(((((HP.o.alloc _).alloc _).alloc _).alloc _).alloc _).alloc _) hq (by omega) hn).mono ?_;rintro e w1⟨rfl,T⟩;have F:Below w.heap.size w w1:=pY (by repeat (first|exact aI|assumption|(refine nu ?_ (by first|omega|(simp;done)|(simp;omega)) _)|(refine nw ?_)|(refine below_drewN ?_ _)|(refine ny ?_ (by first|omega|(simp;done)|(simp;omega)) _))) (T.mono (by first|omega|(simp;done)|(simp;omega)|(simp only[World.size_alloc,oR];omega)));have v0:aH w1 w.heap.size 193 #[.pointer (some ⟨P,0,none⟩)]:=aH.below ((((((qw _ _ _ (by simp)).alloc _).alloc _).alloc _).alloc _).alloc _) T (by first|omega|(simp;done)|(simp;omega)|(simp only[World.size_alloc,oR];omega));have v1:aH w1 (w.heap.size+1) 96 #[Aj op,Aj a]:=aH.below (((((qw _ _ _ (by simp)).alloc _).alloc _).alloc _).alloc _) T (by first|omega|(simp;done)|(simp;omega)|(simp only[World.size_alloc,oR];omega));have v7:w.heap.size+6≤w1.heap.size:=by have:=T.size;simp at this;omega
 rw[iF.o];clear T;have R:w1.cell? ⟨w.heap.size,0,none⟩=some (.pointer (some ⟨P,0,none⟩)):=by rw[v0.cell];rfl
 have x0:w1.cell? ⟨w.heap.size+1,0,none⟩=some (Aj op):=by rw[v1.cell];rfl
 have M:w1.cell? ⟨w.heap.size+1,1,none⟩=some (Aj a):=by rw[v1.cell];rfl
 have u1:w1.cell? ⟨P,2,none⟩=some (.slice (some ⟨G,0,none⟩) (n+1) (n+1)):=by rw[(HP.o.below F y9).cell];rfl
 have d0:w1.cell? ⟨G,g*3,none⟩=some (.bool true):=by rw[(H.o.hG.below F iG).cell];simpa using g0
 have d1:w1.cell? ⟨G,g*3+1,none⟩=some (Aj qh):=by rw[(H.o.hG.below F iG).cell];simpa using g1
 have d2:w1.cell? ⟨G,g*3+2,none⟩=some (Aj qs):=by rw[(H.o.hG.below F iG).cell];simpa using g2
 have v2:g<n+1:=by omega
 have y1:w.heap.size<w1.heap.size:=by omega
 have y2:w.heap.size+1<w1.heap.size:=by omega
 have X:=Aq v0;have U:=Aq v1;clear g0 g1 g2 v0 v1;go_wp2_with fail
 refine(x4.o _ (by exact F.alloc (by omega) _)).mono ?_;rintro e w2⟨rfl,eh⟩;have tn:Below w.heap.size w w2:=(F.alloc (by omega) _).trans (eh.mono (by simp;omega));have v0:aH w2 w.heap.size 193 #[.pointer (some ⟨P,0,none⟩)]:=(X.o.alloc _).below eh (by simp;omega);have v1:aH w2 (w.heap.size+1) 96 #[Aj op,Aj a]:=(U.o.alloc _).below eh (by simp;omega);have a7:w.heap.size+7≤w2.heap.size:=by have:=eh.size;simp at this;omega
 clear eh R x0 M u1 d0 d1 d2 F v7 y1 y2 X U x4;have R:w2.cell? ⟨w.heap.size,0,none⟩=some (.pointer (some ⟨P,0,none⟩)):=by rw[v0.cell];rfl
 have x0:w2.cell? ⟨w.heap.size+1,0,none⟩=some (Aj op):=by rw[v1.cell];rfl
 have M:w2.cell? ⟨w.heap.size+1,1,none⟩=some (Aj a):=by rw[v1.cell];rfl
 have I:=HP.o.below tn y9;have p2:w2.cell? ⟨P,2,none⟩=some (.slice (some ⟨G,0,none⟩) (n+1) (n+1)):=by rw[I.cell];rfl
 have p3:w2.cell? ⟨P,3,none⟩=some (Aj s.aU):=by rw[I.cell];rfl
 have p4:w2.cell? ⟨P,4,none⟩=some (Aj s.aL):=by rw[I.cell];rfl
 have u8:w2.frozen? ⟨P,3,none⟩=false:=I.frozen 3;have z3:w2.frozen? ⟨P,4,none⟩=false:=I.frozen 4;have y1:w.heap.size<w2.heap.size:=by omega
 have y2:w.heap.size+1<w2.heap.size:=by omega
 have y3:P<w2.heap.size:=by omega
 have y4:P<w.heap.size:=y9;have y5:G<w2.heap.size:=by omega
 have X:=Aq v0;have U:=Aq v1;have h7:=Aq I;clear v0 v1 I;have z7:=Zbe;generalize z5:Bd.ay fs ⟨true,qh,qs⟩ (op,a)=ee at *;have x2:=Aq z5;clear z5;obtain⟨en,b,f,es⟩:=ee;simp only at z0;go_upto_region 8 with fail
 go_cut [] from 35 to 54 (fun wx=>aH wx P 200 #[.slice Ac n cc,.slice E m N,.slice (some ⟨G,0,none⟩) (n+1) (n+1),Aj (max s.aU en),Aj (max s.aL b)]∧Fr (fun k=>k=P) (w2.alloc (.cells #[Aj en,Aj b,Aj f,Aj es] 238)) wx)
 case first =>
  rename_i J1 K1 u6 z2;have ep:=h7.o.alloc (.cells #[Aj en,Aj b,Aj f,Aj es] 238);have V:=Aq ep;clear ep h7 X U H HP iF x6 x2 w4 x8 Af hn hq u7 z0 v2 tn a7 iG x0 M p2 y2 y4 y5;have k1:P≠w.heap.size:=by omega
  have k2:P≠w2.heap.size:=by omega
  have k3:w.heap.size≠P:=by omega
  have k4:w2.heap.size≠P:=by omega
  have k5:w.heap.size≠w2.heap.size:=by omega
  have a0:(w2.alloc (.cells #[Aj en,Aj b,Aj f,Aj es] 238)).cell? ⟨w.heap.size,0,none⟩=some (.pointer (some ⟨P,0,none⟩)):=by rw[Cb _ _ _ (by simp only;omega)];exact R
  have a1:(w2.alloc (.cells #[Aj en,Aj b,Aj f,Aj es] 238)).cell? ⟨w2.heap.size,0,none⟩=some (Aj en):=by rw[World.cell?_alloc_new];rfl
  have a2:(w2.alloc (.cells #[Aj en,Aj b,Aj f,Aj es] 238)).cell? ⟨w2.heap.size,1,none⟩=some (Aj b):=by rw[World.cell?_alloc_new];rfl
  have a3:(w2.alloc (.cells #[Aj en,Aj b,Aj f,Aj es] 238)).cell? ⟨P,3,none⟩=some (Aj s.aU):=by rw[V.o.cell];rfl
  have a4:(w2.alloc (.cells #[Aj en,Aj b,Aj f,Aj es] 238)).cell? ⟨P,4,none⟩=some (Aj s.aL):=by rw[V.o.cell];rfl
  have a5:(w2.alloc (.cells #[Aj en,Aj b,Aj f,Aj es] 238)).frozen? ⟨P,3,none⟩=false:=V.o.frozen 3;have a6:(w2.alloc (.cells #[Aj en,Aj b,Aj f,Aj es] 238)).frozen? ⟨P,4,none⟩=false:=V.o.frozen 4;clear R p3 p4 u8 z3;have ep:=V.o;clear V;obtain⟨WW,x9⟩:∃WW,w2.alloc (.cells #[Aj en,Aj b,Aj f,Aj es] 238)=WW:=⟨_,rfl⟩;rw[x9]at a0 a1 a2 a3 a4 a5 a6 ep ⊢;have V:=Aq ep;have u3:=Aq x9;clear ep x9;refine wp_region_noPanic ?_;refine wp_region_held_drew (S:=fun w'=>w'.cell? ⟨w.heap.size,0,none⟩=some (.pointer (some ⟨P,0,none⟩))∧w'.cell? ⟨w2.heap.size,0,none⟩=some (Aj en)∧w'.cell? ⟨w2.heap.size,1,none⟩=some (Aj b)) (by kernel_rfl) ⟨a0,a1,a2⟩ ?_;intro y;have z9:=Aq u6;have z4:=Aq z2;clear u6 z2;refine wpAnyH_take (i:=0) (v:=.pointer (some ⟨P,0,none⟩)) rfl (by kernel_rfl) (by kernel_rfl) (by kernel_rfl) (fun _ _ _ h=>h) (Or.inl ⟨by kernel_rfl,fun wq z=>by first|(go_simp;done)|rfl⟩) y ?_;refine wpAnyH_take (i:=1) (v:=.pointer (some ⟨P,0,none⟩)) rfl (by kernel_rfl) (by kernel_rfl) (by kernel_rfl) (fun _ _ _ h=>h) (Or.inl ⟨by kernel_rfl,fun wq z=>by first|(go_simp;done)|rfl⟩) y ?_;refine wpAnyH_take (i:=2) (v:=.pointer (some ⟨P,0,none⟩)) rfl (by kernel_rfl) (by kernel_rfl) (by kernel_rfl) (fun _ _ _ h=>h) (Or.inl ⟨by kernel_rfl,fun wq z=>by first|(go_simp;done)|rfl⟩) y ?_
  refine wpAnyH_take (i:=3) (v:=.pointer (some ⟨P,0,none⟩)) rfl (by kernel_rfl) (by kernel_rfl) (by kernel_rfl) (fun _ _ _ h=>h) (Or.inl ⟨by kernel_rfl,fun wq z=>by first|(go_simp;done)|rfl⟩) y ?_;refine wpAnyH_take (i:=4) (v:=.pointer (some ⟨P,3,none⟩)) rfl (by kernel_rfl) (by kernel_rfl) (by kernel_rfl) (fun _ _ _ h=>h) (Or.inl ⟨by kernel_rfl,fun wq z=>by first|(go_simp;done)|rfl⟩) y ?_;refine wpAnyH_take (i:=6) (v:=.pointer (some ⟨w2.heap.size,0,none⟩)) rfl (by kernel_rfl) (by kernel_rfl) (by kernel_rfl) (fun _ _ _ h=>h) (Or.inl ⟨by kernel_rfl,fun wq z=>by first|(go_simp;done)|rfl⟩) y ?_;refine wpAnyH_take (i:=7) (v:=Aj en) rfl (by kernel_rfl) (by kernel_rfl) (by kernel_rfl) (fun _ _ _ h=>h) (Or.inl ⟨by kernel_rfl,fun wq z=>by first|(go_simp;done)|rfl⟩) y ?_;refine wpAnyH_take (i:=9) (v:=.pointer (some ⟨P,0,none⟩)) rfl (by kernel_rfl) (by kernel_rfl) (by kernel_rfl) (fun _ _ _ h=>h) (Or.inl ⟨by kernel_rfl,fun wq z=>by first|(go_simp;done)|rfl⟩) y ?_;refine wpAnyH_take (i:=10) (v:=.pointer (some ⟨P,0,none⟩)) rfl (by kernel_rfl) (by kernel_rfl) (by kernel_rfl) (fun _ _ _ h=>h) (Or.inl ⟨by kernel_rfl,fun wq z=>by first|(go_simp;done)|rfl⟩) y ?_;refine wpAnyH_take (i:=11) (v:=.pointer (some ⟨P,4,none⟩)) rfl (by kernel_rfl) (by kernel_rfl) (by kernel_rfl) (fun _ _ _ h=>h) (Or.inl ⟨by kernel_rfl,fun wq z=>by first|(go_simp;done)|rfl⟩) y ?_
  refine wpAnyH_take (i:=13) (v:=.pointer (some ⟨w2.heap.size,1,none⟩)) rfl (by kernel_rfl) (by kernel_rfl) (by kernel_rfl) (fun _ _ _ h=>h) (Or.inl ⟨by kernel_rfl,fun wq z=>by first|(go_simp;done)|rfl⟩) y ?_;refine wpAnyH_take (i:=14) (v:=Aj b) rfl (by kernel_rfl) (by kernel_rfl) (by kernel_rfl) (fun _ _ _ h=>h) (Or.inl ⟨by kernel_rfl,fun wq z=>by first|(go_simp;done)|rfl⟩) y ?_;refine wpAnyH_ready (rs:=[5,12]) (by kernel_rfl) (by simp) ?_;refine AllReadyH.cons rfl (fun K u=>?_) (AllReadyH.cons rfl (fun K u=>?_) AllReadyH.nil)
  ·go_simp;refine u.out _ _ y (fun y=>?_);clear u K;refine wpAnyH_take (i:=8) (v:=Aj (max s.aU en)) rfl (by kernel_rfl) (by kernel_rfl) (by kernel_rfl) (fun _ _ _ h=>h) (Or.inl ⟨by kernel_rfl,fun wq z=>by first|(go_simp;done)|rfl⟩) y ?_;refine wpAnyH_ready (rs:=[12]) (by kernel_rfl) (by simp) ?_;refine AllReadyH.cons rfl (fun K u=>?_) AllReadyH.nil;go_simp;refine u.out _ _ (by exact y) (fun y=>?_);clear u K;refine wpAnyH_take (i:=15) (v:=Aj (max s.aL b)) rfl (by kernel_rfl) (by kernel_rfl) (by kernel_rfl) (fun _ _ _ h=>h) (Or.inl ⟨by kernel_rfl,fun wq z=>by first|(go_simp;done)|rfl⟩) y ?_;refine wpAnyH_take (i:=16) (v:=.pointer (some ⟨P,0,none⟩)) rfl (by kernel_rfl) (by kernel_rfl) (by kernel_rfl) (fun _ _ _ h=>h) (Or.inl ⟨by kernel_rfl,fun wq z=>by first|(go_simp;done)|rfl⟩) y ?_;refine wpAnyH_take (i:=17) (v:=.pointer (some ⟨P,3,none⟩)) rfl (by kernel_rfl) (by kernel_rfl) (by kernel_rfl) (fun _ _ _ h=>h) (Or.inl ⟨by kernel_rfl,fun wq z=>by first|(go_simp;done)|rfl⟩) y ?_;refine wpAnyH_ready (rs:=[18]) (by kernel_rfl) (by simp) ?_;refine AllReadyH.cons rfl (fun K u=>?_) AllReadyH.nil;go_simp;refine u.out _ _ (by exact⟨(World.cell?_setCell_far _ _ _ _ k1).trans y.1,(World.cell?_setCell_far _ _ _ _ k2).trans y.2.1,(World.cell?_setCell_far _ _ _ _ k2).trans y.2.2⟩) (fun y=>?_);clear u K
   refine wpAnyH_take (i:=19) (v:=.pointer (some ⟨P,0,none⟩)) rfl (by kernel_rfl) (by kernel_rfl) (by kernel_rfl) (fun _ _ _ h=>h) (Or.inl ⟨by kernel_rfl,fun wq z=>by first|(go_simp;done)|rfl⟩) y ?_;refine wpAnyH_take (i:=20) (v:=.pointer (some ⟨P,4,none⟩)) rfl (by kernel_rfl) (by kernel_rfl) (by kernel_rfl) (fun _ _ _ h=>h) (Or.inl ⟨by kernel_rfl,fun wq z=>by first|(go_simp;done)|rfl⟩) y ?_;refine wpAnyH_ready (rs:=[21]) (by kernel_rfl) (by simp) ?_;refine AllReadyH.cons rfl (fun K u=>?_) AllReadyH.nil;go_simp;refine u.out _ _ (by exact⟨(World.cell?_setCell_far _ _ _ _ k1).trans y.1,(World.cell?_setCell_far _ _ _ _ k2).trans y.2.1,(World.cell?_setCell_far _ _ _ _ k2).trans y.2.2⟩) (fun y=>?_);clear u K;refine wpAnyH_done (by kernel_rfl) ?_ _;refine z4.o _ _ (Met.intro (z9.o _ _ ?_))
   (repeat apply Exists.intro)
   refine⟨?_,rfl⟩;rw[u3.o];exact⟨by simpa using (((V.o.aZ 3 (Aj (max s.aU en))).aZ 4 (Aj (max s.aL b))).drew),(((qu (fun k=>k=P) _).setCell (p:=⟨P,3,none⟩) (.inl rfl) _).setCell (p:=⟨P,4,none⟩) (.inl rfl) _).drew⟩
  ·go_simp;refine u.out _ _ y (fun y=>?_);clear u K;refine wpAnyH_take (i:=15) (v:=Aj (max s.aL b)) rfl (by kernel_rfl) (by kernel_rfl) (by kernel_rfl) (fun _ _ _ h=>h) (Or.inl ⟨by kernel_rfl,fun wq z=>by first|(go_simp;done)|rfl⟩) y ?_;refine wpAnyH_ready (rs:=[5]) (by kernel_rfl) (by simp) ?_;refine AllReadyH.cons rfl (fun K u=>?_) AllReadyH.nil;go_simp;refine u.out _ _ (by exact y) (fun y=>?_);clear u K;refine wpAnyH_take (i:=8) (v:=Aj (max s.aU en)) rfl (by kernel_rfl) (by kernel_rfl) (by kernel_rfl) (fun _ _ _ h=>h) (Or.inl ⟨by kernel_rfl,fun wq z=>by first|(go_simp;done)|rfl⟩) y ?_;refine wpAnyH_take (i:=16) (v:=.pointer (some ⟨P,0,none⟩)) rfl (by kernel_rfl) (by kernel_rfl) (by kernel_rfl) (fun _ _ _ h=>h) (Or.inl ⟨by kernel_rfl,fun wq z=>by first|(go_simp;done)|rfl⟩) y ?_;refine wpAnyH_take (i:=17) (v:=.pointer (some ⟨P,3,none⟩)) rfl (by kernel_rfl) (by kernel_rfl) (by kernel_rfl) (fun _ _ _ h=>h) (Or.inl ⟨by kernel_rfl,fun wq z=>by first|(go_simp;done)|rfl⟩) y ?_;refine wpAnyH_ready (rs:=[18]) (by kernel_rfl) (by simp) ?_;refine AllReadyH.cons rfl (fun K u=>?_) AllReadyH.nil;go_simp;refine u.out _ _ (by exact⟨(World.cell?_setCell_far _ _ _ _ k1).trans y.1,(World.cell?_setCell_far _ _ _ _ k2).trans y.2.1,(World.cell?_setCell_far _ _ _ _ k2).trans y.2.2⟩) (fun y=>?_);clear u K
   refine wpAnyH_take (i:=19) (v:=.pointer (some ⟨P,0,none⟩)) rfl (by kernel_rfl) (by kernel_rfl) (by kernel_rfl) (fun _ _ _ h=>h) (Or.inl ⟨by kernel_rfl,fun wq z=>by first|(go_simp;done)|rfl⟩) y ?_;refine wpAnyH_take (i:=20) (v:=.pointer (some ⟨P,4,none⟩)) rfl (by kernel_rfl) (by kernel_rfl) (by kernel_rfl) (fun _ _ _ h=>h) (Or.inl ⟨by kernel_rfl,fun wq z=>by first|(go_simp;done)|rfl⟩) y ?_;refine wpAnyH_ready (rs:=[21]) (by kernel_rfl) (by simp) ?_;refine AllReadyH.cons rfl (fun K u=>?_) AllReadyH.nil;go_simp;refine u.out _ _ (by exact⟨(World.cell?_setCell_far _ _ _ _ k1).trans y.1,(World.cell?_setCell_far _ _ _ _ k2).trans y.2.1,(World.cell?_setCell_far _ _ _ _ k2).trans y.2.2⟩) (fun y=>?_);clear u K;refine wpAnyH_done (by kernel_rfl) ?_ _;refine z4.o _ _ (Met.intro (z9.o _ _ ?_))
   (repeat apply Exists.intro)
   refine⟨?_,rfl⟩;rw[u3.o];exact⟨by simpa using (((V.o.aZ 3 (Aj (max s.aU en))).aZ 4 (Aj (max s.aL b))).drew),(((qu (fun k=>k=P) _).setCell (p:=⟨P,3,none⟩) (.inl rfl) _).setCell (p:=⟨P,4,none⟩) (.inl rfl) _).drew⟩
 case rest =>
  obtain⟨u2,A⟩:=hcut;have v3:=A.size;simp only[World.size_alloc]at v3;have v0:aH wc w.heap.size 193 #[.pointer (some ⟨P,0,none⟩)]:=A.aG (X.o.alloc _) (by omega);have v1:aH wc (w.heap.size+1) 96 #[Aj op,Aj a]:=A.aG (U.o.alloc _) (by omega);have v9:aH wc w2.heap.size 238 #[Aj en,Aj b,Aj f,Aj es]:=A.aG (qv _ _ _) (by omega);have vG:aH wc G 197 (Db s.pl).toArray:=A.aG ((H.o.hG.below tn iG).alloc _) (fun e=>h5 e.symm);have vF:aE wc B 4 E m (Cp fs):=A.iN ((H.o.hF.below tn H.o.hB).alloc (by have:=H.o.hB;omega) _) (by have:=H.o.hB;simp;omega) (fun k Z=>by have:=H.o.hBP;omega);have z6:Fr (fun k=>k=P∨k=G) w wc:=((qC tn (fun k Z _=>Z)).alloc _).trans (A.mono (fun k _ e=>.inl e));have R:wc.cell? ⟨w.heap.size,0,none⟩=some (.pointer (some ⟨P,0,none⟩)):=by rw[v0.cell];rfl
  have x0:wc.cell? ⟨w.heap.size+1,0,none⟩=some (Aj op):=by rw[v1.cell];rfl
  have M:wc.cell? ⟨w.heap.size+1,1,none⟩=some (Aj a):=by rw[v1.cell];rfl
  have t0:wc.cell? ⟨w2.heap.size,0,none⟩=some (Aj en):=by rw[v9.cell];rfl
  have t1:wc.cell? ⟨w2.heap.size,1,none⟩=some (Aj b):=by rw[v9.cell];rfl
  have t2:wc.cell? ⟨w2.heap.size,2,none⟩=some (Aj f):=by rw[v9.cell];rfl
  have t3:wc.cell? ⟨w2.heap.size,3,none⟩=some (Aj es):=by rw[v9.cell];rfl
  have h3:=Aq u2;have X:=Aq v0;have U:=Aq v1;have O:=Aq v9;have hb:=Aq vG;have x3:=Aq vF;clear u2 v0 v1 v9 vG vF A h7 z7;go_wp2_with fail
  refine(Sj _ g op a en b f es _).mono ?_;rintro e w'⟨rfl,rfl⟩;obtain⟨hj,hk⟩:=Rr iF.o;have x7:=Wh hq u7 hj;go_wp2_with fail
  refine(Pm (wc.heap.size+1+1+1+1) (wc.heap.size+1+1) wc.heap.size (wc.heap.size+1) (wc.heap.size+1+1+1) P G B op a g (max s.aU en) (max s.aL b) _ _ _ E m N (n+1) (n+1) fs s.pl f es _ (qw _ _ _ (by simp)) (((qw _ _ _ (by simp)).alloc _).alloc _) (((((qw _ _ _ (by simp)).alloc _).alloc _).alloc _).alloc _) ((((qw _ _ _ (by simp)).alloc _).alloc _).alloc _) ((qw _ _ _ (by simp)).alloc _) (by exact(((((h3.o.alloc _).alloc _).alloc _).alloc _).alloc _))
   (by exact(((((x3.o.alloc (by have:=H.o.hB;omega) _).alloc (by have:=H.o.hB;simp;omega) _).alloc (by have:=H.o.hB;simp;omega) _).alloc (by have:=H.o.hB;simp;omega) _).alloc (by have:=H.o.hB;simp;omega) _)) (by have:=H.o.hB;simp;omega) H.o.hm (by exact(((((hb.o.alloc _).alloc _).alloc _).alloc _).alloc _)) H.o.hl (fun e=>hk (by rw[e];rfl)) hq (by omega) (fun e=>by have:=hj e;omega) (fun t ht=>by have:=x7 t ht;omega) ⟨en,b,f,es⟩ rfl rfl).mono ?_
  rintro e j⟨rfl,u5⟩;have Q:Below wc.heap.size wc j:=pY (by repeat (first|exact aI|assumption|(refine nu ?_ (by first|omega|(simp;done)|(simp;omega)) _)|(refine nw ?_)|(refine below_drewN ?_ _)|(refine ny ?_ (by first|omega|(simp;done)|(simp;omega)) _))) (u5.mono (by first|omega|(simp;done)|(simp;omega)|(simp only[World.size_alloc,oR];omega)));have z1:Bd.look n fs s g (op,a)=if Bd.dS fs s.pl (max s.aU en) (max s.aL b) g (op,a) ⟨en,b,f,es⟩≠0 then(Bd.dS fs s.pl (max s.aU en) (max s.aL b) g (op,a) ⟨en,b,f,es⟩,⟨s.pl,max s.aU en,max s.aL b⟩) else(0,⟨(Bd.ways g (op,a)).foldl (Bd.mark ⟨en,b,f,es⟩) s.pl,max s.aU en,max s.aL b⟩):=by
   unfold Bd.look;rw[if_neg (by rw[x6.o];simp),w4.o,if_neg (by simp)];simp only;rw[x2.o]
  have cf:=Aq z1;have h8:=h3.o.below Q h3.o.lt;have y7:=hb.o.below Q hb.o.lt;have y0:=x3.o.below Q (by have:=H.o.hB;omega);have v0:=X.o.below Q X.o.lt;have v1:=U.o.below Q U.o.lt;have v9:=O.o.below Q O.o.lt;have b1:=Q.size;have x5:=z6.trans (qC (S:=fun k=>k=P∨k=G) Q (fun k Z _=>Z));clear z1 u5 Q h3 hb x3 X U O R x0 M t0 t1 t2 t3 z6 w4 x6 x2;generalize Bd.dS fs s.pl (max s.aU en) (max s.aL b) g (op,a) ⟨en,b,f,es⟩=r at *;have x1:=Aq h8;have u0:=Aq y7;have h6:=Aq y0;have O:=Aq v9;by_cases hr:r=0
  ·subst hr;have L:=cf.o;rw[if_neg (by simp)]at L;have y6:=Aq L;clear L cf;have R:j.cell? ⟨w.heap.size,0,none⟩=some (.pointer (some ⟨P,0,none⟩)):=by rw[v0.cell];rfl
   have x0:j.cell? ⟨w.heap.size+1,0,none⟩=some (Aj op):=by rw[v1.cell];rfl
   have M:j.cell? ⟨w.heap.size+1,1,none⟩=some (Aj a):=by rw[v1.cell];rfl
   have X:=Aq v0;clear h8 y7 y0 v0 v1 v9;go_upto_region 12 with fail
   go_cut [66] from 13 to 65 (fun v5 wx=>v5=.func (.func 249) #[] #[.pointer (some ⟨j.heap.size+1,0,none⟩),.pointer (some ⟨j.heap.size,0,none⟩)]∧wx=(j.alloc (.cells #[Aj g] 3)).alloc (.cells #[Aj op,Aj a] 96))
   case first =>
    go_wp2_with fail
    refine(Ue g op a _).mono ?_;rintro e w'⟨rfl,rfl⟩;go_wp2_with fail
    go_meet;exact⟨rfl,rfl⟩
   case rest =>
    obtain⟨rfl,hS⟩:=hcut;have b0:j.heap.size+2≤wc.heap.size∧wc.heap.size≤j.heap.size+2:=by rw[hS];simp
    have J:Below j.heap.size j wc:=by rw[hS];exact(aI.alloc Aw _).alloc (by simp) _
    have f0:aH wc w.heap.size 193 #[.pointer (some ⟨P,0,none⟩)]:=X.o.below J X.o.lt;have f9:=O.o.below J O.o.lt;have fP:=x1.o.below J x1.o.lt;have fG:=u0.o.below J u0.o.lt;have fF:=h6.o.below J (by have:=H.o.hB;omega);have g4:aH wc j.heap.size 3 #[Aj g]:=by rw[hS];exact(qv _ _ _).alloc _
    have g5:aH wc (j.heap.size+1) 96 #[Aj op,Aj a]:=by rw[hS];exact qw _ _ _ (by simp)
    have u4:=x5.trans (qC (S:=fun k=>k=P∨k=G) J (fun k Z _=>Z));have v4:=Aq hS;clear hS J X O x1 u0 h6 x5;go_wp2_with fail
    refine(wpIn_wide (n:=8)).1 ?_;refine wpIn_rangeFunc_ownG (α:=Way g (op,a)) rfl (by omega) (gf:=249) (lb:=#[.pointer (some ⟨j.heap.size+1,0,none⟩),.pointer (some ⟨j.heap.size,0,none⟩)]) rfl trivial (enters_of Tryz.func249 (by kernel_rfl) rfl)
     (Nj 7 (j.heap.size+1) j.heap.size g op a (by omega) wc (by rw[g5.cell];rfl) (by rw[g5.cell];rfl) (by rw[g4.cell];rfl) hq (by omega) (fun e=>by have:=hj e;omega)) Zfs (fun W l o o' _ h1 h2 _=>Zbm W l o o' h1 h2) aI (fun _=>rfl)
     (fun pre W=>aH W P 200 #[.slice Ac n cc,.slice E m N,.slice (some ⟨G,0,none⟩) (n+1) (n+1),Aj (max s.aU en),Aj (max s.aL b)]∧aH W G 197 (Db ((pre.map Subtype.val).foldl (Bd.mark ⟨en,b,f,es⟩) s.pl)).toArray∧Fr (fun k=>k=G) wc W)
     (fun _ _ _=>False)
     (fun pre W W' row hs hg hr=>⟨hs.1.fd hg (fun r e=>(hr r e).2),hs.2.1.fd hg (fun r e=>(hr r e).2),hs.2.2.grown hg (fun r e=>(hr r e).1)⟩)
     (fun _ _ _ _ _ hs _ _=>hs)
     ⟨fP,fG,qu _ _⟩
     (fun x => { tmps:=#[.pointer (some ⟨P,0,none⟩),Aj g,.agg #[Aj op,Aj a],.pointer (some ⟨w.heap.size,0,none⟩),undef,.pointer (some ⟨w.heap.size+1,0,none⟩),Aj 0,Aj 0,.pointer (some ⟨w1.heap.size,0,none⟩),.pointer (some ⟨w2.heap.size,0,none⟩),Aj 0,Aj x.1,undef,u13,u14,u15,u16,u17,u18,u19,u20,u21,u22,u23,u24,u25,u26,u27,u28,u29,u30,u31,u32,u33,u34,u35,u36,u37,u38,u39,u40,u41,u42,u43,u44,u45,u46,u47,u48,u49,u50,u51,u52,u53,u54,u55,u56,u57,u58,u59,u60,u61,u62,u63,u64,u65,.func (.func 249) #[] #[.pointer (some ⟨j.heap.size+1,0,none⟩),.pointer (some ⟨j.heap.size,0,none⟩)],Aj x.1,undef,undef,undef,undef,undef,undef,undef,undef,undef,undef,undef,undef,undef,undef,undef,undef,undef,undef,undef,undef,undef,undef,undef,undef],defers:=[] }) ?assign ?body ?done ?stop
    case assign =>
     intro l x W K u
     gi_wp2
     exact u
    case body =>
     rintro l pre⟨t,ht⟩ W ⟨iP,Y,C⟩ _;obtain⟨t0,t1⟩:=x7 t ht;obtain⟨d,rfl⟩:=Ds t0;generalize y8:(pre.map Subtype.val).foldl (Bd.mark ⟨en,b,f,es⟩) s.pl=an at Y;have b7:an.length=n+1:=by rw[←y8,Jb];exact H.o.hl
     obtain⟨q,z⟩:∃q,an[d]?=some q:=⟨_,Bg (by omega)⟩;have hK:Bd.bj an (d:Int)=q:=by unfold Bd.bj;rw[Bn];simp[z]
     obtain⟨g0,g1,g2⟩:=Hj an d q z;have e0:W.cell? ⟨w.heap.size,0,none⟩=some (.pointer (some ⟨P,0,none⟩)):=by rw[(C.aG f0 (by omega)).cell];rfl
     have eP:W.cell? ⟨P,2,none⟩=some (.slice (some ⟨G,0,none⟩) (n+1) (n+1)):=by rw[iP.cell];rfl
     have b9:=C.aG f9 (by omega);have e2:W.cell? ⟨w2.heap.size,2,none⟩=some (Aj f):=by rw[b9.cell];rfl
     have e3:W.cell? ⟨w2.heap.size,3,none⟩=some (Aj es):=by rw[b9.cell];rfl
     have d0:W.cell? ⟨G,d*3,none⟩=some (.bool q.aR):=by rw[Y.cell];simpa using g0
     have d1:W.cell? ⟨G,d*3+1,none⟩=some (Aj q.aC):=by rw[Y.cell];simpa using g1
     have d2:W.cell? ⟨G,d*3+2,none⟩=some (Aj q.steps):=by rw[Y.cell];simpa using g2
     have c0:W.frozen? ⟨G,d*3,none⟩=false:=Y.frozen _;have b4:W.frozen? ⟨G,d*3+1,none⟩=false:=Y.frozen _;have c1:W.frozen? ⟨G,d*3+2,none⟩=false:=Y.frozen _;have c2:d<n+1:=by omega
     have z7:=Zbe;have b8:G≠w2.heap.size:=by omega
     have b2:w2.heap.size≠G:=by omega
     have b3:Tryz.prog.follows .mixedOrders=true:=by kernel_rfl
     have b6:G<W.heap.size:=Y.lt;have c3:=C.size;obtain⟨qk,a8,h9⟩:=q;simp only at d0 d1 d2;have v8:=Aq y8;have w4:=Aq hK;have a9:=Aq Y;have u9:=Aq iP;have v6:=Aq C;clear p2 p3 p4 u8 z3 R x0 M hj hk x7 fP fG fF f0 f9 g4 g5 b9 y8 hK Y iP C X U v4 HP iF x8 Af u4 z0 tn g0 g1 g2 z y1 y2 y3 y4 y5 b0
     gi_wp2_with fail
     refine Fz (fun w'=>w'.cell? ⟨w2.heap.size,3,none⟩=some (Aj es)) (by kernel_rfl) (by kernel_rfl) (by rintro⟨_,_,h⟩;exact h) (by simpa using e3) ?_;intro y;refine wpAnyH_take (i:=0) (v:=.pointer (some ⟨G,d*3,none⟩)) rfl (by kernel_rfl) (by kernel_rfl) (by kernel_rfl) (fun _ _ _ h=>h) (Or.inl ⟨by kernel_rfl,fun wq z=>by first|(go_simp;done)|rfl⟩) y ?_;refine wpAnyH_take (i:=1) (v:=.pointer (some ⟨G,d*3,none⟩)) rfl (by kernel_rfl) (by kernel_rfl) (by kernel_rfl) (fun _ _ _ h=>h) (Or.inl ⟨by kernel_rfl,fun wq z=>by first|(go_simp;done)|rfl⟩) y ?_;refine wpAnyH_take (i:=2) (v:=.pointer (some ⟨G,d*3,none⟩)) rfl (by kernel_rfl) (by kernel_rfl) (by kernel_rfl) (fun _ _ _ h=>h) (Or.inl ⟨by kernel_rfl,fun wq z=>by first|(go_simp;done)|rfl⟩) y ?_;refine wpAnyH_take (i:=3) (v:=.pointer (some ⟨G,d*3+2,none⟩)) rfl (by kernel_rfl) (by kernel_rfl) (by kernel_rfl) (fun _ _ _ h=>h) (Or.inl ⟨by kernel_rfl,fun wq z=>by first|(go_simp;done)|rfl⟩) y ?_;refine wpAnyH_take (i:=5) (v:=.pointer (some ⟨w2.heap.size,3,none⟩)) rfl (by kernel_rfl) (by kernel_rfl) (by kernel_rfl) (fun _ _ _ h=>h) (Or.inl ⟨by kernel_rfl,fun wq z=>by first|(go_simp;done)|rfl⟩) y ?_;refine wpAnyH_take (i:=6) (v:=Aj es) rfl (by kernel_rfl) (by kernel_rfl) (by kernel_rfl) (fun _ _ _ h=>h) (Or.inl ⟨by kernel_rfl,fun wq z=>by first|(go_simp;done)|rfl⟩) y ?_
     refine wpAnyH_ready (rs:=[4]) (by kernel_rfl) (by simp) ?_;refine AllReadyH.cons rfl (fun K u=>?_) AllReadyH.nil;go_simp;refine u.out _ _ (by exact y) (fun y=>?_);clear u K;refine wpAnyH_take (i:=7) (v:=Aj (max h9 es)) rfl (by kernel_rfl) (by kernel_rfl) (by kernel_rfl) (fun _ _ _ h=>h) (Or.inl ⟨by kernel_rfl,fun wq z=>by first|(go_simp;done)|rfl⟩) y ?_;refine wpAnyH_take (i:=8) (v:=.pointer (some ⟨G,d*3,none⟩)) rfl (by kernel_rfl) (by kernel_rfl) (by kernel_rfl) (fun _ _ _ h=>h) (Or.inl ⟨by kernel_rfl,fun wq z=>by first|(go_simp;done)|rfl⟩) y ?_;refine wpAnyH_take (i:=9) (v:=.pointer (some ⟨G,d*3+2,none⟩)) rfl (by kernel_rfl) (by kernel_rfl) (by kernel_rfl) (fun _ _ _ h=>h) (Or.inl ⟨by kernel_rfl,fun wq z=>by first|(go_simp;done)|rfl⟩) y ?_;refine wpAnyH_ready (rs:=[10]) (by kernel_rfl) (by simp) ?_;refine AllReadyH.cons rfl (fun K u=>?_) AllReadyH.nil;go_simp;refine u.out _ _ (by go_keep) (fun y=>?_);clear u K;refine wpAnyH_done (by kernel_rfl) ?_ _
     gi_wp2_with fail
     refine Fz (fun w'=>w'.cell? ⟨w2.heap.size,2,none⟩=some (Aj f)) (by kernel_rfl) (by kernel_rfl) (by rintro⟨_,_,h⟩;exact h) (by clear y;go_keep) ?_;clear y;intro y;refine wpAnyH_take (i:=0) (v:=.pointer (some ⟨G,d*3,none⟩)) rfl (by kernel_rfl) (by kernel_rfl) (by kernel_rfl) (fun _ _ _ h=>h) (Or.inl ⟨by kernel_rfl,fun wq z=>by first|(go_simp;done)|rfl⟩) y ?_;refine wpAnyH_take (i:=1) (v:=.pointer (some ⟨G,d*3,none⟩)) rfl (by kernel_rfl) (by kernel_rfl) (by kernel_rfl) (fun _ _ _ h=>h) (Or.inl ⟨by kernel_rfl,fun wq z=>by first|(go_simp;done)|rfl⟩) y ?_;refine wpAnyH_take (i:=2) (v:=.pointer (some ⟨w2.heap.size,2,none⟩)) rfl (by kernel_rfl) (by kernel_rfl) (by kernel_rfl) (fun _ _ _ h=>h) (Or.inl ⟨by kernel_rfl,fun wq z=>by first|(go_simp;done)|rfl⟩) y ?_;refine wpAnyH_take (i:=3) (v:=Aj f) rfl (by kernel_rfl) (by kernel_rfl) (by kernel_rfl) (fun _ _ _ h=>h) (Or.inl ⟨by kernel_rfl,fun wq z=>by first|(go_simp;done)|rfl⟩) y ?_;refine wpAnyH_take (i:=4) (v:=.pointer (some ⟨G,d*3,none⟩)) rfl (by kernel_rfl) (by kernel_rfl) (by kernel_rfl) (fun _ _ _ h=>h) (Or.inl ⟨by kernel_rfl,fun wq z=>by first|(go_simp;done)|rfl⟩) y ?_;refine wpAnyH_take (i:=5) (v:=.pointer (some ⟨G,d*3,none⟩)) rfl (by kernel_rfl) (by kernel_rfl) (by kernel_rfl) (fun _ _ _ h=>h) (Or.inl ⟨by kernel_rfl,fun wq z=>by first|(go_simp;done)|rfl⟩) y ?_
     refine wpAnyH_ready (rs:=[6]) (by kernel_rfl) (by simp) ?_;refine AllReadyH.cons rfl (fun K u=>?_) AllReadyH.nil;go_simp;refine u.out _ _ (by go_keep) (fun y=>?_);clear u K;refine wpAnyH_take (i:=7) (v:=.pointer (some ⟨G,d*3,none⟩)) rfl (by kernel_rfl) (by kernel_rfl) (by kernel_rfl) (fun _ _ _ h=>h) (Or.inl ⟨by kernel_rfl,fun wq z=>by first|(go_simp;done)|rfl⟩) y ?_;refine wpAnyH_take (i:=8) (v:=.pointer (some ⟨G,d*3+1,none⟩)) rfl (by kernel_rfl) (by kernel_rfl) (by kernel_rfl) (fun _ _ _ h=>h) (Or.inl ⟨by kernel_rfl,fun wq z=>by first|(go_simp;done)|rfl⟩) y ?_;refine wpAnyH_ready (rs:=[9]) (by kernel_rfl) (by simp) ?_;refine AllReadyH.cons rfl (fun K u=>?_) AllReadyH.nil;go_simp;refine u.out _ _ (by go_keep) (fun y=>?_);clear u K;refine wpAnyH_done (by kernel_rfl) ?_ _
     gi_wp2_with fail
     refine⟨?_,?_,?_,?_,?_⟩
     ·exact(((((KeepsOthers.setCell _ _ _).trans (KeepsOthers.setCell _ _ _)).trans (KeepsOthers.setCell _ _ _)).trans (KeepsOthers.drew _)).trans (KeepsOthers.drew _)).from _
     ·exact Vg (Vg (Zfs (Zfs (Tf _ _ _ (by simp only;omega) (by simp only;omega)) (Tf _ _ _ (by simp only;omega) (by simp only;omega))) (Tf _ _ _ (by simp only;omega) (by simp only;omega))))
     ·exact((((u9.o.dE (by exact h5) _).dE (by exact h5) _).dE (by exact h5) _).drew).drew
     ·have h1:=(((((a9.o.aZ (d*3+2) (Aj (max h9 es))).aZ (d*3) (.bool true)).aZ (d*3+1) (Aj f)).drew).drew);rw[Xf an d (by omega) ⟨en,b,f,es⟩ ⟨qk,a8,h9⟩ w4.o]at h1;rw[nt,pM,v8.o];exact h1
     ·exact(((((v6.o.setCell (.inl rfl) _).setCell (.inl rfl) _).setCell (.inl rfl) _).drew).drew)
    case done =>
     rintro D ys W hD y⟨iP,Y,C⟩ u;have HS:=Aq y;clear y;go_wp2;refine⟨by simp,.inl ⟨_,_,rfl,run_takeDeferred u,?_⟩⟩;have h4:=grownBy_putObj' W D (.deferred none);have hk:∀r,some D=some r→∃o:Obj,W.heap[r]?=some o∧o.isCells=false:=fun r e=>by cases e;exact⟨_,u,rfl⟩
     have z8:=u4.trans ((C.grown h4 (fun r e=>by cases e;exact hD)).mono (fun k _ e=>.inr e));rw[y6.o];refine⟨_,results_tmp rfl _ _ _,⟨rfl,⟨iP.fd h4 hk,?_,?_,?_,H.o.hBP,H.o.hBG,H.o.hm,?_⟩,z8⟩⟩
     ·rw[←HS.o];exact Y.fd h4 hk
     ·exact(C.grown h4 (fun r e=>by cases e;exact hD)).iN fF (by have:=H.o.hB;omega) (fun k Z e=>by have:=H.o.hBG;omega)
     ·have:=z8.size;have:=H.o.hB;omega
     ·rw[Jb];exact H.o.hl
    case stop =>
     rintro D c pre W _ _ h _;exact h.elim
  ·have L:=cf.o;rw[if_pos hr]at L;have y6:=Aq L;clear L cf;have b5:(r != 0)=true:=by simpa using hr
   clear h8 y7 y0 v0 v1 v9;go_wp2;rw[y6.o];refine⟨_,results_tmp rfl _ _ _,⟨rfl,⟨x1.o,u0.o,h6.o,by have:=H.o.hB;omega,H.o.hBP,H.o.hBG,H.o.hm,H.o.hl⟩,x5⟩⟩
end
section
open Go.RowKit
theorem Zfq (P G B:Nat)(x y:Option Addr)(n cc m z:Nat)(fs:List Bd.aa)(s:Bd.St)(aK op a:Int)(w:World)(h:iB w P G B x y n cc m z fs s)(r:Bd.Ok n s)(b:fs.all Bd.cw=true)(v:0≤aK)(p:aK<n)(k:n≤1000000000000000) :
  Calls Tryz.prog 88 #[.pointer (some ⟨P,0,none⟩),Aj aK,.agg #[Aj op,Aj a]] w (fq w P G B x y n cc m z fs (Bd.look n fs s aK (op,a))):=by
 by_cases u:Bd.bn n fs.length aK (op,a)=0
 ·cases q:(Bd.bj s.pl aK).aR with
  |false=>exact nB P G B x y n cc m z fs s aK op a w h v p k u q
  |true=>exact nR P G B x y n cc m z fs s aK op a w h r b v p k u q
 ·exact nF P G B x y n cc m z fs s aK op a w h v p k u
theorem Zhb {P:Program}(t e:TypeId)(i:TypeInfo)(z:Value) (p:P.underlying t=some (.slice e)) (hi:P.info? e=some i) (v:i.zero=some z)
  (u x:IntKind) (n c:Nat) (r:n≤c) (s:i.bytes*c≤281474976710656) (q:c≤9223372036854775807) (w:World) :
  (Instr.makeSlice t (.int u (n:Int)) (.int x (c:Int))).run P w=.ok (.slice (some ⟨w.heap.size,0,none⟩) n c) (w.alloc (.cells (madeCells z.cells (c*i.size)) e)):=by
 have k:(i.bytes:Int)*(c:Int)≤281474976710656:=by
  have h:((i.bytes*c:Nat):Int)≤281474976710656:=by omega
  rwa [Int.natCast_mul]at h
 have y:=run_make (P:=P) w t e i z p hi v u x n c (by omega) (by omega) k (by omega);simp only[Cw]at y;exact y
theorem Xe:(Tryz.prog.info? 197).map (fun i=>(i.zero,i.size,i.bytes))=some (some (.agg #[.bool false,Aj 0,Aj 0]),3,24):=by kernel_rfl
theorem Su (a b:List Bd.Place):Db (a++b)=Db a++Db b:=by
 induction a with
 |nil=>rfl
 |cons p r ih=>simp[Db,ih]
theorem Tb (n:Nat):madeCells #[Value.bool false,Aj 0,Aj 0] (n*3)=(Db (List.replicate n ⟨false,0,0⟩)).toArray:=by
 unfold madeCells;apply Array.toList_inj.1;simp only[py,pB]
 induction n with
 |zero=>rfl
 |succ n ih =>
  rw[qd,Su,←ih,show (n+1)*3=n*3+1+1+1 by omega,ge,ge,ge];simp only[nt,ol,oH,nz,oa,gs,Db];have x:n*3 % 3=0:=by omega
  have y:(n*3+1) % 3=1:=by omega
  have z:(n*3+1+1) % 3=2:=by omega
  simp[x,y,z]
theorem Ty (z k:Option Addr)(n cc m q:Nat)(w:World)(b:n≤1000000000000) :
  Calls Tryz.prog 87 #[.slice z n cc,.slice k m q] w fun e w'=>e=.returned (.pointer (some ⟨w.heap.size+1,0,none⟩)) ∧
   (w.alloc (.cells (Db (Bd.start n).pl).toArray 197)).alloc (.cells #[.slice z n cc,.slice k m q,.slice (some ⟨w.heap.size,0,none⟩) (n+1) (n+1),Aj 0,Aj 0] 200)=w':=by
 obtain⟨r,hi,v,p,y⟩:=info_parts Xe;have am:=fun W=>Zhb (P:=Tryz.prog) 198 197 r _ Tryz.underlying198 hi v .i64 .i64 (n+1) (n+1) Aw (by rw[y];omega) (by omega) W
 have ec:((n+1:Nat):Int)=(n:Int)+1:=by omega
 rw[ec,p,show (Value.agg #[.bool false,Aj 0,Aj 0]).cells = #[Value.bool false,Aj 0,Aj 0] from rfl,Tb]at am;obtain⟨mc,x⟩:∃mc,mc=(Db (List.replicate (n+1) ⟨false,0,0⟩)).toArray:=⟨_,rfl⟩;rw[←x]at am;have a:mc[0]?=some (.bool false):=by rw[x];simp[qr,Db]
 have u:mc.setIfInBounds 0 (.bool true)=(Db (Bd.start n).pl).toArray:=by rw[x];simp[qr,Db,Bd.start]
 have s:=Aq u;clear hi v p y ec x u;go_enter Tryz.func87,Tryz.ntmps87;go_wp2_with fail
 go_ret;refine⟨rfl,?_⟩;rw[←s.o]
def Tv (c:Bd.aa):Value:=.agg #[Aj c.aU,Aj c.delta,Aj c.aL,Aj c.steps]
def Zgt (w:World)(r:Bd.aa×Int×Int)(e:Ending)(w':World):Prop:=e=.returned (.tuple #[Tv r.1,Aj r.2.1,Aj r.2.2])∧Below w.heap.size w w'
theorem Vu (R Z:Option Addr)(n cc m S B:Nat) (l:List (Int×Int)) (fs:List Bd.aa) (w:World) (hl:aE w B 2 R n (Cq l)) (hF:aE w B 4 Z m (Cp fs)) (hB:B≤w.heap.size) (h1:n=l.length) (hm:m=fs.length) (hn:n≤1000000000000) (x3:m≤1000000000000) :
  Calls Tryz.prog 63 #[.slice R n cc,.slice Z m S] w (Zgt w (Bd.aA l fs)):=by
 have HL:=Aq hl;have Af:=Aq hF;have L:=Aq h1;have HM:=Aq hm;clear hl hF h1 hm;go_enter Tryz.func63,Tryz.ntmps63;go_wp2_with fail
 go_loopw [16] (fun i wr=>∃k:Nat,k≤m∧i=Aj k∧(∀c∈fs.take k,Bd.cw c=true)∧Below (w.heap.size+1) (w.alloc (.cells #[Aj 0,Aj 0,Aj 0,Aj 0] 78)) wr) (fun i _=>m-(intOf i).toNat)
 case atStart=>exact⟨0,by omega,rfl,by simp,aI⟩
 case round =>
  obtain⟨k,hk,rfl,rr,H⟩:=hrel;have hb:=Aq rr;clear rr;have x1:=H.size;simp at x1;have r0:wr.cell? ⟨w.heap.size,0,none⟩=some (Aj 0):=by rw[H.cell (by simp)];simp[go_sem]
  have r1:wr.cell? ⟨w.heap.size,1,none⟩=some (Aj 0):=by rw[H.cell (by simp)];simp[go_sem]
  have r2:wr.cell? ⟨w.heap.size,2,none⟩=some (Aj 0):=by rw[H.cell (by simp)];simp[go_sem]
  have r3:wr.cell? ⟨w.heap.size,3,none⟩=some (Aj 0):=by rw[H.cell (by simp)];simp[go_sem]
  by_cases x2:k<m
  ·have h3:aE wr B 4 Z m (Cp fs):=(Af.o.alloc hB _).below H (by omega);obtain⟨c,A⟩:∃c,fs[k]?=some c:=⟨_,Bg (by have:=HM.o;omega)⟩;obtain⟨b,off,rfl,x0,d⟩:=h3.2 (by omega);obtain⟨g0,K,F,g3⟩:=Gv fs k c A;have g:=d _ _ g0;have r:=d _ _ K;have Q:=d _ _ F;have G:=d _ _ g3;rw[←Lb]at r Q G;have HC:=Aq A;clear d g0 K F g3 A h3;obtain⟨cn,cd,cp,cs⟩:=c;simp only at g r Q G;go_wp2_with fail
   refine(Zbd ⟨cn,cd,cp,cs⟩ _).mono ?_;rintro e w1⟨rfl,w3⟩;have u:Below (w.heap.size+1) (w.alloc (.cells #[Aj 0,Aj 0,Aj 0,Aj 0] 78)) w1:=(H.alloc (by omega) _).trans (w3.mono (by simp;omega));cases M:Bd.cw ⟨cn,cd,cp,cs⟩ with
   |true =>
    have h8:=Aq M;clear M;clear r0 r1 r2 r3 g r Q G w3;go_wp2;go_roundw
    case rel=>exact⟨k+1,by omega,by go_num,by
     intro c' h5;rw[oh,HC.o]at h5;rcases List.mem_append.1 h5 with h|h
     ·exact hb.o c' h
     ·simp at h;subst h;exact h8.o,u⟩
    case measure=>simp[intOf];omega
   |false =>
    have C:Bd.aA l fs=(⟨0,0,0,0⟩,0,1):=by
     unfold Bd.aA;rw[if_neg];intro hh;have:=List.all_eq_true.1 hh _ (Bx HC.o);rw[M]at this;cases this
    have N:=Aq C;have q0:w1.cell? ⟨w.heap.size,0,none⟩=some (Aj 0):=by rw[u.cell (by simp)];simp[go_sem]
    have q1:w1.cell? ⟨w.heap.size,1,none⟩=some (Aj 0):=by rw[u.cell (by simp)];simp[go_sem]
    have q2:w1.cell? ⟨w.heap.size,2,none⟩=some (Aj 0):=by rw[u.cell (by simp)];simp[go_sem]
    have q3:w1.cell? ⟨w.heap.size,3,none⟩=some (Aj 0):=by rw[u.cell (by simp)];simp[go_sem]
    have z:∀o,w1.frozen? ⟨w.heap.size,o,none⟩=false:=fun o=>by rw[u.frozen (by simp)];simp[go_sem]
    clear M C r0 r1 r2 r3 g r Q G w3;go_wp2;refine bodyPost_ret (v:=.tuple #[.agg #[Aj 0,Aj 0,Aj 0,Aj 0],Aj 0,Aj 1]) (by simp[results,Tryz.results63,go_sem,q0,q1,q2,q3]) rfl ⟨by rw[N.o];rfl,?_⟩;have s:Below w.heap.size w w1:=(aI.alloc Aw _).trans (u.mono (by omega));exact((((s.setCell Aw _).setCell Aw _).setCell Aw _).setCell Aw _)
  ·obtain⟨y,rfl⟩:∃y:World,y=wr:=⟨_,rfl⟩;have d0:k=m:=by omega
   have wo:fs.all Bd.cw=true:=by
    rw[List.all_eq_true];intro c A;have:=hb.o c;rw[d0,HM.o,o_]at this;exact this A
   have C:Bd.aA l fs=Bd.rest l.length fs l 0 (Bd.start l.length):=by unfold Bd.aA;rw[if_pos wo]
   have d3:=Aq wo;have N:=Aq C;have x5:=Aq d0;clear wo C d0 r0 r1 r2 r3;go_wp2_with fail
   refine(Ty R Z n cc m S _ hn).mono ?_;rintro e w1⟨rfl,J⟩;have I:Below (w.heap.size+1) (w.alloc (.cells #[Aj 0,Aj 0,Aj 0,Aj 0] 78)) w1:=by rw[←J];exact(H.alloc (by omega) _).alloc (by simp;omega) _
   have D:iB w1 (y.heap.size+1) y.heap.size B R Z n cc m S fs (Bd.start n):=by
    refine⟨?_,?_,(Af.o.alloc hB _).below I (by omega),by have:=I.size;simp at this;omega,by omega,by omega,HM.o,by simp[Bd.start]⟩
    ·rw[←J];exact qw _ _ _ (by simp)
    ·rw[←J];exact(qv _ _ _).alloc _
   have p:=Aq D;have h0:=Aq (show Bd.aA l fs=Bd.rest n fs (l.drop 0) ((0:Nat):Int) (Bd.start n) by rw[N.o,L.o];rfl);clear J D N;go_wp2_with fail
   go_loopw [30] (fun i w2=>∃(k:Nat) (st:Bd.St),k≤n∧i=Aj k∧iB w2 (y.heap.size+1) y.heap.size B R Z n cc m S fs st∧Bd.Ok n st∧Bd.aA l fs=Bd.rest n fs (l.drop k) k st∧Below (w.heap.size+1) (w.alloc (.cells #[Aj 0,Aj 0,Aj 0,Aj 0] 78)) w2) (fun i _=>n-(intOf i).toNat)
   case atStart=>exact⟨0,_,by omega,rfl,p.o,Bd.eW n,h0.o,I⟩
   case round =>
    clear p h0 I hb;obtain⟨j,st,hj,rfl,D,cf,h2,u⟩:=hrel;have V:=Aq h2;have E:=Aq cf;have p:=Aq D;have h6:=u.size;simp at h6;clear h2 cf D;by_cases x6:j<n
    ·have hc:aE wr B 2 R n (Cq l):=(HL.o.alloc hB _).below u (by omega);obtain⟨x,U⟩:∃x,l[j]?=some x:=⟨_,Bg (by have:=L.o;omega)⟩;obtain⟨b,off,rfl,x0,d⟩:=hc.2 (by omega);obtain⟨g0,K⟩:=Tj l j x U;have g:=d _ _ g0;have r:=d _ _ K;rw[←Lb]at r;have hx:l.drop j=x::l.drop (j+1):=by
      have d2:j<l.length:=by have:=L.o;omega
      rw[pD d2];rw[Bg d2]at U
      injection U with U
      rw[U]
     have O:=Aq hx;clear d g0 K U hc hx;obtain⟨op,a⟩:=x;simp only at g r;go_wp2_with fail
     refine(Zfq (y.heap.size+1) y.heap.size B (some ⟨b,off,none⟩) Z n cc m S fs st j op a _ (by exact p.o.below (aI.alloc Aw _)) E.o d3.o (by omega) (by omega) (by omega)).mono ?_;rintro e X⟨rfl,Ac,hr⟩;have s:Below (w.heap.size+1) (w.alloc (.cells #[Aj 0,Aj 0,Aj 0,Aj 0] 78)) X:=(u.alloc (by omega) _).trans (hr.below (by simp;omega) (fun k hk=>by omega));have h4:=Aq Ac;clear g r Ac hr p;by_cases Y:(Bd.look n fs st j (op,a)).1=0
     ·have hq:=Bd.jv d3.o E.o Y;have h7:=Aq hq;have f:Bd.aA l fs=Bd.rest n fs (l.drop (j+1)) ((j+1:Nat):Int) (Bd.look n fs st j (op,a)).2:=by
       rw[V.o,O.o,Bd.rest,if_neg (by rw[Y];simp)];rw[show ((j+1:Nat):Int)=(j:Int)+1 by omega]
      have P:=Aq f;rw[Y];generalize Bd.look n fs st j (op,a)=W at *;clear Y hq f V E O;go_wp2;go_roundw
      case rel=>exact⟨j+1,W.2,by omega,by go_num,h4.o,h7.o,P.o,s⟩
      case measure=>simp[intOf];omega
     ·have f:Bd.aA l fs=(⟨0,0,0,0⟩,(j:Int),(Bd.look n fs st j (op,a)).1):=by
       rw[V.o,O.o,Bd.rest,if_pos Y]
      have P:=Aq f;have x4:((Bd.look n fs st j (op,a)).1 != 0)=true:=by simpa using Y
      generalize (Bd.look n fs st j (op,a)).1=W at *;have q0:X.cell? ⟨w.heap.size,0,none⟩=some (Aj 0):=by rw[s.cell (by simp)];simp[go_sem]
      have q1:X.cell? ⟨w.heap.size,1,none⟩=some (Aj 0):=by rw[s.cell (by simp)];simp[go_sem]
      have q2:X.cell? ⟨w.heap.size,2,none⟩=some (Aj 0):=by rw[s.cell (by simp)];simp[go_sem]
      have q3:X.cell? ⟨w.heap.size,3,none⟩=some (Aj 0):=by rw[s.cell (by simp)];simp[go_sem]
      have z:∀o,X.frozen? ⟨w.heap.size,o,none⟩=false:=fun o=>by rw[s.frozen (by simp)];simp[go_sem]
      clear Y f V E O h4;go_wp2;refine bodyPost_ret (v:=.tuple #[.agg #[Aj 0,Aj 0,Aj 0,Aj 0],Aj j,Aj W]) (by simp[results,Tryz.results63,go_sem,q0,q1,q2,q3]) rfl ⟨by rw[P.o];rfl,?_⟩;have g1:Below w.heap.size w X:=(aI.alloc Aw _).trans (s.mono (by omega));exact((((g1.setCell Aw _).setCell Aw _).setCell Aw _).setCell Aw _)
    ·have d1:j=n:=by omega
     have h9:=p.o.hl;obtain⟨q,T⟩:∃q,st.pl[n]?=some q:=⟨_,Bg (by omega)⟩;have g2:Bd.bj st.pl (n:Int)=q:=by unfold Bd.bj;rw[Bn];simp[T]
     have f:Bd.aA l fs=(⟨st.aU,q.aC,st.aL,q.steps⟩,0,0):=by
      have hd:l.drop j=[]:=List.drop_eq_nil_of_le (by have:=L.o;omega);rw[V.o,hd,Bd.rest,d1,g2]
     have P:=Aq f;obtain⟨g0,K,F⟩:=Hj st.pl n q T;have u2:wr.cell? ⟨y.heap.size+1,2,none⟩=some (.slice (some ⟨y.heap.size,0,none⟩) (n+1) (n+1)):=by rw[p.o.hP.cell];rfl
     have u3:wr.cell? ⟨y.heap.size+1,3,none⟩=some (Aj st.aU):=by rw[p.o.hP.cell];rfl
     have u4:wr.cell? ⟨y.heap.size+1,4,none⟩=some (Aj st.aL):=by rw[p.o.hP.cell];rfl
     have g:wr.cell? ⟨y.heap.size,n*3,none⟩=some (.bool q.aR):=by rw[p.o.hG.cell];simpa using g0
     have r:wr.cell? ⟨y.heap.size,n*3+1,none⟩=some (Aj q.aC):=by rw[p.o.hG.cell];simpa using K
     have Q:wr.cell? ⟨y.heap.size,n*3+2,none⟩=some (Aj q.steps):=by rw[p.o.hG.cell];simpa using F
     have q0:wr.cell? ⟨w.heap.size,0,none⟩=some (Aj 0):=by rw[u.cell (by simp)];simp[go_sem]
     have q1:wr.cell? ⟨w.heap.size,1,none⟩=some (Aj 0):=by rw[u.cell (by simp)];simp[go_sem]
     have q2:wr.cell? ⟨w.heap.size,2,none⟩=some (Aj 0):=by rw[u.cell (by simp)];simp[go_sem]
     have q3:wr.cell? ⟨w.heap.size,3,none⟩=some (Aj 0):=by rw[u.cell (by simp)];simp[go_sem]
     have z:∀o,wr.frozen? ⟨w.heap.size,o,none⟩=false:=fun o=>by rw[u.frozen (by simp)];simp[go_sem]
     have y1:y.heap.size+1<wr.heap.size:=p.o.hP.lt;have y2:y.heap.size<wr.heap.size:=by omega
     have y3:w.heap.size<wr.heap.size:=by omega
     have y4:y.heap.size+1≠w.heap.size:=by omega
     have y5:w.heap.size≠y.heap.size+1:=by omega
     have y6:wr.heap.size≠w.heap.size:=by omega
     have y7:w.heap.size≠wr.heap.size:=by omega
     obtain⟨qk,qh,qs⟩:=q;simp only at g r Q P;have HJ:=Aq d1;clear f V E p T g2 g0 K F h9 d1;go_wp2_with fail
     go_region_held3 (fun w'=>w'.cell? ⟨y.heap.size+1,3,none⟩=some (Aj st.aU)∧w'.cell? ⟨y.heap.size+1,4,none⟩=some (Aj st.aL)∧w'.cell? ⟨wr.heap.size,1,none⟩=some (Aj qh)∧w'.cell? ⟨wr.heap.size,2,none⟩=some (Aj qs)) (first|(go_keep;done)|(refine⟨?_,?_,?_,?_⟩ <;> first|(go_keep;done)|(simp[go_sem];done))) (first|fail);go_wp2;refine bodyPost_ret (v:=.tuple #[.agg #[Aj st.aU,Aj qh,Aj st.aL,Aj qs],Aj 0,Aj 0]) (by simp[results,Tryz.results63,go_sem,q0,q1,q2,q3,y3]) rfl ⟨by rw[P.o];rfl,?_⟩;have g1:Below w.heap.size w wr:=(aI.alloc Aw _).trans (u.mono (by omega));exact((((((g1.setCell Aw _).setCell Aw _).setCell Aw _).setCell Aw _).alloc (by simp[World.setCell];omega) _).drew)
def Rv (w:World)(r:List Bd.aa×Int×Int)(e:Ending)(w':World):Prop :=
 ∃A c,e=.returned (.tuple #[.slice A r.1.length c,Aj r.2.1,Aj r.2.2])∧aE w' w'.heap.size 4 A r.1.length (Cp r.1)∧Below w.heap.size w w'
theorem Zcq:(Tryz.prog.info? 78).map (fun i=>(i.zero,i.size,i.bytes))=some (some (.agg #[Aj 0,Aj 0,Aj 0,Aj 0]),4,32):=by kernel_rfl
theorem Po (a b:List Bd.aa):Cp (a++b)=Cp a++Cp b:=by
 induction a with
 |nil=>rfl
 |cons p r ih=>simp[Cp,ih]
theorem Gc {w:World}{aN:Nat}{e:TypeId}{size n:Nat}{v:Value}{xs:List Value}(h:w.ownsRow aN e size v n xs):∃A c,v=.slice A n c∧aE w w.heap.size size A n xs:=by
 rcases h.2 with⟨rfl,rfl⟩|⟨g,dA,aF,rfl,_⟩
 ·exact⟨none,0,rfl,qx (c:=0) h⟩
 ·exact⟨_,dA,rfl,qx h⟩
theorem Xx (A:Option Addr)(n c:Nat)(w:World)(x:20<n) :
  Calls Tryz.prog 33 #[.slice A n c] w fun e w'=>e=.returned (.tuple #[.slice none 0 0,Aj 20,Aj 2])∧w=w':=by
 have h:(20:Int)<n:=by omega
 go_enter Tryz.func33,Tryz.ntmps33;go_wp2;go_ret3;exact⟨rfl,rfl⟩
theorem Zce (A:Option Addr)(c B:Nat) (ll:List (List (Int×Int))) (w:World) (M:cK w B A ll) (hB:B≤w.heap.size) (hn:ll.length≤20) (c1:∀l∈ll,l.length≤1000000000000) :
  Calls Tryz.prog 33 #[.slice A ll.length c] w (Rv w (Bd.funcsGo ll 0 [])):=by
 obtain⟨i0,hi,I,J,O⟩:=info_parts Zcq;obtain⟨n,Q⟩:∃n,n=ll.length:=⟨_,rfl⟩;rw[←Q]at hn ⊢;have am:=fun W=>Zhb (P:=Tryz.prog) 81 78 i0 _ Tryz.underlying81 hi I .i64 .i64 0 n (By _) (by rw[O];omega) (by omega) W
 rw[J,show ((0:Nat):Int)=0 from rfl]at am;have H:=Aq Q;have HR:=Aq M;have c':=Aq c1;have h9:¬ (20:Int)<n:=by omega
 clear Q M c1;go_enter Tryz.func33,Tryz.ntmps33;go_wp2_with fail
 go_loopw [5,19] (fun v i wr=>∃(k:Nat) (cs:List Bd.aa),k≤n∧i=Aj k∧cs.length=k∧wr.ownsRow w.heap.size 78 4 v cs.length (Cp cs)∧Bd.funcsGo (ll.drop k) k cs=Bd.funcsGo ll 0 []∧Below w.heap.size w wr) (fun _ i _=>n-(intOf i).toNat)
 case atStart =>
  refine⟨0,[],by omega,rfl,rfl,⟨rfl,.inr ⟨w.heap.size,n,_,rfl,Aw,heap_alloc_new w _,by simp,by unfold maxLen;omega,size_madeCells _ _,by simp[Cp]⟩⟩,by simp,aI.alloc Aw _⟩
 case round =>
  obtain⟨k,cs,hk,rfl,hl,V,c2,j⟩:=hrel;obtain⟨Y,m,rfl,f⟩:=Gc V;have hb:=Aq V;have q:=Aq c2;have x1:=Aq hl;have hR:=j.size;have h4:cs.length≤k∧k≤cs.length:=by omega
  clear V c2 hl;by_cases h3:k<n
  ·obtain⟨l,a⟩:∃l,ll[k]?=some l:=⟨_,Bg (by have:=H.o;omega)⟩;have d0:=HR.o.below j hB;obtain⟨vs,E,hr⟩:=d0;obtain⟨v,R,Al,cl,rfl,T⟩:=hr k l a;obtain⟨b,off,rfl,x0,h0⟩:=E.2 (by have:=H.o;omega);have G:=h0 _ _ R;have D:ll.drop k=l::ll.drop (k+1):=by
    have F:k<ll.length:=by have:=H.o;omega
    rw[pD F];rw[Bg F]at a;rw[oK a]
   have X:=Aq D;have L:=c'.o l (Bx a);have HN:=Aq T;have Z:=Aq f;clear h0 hr E R a D T f;go_wp2_with fail
   refine(Vu Al Y l.length cl cs.length m wr.heap.size l cs _ (HN.o.a_ (by omega)) Z.o Aw rfl rfl L (by omega)).mono ?_;rintro e w1⟨rfl,K⟩;clear L am;simp only[Tv];have C:Below w.heap.size w w1:=j.trans (K.mono hR);by_cases r:(Bd.aA l cs).2.2=0
   ·have x:Bd.funcsGo (ll.drop (k+1)) ((k+1:Nat):Int) (cs++[(Bd.aA l cs).1])=Bd.funcsGo ll 0 []:=by
     have s:=q.o;rw[X.o,Bd.funcsGo,if_neg (by rw[r];simp)]at s;rw[←s,show ((k+1:Nat):Int)=(k:Int)+1 by omega]
    have z:=Aq x;rw[r];have N:=Hn hb.o K Aw;have c3:=Aq N;generalize (Bd.aA l cs).1=cc at *;obtain⟨c0,u,y,p⟩:=cc;clear r x X q N G;have z1:=K.size;have hg:((w1.alloc (.cells #[Aj c0,Aj u,Aj y,Aj p] 78)).alloc (.cells #[Aj c0,Aj u,Aj y,Aj p] 78)).ownsRow w.heap.size 78 4 (.slice Y cs.length m) cs.length (Cp cs):=Hn c3.o ((aI.alloc Aw _).alloc (by simp) _) Aw;have h1:=Aq hg;have U:=aE.lX (w1.alloc (.cells #[Aj c0,Aj u,Aj y,Aj p] 78)) 78 [Aj c0,Aj u,Aj y,Aj p];simp only[World.size_alloc]at U;have h2:=Aq U;clear hg U;go_wp2_with (at_builtin;refine Cm _ rfl (.tmp 35) (.tmp 37) _ rfl w.heap.size 78 i0 _ 4 32 Tryz.underlying81 hi I J O rfl (by omega) (.slice Y cs.length m) cs.length (Cp cs) rfl h1.o (w1.heap.size+1+1) (some ⟨w1.heap.size+1,0,none⟩) 1 1 [Aj c0,Aj u,Aj y,Aj p] rfl h2.o (by simp[Value.oneCell']) (by unfold maxLen;omega) (by omega) (by simp;omega) ?_;intro v' w2 hv A' h8)
    refine⟨⟨k+1,cs++[⟨c0,u,y,p⟩],by omega,by go_num,by simp;omega,?_,z.o,?_⟩,by simp[intOf];omega⟩
    ·rw[Bz,Po];exact hv
    ·refine Below.grown (((C.alloc (by omega) _).alloc (by simp;omega) _)) A' (by simp;omega) ?_;intro g d;rcases c3.o.2 with⟨h,_⟩|⟨g',_,_,h,h7,_⟩
     ·rw[h]at d;simp[Value.ownBlock]at d
     ·rw[h]at d;simp[Value.ownBlock]at d;omega
   ·have x:Bd.funcsGo ll 0 []=([],(k:Int),(Bd.aA l cs).2.2):=by
     rw[←q.o,X.o,Bd.funcsGo,if_pos r]
    have z:=Aq x;have h6:((Bd.aA l cs).2.2 != 0)=true:=by simpa using r
    generalize (Bd.aA l cs).2.2=rr at *;generalize (Bd.aA l cs).2.1=ra at *;generalize (Bd.aA l cs).1=cc at *;obtain⟨c0,u,y,p⟩:=cc;clear r x X q G;go_wp2;go_ret3;refine⟨none,0,by rw[z.o];rfl,?_,C.alloc (by have:=K.size;omega) _⟩;rw[z.o];exact qy
  ·have S:k=n:=by omega
   have x:Bd.funcsGo ll 0 []=(cs,0,0):=by
    have s:=q.o;rw[List.drop_eq_nil_of_le (by have:=H.o;omega),Bd.funcsGo]at s;exact s.symm
   have z:=Aq x;have h5:=Aq S;have Z:=Aq f;clear S x q f am;go_wp2;go_ret3;refine⟨Y,m,by rw[z.o];rfl,?_,j⟩;rw[z.o];exact Z.o
theorem Ra (A:Option Addr)(c B:Nat) (ll:List (List (Int×Int))) (w:World) (z:cK w B A ll) (y:B≤w.heap.size) (x:∀l∈ll,l.length≤1000000000000) :
  Calls Tryz.prog 33 #[.slice A ll.length c] w (Rv w (Bd.funcs ll)):=by
 by_cases h:ll.length>20
 ·have e:Bd.funcs ll=([],20,2):=by unfold Bd.funcs;rw[if_pos h]
  rw[e];refine(Xx A ll.length c w h).mono ?_;rintro e w'⟨rfl,rfl⟩;exact⟨none,0,rfl,qy,aI⟩
 ·have e:Bd.funcs ll=Bd.funcsGo ll 0 []:=by unfold Bd.funcs;rw[if_neg h]
  rw[e];exact Zce A c B ll w z y (by omega) x
def Rs (w:World)(r:Bd.aa×Int)(e:Ending)(w':World):Prop:=e=.returned (.tuple #[Tv r.1,Aj r.2])∧Below w.heap.size w w'
theorem Yp (b d:Option Addr)(cc Y B:Nat) (l:List (Int×Int)) (fs:List Bd.aa) (w:World) (j:aE w B 2 b l.length (Cq l)) (H:aE w B 4 d fs.length (Cp fs)) (g:B≤w.heap.size) (k:l.length≤1000000000000) (f:fs.length≤1000000000000) :
  Calls Tryz.prog 62 #[.slice b l.length cc,.slice d fs.length Y] w (Rs w (Bd.fw l fs)):=by
 obtain⟨r,c⟩:∃r,r=Bd.aA l fs:=⟨_,rfl⟩;have x:Bd.fw l fs=if r.2.2≠0 then(⟨0,0,0,0⟩,r.2.2) else if r.1.aU>0 then(⟨0,0,0,0⟩,51) else(r.1,0):=by unfold Bd.fw;rw[c]
 have K:=Aq (fun W X i=>Vu b d l.length cc fs.length Y B l fs W X i);rw[←c]at K;obtain⟨⟨c0,U,Z,A⟩,C,s⟩:=r;simp only at x;have u:=Aq x;have Q:=Aq j;have R:=Aq H;have S:=Aq k;have P:=Aq f;clear x c j H k f;generalize l.length=n at *;generalize fs.length=m at *;go_enter Tryz.func62,Tryz.ntmps62;go_wp2_with fail
 refine(K.o _ (by exact Q.o.alloc g _) (by exact R.o.alloc g _) (by simp;omega) trivial trivial S.o P.o).mono ?_;rintro e w1⟨rfl,y⟩;simp only[Tv];have D:Below w.heap.size w w1:=(aI.alloc Aw _).trans (y.mono (by simp));have V:=y.size;simp at V;have q0:w1.cell? ⟨w.heap.size,0,none⟩=some (Aj 0):=by rw[y.cell (by simp)];simp[go_sem]
 have q1:w1.cell? ⟨w.heap.size,1,none⟩=some (Aj 0):=by rw[y.cell (by simp)];simp[go_sem]
 have q2:w1.cell? ⟨w.heap.size,2,none⟩=some (Aj 0):=by rw[y.cell (by simp)];simp[go_sem]
 have q3:w1.cell? ⟨w.heap.size,3,none⟩=some (Aj 0):=by rw[y.cell (by simp)];simp[go_sem]
 have z:∀o,w1.frozen? ⟨w.heap.size,o,none⟩=false:=fun o=>by rw[y.frozen (by simp)];simp[go_sem]
 have a:w.heap.size<w1.heap.size:=by omega
 clear y;by_cases p:s=0
 ·subst p;by_cases k:0<c0
  ·have x:=u.o;rw[if_neg (by simp),if_pos k]at x;have q:=Aq x;clear x u;go_wp2;refine bodyPost_ret (v:=.tuple #[.agg #[Aj 0,Aj 0,Aj 0,Aj 0],Aj 51]) (by simp[results,Tryz.results62,go_sem,q0,q1,q2,q3,a]) rfl ⟨by rw[q.o];rfl,(by repeat (first|exact aI|assumption|(refine nu ?_ (by first|omega|(simp;done)|(simp;omega)) _)|(refine nw ?_)|(refine below_drewN ?_ _)|(refine ny ?_ (by first|omega|(simp;done)|(simp;omega)) _)))⟩
  ·have x:=u.o;rw[if_neg (by simp),if_neg k]at x;have q:=Aq x;clear x u;go_wp2;refine bodyPost_ret (v:=.tuple #[.agg #[Aj c0,Aj U,Aj Z,Aj A],Aj 0]) (by simp[results,Tryz.results62,go_sem,q0,q1,q2,q3,a]) rfl ⟨by rw[q.o];rfl,(by repeat (first|exact aI|assumption|(refine nu ?_ (by first|omega|(simp;done)|(simp;omega)) _)|(refine nw ?_)|(refine below_drewN ?_ _)|(refine ny ?_ (by first|omega|(simp;done)|(simp;omega)) _)))⟩
 ·have x:=u.o;rw[if_pos p]at x;have q:=Aq x;have X:(s==0)=false:=by simpa using p
  have i:(s != 0)=true:=by simpa using p
  clear x u p;go_wp2;refine bodyPost_ret (v:=.tuple #[.agg #[Aj 0,Aj 0,Aj 0,Aj 0],Aj s]) (by simp[results,Tryz.results62,go_sem,q0,q1,q2,q3,a]) rfl ⟨by rw[q.o];rfl,(by repeat (first|exact aI|assumption|(refine nu ?_ (by first|omega|(simp;done)|(simp;omega)) _)|(refine nw ?_)|(refine below_drewN ?_ _)|(refine ny ?_ (by first|omega|(simp;done)|(simp;omega)) _)))⟩
theorem Ly (A b:Option Addr)(c i B:Nat)(aP:Value)(size:Int) (ll:List (List (Int×Int))) (l:List (Int×Int)) (w:World) (T:∃a n k,aP=.slice a n k) (V:cK w B A ll) (Y:aE w B 2 b l.length (Cq l)) (R:B≤w.heap.size) (Q:∀l∈ll,l.length≤1000000000000) (Z:l.length≤1000000000000) :
  Calls Tryz.prog 32 #[.agg #[.slice A ll.length c,.slice b l.length i,aP,Aj size]] w (Rs w (Bd.program ll l)):=by
 obtain⟨ca,cn,ck,rfl⟩:=T;have P:=Bd.kB ll;obtain⟨r,f⟩:∃r,r=Bd.funcs ll:=⟨_,rfl⟩;have x:Bd.program ll l=if r.2.2≠0 then(⟨0,0,0,0⟩,r.2.2) else Bd.fw l r.1:=by unfold Bd.program;rw[f]
 rw[←f]at P;have U:=Aq (fun W h=>Ra A c B ll W h);rw[←f]at U;obtain⟨cs,ra,g⟩:=r;simp only at x P;have s:=Aq x;have HR:=Aq V;have HL:=Aq Y;have J:=Aq Q;have HN:=Aq Z;clear x f V Y Q Z;have he:=Aq (fun Af I B' W h1 S h3=>Yp b Af i I B' l cs W h1 S h3);generalize K:l.length=n at *;generalize ll.length=m at *;have hr:=Aq K;clear K;go_enter Tryz.func32,Tryz.ntmps32;go_wp2_with fail
 refine(U.o _ (by exact(HR.o.below (aI.alloc Aw _) R).below (aI.alloc Aw _) (by simp;omega)) (by simp;omega) J.o).mono ?_;rintro e w1⟨A1,c1,rfl,X,y⟩;simp only;have j:Below w.heap.size w w1:=((aI.alloc Aw _).alloc (by simp) _).trans (y.mono (by simp;omega));have O:=y.size;simp at O;have q0:w1.cell? ⟨w.heap.size+1,0,none⟩=some (Aj 0):=by rw[y.cell (by simp)];simp[go_sem]
 have q1:w1.cell? ⟨w.heap.size+1,1,none⟩=some (Aj 0):=by rw[y.cell (by simp)];simp[go_sem]
 have q2:w1.cell? ⟨w.heap.size+1,2,none⟩=some (Aj 0):=by rw[y.cell (by simp)];simp[go_sem]
 have q3:w1.cell? ⟨w.heap.size+1,3,none⟩=some (Aj 0):=by rw[y.cell (by simp)];simp[go_sem]
 have z:∀o,w1.frozen? ⟨w.heap.size+1,o,none⟩=false:=fun o=>by rw[y.frozen (by simp)];simp[go_sem]
 have G:w1.cell? ⟨w.heap.size,1,none⟩=some (.slice b n i):=by rw[y.cell (by simp;omega)];simp[go_sem]
 have p:w.heap.size+1<w1.heap.size:=by omega
 have F:=Aq X;clear y X;by_cases q:g=0
 ·subst q;have x:=s.o;rw[if_neg (by simp)]at x;have d:=Aq x;have H:=HL.o.below j R;have Am:=Aq H;clear x s H;go_wp2_with fail
  refine(he.o _ _ w1.heap.size _ (by exact Am.o.a_ (by omega)) (by exact F.o) Aw HN.o (by omega)).mono ?_;rintro e w2⟨rfl,u⟩;rw[←d.o];generalize Bd.program ll l=L at *;obtain⟨⟨c0,M,C,c3⟩,pe⟩:=L;simp only[Tv];have E:w2.cell? ⟨w.heap.size+1,0,none⟩=some (Aj 0):=by rw[u.cell p];exact q0
  have D:w2.cell? ⟨w.heap.size+1,1,none⟩=some (Aj 0):=by rw[u.cell p];exact q1
  have N:w2.cell? ⟨w.heap.size+1,2,none⟩=some (Aj 0):=by rw[u.cell p];exact q2
  have y3:w2.cell? ⟨w.heap.size+1,3,none⟩=some (Aj 0):=by rw[u.cell p];exact q3
  have z':∀o,w2.frozen? ⟨w.heap.size+1,o,none⟩=false:=fun o=>by rw[u.frozen p];exact z o
  have rr:Below w.heap.size w w2:=j.trans (u.mono (by omega));clear q0 q1 q2 q3 z G d;go_wp2;refine bodyPost_ret (v:=.tuple #[.agg #[Aj c0,Aj M,Aj C,Aj c3],Aj pe]) (by simp[results,Tryz.results32,go_sem,E,D,N,y3]) rfl ⟨rfl,(by repeat (first|exact aI|assumption|(refine nu ?_ (by first|omega|(simp;done)|(simp;omega)) _)|(refine nw ?_)|(refine below_drewN ?_ _)|(refine ny ?_ (by first|omega|(simp;done)|(simp;omega)) _)))⟩
 ·have x:=s.o;rw[if_pos q]at x;have d:=Aq x;have S:(g != 0)=true:=by simpa using q
  clear x s q;go_wp2;refine bodyPost_ret (v:=.tuple #[.agg #[Aj 0,Aj 0,Aj 0,Aj 0],Aj g]) (by simp[results,Tryz.results32,go_sem,q0,q1,q2,q3]) rfl ⟨by rw[d.o];rfl,(by repeat (first|exact aI|assumption|(refine nu ?_ (by first|omega|(simp;done)|(simp;omega)) _)|(refine nw ?_)|(refine below_drewN ?_ _)|(refine ny ?_ (by first|omega|(simp;done)|(simp;omega)) _)))⟩
end
section
open Go.RowKit Mc
theorem fn_at {fs:List Bd.aa}{x:Int}(z:0≤x)(u:x<fs.length):∃(i:Nat) (c:Bd.aa),x=i∧fs[i]?=some c∧Bd.fn fs x=c:=by
 obtain⟨i,rfl⟩:∃i:Nat,x=i:=⟨x.toNat,by omega⟩;obtain⟨c,y⟩:∃c,fs[i]?=some c:=⟨_,Bg (by omega)⟩;exact⟨i,c,rfl,y,by unfold Bd.fn;rw[Cw,Bn,y];rfl⟩
theorem pl_at {ps:List Bu.aq}{x:Int}(z:0≤x)(u:x<ps.length):∃(i:Nat) (p:Bu.aq),x=i∧ps[i]?=some p∧Bu.pl ps x=p:=by
 obtain⟨i,rfl⟩:∃i:Nat,x=i:=⟨x.toNat,by omega⟩;obtain⟨c,y⟩:∃c,ps[i]?=some c:=⟨_,Bg (by omega)⟩;exact⟨i,c,rfl,y,by unfold Bu.pl;rw[Cw,Bn,y];rfl⟩
theorem Ir (op a:Int)(fs:List Bd.aa)(w:World)(B:Nat)(A:Option Addr)(c:Nat)(j:B≤w.heap.size) (v:aE w B 4 A fs.length (Cp fs)) (m:fs.length≤1000000) (k:(op=37∨op=38)→0≤a∧a<fs.length) (u:fs.all Bd.cw=true) :
  Calls Tryz.prog 65 #[.agg #[Aj op,Aj a],.slice A fs.length c] w fun e w'=>e=.returned (Aj (Bu.bZ (op,a) fs))∧Below w.heap.size w w':=by
 by_cases x:op=37∨op=38
 ·obtain⟨d,s⟩:=k x;obtain⟨i,q,rfl,z,y⟩:=fn_at d s;have g:=Bd.je u (i:Int);rw[y]at g;have X:=(aS.1 z).1;obtain⟨b,off,rfl,H,p⟩:=v.2 (by omega);have f:=p _ _ (Gv fs i q z).2.1;rw[←Lb]at f;have n:b<w.heap.size:=by omega
  rcases x with rfl|rfl
  ·have r:Hid (Bu.bZ (37,(i:Int)) fs=q.delta):=Aq (by unfold Bu.bZ;rw[y];rfl);rw[r.o];clear k u y v p z;go_enter Tryz.func65,Tryz.ntmps65;go_wp2;go_ret;exact⟨by first|rfl|simp[*],aI.alloc Aw _⟩
  ·have r:Hid (Bu.bZ (38,(i:Int)) fs=q.delta-1):=Aq (by unfold Bu.bZ;rw[y];rfl);rw[r.o];clear k u y v p z;go_enter Tryz.func65,Tryz.ntmps65;go_wp2;go_ret;exact⟨by first|rfl|simp[*],aI.alloc Aw _⟩
 ·have s:¬ op=37:=fun h=>x (.inl h)
  have l:¬ op=38:=fun h=>x (.inr h)
  clear k v u x;go_enter Tryz.func65,Tryz.ntmps65;go_wp2_with (refine(Im _ _).mono ?_;rintro e K⟨rfl,rfl⟩)
  all_goals
   go_ret;refine⟨Cl ?_,aI.alloc Aw _⟩;unfold Bu.bZ
   simp_all
theorem Wt (op a:Int)(ps:List Bu.aq)(w:World)(B:Nat)(A:Option Addr)(c:Nat)(m:B≤w.heap.size) (u:af (Kz 0) 89 w B A ps) (K:ps.length≤1000000) (v:(op=37∨op=38)→0≤a∧a<ps.length) (z:∀p∈ps,0≤p.size∧p.size≤20001) :
  Calls Tryz.prog 64 #[.agg #[Aj op,Aj a],.slice A ps.length c] w fun e w'=>e=.returned (Aj (Bu.sizeOf (op,a) ps))∧Below w.heap.size w w':=by
 by_cases y:op=37∨op=38
 ·obtain⟨f,d⟩:=v y;obtain⟨i,q,rfl,x,k⟩:=pl_at f d;have j:=z q (Bx x);have Q:=(aS.1 x).1;obtain⟨b,off,cs,rfl,V,hrel,r⟩:=u.get x;obtain⟨l,cA,rfl,_⟩:=Uv hrel;have g:=r 1 (Aj q.size) rfl;simp only[Kz,Repr.map,Repr.bi,Repr.row,Repr.int,Nat.reduceAdd]at g;have Y:b<w.heap.size:=by omega
  obtain⟨P,X⟩:=j;have H:IntKind.i64.wrap (1+q.size)=1+q.size:=Do _ (by omega);have Z:IntKind.i64.wrap (16*(1+q.size))=16*(1+q.size):=Do _ (by omega);have U:IntKind.i64.wrap (1+16*(1+q.size))=1+16*(1+q.size):=Do _ (by omega);rcases y with rfl|rfl
  ·have s:Hid (Bu.sizeOf (37,(i:Int)) ps=q.size):=Aq (by unfold Bu.sizeOf;rw[k];rfl);rw[s.o];clear v k u r x hrel z;go_enter Tryz.func64,Tryz.ntmps64;go_wp2;go_ret;refine⟨Cl ?_,aI.alloc Aw _⟩
   first|rfl|simp[*]
  ·have s:Hid (Bu.sizeOf (38,(i:Int)) ps=1+16*(1+q.size)):=Aq (by unfold Bu.sizeOf;rw[k];rfl);rw[s.o];clear v k u r x hrel z;go_enter Tryz.func64,Tryz.ntmps64;go_wp2;go_ret;refine⟨Cl ?_,aI.alloc Aw _⟩
   first|rfl|simp[*]
 ·have d:¬ op=37:=fun h=>y (.inl h)
  have n:¬ op=38:=fun h=>y (.inr h)
  clear v u z y;go_enter Tryz.func64,Tryz.ntmps64;go_wp2
  all_goals
   go_ret;refine⟨Cl ?_,aI.alloc Aw _⟩;unfold Bu.sizeOf
   simp_all
end
section
namespace Bu
variable (fs : List Bd.aa) (ps : List aq)
theorem Oy (l r:List (Int×Int)):∀(i:Nat) (s:gh),bJ fs ps (l++r) i s=bJ fs ps r (i+l.length) (bJ fs ps l i s):=by
 induction l with
 |nil=>intro i s;rfl
 |cons x l ih =>
  intro i s;rw[oa,bJ,bJ,ih,Bo,Lb,Nat.add_comm 1]
theorem gS (l:List (Int×Int)) {i:Nat} {x:Int×Int} (h:l[i]?=some x) (s:gh):bJ fs ps (l.take (i+1)) 0 s=bu fs ps i x (bJ fs ps (l.take i) 0 s):=by
 have hi:=(aS.1 h).1;rw[oh,h,Option.toList_some,Oy,Dn,oV (Nat.le_of_lt hi),ns];rfl
structure fB (k:Nat) (l:List (Int×Int)):Prop where
 az:∀(i:Nat) x,l[i]?=some x→i+1+jump x≤l.length
 ahead:∀x∈l,(x.1=35∨x.1=36)→0≤x.2
 ao:∀x∈l,(x.1=37∨x.1=38)→0≤x.2∧x.2<k
 kh:∀x∈l,-1000≤bZ x fs∧bZ x fs≤1000
 ff:∀x∈l,0≤sizeOf x ps∧sizeOf x ps≤1000000
structure jc (n i:Nat) (s:gh):Prop where
 aR:s.aR.length=n+1
 aC:s.aC.length=n+1
 index:s.index.length=n+1
 nG:∀k,-1000*(i:Int)≤s.aC.getD k 0∧s.aC.getD k 0≤1000*(i:Int)
 steps:s.steps.length≤i
 gos:∀p∈s.steps,p.go≤n
 aK:∀k,s.index.getD k 0≤s.steps.length
 size:0≤s.size∧s.size≤20001
theorem eW (n:Nat):jc n 0 (start n) where
 aR:=by simp[start]
 aC:=by simp[start]
 index:=by simp[start]
 nG:=fun k=>by
  have:(start n).aC.getD k 0=0:=by
   simp only[start,Bn,pI];split <;> rfl
  rw[this];simp
 steps:=by simp[start]
 gos:=fun p h=>by simp[start]at h
 aK:=fun k=>by
  have:(start n).index.getD k 0=0:=by
   simp only[start,Bn,pI];split <;> rfl
  omega
 size:=by simp[start]
theorem Lh {α:Type}(l:List α)(i k:Nat)(a d:α):(l.set i a).getD k d=a∨(l.set i a).getD k d=l.getD k d:=by
 simp only[Bn,Iu];by_cases h:i=k
 ·subst h;by_cases x:i<l.length
  ·left;simp[x]
  ·right;simp[x]
 ·right;simp[h]
theorem Zfb {n i:Nat}{x:Int×Int}{s:gh}(h:jc n i s)(hi:i<n)(q:i+1+jump x≤n)(c : -1000≤bZ x fs∧bZ x fs≤1000)(d:0≤sizeOf x ps):jc n (i+1) (bu fs ps i x s):=by
 have b:=h.nG i;have u:∀k,-1000*((i+1:Nat):Int)≤s.aC.getD k 0∧s.aC.getD k 0≤1000*((i+1:Nat):Int):=fun k=>by
  have:=h.nG k;omega
 have z : -1000*((i+1:Nat):Int)≤s.aC.getD i 0+bZ x fs∧s.aC.getD i 0+bZ x fs≤1000*((i+1:Nat):Int):=by omega
 have a:=h.steps;unfold bu;split
 ·exact⟨h.aR,h.aC,h.index,u,by omega,h.gos,h.aK,h.size⟩
 ·simp only;refine⟨?_,?_,?_,?_,?_,?_,?_,?_⟩
  ·dsimp only;split <;> simp[h.aR]
  ·dsimp only;split <;> simp[h.aC]
  ·simp[h.index]
  ·intro k;dsimp only;split
   ·rcases Lh s.aC (i+1+jump x) k (s.aC.getD i 0+bZ x fs) 0 with e|e
    ·rw[e];exact z
    ·rw[e];exact u k
   ·rcases Lh (s.aC.set (i+1+jump x) (s.aC.getD i 0+bZ x fs)) (i+1) k (s.aC.getD i 0+bZ x fs) 0 with e|e
    ·rw[e];exact z
    ·rw[e];rcases Lh s.aC (i+1+jump x) k (s.aC.getD i 0+bZ x fs) 0 with e|e
     ·rw[e];exact z
     ·rw[e];exact u k
  ·dsimp only;split
   ·simp;omega
   ·omega
  ·intro p y;dsimp only at y;split at y
   ·rcases List.mem_append.1 y with y|y
    ·exact h.gos p y
    ·rw[oZ]at y;subst y;exact q
   ·exact h.gos p y
  ·intro k;dsimp only;have r:=h.aK k;have v:(s.index.set i s.steps.length).getD k 0≤s.steps.length:=by
    rcases Lh s.index i k s.steps.length 0 with e|e
    ·omega
    ·rw[e];exact r
   split
   ·exact Ex v (by simp)
   ·exact v
  ·have:=h.size;dsimp only;split <;> omega
theorem gK (l:List (Int×Int)) (k:Nat) (h:fB fs ps k l):∀i,i≤l.length→jc l.length i (bJ fs ps (l.take i) 0 (start l.length)):=by
 intro i
 induction i with
 |zero=>intro _;exact eW _
 |succ i ih =>
  intro hi;obtain⟨x,y⟩:∃x,l[i]?=some x:=⟨_,Bg (by omega)⟩;rw[gS fs ps l y];have z:=Bx y;exact Zfb fs ps (ih (by omega)) (by omega) (h.az i x y) (h.kh x z) (h.ff x z).1
end Bu
end
section
open Go.RowKit Mc
def Dk (l:List Bu.PS):List Value:=l.flatMap fun s=>[Aj s.op,Aj s.a,Aj s.aC,Aj (s.go:Int)]
theorem Sl (l:List Bu.PS):(Dk l).length=l.length*4:=by
 induction l with
 |nil=>rfl
 |cons s l ih=>simp only[Dk,pa,Bz,Bo,Bw]at ih ⊢;omega
theorem Jf (l r:List Bu.PS):Dk (l++r)=Dk l++Dk r:=by simp[Dk]
def Hv (l:List Bool):List Value:=l.map .bool
theorem Rm (l:List Bool):(Hv l).length=l.length:=by simp[Hv]
theorem Rl (l:List Bool)(i:Nat)(b:Bool):Hv (l.set i b)=(Hv l).set i (.bool b):=by simp[Hv,pH]
theorem Fi {l:List Bool}{i:Nat}(h:i<l.length):(Hv l)[i]?=some (.bool (l.getD i false)):=by
 simp[Hv,Bn,Bg h]
theorem Zbu:(Tryz.prog.info? 4).map (fun i=>(i.zero,i.size,i.bytes))=some (some (.bool false),1,1):=by kernel_rfl
theorem Xi (n:Nat):madeCells #[Value.bool false] n=(Hv (List.replicate n false)).toArray:=by
 unfold madeCells;apply Array.toList_inj.1;simp only[py,pB,Hv,qf];rw[qg];exact⟨by simp,by intro b x;simp at x;obtain⟨a,y,rfl⟩:=x;rw[show a % 1=0 by omega];rfl⟩
theorem Xh (n:Nat)(u:n≤1000000)(w:World):(Instr.makeSlice 142 (Aj (n:Int)) (Aj (n:Int))).run Tryz.prog w=.ok (.slice (some ⟨w.heap.size,0,none⟩) n n) (w.alloc (.cells (Hv (List.replicate n false)).toArray 4)):=by
 obtain⟨i,hi,x,z,y⟩:=Eu Zbu;have:=Ju (P:=Tryz.prog) 142 4 i _ Tryz.underlying142 hi x n (by rw[y];omega) (by omega) w;rw[z,ox,show (Value.bool false).cells = #[.bool false] from rfl,Xi]at this;exact this
def ks (l:List Nat):List Value:=ae (l.map fun (k:Nat)=>(k:Int))
theorem Pb (l:List Nat):(ks l).length=l.length:=by simp[ks,Dc]
theorem Zfh (l:List Nat)(i k:Nat):ks (l.set i k)=(ks l).set i (Aj (k:Int)):=by
 unfold ks;rw[pH,Gd]
structure eM (w:World) (n:Nat) (s:Bu.gh) (vs:Value) (W:World):Prop where
 o:aH W w.heap.size 89 #[.slice none 0 0,Aj 0]
 box:aH W (w.heap.size+1) 89 #[vs,Aj s.size]
 aR:W.ownsRow w.heap.size 4 1 (.slice (some ⟨w.heap.size+1+1,0,none⟩) (n+1) (n+1)) (n+1) (Hv s.aR)
 aC:W.ownsRow w.heap.size 3 1 (.slice (some ⟨w.heap.size+1+1+1,0,none⟩) (n+1) (n+1)) (n+1) (ae s.aC)
 index:W.ownsRow w.heap.size 3 1 (.slice (some ⟨w.heap.size+1+1+1+1,0,none⟩) (n+1) (n+1)) (n+1) (ks s.index)
 steps:W.ownsRow w.heap.size 145 4 vs s.steps.length (Dk s.steps)
 below:Below w.heap.size w W
def bm (x:List Nat)(l:List Bu.PS)(k:Nat):List Bu.PS:=(l.take k).map (fun p => { p with go:=x.getD p.go 0 })++l.drop k
theorem Lg (x:List Nat)(l:List Bu.PS)(k:Nat):(bm x l k).length=l.length:=by unfold bm;simp;omega
theorem Zbx (x:List Nat)(l:List Bu.PS):bm x l 0=l:=by unfold bm;simp
theorem Zfx (x:List Nat)(l:List Bu.PS):bm x l l.length=l.map fun p => { p with go:=x.getD p.go 0 } := by unfold bm;simp
theorem Zki (x:List Nat)(l:List Bu.PS)(k:Nat):(bm x l k)[k]?=l[k]?:=by
 unfold bm;by_cases h:k<l.length
 ·rw[Dp (by simp;omega)];simp[oV (Nat.le_of_lt h)]
 ·rw[Je (by simp;omega),Je (by omega)]
theorem Zby (x:List Nat)(l:List Bu.PS)(k:Nat){p:Bu.PS} (h:l[k]?=some p):(bm x l k).set k { p with go:=x.getD p.go 0 } = bm x l (k+1):=by
 unfold bm;have y:=(aS.1 h).1;have z:l.drop k=p::l.drop (k+1):=by
  rw[pD y];rw[Bg y]at h;rw[oK h]
 have u:((l.take k).map fun p:Bu.PS => { p with go:=x.getD p.go 0 }).length=k:=by rw[Fu,Dn];omega
 rw[oI _ _ (by omega),u,pZ,z,oL,oh,h];simp
section
variable {w W : World} {n : Nat} {s : Bu.gh} {vs : Value}
theorem eM.alloc (h:eM w n s vs W)(o:Obj):eM w n s vs (W.alloc o):=⟨h.o.alloc o,h.box.alloc o,h.aR.alloc o,h.aC.alloc o,h.index.alloc o,h.steps.alloc o,h.below.alloc h.below.size o⟩
theorem eM.drew (h:eM w n s vs W):eM w n s vs W.drew:=⟨h.o.drew,h.box.drew,h.aR.drew,h.aC.drew,h.index.drew,h.steps.drew,h.below.drew⟩
theorem eM.kK {W':World}(h:eM w n s vs W)(x:Below W.heap.size W W'):eM w n s vs W':=by
 have y:∀{aN size m:Nat} {t:TypeId} {v:Value} {xs:List Value},W.ownsRow aN t size v m xs→W'.ownsRow aN t size v m xs:=fun z=>Cz z fun g e=>x.block g (Bf z e).2.1
 exact⟨(x.block _ h.o.lt).trans h.o,(x.block _ h.box.lt).trans h.box,y h.aR,y h.aC,y h.index,y h.steps,h.below.trans (x.mono h.below.size)⟩
theorem El {W:World}{aN size n:Nat}{t:TypeId}{v:Value}{xs:List Value}(h:W.ownsRow aN t size v n xs){g:Nat}(x:∀k,v.ownBlock=some k→k≠g)(i:Nat)(u:Value):(W.setCell ⟨g,i,none⟩ u).ownsRow aN t size v n xs :=
 Cz h fun k e=>Bp _ _ _ _ (x k e)
theorem eM.dz (h:eM w n s vs W){i:Nat}(hi:i<s.aR.length)(b:Bool):eM w n { s with aR:=s.aR.set i b } vs (W.setCell ⟨w.heap.size+1+1,i,none⟩ (.bool b)):=by
 obtain⟨_,_,cs,x⟩:=Bf h.aR (g:=w.heap.size+1+1) rfl;refine⟨h.o.dE (p:=⟨w.heap.size+1+1,i,none⟩) (by show w.heap.size≠w.heap.size+1+1;omega) _,h.box.dE (p:=⟨w.heap.size+1+1,i,none⟩) (by show w.heap.size+1≠w.heap.size+1+1;omega) _,?_,El h.aC (fun k e=>by simp only[Value.ownBlock,Bv]at e;omega) _ _,El h.index (fun k e=>by simp only[Value.ownBlock,Bv]at e;omega) _ _,Ci h.steps x (by decide) _ _,h.below.setCell (p:=⟨w.heap.size+1+1,i,none⟩) (by show w.heap.size≤w.heap.size+1+1;omega) _⟩;have:=Dz h.aR (g:=w.heap.size+1+1) rfl (j:=i) (by rw[Rm];omega) (.bool b)
 rwa [←Rl]at this
theorem eM.e_ (h:eM w n s vs W){i:Nat}(hi:i<s.aC.length)(v:Int):eM w n { s with aC:=s.aC.set i v } vs (W.setCell ⟨w.heap.size+1+1+1,i,none⟩ (Aj v)):=by
 obtain⟨_,_,cs,x⟩:=Bf h.aC (g:=w.heap.size+1+1+1) rfl;refine⟨h.o.dE (p:=⟨w.heap.size+1+1+1,i,none⟩) (by show w.heap.size≠w.heap.size+1+1+1;omega) _,h.box.dE (p:=⟨w.heap.size+1+1+1,i,none⟩) (by show w.heap.size+1≠w.heap.size+1+1+1;omega) _,El h.aR (fun k e=>by simp only[Value.ownBlock,Bv]at e;omega) _ _,?_,El h.index (fun k e=>by simp only[Value.ownBlock,Bv]at e;omega) _ _,Ci h.steps x (by decide) _ _,h.below.setCell (p:=⟨w.heap.size+1+1+1,i,none⟩) (by show w.heap.size≤w.heap.size+1+1+1;omega) _⟩;have:=Dz h.aC (g:=w.heap.size+1+1+1) rfl (j:=i) (by rw[Dc];omega) (Aj v)
 rwa [←Gd]at this
theorem eM.iz (h:eM w n s vs W){i:Nat}(hi:i<s.index.length)(v:Nat):eM w n { s with index:=s.index.set i v } vs (W.setCell ⟨w.heap.size+1+1+1+1,i,none⟩ (Aj (v:Int))):=by
 obtain⟨_,_,cs,x⟩:=Bf h.index (g:=w.heap.size+1+1+1+1) rfl;refine⟨h.o.dE (p:=⟨w.heap.size+1+1+1+1,i,none⟩) (by show w.heap.size≠w.heap.size+1+1+1+1;omega) _,h.box.dE (p:=⟨w.heap.size+1+1+1+1,i,none⟩) (by show w.heap.size+1≠w.heap.size+1+1+1+1;omega) _,El h.aR (fun k e=>by simp only[Value.ownBlock,Bv]at e;omega) _ _,El h.aC (fun k e=>by simp only[Value.ownBlock,Bv]at e;omega) _ _,?_,Ci h.steps x (by decide) _ _,h.below.setCell (p:=⟨w.heap.size+1+1+1+1,i,none⟩) (by show w.heap.size≤w.heap.size+1+1+1+1;omega) _⟩;have:=Dz h.index (g:=w.heap.size+1+1+1+1) rfl (j:=i) (by rw[Pb];omega) (Aj (v:Int))
 rwa [←Zfh]at this
theorem eM.start (w:World)(n:Nat)(u:n≤1000000):eM w n (Bu.start n) (.slice none 0 0) (((((w.alloc (.cells #[.slice none 0 0,Aj 0] 89)).alloc (.cells #[.slice none 0 0,Aj 0] 89)).alloc (.cells ((Hv (List.replicate (n+1) false)).set 0 (.bool true)).toArray 4)).alloc (.cells (ae (List.replicate (n+1) 0)).toArray 3)).alloc (.cells (ae (List.replicate (n+1) 0)).toArray 3)):=by
 have x:n+1≤maxLen:=by unfold maxLen;omega
 have z:(Hv (List.replicate (n+1) false)).set 0 (.bool true)=Hv (Bu.start n).aR:=by
  rw[←Rl,qr];rfl
 have hi:ae (List.replicate (n+1) 0)=ks (Bu.start n).index:=by
  unfold ks Bu.start;rw[qf];rfl
 refine⟨(((((qv w _ _).alloc _).alloc _).alloc _).alloc _),?_,?_,?_,?_,Eh _ _ _ _,?_⟩
 ·exact(((qw _ _ _ (by simp)).alloc _).alloc _).alloc _
 ·rw[z];have:=Fc (W:=(w.alloc (.cells #[.slice none 0 0,Aj 0] 89)).alloc (.cells #[.slice none 0 0,Aj 0] 89)) (B:=w.heap.size) (t:=4) (size:=1) (n:=n+1) (xs:=Hv (Bu.start n).aR) (by rw[Rm];simp[Bu.start]) (by simp;omega) x
  simpa using (this.alloc _).alloc _
 ·have:=Fc (W:=((w.alloc (.cells #[.slice none 0 0,Aj 0] 89)).alloc (.cells #[.slice none 0 0,Aj 0] 89)).alloc (.cells ((Hv (List.replicate (n+1) false)).set 0 (.bool true)).toArray 4)) (B:=w.heap.size) (t:=3) (size:=1) (n:=n+1) (xs:=ae (List.replicate (n+1) 0)) (by rw[Dc];simp) (by simp;omega) x;have y:=this.alloc (.cells (ae (List.replicate (n+1) 0)).toArray 3)
  simpa [Bu.start]using y
 ·rw[←hi];have:=Fc (W:=(((w.alloc (.cells #[.slice none 0 0,Aj 0] 89)).alloc (.cells #[.slice none 0 0,Aj 0] 89)).alloc (.cells ((Hv (List.replicate (n+1) false)).set 0 (.bool true)).toArray 4)).alloc (.cells (ae (List.replicate (n+1) 0)).toArray 3)) (B:=w.heap.size) (t:=3) (size:=1) (n:=n+1) (xs:=ae (List.replicate (n+1) 0)) (by rw[Dc];simp) (by simp;omega) x
  simpa using this
 ·exact(((((ds _ w).alloc Aw _).alloc (by simp) _).alloc (by simp;omega) _).alloc (by simp;omega) _).alloc (by simp;omega) _
theorem eM.nK (h:eM w n s vs W)(k:Nat)(u v':Value){x:Int} (z:(#[vs,Aj s.size]:Array Value).setIfInBounds k u = #[v',Aj x]) (y:(W.setCell ⟨w.heap.size+1,k,none⟩ u).ownsRow w.heap.size 145 4 v' s.steps.length (Dk s.steps)):eM w n { s with size:=x } v' (W.setCell ⟨w.heap.size+1,k,none⟩ u):=by
 refine⟨h.o.dE (p:=⟨w.heap.size+1,k,none⟩) (by show w.heap.size≠w.heap.size+1;omega) _,?_,El h.aR (fun k e=>by simp only[Value.ownBlock,Bv]at e;omega) _ _,El h.aC (fun k e=>by simp only[Value.ownBlock,Bv]at e;omega) _ _,El h.index (fun k e=>by simp only[Value.ownBlock,Bv]at e;omega) _ _,y,h.below.setCell (p:=⟨w.heap.size+1,k,none⟩) (by show w.heap.size≤w.heap.size+1;omega) _⟩;have:=h.box.aZ k u
 rwa [z]at this
theorem eM.im (h:eM w n s vs W)(z:Int):eM w n { s with size:=z } vs (W.setCell ⟨w.heap.size+1,1,none⟩ (Aj z)) :=
 h.nK 1 _ vs (by simp) (Ci h.steps h.box (by decide) _ _)
theorem eM.fZ (h:eM w n s vs W){W':World}{v':Value}{x:Bu.PS} (z:W'.ownsRow w.heap.size 145 4 v' (s.steps++[x]).length (Dk (s.steps++[x]))) (r:W.grownBy W' vs.ownBlock):eM w n { s with steps:=s.steps++[x] } v' (W'.setCell ⟨w.heap.size+1,0,none⟩ v'):=by
 have f:∀g,vs.ownBlock=some g→∃cs,aH W g 145 cs:=fun g e=>(Bf h.steps e).2.2
 have y:∀(g:Nat) (t:TypeId) (cs:Array Value),aH W g t cs→t≠145→aH W' g t cs:=fun g t cs y q=>y.grown r fun e=>by
  obtain⟨l,d⟩:=f g e.symm;exact y.dF d q rfl
 have u:∀{aN size m:Nat} {t:TypeId} {v:Value} {xs:List Value},W.ownsRow aN t size v m xs→t≠145→W'.ownsRow aN t size v m xs:=fun z q=>Cz z fun g e=>by
  obtain⟨_,_,cs,a⟩:=Bf z e;exact(y g _ cs a q).trans a.symm
 have j:Below w.heap.size w W':=h.below.grown r h.below.size fun g e=>by
  obtain⟨i,_,_⟩:=Bf h.steps e;exact i
 have b:=y _ _ _ h.box (by decide);have c:=b.aZ 0 v';refine⟨(y _ _ _ h.o (by decide)).dE (p:=⟨w.heap.size+1,0,none⟩) (by show w.heap.size≠w.heap.size+1;omega) _,?_,El (u h.aR (by decide)) (fun k e=>by simp only[Value.ownBlock,Bv]at e;omega) _ _,El (u h.aC (by decide)) (fun k e=>by simp only[Value.ownBlock,Bv]at e;omega) _ _,El (u h.index (by decide)) (fun k e=>by simp only[Value.ownBlock,Bv]at e;omega) _ _,Ci z b (by decide) _ _,j.setCell (p:=⟨w.heap.size+1,0,none⟩) (by show w.heap.size≤w.heap.size+1;omega) _⟩
 simpa using c
theorem eM.gN (h:eM w n s vs W){W':World}(y:W.grownBy W' vs.ownBlock):aH W' (w.heap.size+1) 89 #[vs,Aj s.size]:=h.box.grown y fun e=>by
 obtain⟨z,x⟩:=(Bf h.steps e.symm).2.2;exact h.box.dF x (by decide) rfl
theorem eM.gI (h:eM w n s vs W){W':World}{g:Nat}{t:TypeId}{cs:Array Value}(x:aH W g t cs)(u:t≠145)(z:W.grownBy W' vs.ownBlock):aH W' g t cs:=x.grown z fun e=>by
 obtain⟨v,y⟩:=(Bf h.steps e.symm).2.2;exact x.dF y u rfl
theorem Jr:∀(l:List Bu.PS)(i:Nat)(r:Bu.PS)(v:Nat),l[i]?=some r→Dk (l.set i { r with go:=v })=(Dk l).set (i*4+3) (Aj (v:Int))
 | [],i,r,v,h=>by simp at h
 |x::l,0,r,v,h=>by
  simp only[Ay,Bv]at h;subst h;rfl
 |x::l,i+1,r,v,h=>by
  simp only[Bc]at h;have:=Jr l i r v h;rw[show (i+1)*4+3=(i*4+3)+1+1+1+1 by omega];simp only[Dk,pa,om,oa,gs]at this ⊢;rw[this]
theorem Ns:∀(l:List Bu.PS)(i:Nat)(r:Bu.PS),l[i]?=some r→(Dk l)[i*4+3]?=some (Aj (r.go:Int))
 | [],i,r,h=>by simp at h
 |x::l,0,r,h=>by
  simp only[Ay,Bv]at h;subst h;rfl
 |x::l,i+1,r,h=>by
  simp only[Bc]at h;rw[show (i+1)*4+3=(i*4+3)+1+1+1+1 by omega];simp only[Dk,pa,oa,gs,Bc];exact Ns l i r h
theorem eM.setGo (h:eM w n s vs W){g:Nat}(y:vs.ownBlock=some g){i:Nat}{r:Bu.PS} (z:s.steps[i]?=some r) (v:Nat):eM w n { s with steps:=s.steps.set i { r with go:=v } } vs (W.setCell ⟨g,i*4+3,none⟩ (Aj (v:Int))):=by
 obtain⟨u,_,cs,x⟩:=Bf h.steps y;have hi:=(aS.1 z).1;refine⟨h.o.dE (p:=⟨g,i*4+3,none⟩) (h.o.dF x (by decide)) _,h.box.dE (p:=⟨g,i*4+3,none⟩) (h.box.dF x (by decide)) _,Ci h.aR x (by decide) _ _,Ci h.aC x (by decide) _ _,Ci h.index x (by decide) _ _,?_,h.below.setCell (p:=⟨g,i*4+3,none⟩) u _⟩;have:=Dz h.steps y (j:=i*4+3) (by rw[Sl];omega) (Aj (v:Int));rw[←Jr s.steps i r v z]at this
 simpa using this
end
end
end Go.Proofs.YtnhebmgibiomnaaGreat
